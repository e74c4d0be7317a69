/- Lemmas of the proof; no condition. -/
import Derived.Test.YtpofmhikcgkdhaaGreatLVal
import Derived.Test.YtpofmhikcgkdhaaGreatAlByte
import Derived.Test.YtpofmhikcgkdhaaGreatAlBun
set_option linter.all false
set_option maxRecDepth 10000
set_option maxHeartbeats 32000000
open List renaming length_cons → yaz, length_nil → yba, take_of_length_le → ybc, drop_append → ybd, take_append → ybe, drop_eq_nil_of_le → ybf, getD_cons_succ → yav, cons_append → yal, map_nil → yaf, drop_zero → yap, take_zero → yar, append_nil → yaj
open Option renaming map_some → yag
namespace Go.AL
open Go
def w0 (z:Int):Int:=z % 2^64
def w1 (z:Int):Int:=z/2^64 % 2^64
def w2 (z:Int):Int:=z/2^64/2^64 % 2^64
def nAV (z:Int):AV:=.agg [.int .u64 (w0 z),.int .u64 (w1 z),.int .u64 (w2 z)]
theorem jP (z:Int):0≤w0 z∧w0 z<18446744073709551616:=by unfold w0;omega
theorem jv (z:Int):0≤w1 z∧w1 z<18446744073709551616:=by unfold w1;omega
theorem jM (z:Int):0≤w2 z∧w2 z<18446744073709551616:=by unfold w2;omega
theorem CT (a b:Int):(w0 a+w0 b) % 2^64=w0 (a+b):=by unfold w0;omega
theorem Cg (a b:Int):(w1 a+w1 b+(w0 a+w0 b)/2^64) % 2^64=w1 (a+b):=by unfold w0 w1;omega
theorem Cb (a b:Int):(w2 a+w2 b+(w1 a+w1 b+(w0 a+w0 b)/2^64)/2^64) % 2^64=w2 (a+b):=by unfold w0 w1 w2;omega
theorem De (a:Int):2^64 - 1 - w0 a=w0 (-1 - a):=by unfold w0;omega
theorem Ct (a:Int):2^64 - 1 - w1 a=w1 (-1 - a):=by unfold w1;omega
theorem CZ (a:Int):2^64 - 1 - w2 a=w2 (-1 - a):=by unfold w2;omega
theorem yr (n:Int) (h : -(2^63)≤n∧n<2^63):w1 n=(if n<0 then 2^64 - 1 else 0)∧w2 n=(if n<0 then 2^64 - 1 else 0):=by
 unfold w1 w2;split<;>constructor<;>omega
theorem CI (hi lo:Int) (h1:0≤hi∧hi<2^64) (h2:0≤lo∧lo<2^64):w0 (hi*2^64+lo)=lo∧w1 (hi*2^64+lo)=hi∧w2 (hi*2^64+lo)=0:=by
 unfold w0 w1 w2;refine ⟨?_,?_,?_⟩<;>omega
theorem DR {a b:Int} (ha : -(2^191)≤a∧a<2^191) (hb : -(2^191)≤b∧b<2^191) (h0:w0 a=w0 b) (h1:w1 a=w1 b) (h2:w2 a=w2 b):a=b:=by
 unfold w0 at h0;unfold w1 at h1;unfold w2 at h2;omega
theorem DO {a:Int} (ha : -(2^191)≤a∧a<2^191):w2 a/2^63=if a<0 then 1 else 0:=by
 unfold w2;split<;>omega
theorem CJ {a:Int} (ha : -(2^191)≤a∧a<2^191):w2 a=0↔0≤a∧a<2^128:=by
 unfold w2;omega
theorem oI (x:Int) (h:0≤x∧x<18446744073709551616):xK .u64 (if IntKind.u64.signed=true then -1 else IntKind.u64.max) x=2^64 - 1 - x:=by
 obtain ⟨n,rfl⟩:=Int.eq_ofNat_of_zero_le h.1
 have hn:n<2^64:=by omega
 have e:(if IntKind.u64.signed=true then (-1:Int) else IntKind.u64.max)=((2^64 - 1:Nat):Int):=rfl
 rw [e,zJ _ _ (by decide) hn]
 have h1:=congrArg BitVec.toNat (BitVec.allOnes_xor (x:=BitVec.ofNat 64 n))
 rw [BitVec.toNat_xor,BitVec.toNat_not,BitVec.toNat_allOnes,BitVec.toNat_ofNat,Nat.mod_eq_of_lt hn] at h1
 rw [h1];omega
end Go.AL
open Go Go.AL Go.Proofs
namespace Go.AL
theorem BB:ti Tryz.prog 3=some ⟨.int .i64,1,8,.int .i64 0⟩:=by kernel_rfl
theorem jY:ti Tryz.prog 55=some ⟨.struct [(0,53,false),(1,53,false)],2,16,.agg [.int .u64 0,.int .u64 0]⟩:=by kernel_rfl
theorem wi:ti Tryz.prog 53=some ⟨.int .u64,1,8,.int .u64 0⟩:=by kernel_rfl
theorem qp:ti Tryz.prog 78=some ⟨.struct [(0,76,false)],3,24,.agg [.int .u64 0,.int .u64 0,.int .u64 0]⟩:=by kernel_rfl
theorem uv:ti Tryz.prog 76=some ⟨.array 3 53,3,24,.agg [.int .u64 0,.int .u64 0,.int .u64 0]⟩:=by kernel_rfl
attribute [go_sem] BB jY wi qp uv
def gX:List AV→AHeap→(AV→Prop)→Prop
 |[.int .u64 x,.int .u64 y,.int .u64 c],_,K=>(0≤x∧0≤y∧0≤c∧c≤1)∧K (.tup [.int .u64 ((x+y+c) % 18446744073709551616),.int .u64 ((x+y+c)/18446744073709551616)])
 |_,_,_=>False
theorem sS:EntOk Tryz.prog 76 (Ent.pure gX):=by
 refine Ype fun _ H K h=>?_
 unfold gX at h
 split at h
 rotate_left
 ·exact h.elim
 obtain ⟨⟨h1,h2,h3,h4⟩,hK⟩:=h
 exact ⟨_,hK,sj Tryz.func76 (by kernel_rfl) (by kernel_rfl) (by kernel_rfl) (by kernel_rfl) h1 h2 h3 h4⟩
def tk:List AV→AHeap→(AV→Prop)→Prop
 |[.int .i64 n],_,K=>(-9223372036854775808≤n∧n<9223372036854775808)∧K (nAV n)
 |_,_,_=>False
theorem yA:EntOk Tryz.prog 72 (Ent.pure tk):=by
 refine Ype fun _ H K h=>?_
 unfold tk at h
 split at h
 rotate_left
 ·exact h.elim
 rename_i n
 obtain ⟨⟨h1,h2⟩,hK⟩:=h
 refine ⟨_,hK,?_⟩
 refine ACalls.fW aE tNq Tryz.func72 [.cell 2 78] (nrq _) (T:=ay []) (h:=fun hcl hlt=>?_)
 clear hlt hK
 have e0:IntKind.u64.wrap n=w0 n:=by
  unfold w0;simp [IntKind.wrap,IntKind.bits,IntKind.signed]
 have es:fT .i64 n 63=n/2^63:=by
  unfold fT
  rw [show min (63:Int).toNat IntKind.i64.bits=63 from rfl]
  exact Int.fdiv_eq_ediv_of_nonneg _ (by decide)
 have e1:IntKind.u64.wrap (fT .i64 n 63)=w1 n:=by
  rw [es,(yr n (by omega)).1];simp [IntKind.wrap,IntKind.bits,IntKind.signed];split<;>omega
 have e2:w2 n=w1 n:=by rw [(yr n (by omega)).1,(yr n (by omega)).2]
 simp only [go_sem,zav,byq,e0,e1]
 refine ⟨by omega,?_⟩
 unfold nAV
 rw [e2]
 exact Z0
def xd (a b:Int) (k:Nat):List AV:=[.int .u64 (if 0<k then w0 (a+b) else 0),.int .u64 (if 1<k then w1 (a+b) else 0),.int .u64 (if 2<k then w2 (a+b) else 0)]
def cyk (a b:Int) (k:Nat):Int:=match k with
 |0=>0
 |1=>(w0 a+w0 b)/2^64
 |2=>(w1 a+w1 b+(w0 a+w0 b)/2^64)/2^64
 |_=>(w2 a+w2 b+(w1 a+w1 b+(w0 a+w0 b)/2^64)/2^64)/2^64
theorem uN (a b:Int):∀ k,0≤cyk a b k∧cyk a b k≤1:=by
 have a0:=jP a
 have a1:=jv a
 have a2:=jM a
 have b0:=jP b
 have b1:=jv b
 have b2:=jM b
 intro k
 unfold cyk
 split<;>omega
theorem DX (a b:Int):(w0 a+w0 b+cyk a b 0) % 18446744073709551616=w0 (a+b)∧(w0 a+w0 b+cyk a b 0)/18446744073709551616=cyk a b 1:=by
 have:=CT a b;simp only [cyk];constructor<;>omega
theorem DJ (a b:Int):(w1 a+w1 b+cyk a b 1) % 18446744073709551616=w1 (a+b)∧(w1 a+w1 b+cyk a b 1)/18446744073709551616=cyk a b 2:=by
 have:=Cg a b;simp only [cyk];constructor<;>omega
theorem DQ (a b:Int):(w2 a+w2 b+cyk a b 2) % 18446744073709551616=w2 (a+b)∧(w2 a+w2 b+cyk a b 2)/18446744073709551616=cyk a b 3:=by
 have:=Cb a b;simp only [cyk];constructor<;>omega
def uH:List AV→AHeap→(AV→Prop)→Prop
 |[x,y],_,K=>∃ a b,(x=nAV a∧y=nAV b)∧K (nAV (a+b))
 |_,_,_=>False
theorem Bg:EntOk Tryz.prog 88 (Ent.pure uH):=by
 refine Ype fun _ H K h=>?_
 unfold uH at h
 split at h
 rotate_left
 ·exact h.elim
 obtain ⟨a,b,⟨rfl,rfl⟩,hK⟩:=h
 refine ⟨_,hK,?_⟩
 refine ACalls.fW aE (tCq sS tNq) Tryz.func88 [.cell 4 78] (nrq _) (T:=ay []) (h:=fun hcl hlt=>?_)
 clear hlt hK
 simp only [go_sem,byq,nAV]
 refine fB (A:=Nat) (fun k=>[(8,.int .i64 (k:Int)),(6,.int .u64 (cyk a b k)),(5,.ptr (H.nx+1+1+1) 0),(4,.ptr (H.nx+1+1) 0),(3,.ptr (H.nx+1) 0),(2,.ptr H.nx 0)])
  (fun k=>(((H.push (.cells [.int .u64 (w0 a),.int .u64 (w1 a),.int .u64 (w2 a)])).push (.cells [.int .u64 (w0 b),.int .u64 (w1 b),.int .u64 (w2 b)])).push (.cells [.int .u64 0,.int .u64 0,.int .u64 0])).push (.cells (xd a b k)))
  (fun k=>k≤3) (fun k=>3 - k) 0 (by omega) ?_ fun k hk=>?_
 ·simp only [bnq,enter,fZ,ltF,ne_eq,Nat.reduceEqDiff,reduceCtorEq,cyk,xd,Nat.lt_irrefl,if_false,true_or,and_true,Nat.not_lt_zero]
 have a0:=jP a
 have a1:=jv a
 have a2:=jM a
 have b0:=jP b
 have b1:=jv b
 have b2:=jM b
 rcases (by omega:k=0∨k=1∨k=2∨k=3) with rfl|rfl|rfl|rfl
 ·have hd:decide (((0:Nat):Int)<3)=true:=rfl
  have e1:IntKind.i64.wrap (((0:Nat):Int)+1)=((1:Nat):Int):=by rw [wrap_i64]<;>omega
  have hc:=uN a b 0
  obtain ⟨s1,s2⟩:=DX a b
  have t1:((0:Nat):Int).toNat=0:=rfl
  simp only [go_sem,zat,byq,gX,hd,xd,e1,s1,s2,t1]
  refine ⟨by omega,by omega,by omega,by omega,.inr (by omega),1,by omega,by omega,?_⟩
  simp only [bnq,enter,fZ,ltF,ne_eq,Nat.reduceEqDiff,reduceCtorEq]
  exact .inl rfl
 ·have hd:decide (((1:Nat):Int)<3)=true:=rfl
  have e1:IntKind.i64.wrap (((1:Nat):Int)+1)=((2:Nat):Int):=by rw [wrap_i64]<;>omega
  have hc:=uN a b 1
  obtain ⟨s1,s2⟩:=DJ a b
  have t1:((1:Nat):Int).toNat=1:=rfl
  simp only [go_sem,zat,byq,gX,hd,xd,e1,s1,s2,t1]
  refine ⟨by omega,by omega,by omega,by omega,.inr (by omega),2,by omega,by omega,?_⟩
  simp only [bnq,enter,fZ,ltF,ne_eq,Nat.reduceEqDiff,reduceCtorEq]
  exact .inl rfl
 ·have hd:decide (((2:Nat):Int)<3)=true:=rfl
  have e1:IntKind.i64.wrap (((2:Nat):Int)+1)=((3:Nat):Int):=by rw [wrap_i64]<;>omega
  have hc:=uN a b 2
  obtain ⟨s1,s2⟩:=DQ a b
  have t1:((2:Nat):Int).toNat=2:=rfl
  simp only [go_sem,zat,byq,gX,hd,xd,e1,s1,s2,t1]
  refine ⟨by omega,by omega,by omega,by omega,.inr (by omega),3,by omega,by omega,?_⟩
  simp only [bnq,enter,fZ,ltF,ne_eq,Nat.reduceEqDiff,reduceCtorEq]
  exact .inl rfl
 ·have hd:decide (((3:Nat):Int)<3)=false:=rfl
  simp only [go_sem,zau,byq,hd,xd]
  exact Z0
def xA (a:Int) (k:Nat):List AV:=[.int .u64 (if 0<k then w0 (-1 - a) else w0 a),.int .u64 (if 1<k then w1 (-1 - a) else w1 a),.int .u64 (if 2<k then w2 (-1 - a) else w2 a)]
def vH:List AV→AHeap→(AV→Prop)→Prop
 |[x],_,K=>∃ a,x=nAV a∧K (nAV (-a))
 |_,_,_=>False
theorem Bw:EntOk Tryz.prog 70 (Ent.pure vH):=by
 refine Ype fun _ H K h=>?_
 unfold vH at h
 split at h
 rotate_left
 ·exact h.elim
 obtain ⟨a,rfl,hK⟩:=h
 refine ⟨_,hK,?_⟩
 refine ACalls.fW aE (tCq Bg (tCq yA tNq)) Tryz.func70 [.cell 2 78] (nrq _) (T:=ay []) (h:=fun hcl hlt=>?_)
 clear hlt hK
 simp only [go_sem,byq,nAV]
 refine fB (A:=Nat) (fun k=>[(4,.int .i64 (k:Int)),(2,.ptr (H.nx+1) 0),(1,.ptr H.nx 0)])
  (fun k=>(H.push (.cells (xA a k))).push (.cells [.int .u64 0,.int .u64 0,.int .u64 0]))
  (fun k=>k≤3) (fun k=>3 - k) 0 (by omega) ?_ fun k hk=>?_
 ·simp only [bnq,enter,fZ,ltF,ne_eq,Nat.reduceEqDiff,reduceCtorEq,xA,Nat.lt_irrefl,if_false,true_or,and_true,Nat.not_lt_zero]
 rcases (by omega:k=0∨k=1∨k=2∨k=3) with rfl|rfl|rfl|rfl
 ·have hd:decide (((0:Nat):Int)<3)=true:=rfl
  have e1:IntKind.i64.wrap (((0:Nat):Int)+1)=((1:Nat):Int):=by rw [wrap_i64]<;>omega
  have t1:((0:Nat):Int).toNat=0:=rfl
  have hx:=oI (w0 a) (jP a)
  rw [De] at hx
  simp only [go_sem,zat,byq,hd,xA,e1,t1,hx]
  refine ⟨by omega,by omega,1,by omega,by omega,?_⟩
  simp only [bnq,enter,fZ,ltF,ne_eq,Nat.reduceEqDiff,reduceCtorEq]
  exact .inl rfl
 ·have hd:decide (((1:Nat):Int)<3)=true:=rfl
  have e1:IntKind.i64.wrap (((1:Nat):Int)+1)=((2:Nat):Int):=by rw [wrap_i64]<;>omega
  have t1:((1:Nat):Int).toNat=1:=rfl
  have hx:=oI (w1 a) (jv a)
  rw [Ct] at hx
  simp only [go_sem,zat,byq,hd,xA,e1,t1,hx]
  refine ⟨by omega,by omega,2,by omega,by omega,?_⟩
  simp only [bnq,enter,fZ,ltF,ne_eq,Nat.reduceEqDiff,reduceCtorEq]
  exact .inl rfl
 ·have hd:decide (((2:Nat):Int)<3)=true:=rfl
  have e1:IntKind.i64.wrap (((2:Nat):Int)+1)=((3:Nat):Int):=by rw [wrap_i64]<;>omega
  have t1:((2:Nat):Int).toNat=2:=rfl
  have hx:=oI (w2 a) (jM a)
  rw [CZ] at hx
  simp only [go_sem,zat,byq,hd,xA,e1,t1,hx]
  refine ⟨by omega,by omega,3,by omega,by omega,?_⟩
  simp only [bnq,enter,fZ,ltF,ne_eq,Nat.reduceEqDiff,reduceCtorEq]
  exact .inl rfl
 ·have hd:decide (((3:Nat):Int)<3)=false:=rfl
  simp only [go_sem,zau,byq,hd,xA,uH,tk]
  refine ⟨by omega,-1 - a,1,⟨rfl,rfl⟩,?_⟩
  have en:(-1 - a+1) = -a:=by omega
  simp only [go_sem,zau,byq,en,nAV]
  simp (disch:=first|exact Zd|omega) [↓zmo,beq,ybc,ybd,ybe,af,wk,wk2,wk1,wkM,wkL,am,ybf,hcl]
  refine .inr ⟨-1 - a,1,⟨⟨rfl,rfl,rfl⟩,rfl,rfl,rfl⟩,?_⟩
  rw [en];exact ⟨rfl,rfl,rfl⟩
def isN (a:Int):Prop := -(2^191)≤a∧a<2^191
def wb:List AV→AHeap→(AV→Prop)→Prop
 |[x],_,K=>∃ a,(x=nAV a∧isN a)∧K (.bool (decide (a<0)))
 |_,_,_=>False
theorem A1:EntOk Tryz.prog 69 (Ent.pure wb):=by
 refine Ype fun _ H K h=>?_
 unfold wb at h
 split at h
 rotate_left
 ·exact h.elim
 obtain ⟨a,⟨rfl,ha⟩,hK⟩:=h
 refine ⟨_,hK,?_⟩
 refine ACalls.fW aE tNq Tryz.func69 [.tmp 2] (nrq _) (T:=ay []) (h:=fun hcl hlt=>?_)
 clear hlt hK
 have hs:fT .u64 (w2 a) 63=w2 a/2^63:=by
  unfold fT
  rw [show min (63:Int).toNat IntKind.u64.bits=63 from rfl]
  exact Int.fdiv_eq_ediv_of_nonneg _ (by decide)
 rw [DO ha] at hs
 have hb:(fT .u64 (w2 a) 63==1)=decide (a<0):=by
  rw [hs];by_cases h:a<0
  ·rw [if_pos h,dtq h];rfl
  ·rw [if_neg h,dfq h];rfl
 simp only [go_sem,zav,byq,nAV,hb]
 refine ⟨by omega,?_⟩
 exact Z0
def sR:List AV→AHeap→(AV→Prop)→Prop
 |[.agg [.int .u64 hi,.int .u64 lo]],_,K=>((0≤hi∧hi<18446744073709551616)∧(0≤lo∧lo<18446744073709551616))∧K (nAV (hi*2^64+lo))
 |_,_,_=>False
theorem zg:EntOk Tryz.prog 46 (Ent.pure sR):=by
 refine Ype fun _ H K h=>?_
 unfold sR at h
 split at h
 rotate_left
 ·exact h.elim
 rename_i hi lo
 obtain ⟨⟨h1,h2⟩,hK⟩:=h
 refine ⟨_,hK,?_⟩
 refine ACalls.fW aE tNq Tryz.func46 [.cell 2 78] (nrq _) (T:=ay []) (h:=fun hcl hlt=>?_)
 clear hlt hK
 obtain ⟨e0,e1,e2⟩:=CI hi lo h1 h2
 simp only [go_sem,zav,byq,nAV,e0,e1,e2]
 exact Z0
def dv:List Nat→Nat
 |[]=>0
 |d::l=>d+10*dv l
def bu (n:Nat):List Nat:=if h:n=0 then [] else n % 10::bu (n/10)
decreasing_by omega
def isD (l:List Nat):Prop:=∀ d∈l,d<10
def dig (n i:Nat):Nat:=n/10^i % 10
theorem aQ:bu 0=[]:=by rw [bu];simp
theorem eE {n:Nat} (h:n≠0):bu n=n % 10::bu (n/10):=by rw [bu];simp [h]
theorem il (n:Nat):dv (bu n)=n:=by
 induction n using Nat.strongRecOn with
 |_ n ih =>
  by_cases h:n=0
  ·subst h;rw [aQ];rfl
  ·rw [eE h,dv,ih (n/10) (by omega)];omega
theorem eX (n:Nat):isD (bu n):=by
 induction n using Nat.strongRecOn with
 |_ n ih =>
  by_cases h:n=0
  ·subst h;rw [aQ];intro d hd;cases hd
  ·rw [eE h]
   intro d hd
   rcases List.mem_cons.1 hd with rfl|hd
   ·omega
   ·exact ih (n/10) (by omega) d hd
theorem n8 {d:Nat} {l:List Nat} (h:isD (d::l)):isD l:=fun x hx=>h x (List.mem_cons_of_mem _ hx)
theorem pm {d:Nat} {l:List Nat} (h:isD (d::l)):d<10:=h d List.mem_cons_self
theorem Ah {l:List Nat} (h:isD l):dv l<10^l.length:=by
 induction l with
 |nil=>simp [dv]
 |cons d l ih =>
  have h1:=ih (n8 h)
  have h2:=pm h
  rw [dv,yaz,Nat.pow_succ];omega
theorem gA {l:List Nat} (h:isD l):∀ i,l.getD i 0=dig (dv l) i:=by
 induction l with
 |nil=>intro i;simp [dv,dig]
 |cons d l ih =>
  intro i
  have h2:=pm h
  cases i with
  |zero=>simp [dig,dv];omega
  |succ i =>
   have:=ih (n8 h) i
   rw [yav,this,dig,dig,dv,Nat.pow_succ,Nat.mul_comm (10^i) 10,← Nat.div_div_eq_div_mul]
   have:(d+10*dv l)/10=dv l:=by omega
   rw [this]
theorem lr (n i:Nat):dig n i<10:=Nat.mod_lt _ (by decide)
theorem gv (n i:Nat):n % 10^(i+1)=n % 10^i+10^i*dig n i:=by
 rw [Nat.pow_succ,Nat.mod_mul,dig]
def first (k n:Nat):List Nat:=(List.range k).map (dig n)
theorem fC (k n:Nat):(first k n).length=k:=by simp [first]
theorem xx (k n:Nat):isD (first k n):=fun d hd=>by
 obtain ⟨i,_,rfl⟩:=List.mem_map.1 hd;exact lr n i
theorem ji (k n:Nat):first (k+1) n=first k n++[dig n k]:=by simp [first,List.range_succ]
theorem iX (a b:List Nat):dv (a++b)=dv a+10^a.length*dv b:=by
 induction a with
 |nil=>simp [dv]
 |cons d a ih =>
  rw [yal,dv,dv,ih,yaz,Nat.pow_succ,Nat.mul_comm (10^a.length) 10,Nat.mul_assoc,Nat.mul_add];omega
theorem yv (k n:Nat):dv (first k n)=n % 10^k:=by
 induction k with
 |zero=>simp [first,dv,Nat.mod_one]
 |succ k ih=>rw [ji,iX,ih,fC,gv];simp [dv]
theorem xn {l:List Nat} (h:isD l) (hl:l.getLast?≠some 0):bu (dv l)=l:=by
 induction l with
 |nil=>simp [dv,aQ]
 |cons d l ih =>
  have h2:=pm h
  cases l with
  |nil =>
   have hd:d≠0:=by intro e;subst e;simp at hl
   rw [show dv [d]=d by simp [dv],eE hd,Nat.mod_eq_of_lt h2,Nat.div_eq_of_lt h2,aQ]
  |cons e l =>
   have hl':(e::l).getLast?≠some 0:=by simpa [List.getLast?_cons_cons] using hl
   have ih:=ih (n8 h) hl'
   have hnz:dv (e::l)≠0:=by
    intro h0
    rw [h0,aQ] at ih;cases ih
   have h3:dv (d::e::l)≠0:=by rw [dv];omega
   rw [eE h3]
   have e1:dv (d::e::l) % 10=d:=by rw [dv];omega
   have e2:dv (d::e::l)/10=dv (e::l):=by rw [dv];omega
   rw [e1,e2,ih]
def cry (a b i:Nat):Nat:=(a % 10^i+b % 10^i)/10^i
theorem yB (a b i:Nat):cry a b i≤1:=by
 have hp:0<10^i:=Nat.pow_pos (by decide)
 have h1:=Nat.mod_lt a hp
 have h2:=Nat.mod_lt b hp
 unfold cry
 exact Nat.le_of_lt_succ (Nat.div_lt_of_lt_mul (by omega))
theorem p7 (a b i:Nat):(a+b)/10^i=a/10^i+b/10^i+cry a b i:=by
 have hp:0<10^i:=Nat.pow_pos (by decide)
 have h1:=Nat.div_add_mod a (10^i)
 have h2:=Nat.div_add_mod b (10^i)
 unfold cry
 generalize a/10^i=qa at *
 generalize b/10^i=qb at *
 generalize a % 10^i=ra at *
 generalize b % 10^i=rb at *
 rw [← h1,← h2,show 10^i*qa+ra+(10^i*qb+rb)=ra+rb+10^i*(qa+qb) by rw [Nat.mul_add];omega,Nat.add_mul_div_left _ _ hp];omega
theorem A3 (a b i:Nat):(dig a i+dig b i+cry a b i) % 10=dig (a+b) i:=by
 unfold dig;rw [p7];omega
theorem AF (a b i:Nat):(dig a i+dig b i+cry a b i)/10=cry a b (i+1):=by
 have hp:0<10^i:=Nat.pow_pos (by decide)
 have e:cry a b (i+1)=(dig a i+dig b i+cry a b i)/10:=by
  unfold cry
  rw [gv,gv,Nat.pow_succ,← Nat.div_div_eq_div_mul,show a % 10^i+10^i*dig a i+(b % 10^i+10^i*dig b i)=a % 10^i+b % 10^i+10^i*(dig a i+dig b i) by rw [Nat.mul_add];omega,Nat.add_mul_div_left _ _ hp,Nat.add_comm]
 exact e.symm
theorem pA (a b:Nat):cry a b 0=0:=by simp [cry,Nat.mod_one]
def bor (a b i:Nat):Nat:=if a % 10^i<b % 10^i then 1 else 0
theorem oR (a b:Nat):bor a b 0=0:=by simp [bor,Nat.mod_one]
theorem zL (a b i:Nat):bor a b (i+1)=if dig a i<dig b i+bor a b i then 1 else 0:=by
 have hp:0<10^i:=Nat.pow_pos (by decide)
 have h1:=Nat.mod_lt a hp
 have h2:=Nat.mod_lt b hp
 unfold bor
 rw [gv,gv]
 generalize dig a i=x
 generalize dig b i=y
 generalize a % 10^i=ra at *
 generalize b % 10^i=rb at *
 generalize 10^i=p at *
 rcases Nat.lt_trichotomy x y with h|h|h
 ·have:=Nat.mul_le_mul_left p (show x+1≤y from h)
  rw [Nat.mul_add] at this
  rw [if_pos (by omega),if_pos (by omega)]
 ·subst h
  by_cases hr:ra<rb
  ·rw [if_pos (by omega),if_pos hr,if_pos (by omega)]
  ·rw [if_neg (by omega),if_neg hr,if_neg (by omega)]
 ·have:=Nat.mul_le_mul_left p (show y+1≤x from h)
  rw [Nat.mul_add] at this
  rw [if_neg (by omega)]
  split<;>rw [if_neg (by omega)]
theorem u5 (a b i:Nat) (h:b≤a):(a - b)/10^i+b/10^i+bor a b i=a/10^i:=by
 have hp:0<10^i:=Nat.pow_pos (by decide)
 have h1:=p7 (a - b) b i
 rw [Nat.sub_add_cancel h] at h1
 have h2:cry (a - b) b i=bor a b i:=by
  have e:=Nat.div_add_mod a (10^i)
  have e2:a % 10^i+10^i*cry (a - b) b i=(a - b) % 10^i+b % 10^i:=by
   have g1:=Nat.div_add_mod (a - b) (10^i)
   have g2:=Nat.div_add_mod b (10^i)
   rw [h1,Nat.mul_add,Nat.mul_add] at e
   omega
  have r1:=Nat.mod_lt a hp
  have r2:=Nat.mod_lt b hp
  have r3:=Nat.mod_lt (a - b) hp
  have hc:=yB (a - b) b i
  unfold bor
  rcases (by omega:cry (a - b) b i=0∨cry (a - b) b i=1) with hc|hc<;>rw [hc] at e2 ⊢
  ·rw [if_neg (by omega)]
  ·rw [if_pos (by omega)]
 omega
theorem Bq (a b i:Nat) (h:b≤a):(dig a i:Int) - dig b i - bor a b i=dig (a - b) i - 10*bor a b (i+1):=by
 have h1:=u5 a b i h
 rw [zL]
 have hb:bor a b i≤1:=by unfold bor;split<;>omega
 unfold dig
 split<;>omega
theorem uD {n k:Nat} (h:n<10^k):(bu n).length≤k:=by
 induction k generalizing n with
 |zero =>
  have:n=0:=by simpa using h
  subst this;rw [aQ];simp
 |succ k ih =>
  by_cases h0:n=0
  ·subst h0;rw [aQ];simp
  ·rw [eE h0,yaz]
   have:n/10<10^k:=Nat.div_lt_of_lt_mul (by rw [Nat.pow_succ] at h;omega)
   have:=ih this
   omega
theorem AD {n:Nat} (h:n≠0):10^((bu n).length - 1)≤n:=by
 induction n using Nat.strongRecOn with
 |_ n ih =>
  rw [eE h,yaz,Nat.add_sub_cancel]
  by_cases h1:n/10=0
  ·rw [h1,aQ];simp;omega
  ·have:=ih (n/10) (by omega) h1
   have hl:(bu (n/10)).length≠0:=by rw [eE h1];simp
   have e:(bu (n/10)).length=((bu (n/10)).length - 1)+1:=by omega
   rw [e,Nat.pow_succ];omega
theorem qt {a b:Nat} (h:(bu a).length<(bu b).length):a<b:=by
 have hb:b≠0:=by intro e;subst e;rw [aQ] at h;simp at h
 have h1:=AD hb
 have h2:=Ah (eX a)
 rw [il] at h2
 have h3:10^(bu a).length≤10^((bu b).length - 1):=Nat.pow_le_pow_right (by decide) (by omega)
 omega
theorem qU {a b i:Nat} (h:a/10^(i+1)=b/10^(i+1)) (hd:dig a i<dig b i):a<b:=by
 have hp:0<10^i:=Nat.pow_pos (by decide)
 rw [Nat.pow_succ,← Nat.div_div_eq_div_mul,← Nat.div_div_eq_div_mul] at h
 unfold dig at hd
 have h1:a/10^i<b/10^i:=by omega
 have h2:=Nat.div_add_mod a (10^i)
 have h3:=Nat.div_add_mod b (10^i)
 have h4:=Nat.mod_lt a hp
 have h5:=Nat.mul_le_mul_left (10^i) (show a/10^i+1≤b/10^i from h1)
 rw [Nat.mul_add] at h5
 omega
theorem vr {a b i:Nat} (h:a/10^(i+1)=b/10^(i+1)) (hd:dig a i=dig b i):a/10^i=b/10^i:=by
 rw [Nat.pow_succ,← Nat.div_div_eq_div_mul,← Nat.div_div_eq_div_mul] at h
 unfold dig at hd
 omega
theorem qA {n:Nat} {k:Nat} (h:(bu n).length≤k):n/10^k=0:=by
 have h2:=Ah (eX n)
 rw [il] at h2
 exact Nat.div_eq_of_lt (Nat.lt_of_lt_of_le h2 (Nat.pow_le_pow_right (by decide) h))
end Go.AL
open Go Go.AL Go.Proofs
namespace Go.AL
theorem zQ:ti Tryz.prog 4=some ⟨.bool,1,1,.bool false⟩:=by kernel_rfl
theorem Bh:ti Tryz.prog 69=some ⟨.slice 3,1,24,.slice .nil 1 []⟩:=by kernel_rfl
theorem Db:ti Tryz.prog 86=some ⟨.struct [(0,4,false),(1,69,false)],2,32,.agg [.bool false,.slice .nil 1 []]⟩:=by kernel_rfl
attribute [go_sem] zQ Bh Db
def tm (l:List AV):Prop:=isI l∧isD (uni l)
theorem ae {l:List Nat}:tm (bK l)=isD l:=by unfold tm;rw [pg,dr];simp
theorem j6 {l:List AV} (h:tm l):∃ xs,l=bK xs∧isD xs:=⟨_,h.1,h.2⟩
def ws:List AV→AHeap→(AV→Prop)→Prop
 |[.slice _ 1 l,.int .i64 i],_,K=>(isI l∧0≤i)∧K (.int .i64 ((uni l).getD i.toNat 0:Nat))
 |_,_,_=>False
theorem Aj:EntOk Tryz.prog 91 (Ent.pure ws):=by
 refine Ype fun _ H K h=>?_
 unfold ws at h
 split at h
 rotate_left
 ·exact h.elim
 rename_i m l i
 obtain ⟨⟨c1,h0⟩,hK⟩:=h
 refine ⟨_,hK,?_⟩
 obtain ⟨xs,rfl⟩:=A8 c1
 obtain ⟨j,rfl⟩:=Int.eq_ofNat_of_zero_le h0
 rw [dr,iNq]
 clear hK c1 h0
 refine ACalls.fW aE tNq Tryz.func91 [.tmp 4] (nrq _) (T:=ay []) (h:=fun hcl hlt=>?_)
 clear hlt
 simp only [go_sem,ck,iNq]
 refine ah (fun h1=>?_) (fun h1=>?_)
 ·have h1':j<xs.length:=by simpa using h1
  simp only [go_sem,ck,iNq,dU h1',fJ h1']
  refine ⟨by omega,?_⟩
  exact Z0
 ·have h1':xs.length≤j:=by simpa using h1
  have e:xs.getD j 0=0:=by simp [gEq,h1']
  simp only [go_sem,ck,iNq,e]
  exact Z0
def sk:List AV→AHeap→(AV→Prop)→Prop
 |[.slice _ 1 l,.slice _ 1 m],_,K=>(tm l∧tm m∧l.length≤1000∧m.length≤1000)∧K (.slice .any 1 (bK (first (max l.length m.length+1) (dv (uni l)+dv (uni m)))))
 |_,_,_=>False
theorem zt:EntOk Tryz.prog 81 (Ent.pure sk):=by
 refine Ype fun _ H K h=>?_
 unfold sk at h
 split at h
 rotate_left
 ·exact h.elim
 rename_i ma l mb m
 obtain ⟨⟨c1,c2,l1,l2⟩,hK⟩:=h
 refine ⟨_,hK,?_⟩
 obtain ⟨xs,rfl,hx⟩:=j6 c1
 obtain ⟨ys,rfl,hy⟩:=j6 c2
 rw [dr,dr]
 rw [ck] at l1 l2 ⊢
 rw [ck]
 clear hK c1 c2
 refine ACalls.fW aE (tCq Aj tNq) Tryz.func81 [.tmp 4] (nrq _) (T:=ay []) (h:=fun hcl hlt=>?_)
 clear hlt
 generalize hn:max xs.length ys.length+1=n
 have hw:IntKind.i64.wrap (max (xs.length:Int) (ys.length:Int)+1)=(n:Int):=by rw [wrap_i64]<;>omega
 simp only [go_sem,ck]
 refine au (A:=Nat) (fun k=>[(7,.int .i64 (k:Int)),(6,.int .i64 (cry (dv xs) (dv ys) k:Nat)),(5,.slice (.own (H.nx+1)) 1 (bK (first k (dv xs+dv ys)))),(1,.slice .any 1 (bK ys)),(0,.slice .any 1 (bK xs))])
  (fun k=>(H.push (.buf 1 0)).push (.buf 1 k)) (fun k=>k≤n) (fun k=>n - k) 0 (by omega) ?_ fun k hk=>?_
 ·(simp only [bkq,enterW,aU,ltF,ne_eq,Nat.reduceEqDiff,reduceCtorEq,pA,first,List.range_zero,yaf,cL];try simp (disch:=first|exact Zd|omega) [↓zmo,beq,ybc,ybd,ybe,af,wk,wk2,wk1,wkM,wkL,am,ybf,byq,biq,ae,hcl,pA,first,List.range_zero,yaf,cL];try (repeat' (first|assumption|omega|exact True.intro|refine And.intro ?_ ?_|refine ag ?_|refine ac ?_|refine aa ?_ ?_|refine ai ?_ ?_|refine ak ?_|exact lRq _|refine lPq ?_ _|refine AHeap.Le.del ?_ ?_|(simp only [bt,and_true,true_and,pA,first,List.range_zero,yaf,cL];first|done|omega|(simp;done)))))
 simp only [go_sem,ck,hw]
 refine ah (fun h1=>?_) (fun h1=>?_)
 ·have h1':k<n:=by simpa using h1
  have d1:=lr (dv xs) k
  have d2:=lr (dv ys) k
  have hc:=yB (dv xs) (dv ys) k
  have e1:IntKind.i64.wrap ((dig (dv xs) k:Nat)+(dig (dv ys) k:Nat):Int)=((dig (dv xs) k+dig (dv ys) k:Nat):Int):=by rw [wrap_i64]<;>omega
  have e2:IntKind.i64.wrap (((dig (dv xs) k+dig (dv ys) k:Nat):Int)+(cry (dv xs) (dv ys) k:Nat))=((dig (dv xs) k+dig (dv ys) k+cry (dv xs) (dv ys) k:Nat):Int):=by rw [wrap_i64]<;>omega
  have e3:(((dig (dv xs) k+dig (dv ys) k+cry (dv xs) (dv ys) k:Nat):Int)).tmod 10=(dig (dv xs+dv ys) k:Nat):=by
   rw [Int.tmod_eq_emod_of_nonneg (by omega),← A3];omega
  have e4:IntKind.i64.wrap ((((dig (dv xs) k+dig (dv ys) k+cry (dv xs) (dv ys) k:Nat):Int)).tdiv 10)=(cry (dv xs) (dv ys) (k+1):Nat):=by
   rw [Int.tdiv_eq_ediv_of_nonneg (by omega),← AF,wrap_i64]<;>omega
  have e5:=Yk5 k
  simp only [go_sem,biq,ae,ws,gA hx,gA hy,e1,e2,e3,e4,e5,fC,← ji]
  refine ⟨by omega,by omega,by omega,⟨by omega,by omega⟩,by omega,k+1,by omega,by omega,?_⟩
  exact Z1
 ·have h1':k=n:=by simp at h1;omega
  subst h1'
  simp only [go_sem,biq,ae]
  exact Z0
def lT:List AV→AHeap→(AV→Prop)→Prop
 |[.slice _ 1 l,.slice _ 1 m],_,K=>(tm l∧tm m∧l.length≤1000∧m.length≤1000∧dv (uni m)≤dv (uni l))∧K (.slice .any 1 (bK (first l.length (dv (uni l) - dv (uni m)))))
 |_,_,_=>False
theorem xZ:EntOk Tryz.prog 83 (Ent.pure lT):=by
 refine Ype fun _ H K h=>?_
 unfold lT at h
 split at h
 rotate_left
 ·exact h.elim
 rename_i ma l mb m
 obtain ⟨⟨c1,c2,l1,l2,hle⟩,hK⟩:=h
 refine ⟨_,hK,?_⟩
 obtain ⟨xs,rfl,hx⟩:=j6 c1
 obtain ⟨ys,rfl,hy⟩:=j6 c2
 rw [dr,dr] at hle ⊢
 rw [ck] at l1 l2 ⊢
 clear hK c1 c2
 refine ACalls.fW aE (tCq Aj tNq) Tryz.func83 [.tmp 4] (nrq _) (T:=ay []) (h:=fun hcl hlt=>?_)
 clear hlt
 generalize hn:xs.length=n at *
 simp only [go_sem,biq,ae,hn]
 refine au (A:=Nat) (fun k=>[(11,.int .i64 (k:Int)),(10,.int .i64 (n:Int)),(6,.int .i64 (bor (dv xs) (dv ys) k:Nat)),(5,.slice (.own (H.nx+1)) 1 (bK (first k (dv xs - dv ys)))),(1,.slice .any 1 (bK ys)),(0,.slice .any 1 (bK xs))])
  (fun k=>(H.push (.buf 1 0)).push (.buf 1 k)) (fun k=>k≤n) (fun k=>n - k) 0 (by omega) ?_ fun k hk=>?_
 ·(simp only [bkq,enterW,aU,ltF,ne_eq,Nat.reduceEqDiff,reduceCtorEq,oR,first,List.range_zero,yaf,cL];try simp (disch:=first|exact Zd|omega) [↓zmo,beq,ybc,ybd,ybe,af,wk,wk2,wk1,wkM,wkL,am,ybf,byq,biq,ae,hcl,oR,first,List.range_zero,yaf,cL];try (repeat' (first|assumption|omega|exact True.intro|refine And.intro ?_ ?_|refine ag ?_|refine ac ?_|refine aa ?_ ?_|refine ai ?_ ?_|refine ak ?_|exact lRq _|refine lPq ?_ _|refine AHeap.Le.del ?_ ?_|(simp only [bt,and_true,true_and,oR,first,List.range_zero,yaf,cL];first|done|omega|(simp;done)))))
 simp only [go_sem,biq,ae]
 refine ah (fun h1=>?_) (fun h1=>?_)
 ·have h1':k<n:=by simpa using h1
  have d1:=lr (dv xs) k
  have d2:=lr (dv ys) k
  have d3:=lr (dv xs - dv ys) k
  have hc:bor (dv xs) (dv ys) k≤1:=by unfold bor;split<;>omega
  have hc2:bor (dv xs) (dv ys) (k+1)≤1:=by unfold bor;split<;>omega
  have hs:=Bq (dv xs) (dv ys) k hle
  have hkx:k<xs.length:=by omega
  have e1:IntKind.i64.wrap ((dig (dv xs) k:Nat) - (dig (dv ys) k:Nat):Int)=(dig (dv xs) k:Nat) - (dig (dv ys) k:Nat):=by rw [wrap_i64]<;>omega
  have e2:IntKind.i64.wrap ((dig (dv xs) k:Nat) - (dig (dv ys) k:Nat) - (bor (dv xs) (dv ys) k:Nat):Int)=(dig (dv xs - dv ys) k:Nat) - 10*(bor (dv xs) (dv ys) (k+1):Nat):=by rw [hs,wrap_i64]<;>omega
  have e5:=Yk5 k
  simp only [go_sem,biq,ae,ws,dU hkx,fJ hkx,hn,gA hx,gA hy,e1,e2]
  refine ⟨by omega,by omega,ah (fun h2=>?_) (fun h2=>?_)⟩
  ·have h2':bor (dv xs) (dv ys) (k+1)=1:=by simp at h2;omega
   have e3:IntKind.i64.wrap ((dig (dv xs - dv ys) k:Nat) - 10*(bor (dv xs) (dv ys) (k+1):Nat)+10:Int)=(dig (dv xs - dv ys) k:Nat):=by rw [wrap_i64]<;>omega
   have e4:(1:Int)=(bor (dv xs) (dv ys) (k+1):Nat):=by omega
   simp only [go_sem,biq,ae,e3,e5,fC,← ji]
   refine ⟨⟨by omega,by omega⟩,k+1,by omega,by omega,?_⟩
   exact Z2
  ·have h2':bor (dv xs) (dv ys) (k+1)=0:=by simp at h2;omega
   have e3:((dig (dv xs - dv ys) k:Nat) - 10*(bor (dv xs) (dv ys) (k+1):Nat):Int)=(dig (dv xs - dv ys) k:Nat):=by omega
   simp only [go_sem,biq,ae,e3,e5,fC,← ji]
   refine ⟨⟨by omega,by omega⟩,k+1,by omega,by omega,?_⟩
   exact Z2
 ·have h1':k=n:=by simp at h1;omega
  subst h1'
  simp only [go_sem,biq,ae]
  exact Z0
def jx:List AV→AHeap→(AV→Prop)→Prop
 |[.slice _ 1 l,.slice _ 1 m],_,K=>∃ a b,(l=bK (bu a)∧m=bK (bu b)∧l.length≤1000∧m.length≤1000)∧K (.int .i64 (if a=b then 0 else if a<b then -1 else 1))
 |_,_,_=>False
theorem sn:EntOk Tryz.prog 82 (Ent.pure jx):=by
 refine Ype fun _ H K h=>?_
 unfold jx at h
 split at h
 rotate_left
 ·exact h.elim
 rename_i ma l mb m
 obtain ⟨a,b,⟨rfl,rfl,l1,l2⟩,hK⟩:=h
 refine ⟨_,hK,?_⟩
 rw [ck] at l1 l2
 clear hK
 refine ACalls.fW aE tNq Tryz.func82 [.tmp 4] (nrq _) (T:=ay []) (h:=fun hcl hlt=>?_)
 clear hlt
 simp only [go_sem,biq,ae]
 refine ah (fun h1=>?_) (fun h1=>?_)
 ·have h1':(bu a).length≠(bu b).length:=by simp at h1;omega
  have hne:a≠b:=fun h=>h1' (by rw [h])
  simp only [go_sem,biq,ae,if_neg hne]
  refine ah (fun h2=>?_) (fun h2=>?_)
  ·have h2':(bu a).length<(bu b).length:=by simpa using h2
   simp only [go_sem,biq,ae,if_pos (qt h2')]
   exact Z0
  ·have h2':¬ (bu a).length<(bu b).length:=by simpa using h2
   have:=qt (show (bu b).length<(bu a).length by omega)
   simp only [go_sem,biq,ae,if_neg (show ¬ a<b by omega)]
   exact Z0
 have h1':(bu a).length=(bu b).length:=by simp at h1;omega
 have ew:IntKind.i64.wrap (((bu a).length:Int) - 1)=((bu a).length:Int) - 1:=by rw [wrap_i64]<;>omega
 simp only [go_sem,biq,ae,ew]
 refine fB (A:=Nat) (fun k=>[(5,.int .i64 ((k:Int) - 1)),(1,.slice mb 1 (bK (bu b))),(0,.slice ma 1 (bK (bu a)))])
  (fun k=>H) (fun k=>k≤(bu a).length∧a/10^k=b/10^k) (fun k=>k) (bu a).length ⟨nrq _,by rw [qA (nrq _),qA (by omega)]⟩ ?_ fun k hk=>?_
 ·exact Z3
 obtain ⟨hk,hab⟩:=hk
 simp only [go_sem,biq,ae]
 refine ah (fun h2=>?_) (fun h2=>?_)
 ·obtain ⟨j,rfl⟩:∃ j,k=j+1:=⟨k - 1,by simp at h2;omega⟩
  have ej:(((j+1:Nat):Int) - 1)=(j:Int):=by omega
  have eg1:=gA (eX a) j
  have eg2:=gA (eX b) j
  rw [il] at eg1 eg2
  have e3:IntKind.i64.wrap ((j:Int) - 1)=(j:Int) - 1:=by rw [wrap_i64]<;>omega
  simp only [go_sem,biq,ae,ej,dU (show j<(bu a).length by omega),fJ (show j<(bu a).length by omega),dU (show j<(bu b).length by omega),fJ (show j<(bu b).length by omega),eg1,eg2,e3]
  refine ⟨by omega,by omega,ah (fun h3=>?_) (fun h3=>?_)⟩
  ·have h3':dig a j≠dig b j:=by simp at h3;omega
   have hne:a≠b:=fun h=>h3' (by rw [h])
   simp only [go_sem,biq,ae,if_neg hne,dU (show j<(bu a).length by omega),fJ (show j<(bu a).length by omega),dU (show j<(bu b).length by omega),fJ (show j<(bu b).length by omega),eg1,eg2]
   refine ⟨by omega,by omega,ah (fun h4=>?_) (fun h4=>?_)⟩
   ·have:=qU hab (show dig a j<dig b j by simpa using h4)
    simp only [go_sem,biq,ae,if_pos this]
    exact Z0
   ·have:=qU hab.symm (show dig b j<dig a j by simp at h4;omega)
    simp only [go_sem,biq,ae,if_neg (show ¬ a<b by omega)]
    exact Z0
  ·have h3':dig a j=dig b j:=by simp at h3;omega
   simp only [go_sem,biq,ae,e3]
   refine ⟨j,⟨by omega,vr hab h3'⟩,by omega,?_⟩
   exact Z3
 ·have h2':k=0:=by simp at h2;omega
  subst h2'
  have he:a=b:=by simpa using hab
  simp only [go_sem,biq,ae,if_pos he]
  exact Z0
def rAV (m:Bool) (n:Nat):AV:=.agg [.bool (m&&n != 0),.slice .any 1 (bK (bu n))]
theorem t4 {m mm:Bool} {x:List Nat} (h1:isD x) (h2:x.getLast?≠some 0) (h3:mm=(m&&x != [])):AV.agg [AV.bool mm,AV.slice .any 1 (bK x)]=rAV m (dv x):=by
 have e:=xn h1 h2
 unfold rAV
 rw [e,h3]
 have:(x != [])=(dv x != 0):=by
  cases x with
  |nil=>rfl
  |cons a x =>
   have:dv (a::x)≠0:=fun h0=>by rw [h0,aQ] at e;cases e
   rw [bne_iff_ne.2 this];rfl
 rw [this]
def ic:List AV→AHeap→(AV→Prop)→Prop
 |[.bool m,.slice _ 1 l],_,K=>(tm l∧l.length≤100000)∧K (rAV m (dv (uni l)))
 |_,_,_=>False
theorem nZ:EntOk Tryz.prog 80 (Ent.pure ic):=by
 refine Ype fun _ H K h=>?_
 unfold ic at h
 split at h
 rotate_left
 ·exact h.elim
 rename_i m mk l
 obtain ⟨⟨c1,l1⟩,hK⟩:=h
 refine ⟨_,hK,?_⟩
 obtain ⟨xs,rfl,hx⟩:=j6 c1
 rw [dr]
 rw [ck] at l1
 clear hK c1
 refine ACalls.fW aE tNq Tryz.func80 [.cell 4 86] (nrq _) (T:=ay []) (h:=fun hcl hlt=>?_)
 clear hlt
 simp only [go_sem,biq,ae]
 refine au (A:=List Nat) (fun x=>[(1,.slice .any 1 (bK x)),(0,.bool m),(4,.ptr H.nx 0)])
  (fun x=>H.push (.cells [.bool false,.slice .nil 1 []])) (fun x=>isD x∧dv x=dv xs∧x.length≤100000) (fun x=>x.length) xs ⟨hx,rfl,l1⟩ ?_ fun x hI=>?_
 ·exact Z1
 obtain ⟨hxd,hdv,hxl⟩:=hI
 rw [← hdv]
 rcases List.eq_nil_or_concat x with rfl|⟨y,d,rfl⟩
 ·have hd:decide (((0:Nat):Int) > 0)=false:=rfl
  have ff:AV.agg [AV.bool false,AV.slice .any 1 []]=rAV m (dv []):=t4 hxd (by simp) (by cases m<;>rfl)
  simp only [go_sem,biq,ae,zau,hd]
  refine aP (fun h1=>?_) (fun h1=>?_)
  all_goals
   try simp only [go_sem,biq,ae,zau,hd]
   rw [← ff]
   simp (disch:=first|exact Zd|omega) [↓zmo,beq,ybc,ybd,ybe,af,wk,wk2,wk1,wkM,wkL,am,ybf,hcl]
 ·rw [List.concat_eq_append] at *
  rw [lAq,List.length_singleton] at hxl
  have e1:IntKind.i64.wrap (((y++[d]).length:Int) - 1)=((y.length:Nat):Int):=by simp;rw [wrap_i64]<;>omega
  have hlen:y.length<(y++[d]).length:=by simp
  have hd:decide (((y++[d]).length:Int) > 0)=true:=dtq (by simp)
  have eg:(y++[d]).getD y.length 0=d:=by simp [gEq]
  have et:(y++[d]).take y.length=y:=by simp
  simp only [go_sem,biq,ae,hd,e1,dU hlen,eg]
  refine ⟨by omega,ah (fun h1=>?_) (fun h1=>?_)⟩
  ·have h1':d=0:=by simp at h1;omega
   simp only [go_sem,biq,ae,e1,et,yap]
   refine ⟨by omega,y,⟨fun x hx=>hxd x (by simp [hx]),?_,by omega⟩,by simp,?_⟩
   ·rw [iX,h1'];simp [dv]
   ·exact Z1
  ·have h1':d≠0:=by simp at h1;omega
   have ff:AV.agg [AV.bool (m&&true),AV.slice .any 1 (bK (y++[d]))]=rAV m (dv (y++[d])):=t4 hxd (by simp;exact h1') (by simp)
   simp only [go_sem,biq,ae,hd,zau,h1]
   rw [← ff]
   refine aP (fun h1=>?_) (fun h1=>?_)
   all_goals
    subst h1
    try simp only [go_sem,biq,ae]
    simp (disch:=first|exact Zd|omega) [↓zmo,beq,ybc,ybd,ybe,af,wk,wk2,wk1,wkM,wkL,am,ybf,hcl]
end Go.AL
open Go Go.AL Go.Proofs
namespace Go.AL
def zAV (a:Int):AV:=.agg [.bool (decide (a<0)),.slice .any 1 (bK (bu a.natAbs))]
theorem kg (m:Bool) (n:Nat):rAV m n=zAV (if m=true then -(n:Int) else n):=by
 unfold rAV zAV
 cases m
 ·simp
 ·simp only [Bool.true_and,if_true,Int.natAbs_neg,Int.natAbs_natCast]
  congr 3
  rw [Bool.eq_iff_iff];simp;omega
def cO (a:Int):Prop:=a.natAbs<10^200
theorem ki {a:Int} (h:cO a):(bu a.natAbs).length≤200:=uD h
theorem t7 {a b:Int} (h:cO a) (hb:b.natAbs≤a.natAbs):cO b:=Nat.lt_of_le_of_lt hb h
theorem i6 {k n:Nat} (h:n<10^k):dv (first k n)=n:=by rw [yv,Nat.mod_eq_of_lt h]
theorem lk (n:Nat):n<10^(bu n).length:=by have:=Ah (eX n);rwa [il] at this
theorem kQ {n k:Nat} (h:(bu n).length≤k):n<10^k:=Nat.lt_of_lt_of_le (lk n) (Nat.pow_le_pow_right (by decide) h)
theorem Aw (a b:Nat):a+b<10^(max (bu a).length (bu b).length+1):=by
 have h1:=@kQ a (max (bu a).length (bu b).length) (Nat.le_max_left _ _)
 have h2:=@kQ b (max (bu a).length (bu b).length) (Nat.le_max_right _ _)
 rw [Nat.pow_succ];omega
def fc:List AV→AHeap→(AV→Prop)→Prop
 |[x,y],_,K=>∃ a b,(x=zAV a∧y=zAV b∧cO a∧cO b)∧K (zAV (a+b))
 |_,_,_=>False
theorem sC:EntOk Tryz.prog 63 (Ent.pure fc):=by
 refine Ype fun _ H K h=>?_
 unfold fc at h
 split at h
 rotate_left
 ·exact h.elim
 obtain ⟨a,b,⟨rfl,rfl,ha,hb⟩,hK⟩:=h
 refine ⟨_,hK,?_⟩
 clear hK
 refine ACalls.fW aE (tCq zt (tCq xZ (tCq sn (tCq nZ tNq)))) Tryz.func63 [.cell 4 86] (nrq _) (T:=ay [(2,[[],[],[],[],[],[],[3,5],[1,3,5,6],[1,3,5,6,7]]),(4,[[],[],[],[],[],[],[3,5],[1,3,5,6],[1,3,5,6,7]]),(5,[[],[],[],[],[],[],[3,5],[1,3,5,6],[1,3,5,6,7]])]) (h:=fun hcl hlt=>?_)
 clear hlt
 have la:=ki ha
 have lb:=ki hb
 have ia:=eX a.natAbs
 have ib:=eX b.natAbs
 have fi:∀ k n,isD (first k n):=xx
 simp only [go_sem,biq,ae,zAV]
 refine ah (fun h1=>?_) (fun h1=>?_)
 ·have e1:rAV (decide (a<0)) (dv (first (max (bu a.natAbs).length (bu b.natAbs).length+1) (a.natAbs+b.natAbs)))=.agg [.bool (decide (a+b<0)),.slice .any 1 (bK (bu (a+b).natAbs))]:=by
   rw [i6 (Aw _ _),kg]
   show zAV _=zAV (a+b)
   congr 1
   have h1':decide (a<0)=decide (b<0):=by simpa using h1
   by_cases hn:a<0
   ·have:b<0:=by rw [dtq hn] at h1';simpa using h1'.symm
    rw [dtq hn,if_pos rfl];omega
   ·have:¬ b<0:=by rw [dfq hn] at h1';simpa using h1'.symm
    rw [dfq hn,if_neg (by simp)];omega
  simp only [go_sem,biq,ae,sk,ic,il,fC,ia,ib,fi,e1]
  refine ⟨by omega,by omega,?_⟩
  exact Z0
 ·simp only [go_sem,biq,ae,jx]
  refine ⟨a.natAbs,b.natAbs,⟨rfl,rfl,by omega,by omega⟩,ah (fun h2=>?_) (fun h2=>?_)⟩
  ·have hab:b.natAbs≤a.natAbs:=by
    simp only [decide_eq_true_eq] at h2
    split at h2
    ·omega
    ·split at h2<;>omega
   have e1:rAV (decide (a<0)) (dv (first (bu a.natAbs).length (a.natAbs - b.natAbs)))=.agg [.bool (decide (a+b<0)),.slice .any 1 (bK (bu (a+b).natAbs))]:=by
    rw [i6 (Nat.lt_of_le_of_lt (Nat.sub_le _ _) (lk _)),kg]
    show zAV _=zAV (a+b)
    congr 1
    by_cases hn:a<0
    ·have:¬ b<0:=by rw [dtq hn] at h1;simpa using h1
     rw [dtq hn,if_pos rfl];omega
    ·have:b<0:=by rw [dfq hn] at h1;simpa using h1
     rw [dfq hn,if_neg (by simp)];omega
   simp only [go_sem,biq,ae,lT,ic,il,fC,ia,ib,fi,e1]
   refine ⟨by omega,by omega,?_⟩
   exact Z0
  ·have hab:a.natAbs<b.natAbs:=by
    simp only [decide_eq_false_iff_not] at h2
    split at h2
    ·omega
    ·split at h2<;>omega
   have e1:rAV (decide (b<0)) (dv (first (bu b.natAbs).length (b.natAbs - a.natAbs)))=.agg [.bool (decide (a+b<0)),.slice .any 1 (bK (bu (a+b).natAbs))]:=by
    rw [i6 (Nat.lt_of_le_of_lt (Nat.sub_le _ _) (lk _)),kg]
    show zAV _=zAV (a+b)
    congr 1
    by_cases hn:b<0
    ·have:¬ a<0:=fun h=>by simp [h,hn] at h1
     rw [dtq hn,if_pos rfl];omega
    ·have:a<0:=by
      by_cases h:a<0
      ·exact h
      ·simp [h,hn] at h1
     rw [dfq hn,if_neg (by simp)];omega
   simp only [go_sem,biq,ae,lT,ic,il,fC,ia,ib,fi,e1]
   refine ⟨by omega,by omega,?_⟩
   exact Z0
def we:List AV→AHeap→(AV→Prop)→Prop
 |[x],_,K=>∃ a,(x=zAV a∧cO a)∧K (zAV (-a))
 |_,_,_=>False
theorem A2:EntOk Tryz.prog 96 (Ent.pure we):=by
 refine Ype fun _ H K h=>?_
 unfold we at h
 split at h
 rotate_left
 ·exact h.elim
 obtain ⟨a,⟨rfl,ha⟩,hK⟩:=h
 refine ⟨_,hK,?_⟩
 clear hK
 refine ACalls.fW aE (tCq nZ tNq) Tryz.func96 [.cell 2 86] (nrq _) (T:=ay []) (h:=fun hcl hlt=>?_)
 clear hlt
 have la:=ki ha
 have ia:=eX a.natAbs
 have e1:rAV (!decide (a<0)) a.natAbs=.agg [.bool (decide (-a<0)),.slice .any 1 (bK (bu (-a).natAbs))]:=by
  rw [kg]
  show zAV _=zAV (-a)
  congr 1
  by_cases hn:a<0
  ·simp [hn];omega
  ·simp [hn];omega
 simp only [go_sem,biq,ae,zAV,ic,il,ia,e1]
 refine ⟨by omega,?_⟩
 exact Z0
def u7:List AV→AHeap→(AV→Prop)→Prop
 |[x,y],_,K=>∃ a b,(x=zAV a∧y=zAV b∧cO a∧cO b)∧K (zAV (a - b))
 |_,_,_=>False
theorem Bj:EntOk Tryz.prog 92 (Ent.pure u7):=by
 refine Ype fun _ H K h=>?_
 unfold u7 at h
 split at h
 rotate_left
 ·exact h.elim
 obtain ⟨a,b,⟨rfl,rfl,ha,hb⟩,hK⟩:=h
 refine ⟨_,hK,?_⟩
 clear hK
 refine ACalls.fW aE (tCq A2 (tCq sC tNq)) Tryz.func92 [.cell 4 86] (nrq _) (T:=ay [(1,[[],[],[1],[0,1,2],[0,1,2,3]])]) (h:=fun hcl hlt=>?_)
 clear hlt
 simp only [go_sem,biq,ae,zAV,we]
 refine ⟨b,⟨rfl,hb⟩,?_⟩
 simp only [go_sem,biq,ae,zAV,fc]
 refine ⟨a,-b,⟨rfl,rfl,ha,t7 hb (by omega)⟩,?_⟩
 have en:a + -b=a - b:=by omega
 simp only [go_sem,biq,ae,zAV,en]
 exact Z0
def vC:List AV→AHeap→(AV→Prop)→Prop
 |[x,y],_,K=>∃ a b,(x=zAV a∧y=zAV b∧cO a∧cO b)∧K (.int .i64 (if a=b then 0 else if a<b then -1 else 1))
 |_,_,_=>False
theorem Bv:EntOk Tryz.prog 84 (Ent.pure vC):=by
 refine Ype fun _ H K h=>?_
 unfold vC at h
 split at h
 rotate_left
 ·exact h.elim
 obtain ⟨a,b,⟨rfl,rfl,ha,hb⟩,hK⟩:=h
 refine ⟨_,hK,?_⟩
 clear hK
 refine ACalls.fW aE (tCq Bj tNq) Tryz.func84 [.tmp 4] (nrq _) (T:=ay []) (h:=fun hcl hlt=>?_)
 clear hlt
 simp only [go_sem,biq,ae,zAV,u7]
 refine ⟨a,b,⟨rfl,rfl,ha,hb⟩,?_⟩
 try simp only [go_sem,biq,ae,zAV]
 refine ah (fun h1=>?_) (fun h1=>?_)
 ·have h1':a<b:=by simp at h1;omega
  simp only [go_sem,biq,ae,if_neg (show ¬ a=b by omega),if_pos h1']
  exact Z0
 ·have h1':b≤a:=by simp at h1;omega
  simp only [go_sem,biq,ae]
  refine ah (fun h2=>?_) (fun h2=>?_)
  ·have h2':a≠b:=fun h=>by subst h;simp [aQ] at h2
   simp only [go_sem,biq,ae,if_neg h2',if_neg (show ¬ a<b by omega)]
   exact Z0
  ·have h2':a=b:=by
    by_cases h:(a - b).natAbs=0
    ·omega
    ·rw [eE h] at h2;simp at h2
   simp only [go_sem,biq,ae,if_pos h2']
   exact Z0
def dh:List AV→AHeap→(AV→Prop)→Prop
 |[.int .i64 n],_,K=>(-9223372036854775808≤n∧n<9223372036854775808)∧K (zAV n)
 |_,_,_=>False
theorem y3:EntOk Tryz.prog 61 (Ent.pure dh):=by
 refine Ype fun _ H K h=>?_
 unfold dh at h
 split at h
 rotate_left
 ·exact h.elim
 rename_i n
 obtain ⟨⟨h0,h1⟩,hK⟩:=h
 refine ⟨_,hK,?_⟩
 clear hK
 refine ACalls.fW aE (tCq nZ tNq) Tryz.func61 [.cell 2 86] (nrq _) (T:=ay []) (h:=fun hcl hlt=>?_)
 clear hlt
 simp only [go_sem,biq,ae]
 refine au (A:=Nat × List Nat) (fun x=>[(0,.int .i64 (if n<0 then -(x.1:Int) else x.1)),(2,.ptr H.nx 0),(3,.bool (decide (n<0))),(4,.slice (.own (H.nx+1)) 1 (bK x.2))])
  (fun x=>(H.push (.cells [.bool false,.slice .nil 1 []])).push (.buf 1 x.2.length)) (fun x=>n.natAbs=dv x.2+10^x.2.length*x.1∧isD x.2∧x.2.length≤20∧x.1<10^(20 - x.2.length)) (fun x=>x.1) (n.natAbs,[]) ⟨by simp [dv],fun d hd=>(by cases hd),by simp,by simp;omega⟩ ?_ fun x hI=>?_
 ·have e0:(if n<0 then -((n.natAbs:Nat):Int) else ((n.natAbs:Nat):Int))=n:=by split<;>omega
  exact Z4
 obtain ⟨m,l⟩:=x
 obtain ⟨hn,hl,hle,hm⟩:=hI
 dsimp only at *
 have hmb:m≤9223372036854775808:=by
  have:1≤10^l.length:=Nat.pow_pos (by decide)
  have:=Nat.mul_le_mul_right m this
  omega
 by_cases hs:n<0
 ·skip
  have er:(-(m:Int)).tmod 10 = -((m % 10:Nat):Int):=by rw [Int.neg_tmod,Int.tmod_eq_emod_of_nonneg (by omega)];omega
  have eq:IntKind.i64.wrap ((-(m:Int)).tdiv 10) = -((m/10:Nat):Int):=by rw [Int.neg_tdiv,Int.tdiv_eq_ediv_of_nonneg (by omega),wrap_i64]<;>omega
  simp only [go_sem,biq,ae,if_pos hs,er,eq]
  refine ah (fun h2=>?_) (fun h2=>?_)
  ·have h2':m≠0:=by simp at h2;omega
   have hl20:l.length<20:=by
    by_cases hc:l.length<20
    ·exact hc
    ·rw [show 20 - l.length=0 by omega] at hm;omega
   have hq:m/10<10^(20 - (l.length+1)):=Nat.div_lt_of_lt_mul (by rw [Nat.mul_comm,← Nat.pow_succ,show (20 - (l.length+1)).succ=20 - l.length by omega];exact hm)
   simp only [go_sem,biq,ae,if_pos hs,er,eq]
   refine ⟨by omega,ah (fun h3=>?_) (fun h3=>?_)⟩
   ·have en:IntKind.i64.wrap (0 - -((m % 10:Nat):Int))=((m % 10:Nat):Int):=by rw [wrap_i64]<;>omega
    simp only [go_sem,biq,ae,if_pos hs,er,eq,en]
    refine ⟨⟨by omega,by omega⟩,by omega,(m/10,l++[m % 10]),⟨?_,?_,by simp;omega,by simpa using hq⟩,by omega,?_⟩
    ·rw [hn,iX,lAq,List.length_singleton,Nat.pow_succ,Nat.mul_assoc,Nat.add_assoc,← Nat.mul_add]
     congr 2;simp [dv];omega
    ·exact fun d hd=>by
      rcases List.mem_append.1 hd with hd|hd
      ·exact hl d hd
      ·rw [List.mem_singleton.1 hd];omega
    ·exact Z5
   ·have en : -((m % 10:Nat):Int)=((m % 10:Nat):Int):=by simp at h3;omega
    simp only [go_sem,biq,ae,if_pos hs,er,eq,en]
    refine ⟨⟨by omega,by omega⟩,by omega,(m/10,l++[m % 10]),⟨?_,?_,by simp;omega,by simpa using hq⟩,by omega,?_⟩
    ·rw [hn,iX,lAq,List.length_singleton,Nat.pow_succ,Nat.mul_assoc,Nat.add_assoc,← Nat.mul_add]
     congr 2;simp [dv];omega
    ·exact fun d hd=>by
      rcases List.mem_append.1 hd with hd|hd
      ·exact hl d hd
      ·rw [List.mem_singleton.1 hd];omega
    ·exact Z5
  ·have h2':m=0:=by simp at h2;omega
   have ev:rAV (decide (n<0)) (dv l)=.agg [.bool (decide (n<0)),.slice .any 1 (bK (bu n.natAbs))]:=by
    have:n.natAbs=dv l:=by rw [hn,h2'];simp
    rw [← this,kg]
    show zAV _=zAV n
    congr 1
    simp [hs];omega
   simp only [go_sem,biq,ae,if_pos hs,ic,hl,ev,zAV]
   refine ⟨by omega,?_⟩
   exact Z0
 ·skip
  have er:((m:Int)).tmod 10=((m % 10:Nat):Int):=by rw [Int.tmod_eq_emod_of_nonneg (by omega)];omega
  have eq:IntKind.i64.wrap (((m:Int)).tdiv 10)=((m/10:Nat):Int):=by rw [Int.tdiv_eq_ediv_of_nonneg (by omega),wrap_i64]<;>omega
  simp only [go_sem,biq,ae,if_neg hs,er,eq]
  refine ah (fun h2=>?_) (fun h2=>?_)
  ·have h2':m≠0:=by simp at h2;omega
   have hl20:l.length<20:=by
    by_cases hc:l.length<20
    ·exact hc
    ·rw [show 20 - l.length=0 by omega] at hm;omega
   have hq:m/10<10^(20 - (l.length+1)):=Nat.div_lt_of_lt_mul (by rw [Nat.mul_comm,← Nat.pow_succ,show (20 - (l.length+1)).succ=20 - l.length by omega];exact hm)
   simp only [go_sem,biq,ae,if_neg hs,er,eq]
   have hd3:decide (((m % 10:Nat):Int)<0)=false:=dfq (by omega)
   simp only [go_sem,biq,ae,if_neg hs,er,eq,zau,hd3]
   refine ⟨by omega,?_⟩
   refine ⟨⟨by omega,by omega⟩,by omega,(m/10,l++[m % 10]),⟨?_,?_,by simp;omega,by simpa using hq⟩,by omega,?_⟩
   ·rw [hn,iX,lAq,List.length_singleton,Nat.pow_succ,Nat.mul_assoc,Nat.add_assoc,← Nat.mul_add]
    congr 2;simp [dv];omega
   ·exact fun d hd=>by
     rcases List.mem_append.1 hd with hd|hd
     ·exact hl d hd
     ·rw [List.mem_singleton.1 hd];omega
   ·(simp only [bkq,enterW,aU,ltF,ne_eq,Nat.reduceEqDiff,reduceCtorEq,if_neg hs];try simp (disch:=first|exact Zd|omega) [↓zmo,beq,ybc,ybd,ybe,af,wk,wk2,wk1,wkM,wkL,am,ybf,byq,biq,ae,hcl,if_neg hs];try (repeat' (first|assumption|omega|exact True.intro|refine And.intro ?_ ?_|refine ag ?_|refine ac ?_|refine aa ?_ ?_|refine ai ?_ ?_|refine ak ?_|exact lRq _|refine lPq ?_ _|refine AHeap.Le.del ?_ ?_|(simp only [bt,and_true,true_and,if_neg hs];first|done|omega|(simp;done)))))
  ·have h2':m=0:=by simp at h2;omega
   have ev:rAV (decide (n<0)) (dv l)=.agg [.bool (decide (n<0)),.slice .any 1 (bK (bu n.natAbs))]:=by
    have:n.natAbs=dv l:=by rw [hn,h2'];simp
    rw [← this,kg]
    show zAV _=zAV n
    congr 1
    simp [hs];omega
   simp only [go_sem,biq,ae,if_neg hs,ic,hl,ev,zAV]
   refine ⟨by omega,?_⟩
   exact Z0
end Go.AL
open Go Go.AL Go.Proofs
namespace Go.AL
theorem yC:ti Tryz.prog 137=some ⟨.int .u64,1,8,.int .u64 0⟩:=by kernel_rfl
theorem mR:ti Tryz.prog 22=some ⟨.slice 5,1,24,.slice .nil 1 []⟩:=by kernel_rfl
theorem rK:ti Tryz.prog 5=some ⟨.int .u8,1,1,.int .u8 0⟩:=by kernel_rfl
theorem vq:ti Tryz.prog 9=some ⟨.string,1,16,.str []⟩:=by kernel_rfl
attribute [go_sem] yC mR rK vq
theorem wF:Tryz.prog.eqGuardType Tryz.prog.depth 78=false:=by kernel_rfl
theorem wC {a b c d e f:Int}:teq Tryz.prog 9 78 (.agg [.int .u64 a,.int .u64 b,.int .u64 c]) (.agg [.int .u64 d,.int .u64 e,.int .u64 f])=some (((a==d)&&((b==e)&&((c==f)&&true)))&&true):=by
 have g2:Tryz.prog.stoodInHeld 78=false:=by kernel_rfl
 simp [qp,uv,teq,teq.go,teq.arr,teq.part,wi,ceq,TD.agg,g2]
theorem DS {a b:Int} (ha:isN a) (hb:isN b):((w0 a==w0 b)&&((w1 a==w1 b)&&(w2 a==w2 b)))=decide (a=b):=by
 by_cases h:a=b
 ·subst h;simp
 ·rw [dfq h]
  have:=fun h0 h1 h2=>h (DR ha hb h0 h1 h2)
  simp only [Bool.and_eq_false_iff,beq_eq_false_iff_ne,ne_eq]
  by_cases h0:w0 a=w0 b
  ·by_cases h1:w1 a=w1 b
   ·exact .inr (.inr (this h0 h1))
   ·exact .inr (.inl h1)
  ·exact .inl h0
def iM (a:Int):AV:=if 0≤a∧a<2^128 then .tup [.agg [.int .u64 (a/2^64),.int .u64 (a % 2^64)],.bool true] else .tup [.agg [.int .u64 0,.int .u64 0],.bool false]
def gq:List AV→AHeap→(AV→Prop)→Prop
 |[x],_,K=>∃ a,(x=nAV a∧isN a)∧K (iM a)
 |_,_,_=>False
theorem p4:EntOk Tryz.prog 56 (Ent.pure gq):=by
 refine Ype fun _ H K h=>?_
 unfold gq at h
 split at h
 rotate_left
 ·exact h.elim
 obtain ⟨a,⟨rfl,ha⟩,hK⟩:=h
 refine ⟨_,hK,?_⟩
 refine ACalls.fW aE tNq Tryz.func56 [.cell 2 55,.tmp 3] (nrq _) (T:=ay []) (h:=fun hcl hlt=>?_)
 clear hlt hK
 have hf:=CJ ha
 simp only [go_sem,byq,nAV]
 refine ⟨by omega,ah (fun h1=>?_) (fun h1=>?_)⟩
 ·have h1':¬ (0≤a∧a<2^128):=fun h=>by rw [← hf] at h;simp [h] at h1
  simp only [go_sem,byq,iM,if_neg h1']
  exact Z0
 ·have h1':(0≤a∧a<2^128):=by rw [← hf];simpa using h1
  have e1:w1 a=a/2^64:=by unfold w1;omega
  have e0:w0 a=a % 2^64:=rfl
  simp only [go_sem,byq,iM,if_pos h1',e1,e0]
  refine ⟨by omega,by omega,?_⟩
  exact Z0
def pu:List AV→AHeap→(AV→Prop)→Prop
 |[.int .u64 n],_,K=>(0≤n∧n<18446744073709551616)∧K (.int .i64 (bl n.toNat:Nat))
 |_,_,_=>False
def lenTabN:List UInt8:=(List.range 256).map fun n=>UInt8.ofNat (bl n)
theorem vy:([0,1,2,2,3,3,3,3,4,4,4,4,4,4,4,4,5,5,5,5,5,5,5,5,5,5,5,5,5,5,5,5,6,6,6,6,6,6,6,6,6,6,6,6,6,6,6,6,6,6,6,6,6,6,6,6,6,6,6,6,6,6,6,6].append [7,7,7,7,7,7,7,7,7,7,7,7,7,7,7,7,7,7,7,7,7,7,7,7,7,7,7,7,7,7,7,7,7,7,7,7,7,7,7,7,7,7,7,7,7,7,7,7,7,7,7,7,7,7,7,7,7,7,7,7,7,7,7,7]).append ([8,8,8,8,8,8,8,8,8,8,8,8,8,8,8,8,8,8,8,8,8,8,8,8,8,8,8,8,8,8,8,8,8,8,8,8,8,8,8,8,8,8,8,8,8,8,8,8,8,8,8,8,8,8,8,8,8,8,8,8,8,8,8,8].append [8,8,8,8,8,8,8,8,8,8,8,8,8,8,8,8,8,8,8,8,8,8,8,8,8,8,8,8,8,8,8,8,8,8,8,8,8,8,8,8,8,8,8,8,8,8,8,8,8,8,8,8,8,8,8,8,8,8,8,8,8,8,8,8])=lenTabN:=by decide +kernel
theorem uy:lenTabN.length=256:=by simp [lenTabN]
theorem tJ (n:Nat) (h:n<256):(lenTabN.getD n 0).toNat=bl n:=by
 unfold lenTabN
 rw [gEq,List.getElem?_map,List.getElem?_range h]
 have:bl n≤8:=bl_le.2 h
 simp only [yag,Option.getD_some]
 rw [UInt8.toNat_ofNat_of_lt' (by simp [UInt8.size];omega)]
theorem vG {m s:Nat} {H:AHeap} (hcl:H.Closed) (hm:m<2^64) (h:m >>> s<256) (hs:s=0∨2^s≤m) :
 (0≤IntKind.u8.wrap ((m >>> s:Nat):Int)∧IntKind.u8.wrap ((m >>> s:Nat):Int)<(lenTabN.length:Int)) ∧
 af H (AV.int IntKind.i64 (IntKind.i64.wrap ((s:Int)+IntKind.i64.wrap ((lenTabN.getD (IntKind.u8.wrap ((m >>> s:Nat):Int)).toNat 0).toNat:Int)))) H (AV.int IntKind.i64 (bl m:Nat)):=by
 have e:IntKind.u8.wrap ((m >>> s:Nat):Int)=((m >>> s:Nat):Int):=by
  have:IntKind.u8.wrap ((m >>> s:Nat):Int)=((m >>> s:Nat):Int) % 256:=by simp [IntKind.wrap,IntKind.signed,IntKind.bits]
  rw [this]
  generalize m >>> s=x at h ⊢
  omega
 rw [e,uy,iNq,tJ _ h]
 refine ⟨⟨Int.natCast_nonneg _,by generalize m >>> s=x at h ⊢;omega⟩,?_⟩
 have hb:bl m=s+bl (m >>> s):=by
  rcases hs with rfl|hs
  ·simp
  ·exact zM m s hs
 have h8:bl (m >>> s)≤8:=bl_le.2 h
 have h64:bl m≤64:=bl_le.2 hm
 have e2:IntKind.i64.wrap ((bl (m >>> s):Nat):Int)=(bl (m >>> s):Nat):=by rw [wrap_i64]<;>omega
 have e3:IntKind.i64.wrap ((s:Int)+(bl (m >>> s):Nat))=(bl m:Nat):=by rw [wrap_i64]<;>omega
 rw [e2,e3]
 simp [af,wk,wk2,wk1,zmw,hcl,znf]
theorem x9:EntOk Tryz.prog 98 (Ent.pure pu):=by
 refine Ype fun _ H K h=>?_
 unfold pu at h
 split at h
 rotate_left
 ·exact h.elim
 rename_i n
 obtain ⟨⟨h0,h1⟩,hK⟩:=h
 refine ⟨_,hK,?_⟩
 obtain ⟨m,rfl⟩:=bO h0
 clear hK h0
 rw [iNq]
 have hm:m<2^64:=by omega
 clear h1
 refine ACalls.fW aE tNq Tryz.func98 [.tmp 2] (nrq _) (T:=ay []) (h:=fun hcl hlt=>?_)
 clear hlt
 have s32:∀ a:Nat,a<2^64→fT .u64 (a:Int) 32=((a >>> 32:Nat):Int):=fun a h=>jt a 32 h
 have s16:∀ a:Nat,a<2^64→fT .u64 (a:Int) 16=((a >>> 16:Nat):Int):=fun a h=>jt a 16 h
 have s8:∀ a:Nat,a<2^64→fT .u64 (a:Int) 8=((a >>> 8:Nat):Int):=fun a h=>jt a 8 h
 have q1:m >>> 32<2^64:=m8 hm
 have q2:m >>> 16<2^64:=m8 hm
 have q3:m >>> 32 >>> 16<2^64:=m8 q1
 have w48:IntKind.i64.wrap 48=48:=by decide
 have w40:IntKind.i64.wrap 40=40:=by decide
 have w24:IntKind.i64.wrap 24=24:=by decide
 have w56:IntKind.i64.wrap (48+8)=56:=by decide
 have q4:m >>> 48<2^64:=m8 hm
 simp only [go_sem,zav,byq,vy,s32,s16,s8,hm,q1,q2,q3,q4,w48,w40,w24,w56,← Nat.shiftRight_add]
 have sr:∀ k:Nat,m >>> k=m/2^k:=fun k=>Nat.shiftRight_eq_div_pow m k
 have fin:=fun s=>@vG m s H hcl hm
 refine aP (fun t1=>⟨by decide,aP (fun t2=>⟨by decide,aP (fun t3=>⟨by decide,?_⟩) (fun t3=>?_)⟩) (fun t2=>aP (fun t3=>⟨by decide,?_⟩) (fun t3=>?_))⟩)
  (fun t1=>aP (fun t2=>⟨by decide,aP (fun t3=>⟨by decide,?_⟩) (fun t3=>?_)⟩) (fun t2=>aP (fun t3=>⟨by decide,?_⟩) (fun t3=>?_)))
 all_goals simp only [decide_eq_true_eq,decide_eq_false_iff_not,sr,ge_iff_le] at t1 t2 t3
 ·have f:=fin 56 (by rw [sr];omega) (.inr (by omega));first|exact f|exact ⟨f.1.2,f.2⟩
 ·have f:=fin 48 (by rw [sr];omega) (.inr (by omega));first|exact f|exact ⟨f.1.2,f.2⟩
 ·have f:=fin 40 (by rw [sr];omega) (.inr (by omega));first|exact f|exact ⟨f.1.2,f.2⟩
 ·have f:=fin 32 (by rw [sr];omega) (.inr (by omega));first|exact f|exact ⟨f.1.2,f.2⟩
 ·have f:=fin 24 (by rw [sr];omega) (.inr (by omega));first|exact f|exact ⟨f.1.2,f.2⟩
 ·have f:=fin 16 (by rw [sr];omega) (.inr (by omega));first|exact f|exact ⟨f.1.2,f.2⟩
 ·have f:=fin 8 (by rw [sr];omega) (.inr (by omega));first|exact f|exact ⟨f.1.2,f.2⟩
 ·have f:=fin 0 (by rw [sr];omega) (.inl rfl);first|exact f|exact ⟨f.1.2,f.2⟩
def v9:List AV→AHeap→(AV→Prop)→Prop
 |[.int .u64 n],_,K=>(0≤n∧n<18446744073709551616)∧K (.int .i64 (64 - (bl n.toNat:Nat)))
 |_,_,_=>False
theorem Bn:EntOk Tryz.prog 94 (Ent.pure v9):=by
 refine Ype fun _ H K h=>?_
 unfold v9 at h
 split at h
 rotate_left
 ·exact h.elim
 rename_i n
 obtain ⟨⟨h0,h1⟩,hK⟩:=h
 refine ⟨_,hK,?_⟩
 refine ACalls.fW aE (tCq x9 tNq) Tryz.func94 [.tmp 2] (nrq _) (T:=ay []) (h:=fun hcl hlt=>?_)
 clear hlt hK
 have h64:bl n.toNat≤64:=bl_le.2 (by omega)
 have e1:IntKind.i64.wrap (64 - ((bl n.toNat:Nat):Int))=64 - ((bl n.toNat:Nat):Int):=by rw [wrap_i64]<;>omega
 simp only [go_sem,zav,byq,pu,e1]
 refine ⟨by omega,?_⟩
 exact Z0
theorem CG {x y:Int} (k:Nat) (hx:0≤x∧x<18446744073709551616) (hy:0≤y∧y<18446744073709551616) (hk:x % 2^k=0) (hyk:y<2^k) (hs:x+y<18446744073709551616):ior .u64 x y=x+y:=by
 obtain ⟨a,rfl⟩:=Int.eq_ofNat_of_zero_le hx.1
 obtain ⟨b,rfl⟩:=Int.eq_ofNat_of_zero_le hy.1
 rw [sc a b (by omega) (by omega)]
 have hk':a % 2^k=0:=by
  have:=hk
  rw [show ((2:Int)^k)=((2^k:Nat):Int) by simp] at this
  omega
 have hb:b<2^k:=by
  have:=hyk
  rw [show ((2:Int)^k)=((2^k:Nat):Int) by simp] at this
  omega
 have e:a=2^k*(a/2^k):=by have:=Nat.div_add_mod a (2^k);omega
 rw [e,← Nat.two_pow_add_eq_or_of_lt hb]
 simp
def mi:List AV→AHeap→(AV→Prop)→Prop
 |[.int .u64 hi,.int .u64 lo,.int .u64 y],_,K=>(0≤hi∧hi<10∧0≤lo∧lo<18446744073709551616∧y=10)∧K (.tup [.int .u64 ((hi*2^64+lo)/10),.int .u64 ((hi*2^64+lo) % 10)])
 |_,_,_=>False
theorem z5:EntOk Tryz.prog 89 (Ent.pure mi):=by
 refine Ype fun _ H K h=>?_
 unfold mi at h
 split at h
 rotate_left
 ·exact h.elim
 rename_i hi lo y
 obtain ⟨⟨h0,h1,h2,h3,rfl⟩,hK⟩:=h
 refine ⟨_,hK,?_⟩
 refine ACalls.fW aE (tCq Bn tNq) Tryz.func89 [.tmp 6,.tmp 7] (nrq _) (T:=ay []) (h:=fun hcl hlt=>?_)
 clear hlt hK
 have b10:bl 10=4:=by decide +kernel
 have hd:decide ((10:Int)≤hi)=false:=dfq (by omega)
 have hz:((10:Int)==0)=false:=rfl
 have hnz:((10:Int)=0)=False:=eq_false (by decide)
 simp only [go_sem,zat,zau,byq,hd,hz]
 refine ah (fun h1=>?_) (fun h1=>?_)
 ·have h1':hi=0:=by simpa using h1
  subst h1'
  have q1:IntKind.u64.wrap (lo.tdiv 10)=lo/10:=by rw [Int.tdiv_eq_ediv_of_nonneg h2,cR]<;>omega
  have q2:lo.tmod 10=lo % 10:=Int.tmod_eq_emod_of_nonneg h2
  have q3:(0*2^64+lo:Int)=lo:=by omega
  simp only [go_sem,zat,zau,byq,hd,hnz,q1,q2,q3]
  exact Z0
 ·have e1:IntKind.u64.wrap (64 - ((4:Nat):Int))=60:=by decide
  have e2:sF .u64 10 60=11529215046068469760:=by decide +kernel
  have e3:fT .u64 11529215046068469760 32=2684354560:=by decide +kernel
  have e4:rM .u64 11529215046068469760 4294967295=0:=by decide +kernel
  have e5:sF .u64 hi 60=hi*1152921504606846976:=by
   show IntKind.u64.wrap (hi*2^(min 60 64))=_
   rw [show (2:Int)^(min 60 64)=1152921504606846976 by decide,cR]<;>omega
  have e6:IntKind.u64.wrap 4=4:=by decide
  have e7:fT .u64 lo 4=lo/16:=by
   unfold fT
   rw [show min (4:Int).toNat IntKind.u64.bits=4 from rfl]
   exact Int.fdiv_eq_ediv_of_nonneg _ (by decide)
  have e8:ior .u64 (hi*1152921504606846976) (lo/16)=hi*1152921504606846976+lo/16:=CG 60 (by omega) (by omega) (by omega) (by omega) (by omega)
  have e9:sF .u64 lo 60=lo % 16*1152921504606846976:=by
   show IntKind.u64.wrap (lo*2^(min 60 64))=_
   rw [show (2:Int)^(min 60 64)=1152921504606846976 by decide]
   have:IntKind.u64.wrap (lo*1152921504606846976)=(lo*1152921504606846976) % 18446744073709551616:=by simp [IntKind.wrap,IntKind.signed,IntKind.bits]
   rw [this];omega
  have e10:fT .u64 (lo % 16*1152921504606846976) 32=lo % 16*268435456:=by
   unfold fT
   rw [show min (32:Int).toNat IntKind.u64.bits=32 from rfl,Int.fdiv_eq_ediv_of_nonneg _ (by decide)];omega
  have e11:rM .u64 (lo % 16*1152921504606846976) 4294967295=0:=by
   obtain ⟨m,rfl⟩:=Int.eq_ofNat_of_zero_le h2
   have:m % 16<16:=Nat.mod_lt _ (by decide)
   rw [show ((m:Int) % 16)=((m % 16:Nat):Int) by omega]
   generalize m % 16=z at this
   revert this;revert z
   decide +kernel
  generalize hU:hi*1152921504606846976+lo/16=U at *
  have e12:IntKind.u64.wrap (U.tdiv 2684354560)=U/2684354560:=by rw [Int.tdiv_eq_ediv_of_nonneg (by omega),cR]<;>omega
  generalize hq:U/2684354560=q at *
  have e13:IntKind.u64.wrap (q*2684354560)=q*2684354560:=by rw [cR]<;>omega
  have e14:IntKind.u64.wrap (U - q*2684354560)=U - q*2684354560:=by rw [cR]<;>omega
  have d1:decide (q ≥ 4294967296)=false:=dfq (by omega)
  have e15:IntKind.u64.wrap (q*0)=0:=by rw [Int.mul_zero];rfl
  have e16:IntKind.u64.wrap (4294967296*(U - q*2684354560))=4294967296*(U - q*2684354560):=by rw [cR]<;>omega
  have e17:IntKind.u64.wrap (4294967296*(U - q*2684354560)+lo % 16*268435456)=4294967296*(U - q*2684354560)+lo % 16*268435456:=by rw [cR]<;>omega
  have d2:decide ((0:Int) > 4294967296*(U - q*2684354560)+lo % 16*268435456)=false:=dfq (by omega)
  have e18:IntKind.u64.wrap (U*4294967296)=(U*4294967296) % 18446744073709551616:=by simp [IntKind.wrap,IntKind.signed,IntKind.bits]
  have e19:IntKind.u64.wrap (q*11529215046068469760)=(q*11529215046068469760) % 18446744073709551616:=by simp [IntKind.wrap,IntKind.signed,IntKind.bits]
  have e20:IntKind.u64.wrap (IntKind.u64.wrap ((U*4294967296) % 18446744073709551616+lo % 16*268435456) - (q*11529215046068469760) % 18446744073709551616)=4294967296*(U - q*2684354560)+lo % 16*268435456:=by
   have w:∀ x,IntKind.u64.wrap x=x % 18446744073709551616:=fun x=>by simp [IntKind.wrap,IntKind.signed,IntKind.bits]
   rw [w,w];omega
  simp only [go_sem,zat,zau,byq,hd,v9,b10,e1,e2,e3,e4,e5,e6,e7,e8,e9,e10,e11,e12,e13,e14,hnz]
  refine ⟨by omega,by omega,by omega,by omega,by omega,by omega,by omega,by omega,qX ?_⟩
  simp only [go_sem,zat,zau,byq,hd,e12,e13,e14,e15,e16,e17,d1,d2,e18,e19,e20,if_false]
  refine ⟨by omega,qX ?_⟩
  generalize hT:4294967296*(U - q*2684354560)+lo % 16*268435456=T at *
  have f1:IntKind.u64.wrap (T.tdiv 2684354560)=T/2684354560:=by rw [Int.tdiv_eq_ediv_of_nonneg (by omega),cR]<;>omega
  generalize hp:T/2684354560=p at *
  have f2:IntKind.u64.wrap (p*2684354560)=p*2684354560:=by rw [cR]<;>omega
  have f3:IntKind.u64.wrap (T - p*2684354560)=T - p*2684354560:=by rw [cR]<;>omega
  have g1:decide (p ≥ 4294967296)=false:=dfq (by omega)
  have f4:IntKind.u64.wrap (p*0)=0:=by rw [Int.mul_zero];rfl
  have f5:IntKind.u64.wrap (4294967296*(T - p*2684354560))=4294967296*(T - p*2684354560):=by rw [cR]<;>omega
  have f6:IntKind.u64.wrap (4294967296*(T - p*2684354560)+0)=4294967296*(T - p*2684354560):=by rw [Int.add_zero,cR]<;>omega
  have g2:decide ((0:Int) > 4294967296*(T - p*2684354560))=false:=dfq (by omega)
  have w:∀ x,IntKind.u64.wrap x=x % 18446744073709551616:=fun x=>by simp [IntKind.wrap,IntKind.signed,IntKind.bits]
  have f7:IntKind.u64.wrap (IntKind.u64.wrap (q*4294967296)+p)=(hi*2^64+lo)/10:=by rw [w,w];omega
  have f8:fT .u64 (IntKind.u64.wrap (IntKind.u64.wrap (IntKind.u64.wrap (T*4294967296)+0) - IntKind.u64.wrap (p*11529215046068469760))) 60=(hi*2^64+lo) % 10:=by
   unfold fT
   rw [show min (60:Int).toNat IntKind.u64.bits=60 from rfl,Int.fdiv_eq_ediv_of_nonneg _ (by decide),w,w,w,w];omega
  simp only [go_sem,zat,zau,byq,hd,f1,f2,f3,f4,f5,f6,f7,f8,g1,g2,if_false]
  refine ⟨by omega,?_⟩
  exact Z0
def xh (a:Int) (k:Nat):List AV:=[.int .u64 (if 2<k then w0 (a/10) else w0 a),.int .u64 (if 1<k then w1 (a/10) else w1 a),.int .u64 (if 0<k then w2 (a/10) else w2 a)]
def gL (a:Int) (k:Nat):Int:=match k with
 |0=>0
 |1=>(a/2^128) % 10
 |2=>(a/2^64) % 10
 |_=>a % 10
theorem As {a:Int} (h0:0≤a) (h1:a<2^192):((0*2^64+w2 a)/10=w2 (a/10)∧(0*2^64+w2 a) % 10=gL a 1) ∧
 ((gL a 1*2^64+w1 a)/10=w1 (a/10)∧(gL a 1*2^64+w1 a) % 10=gL a 2)∧((gL a 2*2^64+w0 a)/10=w0 (a/10)∧(gL a 2*2^64+w0 a) % 10=gL a 3):=by
 have split:∀ y:Int,0≤y→y<2^192→y=w0 y+18446744073709551616*w1 y+340282366920938463463374607431768211456*w2 y:=fun y g0 g1=>by unfold w0 w1 w2;omega
 have ha:=split a h0 h1
 have hy:=split (a/10) (by omega) (by omega)
 have a0:=jP a
 have a1:=jv a
 have a2:=jM a
 have b0:=jP (a/10)
 have b1:=jv (a/10)
 have b2:=jM (a/10)
 have q1:a/2^128=w2 a:=by generalize w0 a=x0 at *;generalize w1 a=x1 at *;generalize w2 a=x2 at *;omega
 have q2:a/2^64=w2 a*18446744073709551616+w1 a:=by generalize w0 a=x0 at *;generalize w1 a=x1 at *;generalize w2 a=x2 at *;omega
 have q3:gL a 3=a % 10:=rfl
 simp only [gL,q1,q2]
 generalize w0 a=x0 at *
 generalize w1 a=x1 at *
 generalize w2 a=x2 at *
 generalize w0 (a/10)=y0 at *
 generalize w1 (a/10)=y1 at *
 generalize w2 (a/10)=y2 at *
 have d2:y2=x2/10:=by omega
 have e2:x2=10*y2+x2 % 10:=by omega
 generalize hr:x2 % 10=r at *
 have d1:y1=(r*18446744073709551616+x1)/10:=by omega
 have e3:(x2*18446744073709551616+x1) % 10=(r*18446744073709551616+x1) % 10:=by omega
 refine ⟨⟨?_,?_⟩,⟨?_,?_⟩,?_,?_⟩<;>omega
def j9:List AV→AHeap→(AV→Prop)→Prop
 |[x],_,K=>∃ a,(x=nAV a∧0≤a∧a<2^192)∧K (.tup [nAV (a/10),.int .u8 (a % 10)])
 |_,_,_=>False
theorem vO:EntOk Tryz.prog 71 (Ent.pure j9):=by
 refine Ype fun _ H K h=>?_
 unfold j9 at h
 split at h
 rotate_left
 ·exact h.elim
 obtain ⟨a,⟨rfl,h0,h1⟩,hK⟩:=h
 refine ⟨_,hK,?_⟩
 refine ACalls.fW aE (tCq z5 tNq) Tryz.func71 [.cell 2 78,.tmp 3] (nrq _) (T:=ay []) (h:=fun hcl hlt=>?_)
 clear hlt hK
 obtain ⟨⟨s1,s2⟩,⟨s3,s4⟩,s5,s6⟩:=As h0 h1
 have a0:=jP a
 have a1:=jv a
 have a2:=jM a
 have r0:0≤gL a 0∧gL a 0<10:=by simp [gL]
 have r1:0≤gL a 1∧gL a 1<10:=by simp only [gL];omega
 have r2:0≤gL a 2∧gL a 2<10:=by simp only [gL];omega
 simp only [go_sem,byq,nAV]
 refine fB (A:=Nat) (fun k=>[(5,.int .i64 (2 - (k:Int))),(4,.int .u64 (gL a k)),(2,.ptr (H.nx+1) 0),(1,.ptr H.nx 0)])
  (fun k=>(H.push (.cells (xh a k))).push (.cells [.int .u64 0,.int .u64 0,.int .u64 0]))
  (fun k=>k≤3) (fun k=>3 - k) 0 (by omega) ?_ fun k hk=>?_
 ·simp only [bnq,enter,fZ,ltF,ne_eq,Nat.reduceEqDiff,reduceCtorEq,xh,gL,Nat.lt_irrefl,if_false,true_or,and_true,Nat.not_lt_zero]
  rfl
 rcases (by omega:k=0∨k=1∨k=2∨k=3) with rfl|rfl|rfl|rfl
 ·have hd:decide ((2 - ((0:Nat):Int)) ≥ 0)=true:=rfl
  have e1:IntKind.i64.wrap (2 - ((0:Nat):Int) - 1)=2 - ((1:Nat):Int):=by rw [wrap_i64]<;>omega
  have t1:(2 - ((0:Nat):Int)).toNat=2:=rfl
  simp only [go_sem,zat,byq,hd,xh,e1,t1,mi,show gL a 0=0 from rfl,s1,s2]
  refine ⟨by omega,by omega,by omega,1,by omega,by omega,?_⟩
  simp only [bnq,enter,fZ,ltF,ne_eq,Nat.reduceEqDiff,reduceCtorEq]
  exact .inl rfl
 ·have hd:decide ((2 - ((1:Nat):Int)) ≥ 0)=true:=rfl
  have e1:IntKind.i64.wrap (2 - ((1:Nat):Int) - 1)=2 - ((2:Nat):Int):=by rw [wrap_i64]<;>omega
  have t1:(2 - ((1:Nat):Int)).toNat=1:=rfl
  simp only [go_sem,zat,byq,hd,xh,e1,t1,mi,s3,s4]
  refine ⟨by omega,by omega,by omega,2,by omega,by omega,?_⟩
  simp only [bnq,enter,fZ,ltF,ne_eq,Nat.reduceEqDiff,reduceCtorEq]
  exact .inl rfl
 ·have hd:decide ((2 - ((2:Nat):Int)) ≥ 0)=true:=rfl
  have e1:IntKind.i64.wrap (2 - ((2:Nat):Int) - 1)=2 - ((3:Nat):Int):=by rw [wrap_i64]<;>omega
  have t1:(2 - ((2:Nat):Int)).toNat=0:=rfl
  simp only [go_sem,zat,byq,hd,xh,e1,t1,mi,s5,s6]
  refine ⟨by omega,by omega,by omega,3,by omega,by omega,?_⟩
  simp only [bnq,enter,fZ,ltF,ne_eq,Nat.reduceEqDiff,reduceCtorEq]
  exact .inl rfl
 ·have hd:decide ((2 - ((3:Nat):Int)) ≥ 0)=false:=rfl
  have e1:IntKind.u8.wrap (gL a 3)=a % 10:=by
   have:IntKind.u8.wrap (a % 10)=a % 10 % 256:=by simp [IntKind.wrap,IntKind.signed,IntKind.bits]
   show IntKind.u8.wrap (a % 10)=a % 10
   rw [this];omega
  simp only [go_sem,zau,byq,hd,xh,e1]
  exact Z0
def dtx (n:Nat) (b:List UInt8):List UInt8:=if h:n/10=0 then UInt8.ofNat (48+n % 10)::b else dtx (n/10) (UInt8.ofNat (48+n % 10)::b)
decreasing_by omega
def txt (a:Int):List UInt8:=if a<0 then 45::dtx a.natAbs [] else dtx a.natAbs []
theorem A7 (n:Nat) (b:List UInt8):∀ k,n<10^k→0<k→(dtx n b).length≤b.length+k:=by
 induction n using Nat.strongRecOn generalizing b with
 |_ n ih =>
  intro k hk h0
  rw [dtx]
  split
  ·simp;omega
  ·obtain ⟨j,rfl⟩:∃ j,k=j+1:=⟨k - 1,by omega⟩
   have:n/10<10^j:=Nat.div_lt_of_lt_mul (by rw [Nat.pow_succ] at hk;omega)
   have hj:0<j:=by
    rcases Nat.eq_zero_or_pos j with rfl|h
    ·simp at this;omega
    ·exact h
   have:=ih (n/10) (by omega) (UInt8.ofNat (48+n % 10)::b) j this hj
   simp at this ⊢;omega
def se:List AV→AHeap→(AV→Prop)→Prop
 |[x],_,K=>∃ a,(x=nAV a ∧ -(2^190)≤a∧a<2^190)∧K (.str (txt a))
 |_,_,_=>False
theorem Ai:EntOk Tryz.prog 45 (Ent.pure se):=by
 refine Ype fun _ H K h=>?_
 unfold se at h
 split at h
 rotate_left
 ·exact h.elim
 obtain ⟨a,⟨rfl,h0,h1⟩,hK⟩:=h
 refine ⟨_,hK,?_⟩
 refine ACalls.fW aE (tCq A1 (tCq Bw (tCq vO (tCq yA tNq)))) Tryz.func45 [.tmp 2] (nrq _) (T:=ay []) (h:=fun hcl hlt=>?_)
 clear hlt hK
 have hn:isN a:=⟨by omega,by omega⟩
 simp only [go_sem,byq,nAV,wb]
 refine ⟨a,⟨rfl,hn⟩,?_⟩
 refine ah (fun h1=>?_) (fun h1=>?_)
 ·have h1':a<0:=by simpa using h1
  have ez : -a=((a.natAbs:Nat):Int):=by omega
  have hm:a.natAbs<2^190+1:=by omega
  have ht:txt a=45::dtx a.natAbs []:=by unfold txt;rw [if_pos h1']
  simp only [go_sem,byq,vH]
  refine ⟨a,rfl,?_⟩
  rw [ez,ht]
  generalize a.natAbs=n0 at *
  simp only [go_sem,byq,nAV]
  refine au (A:=Nat × List UInt8) (fun x=>[(4,.slice .any 1 (bys x.2)),(3,.bool (decide (a<0))),(1,.ptr H.nx 0)])
   (fun x=>H.push (.cells [.int .u64 (w0 (x.1:Int)),.int .u64 (w1 (x.1:Int)),.int .u64 (w2 (x.1:Int))]))
   (fun x=>x.1<2^190+1∧dtx x.1 x.2=dtx n0 []∧x.2.length≤58∧x.1<10^(58 - x.2.length)) (fun x=>x.1) (n0,[]) ⟨hm,rfl,by simp,by simp;omega⟩ ?_ fun x hx=>?_
  ·simp only [bkq,enterW,aU,ltF,ne_eq,Nat.reduceEqDiff,reduceCtorEq]
   exact Z6
  obtain ⟨n,b⟩:=x
  obtain ⟨hn,hb,hl58,hnl⟩:=hx
  dsimp only at *
  have hbl:n/10≠0→b.length<58∧n/10<10^(58 - (b.length+1)):=fun hne=>by
   by_cases hc:b.length<58
   ·refine ⟨hc,Nat.div_lt_of_lt_mul ?_⟩
    rw [Nat.mul_comm,← Nat.pow_succ,show (58 - (b.length+1)).succ=58 - b.length by omega];exact hnl
   ·rw [show 58 - b.length=0 by omega] at hnl
    omega
  have hq:((n:Int)/10)=((n/10:Nat):Int):=by omega
  have hr:((n:Int) % 10)=((n % 10:Nat):Int):=by omega
  have hd:IntKind.u8.wrap (48+((n % 10:Nat):Int))=((48+n % 10:Nat):Int):=by
   have:IntKind.u8.wrap (48+((n % 10:Nat):Int))=(48+((n % 10:Nat):Int)) % 256:=by simp [IntKind.wrap,IntKind.signed,IntKind.bits]
   rw [this];omega
  have hd2:AV.int .u8 ((48+n % 10:Nat):Int)=ba (UInt8.ofNat (48+n % 10)):=by rw [wX (by omega) (by omega)];rfl
  have hw:=@DS ((n/10:Nat):Int) 0 ⟨by omega,by omega⟩ ⟨by omega,by omega⟩
  simp only [go_sem,byq,j9]
  refine ⟨(n:Int),⟨rfl,by omega,by omega⟩,?_⟩
  simp only [go_sem,byq,tk,nAV,hq,hr,hd,hd2,lAq,wC,wF,Bool.bne_false,hw]
  refine ⟨by omega,by omega,ah (fun h2=>?_) (fun h2=>?_)⟩
  rotate_left
  ·have h2':n/10≠0:=by simp at h2;omega
   simp only [go_sem,byq]
   refine ⟨(n/10,UInt8.ofNat (48+n % 10)::b),⟨by omega,?_,by have:=hbl h2';simp;omega,by simpa using (hbl h2').2⟩,by omega,?_⟩
   ·rw [dtx,dif_neg h2'] at hb;exact hb
   ·simp only [bkq,enterW,aU,ltF,ne_eq,Nat.reduceEqDiff,reduceCtorEq]
    exact Z6
  have h2':n/10=0:=by simp at h2;omega
  rw [dtx,dif_pos h2'] at hb
  rw [← hb]
  simp only [go_sem,byq,zat,h1]
  have hms:bZ=9223372036854775807:=rfl
  simp (disch:=first|exact Zd|omega) [↓zmo,beq,ybc,ybd,ybe,af,wk,wk2,wk1,wkM,wkL,am,ybf,hcl]
  try omega
 ·have h1':¬ a<0:=by simpa using h1
  have ez:w0 a=w0 ((a.natAbs:Nat):Int)∧w1 a=w1 ((a.natAbs:Nat):Int)∧w2 a=w2 ((a.natAbs:Nat):Int):=by
   have:a=((a.natAbs:Nat):Int):=by omega
   refine ⟨?_,?_,?_⟩<;>exact congrArg _ this
  have hm:a.natAbs<2^190+1:=by omega
  have ht:txt a=dtx a.natAbs []:=by unfold txt;rw [if_neg h1']
  rw [ht]
  obtain ⟨ez0,ez1,ez2⟩:=ez
  generalize a.natAbs=n0 at *
  simp only [go_sem,byq,ez0,ez1,ez2]
  refine au (A:=Nat × List UInt8) (fun x=>[(4,.slice .any 1 (bys x.2)),(3,.bool (decide (a<0))),(1,.ptr H.nx 0)])
   (fun x=>H.push (.cells [.int .u64 (w0 (x.1:Int)),.int .u64 (w1 (x.1:Int)),.int .u64 (w2 (x.1:Int))]))
   (fun x=>x.1<2^190+1∧dtx x.1 x.2=dtx n0 []∧x.2.length≤58∧x.1<10^(58 - x.2.length)) (fun x=>x.1) (n0,[]) ⟨hm,rfl,by simp,by simp;omega⟩ ?_ fun x hx=>?_
  ·simp only [bkq,enterW,aU,ltF,ne_eq,Nat.reduceEqDiff,reduceCtorEq]
   exact Z6
  obtain ⟨n,b⟩:=x
  obtain ⟨hn,hb,hl58,hnl⟩:=hx
  dsimp only at *
  have hbl:n/10≠0→b.length<58∧n/10<10^(58 - (b.length+1)):=fun hne=>by
   by_cases hc:b.length<58
   ·refine ⟨hc,Nat.div_lt_of_lt_mul ?_⟩
    rw [Nat.mul_comm,← Nat.pow_succ,show (58 - (b.length+1)).succ=58 - b.length by omega];exact hnl
   ·rw [show 58 - b.length=0 by omega] at hnl
    omega
  have hq:((n:Int)/10)=((n/10:Nat):Int):=by omega
  have hr:((n:Int) % 10)=((n % 10:Nat):Int):=by omega
  have hd:IntKind.u8.wrap (48+((n % 10:Nat):Int))=((48+n % 10:Nat):Int):=by
   have:IntKind.u8.wrap (48+((n % 10:Nat):Int))=(48+((n % 10:Nat):Int)) % 256:=by simp [IntKind.wrap,IntKind.signed,IntKind.bits]
   rw [this];omega
  have hd2:AV.int .u8 ((48+n % 10:Nat):Int)=ba (UInt8.ofNat (48+n % 10)):=by rw [wX (by omega) (by omega)];rfl
  have hw:=@DS ((n/10:Nat):Int) 0 ⟨by omega,by omega⟩ ⟨by omega,by omega⟩
  simp only [go_sem,byq,j9]
  refine ⟨(n:Int),⟨rfl,by omega,by omega⟩,?_⟩
  simp only [go_sem,byq,tk,nAV,hq,hr,hd,hd2,lAq,wC,wF,Bool.bne_false,hw]
  refine ⟨by omega,by omega,ah (fun h2=>?_) (fun h2=>?_)⟩
  rotate_left
  ·have h2':n/10≠0:=by simp at h2;omega
   simp only [go_sem,byq]
   refine ⟨(n/10,UInt8.ofNat (48+n % 10)::b),⟨by omega,?_,by have:=hbl h2';simp;omega,by simpa using (hbl h2').2⟩,by omega,?_⟩
   ·rw [dtx,dif_neg h2'] at hb;exact hb
   ·simp only [bkq,enterW,aU,ltF,ne_eq,Nat.reduceEqDiff,reduceCtorEq]
    exact Z6
  have h2':n/10=0:=by simp at h2;omega
  rw [dtx,dif_pos h2'] at hb
  rw [← hb]
  simp only [go_sem,byq,zau,h1]
  have hms:bZ=9223372036854775807:=rfl
  simp (disch:=first|exact Zd|omega) [↓zmo,beq,ybc,ybd,ybe,af,wk,wk2,wk1,wkM,wkL,am,ybf,hcl]
  try omega
end Go.AL
open Go Go.AL Go.Proofs
namespace Go.AL
theorem yK:ti Tryz.prog 125=some ⟨.array 128 4,128,128,.agg (List.replicate 128 (.bool false))⟩:=by kernel_rfl
attribute [go_sem] yK
def gI (hi lo:Int):Prop:=0≤hi∧hi<18446744073709551616∧0≤lo∧lo<18446744073709551616
def jR:List AV→AHeap→(AV→Prop)→Prop
 |[.agg [.int .u64 hi,.int .u64 lo]],_,K=>gI hi lo∧K (.agg (bits (vOf hi.toNat lo.toNat)))
 |_,_,_=>False
theorem nf:EntOk Tryz.prog 73 (Ent.pure jR):=by
 refine Ype fun _ H K h=>?_
 unfold jR at h
 split at h
 rotate_left
 ·exact h.elim
 rename_i hi lo
 obtain ⟨⟨h0,h1,h2,h3⟩,hK⟩:=h
 refine ⟨_,hK,?_⟩
 obtain ⟨x,rfl⟩:=bO h0
 obtain ⟨y,rfl⟩:=bO h2
 clear hK h0 h2
 rw [iNq,iNq]
 have hx:x<2^64:=by omega
 have hy:y<2^64:=by omega
 refine ACalls.fW aE tNq Tryz.func73 [.cell 2 125] (nrq _) (T:=ay []) (h:=fun hcl hlt=>?_)
 clear hlt
 have hv:=om hx hy
 have blo:∀ i,i<64→y.testBit i=(vOf x y).testBit i:=fun i hi=>by rw [wl hy,if_pos hi]
 have bhi:∀ i,x.testBit i=(vOf x y).testBit (i+64):=fun i=>by rw [wl hy,if_neg (by omega),Nat.add_sub_cancel]
 generalize hvo:vOf x y=v at hv blo bhi ⊢
 simp only [go_sem,byq]
 refine fB (A:=Nat) (fun k=>[(4,.int .i64 (k:Int)),(3,.ptr (H.nx+1+1) 0),(1,.ptr H.nx 0),(2,.ptr (H.nx+1) 0)])
  (fun k=>((H.push (.cells [.int .u64 (x:Int),.int .u64 (y:Int)])).push (.cells (List.replicate 128 (.bool false)))).push (.cells (bT v fun j=>decide (j % 64<k)))) (fun k=>k≤64) (fun k=>64 - k) 0 (by omega) ?_ fun k hk=>?_
 ·have e:bT v (fun j=>decide (j % 64<0))=List.replicate 128 (.bool false):=jT _ _ fun j _=>by simp
  simp only [bnq,enter,fZ,ltF,ne_eq,Nat.reduceEqDiff,reduceCtorEq,e,true_or,and_true]
  all_goals rfl
 simp only [go_sem,byq]
 refine ah (fun hc=>?_) (fun hc=>?_)
 ·have hk:k<64:=by simp at hc;omega
  have e1:IntKind.i64.wrap ((k:Int)+64)=((k+64:Nat):Int):=by rw [wrap_i64]<;>omega
  have e2:IntKind.u64.wrap (k:Int)=(k:Int):=by rw [cR]<;>omega
  have e3:IntKind.i64.wrap ((k:Int)+1)=((k+1:Nat):Int):=by rw [wrap_i64]<;>omega
  have s1:y >>> k<2^64:=m8 hy
  have s2:x >>> k<2^64:=m8 hx
  simp only [go_sem,byq,e1,e2,e3,jt y k hy,jt x k hx,tg _ s1,tg _ s2,BO,iNq,nzq,i4,lf,blo k hk,bhi k,List.length_set]
  have hst:((bT v fun j=>decide (j % 64<k)).set k (.bool (v.testBit k))).set (k+64) (.bool (v.testBit (k+64)))=bT v fun j=>decide (j % 64<k+1):=by
   rw [je v _ (fun j=>decide (j % 64<k)||decide (j=k)) k (fun j hj=>by simp [hj]) (by simp),
    je v _ (fun j=>decide (j % 64<k)||decide (j=k)||decide (j=k+64)) (k+64) (fun j hj=>by simp [hj]) (by simp)]
   unfold bT
   refine List.map_congr_left fun j hj=>?_
   have:j<128:=List.mem_range.1 hj
   congr 2
   rw [Bool.eq_iff_iff];simp;omega
  refine ⟨by omega,by omega,by omega,by omega,by omega,by omega,k+1,by omega,by omega,?_⟩
  simp only [bnq,enter,fZ,ltF,ne_eq,Nat.reduceEqDiff,reduceCtorEq,hst,true_or,and_self]
 ·have hk:k=64:=by simp at hc;omega
  subst hk
  have e:bT v (fun j=>decide (j % 64<64))=bits v:=ls _ _ fun j _=>by simp;omega
  have et:List.take 128 (bits v)=bits v:=ybc (by rw [b8];omega)
  have es:splice (List.replicate 128 (.bool false)) 0 (bits v)=bits v:=ek (y:=.junk) (b8 v)
  simp only [go_sem,byq,e,et,es,b8,hZ]
  refine ⟨by simp,?_⟩
  simp (disch:=first|exact Zd|omega) [↓zmo,beq,ybc,ybd,ybe,af,wk,wk2,wk1,wkM,wkL,am,ybf,hcl,cu]
theorem eQ:zAV 0=.agg [.bool false,.slice .any 1 []]:=by simp [zAV,aQ,cL]
theorem cN {a:Int} (k:Nat) (h:a.natAbs<10^k) (hk:k≤200):cO a:=Nat.lt_of_lt_of_le h (Nat.pow_le_pow_right (by decide) hk)
def rS:List AV→AHeap→(AV→Prop)→Prop
 |[.agg [.int .u64 hi,.int .u64 lo]],_,K=>gI hi lo∧K (zAV (hi*2^64+lo))
 |_,_,_=>False
theorem Ap:EntOk Tryz.prog 49 (Ent.pure rS):=by
 refine Ype fun _ H K h=>?_
 unfold rS at h
 split at h
 rotate_left
 ·exact h.elim
 rename_i hi lo
 obtain ⟨⟨h0,h1,h2,h3⟩,hK⟩:=h
 refine ⟨_,hK,?_⟩
 clear hK
 obtain ⟨x,rfl⟩:=bO h0
 obtain ⟨y,rfl⟩:=bO h2
 refine ACalls.fW aE (tCq nf (tCq y3 (tCq sC tNq))) Tryz.func49 [.cell 2 86] (nrq _) (T:=ay [(8,[[],[],[0,1],[0,1,2]])]) (h:=fun hcl hlt=>?_)
 clear hlt
 have hv:vOf x y<2^128:=om (by omega) (by omega)
 have hvz:((x:Int)*2^64+y)=((vOf x y:Nat):Int):=by unfold vOf;omega
 rw [hvz]
 generalize hvo:vOf x y=v at *
 have et:List.take 128 (bits v)=bits v:=ybc (by rw [b8];omega)
 have es:splice (List.replicate 128 (.bool false)) 0 (bits v)=bits v:=ek (y:=.junk) (b8 v)
 simp only [go_sem,byq,biq,ae,jR,dh,gI,iNq,hvo,eQ,b8,hZ,es]
 refine ⟨by omega,by simp,by omega,?_⟩
 have hz:∀ n:Nat,AV.agg [.bool (decide (((n:Nat):Int)<0)),.slice .any 1 (bK (bu (((n:Nat):Int)).natAbs))]=zAV (n:Int):=fun n=>rfl
 have hsm:∀ k,cO ((v >>> k:Nat):Int):=fun k=>cN 40 (by rw [Int.natAbs_natCast];exact Nat.lt_of_le_of_lt (Nat.shiftRight_le v k) (Nat.lt_trans hv (by decide))) (by decide)
 refine au (A:=Nat) (fun k=>[(5,.int .i64 ((k:Int) - 1)),(2,.ptr (H.nx+1) 0 ),(3,.ptr (H.nx+1+1) 0),(4,.ptr (H.nx+1+1+1) 0)])
  (fun k=>((((H.push (.cells [.int .u64 (x:Int),.int .u64 (y:Int)])).push (.cells [.bool false,.slice .nil 1 []])).push (.cells (bits v))).push (.cells [.bool (decide (((v >>> k:Nat):Int)<0)),.slice .any 1 (bK (bu (((v >>> k:Nat):Int)).natAbs))])))
  (fun k=>k≤128) (fun k=>k) 128 (by omega) ?_ fun k hk=>?_
 ·have e0:v >>> 128=0:=by rw [Nat.shiftRight_eq_div_pow,Nat.div_eq_of_lt hv]
  (simp only [bkq,enterW,aU,ltF,ne_eq,Nat.reduceEqDiff,reduceCtorEq,e0,aQ,Int.natAbs_zero,cu];try simp (disch:=first|exact Zd|omega) [↓zmo,beq,ybc,ybd,ybe,af,wk,wk2,wk1,wkM,wkL,am,ybf,byq,biq,ae,hcl,e0,aQ,Int.natAbs_zero,cu];try (repeat' (first|assumption|omega|exact True.intro|refine And.intro ?_ ?_|refine ag ?_|refine ac ?_|refine aa ?_ ?_|refine ai ?_ ?_|refine ak ?_|exact lRq _|refine lPq ?_ _|refine AHeap.Le.del ?_ ?_|(simp only [bt,and_true,true_and,e0,aQ,Int.natAbs_zero,cu];first|done|omega|(simp;done)))))
 simp only [go_sem,byq,biq,ae]
 refine ah (fun h4=>?_) (fun h4=>?_)
 ·obtain ⟨j,rfl⟩:∃ j,k=j+1:=⟨k - 1,by simp at h4;omega⟩
  have ej:(((j+1:Nat):Int) - 1)=(j:Int):=by omega
  have e3:IntKind.i64.wrap ((j:Int) - 1)=(j:Int) - 1:=by rw [wrap_i64]<;>omega
  have hbit:v >>> j=2*(v >>> (j+1))+(if v.testBit j then 1 else 0):=by
   rw [Nat.testBit_eq_decide_div_mod_eq,Nat.shiftRight_eq_div_pow,Nat.shiftRight_eq_div_pow,Nat.pow_succ,← Nat.div_div_eq_div_mul]
   by_cases hb:v/2^j % 2=1
   ·rw [if_pos (by simpa using hb)];omega
   ·rw [if_neg (by simpa using hb)];omega
  simp only [go_sem,byq,biq,ae,ej,e3,fc,hz]
  refine ⟨((v >>> (j+1):Nat):Int),((v >>> (j+1):Nat):Int),⟨rfl,rfl,hsm _,hsm _⟩,?_⟩
  simp only [go_sem,byq,biq,ae,ej,e3,zAV,b8,iR v j (by omega)]
  refine ⟨by omega,by omega,ah (fun h5=>?_) (fun h5=>?_)⟩
  ·have hb2:v >>> j=2*(v >>> (j+1))+1:=by rw [hbit,if_pos h5]
   have hz2:AV.agg [.bool (decide (((v >>> (j+1):Nat):Int)+((v >>> (j+1):Nat):Int)<0)),.slice .any 1 (bK (bu (((v >>> (j+1):Nat):Int)+((v >>> (j+1):Nat):Int)).natAbs))]=zAV (((v >>> (j+1):Nat):Int)+((v >>> (j+1):Nat):Int)):=rfl
   simp only [go_sem,byq,biq,ae,dh,fc,hz2,e3]
   refine ⟨by omega,((v >>> (j+1):Nat):Int)+((v >>> (j+1):Nat):Int),1,⟨rfl,rfl,t7 (hsm j) (by omega),cN 2 (by decide) (by decide)⟩,?_⟩
   have en:((v >>> (j+1):Nat):Int)+((v >>> (j+1):Nat):Int)+1=((v >>> j:Nat):Int):=by omega
   simp only [go_sem,byq,biq,ae,zAV,en,e3]
   refine ⟨j,by omega,by omega,?_⟩
   exact Z7
  ·have hb2:v >>> j=2*(v >>> (j+1)):=by rw [hbit,h5];simp
   have en:((v >>> (j+1):Nat):Int)+((v >>> (j+1):Nat):Int)=((v >>> j:Nat):Int):=by omega
   simp only [go_sem,byq,biq,ae,zAV,en,e3]
   refine ⟨j,by omega,by omega,?_⟩
   exact Z7
 ·have h4':k=0:=by simp at h4;omega
  subst h4'
  simp only [go_sem,byq,biq,ae,zAV,Nat.shiftRight_zero]
  exact Z0
def limDigs:List Nat:=[6,5,4,1,1,2,8,6,7,1,3,4,7,0,6,4,7,3,3,6,4,3,6,4,8,3,9,0,2,9,6,6,3,2,8,2,0,4,3]
theorem vJ:bu (2^128)=limDigs:=by decide +kernel
def limText:List UInt8:=(limDigs.map fun d=>UInt8.ofNat (48+d)).reverse
theorem wc:[51,52,48,50,56,50,51,54,54,57,50,48,57,51,56,52,54,51,52,54,51,51,55,52,54,48,55,52,51,49,55,54,56,50,49,49,52,53,54]=limText:=by decide +kernel
theorem s9:∀ j,j<39→IntKind.i64.wrap (IntKind.u8.wrap (((limText.getD j 0).toNat:Int) - 48))=((limDigs.getD (38 - j) 0:Nat):Int):=by decide +kernel
theorem yu:∀ j,j<39→limDigs.take (38 - j)++[limDigs.getD (38 - j) 0]=limDigs.take (39 - j):=by decide +kernel
def oW:List AV→AHeap→(AV→Prop)→Prop
 |[],_,K=>K (zAV (2^128))
 |_,_,_=>False
theorem xc:EntOk Tryz.prog 85 (Ent.pure oW):=by
 refine Ype fun _ H K h=>?_
 unfold oW at h
 split at h
 rotate_left
 ·exact h.elim
 refine ⟨_,h,?_⟩
 clear h
 refine ACalls.fW aE tNq Tryz.func85 [.cell 0 86] (nrq _) (T:=ay []) (h:=fun hcl hlt=>?_)
 clear hlt
 have hl:limText.length=39:=by decide +kernel
 have ew:IntKind.i64.wrap (((39:Nat):Int) - 1)=((39:Nat):Int) - 1:=by decide
 simp only [go_sem,byq,biq,ae,wc,hl,ew]
 refine au (A:=Nat) (fun k=>[(3,.int .i64 ((k:Int) - 1)),(2,.slice (.own (H.nx+1)) 1 (bK (limDigs.take (39 - k)))),(1,.str limText),(0,.ptr H.nx 0)])
  (fun k=>(H.push (.cells [.bool false,.slice .nil 1 []])).push (.buf 1 (39 - k))) (fun k=>k≤39) (fun k=>k) 39 (by omega) ?_ fun k hk=>?_
 ·(simp only [bkq,enterW,aU,ltF,ne_eq,Nat.reduceEqDiff,reduceCtorEq,cL,Nat.sub_self,yar];try simp (disch:=first|exact Zd|omega) [↓zmo,beq,ybc,ybd,ybe,af,wk,wk2,wk1,wkM,wkL,am,ybf,byq,biq,ae,hcl,cL,Nat.sub_self,yar];try (repeat' (first|assumption|omega|exact True.intro|refine And.intro ?_ ?_|refine ag ?_|refine ac ?_|refine aa ?_ ?_|refine ai ?_ ?_|refine ak ?_|exact lRq _|refine lPq ?_ _|refine AHeap.Le.del ?_ ?_|(simp only [bt,and_true,true_and,cL,Nat.sub_self,yar];first|done|omega|(simp;done)))))
 simp only [go_sem,byq,biq,ae]
 refine ah (fun h4=>?_) (fun h4=>?_)
 ·obtain ⟨j,rfl⟩:∃ j,k=j+1:=⟨k - 1,by simp at h4;omega⟩
  have ej:(((j+1:Nat):Int) - 1)=(j:Int):=by omega
  have e3:IntKind.i64.wrap ((j:Int) - 1)=(j:Int) - 1:=by rw [wrap_i64]<;>omega
  have eg:=s9 j (by omega)
  have es:=yu j (by omega)
  have el:(limDigs.take (38 - j)).length=38 - j:=by rw [List.length_take,show limDigs.length=39 from rfl];omega
  have e39:39 - (j+1)=38 - j:=by omega
  simp only [go_sem,byq,biq,ae,ej,e3,eg,hl,e39,es,el]
  have e40:38 - j+1=39 - j:=by omega
  refine ⟨by omega,by omega,j,by omega,by omega,?_⟩
  rw [e40]
  exact Z1
 ·have h4':k=0:=by simp at h4;omega
  subst h4'
  have ez:AV.agg [AV.bool false,AV.slice .any 1 (bK (List.take 39 limDigs))]=zAV (2^128):=by
   unfold zAV
   rw [show ((2:Int)^128).natAbs=2^128 by decide,vJ];rfl
  simp only [go_sem,byq,biq,ae]
  rw [← ez]
  exact Z0
def gQ:List AV→AHeap→(AV→Prop)→Prop
 |[x],_,K=>∃ a,(x=zAV a∧cO a)∧K (.bool (decide (0≤a∧a<2^128)))
 |_,_,_=>False
theorem z6:EntOk Tryz.prog 64 (Ent.pure gQ):=by
 refine Ype fun _ H K h=>?_
 unfold gQ at h
 split at h
 rotate_left
 ·exact h.elim
 obtain ⟨a,⟨rfl,ha⟩,hK⟩:=h
 refine ⟨_,hK,?_⟩
 clear hK
 refine ACalls.fW aE (tCq xc (tCq Bv tNq)) Tryz.func64 [.tmp 2] (nrq _) (T:=ay [(1,[[],[],[],[],[],[1],[1,4,5]])]) (h:=fun hcl hlt=>?_)
 clear hlt
 simp only [go_sem,biq,ae,zAV,oW,vC]
 refine aP (fun h1=>?_) (fun h1=>?_)
 ·have h1':0≤a:=by simpa using h1
  refine ⟨a,2^128,⟨rfl,rfl,ha,cN 40 (by decide) (by decide)⟩,?_⟩
  have e:decide ((if a=2^128 then (0:Int) else if a<2^128 then -1 else 1)<0)=decide (0≤a∧a<2^128):=by
   rw [Bool.eq_iff_iff];simp only [decide_eq_true_eq]
   split
   ·omega
   ·split<;>omega
  try simp only [go_sem,biq,ae,e]
  exact Z0
 ·have h1':¬ (0≤a∧a<2^128):=by simp at h1;omega
  try simp only [go_sem,biq,ae,dfq h1']
  exact Z0
theorem zX (n:Nat) (b:List UInt8) (h:n≠0):dtx n b=((bu n).reverse.map fun d=>UInt8.ofNat (48+d))++b:=by
 induction n using Nat.strongRecOn generalizing b with
 |_ n ih =>
  rw [dtx,eE h]
  by_cases h1:n/10=0
  ·rw [dif_pos h1,h1,aQ];rfl
  ·rw [dif_neg h1,ih (n/10) (by omega) _ h1];simp
def rI:List AV→AHeap→(AV→Prop)→Prop
 |[x],_,K=>∃ a,(x=zAV a∧cO a)∧K (.str (txt a))
 |_,_,_=>False
def rTx (a:Int) (k:Nat):List UInt8:=(if a<0 then [45] else [])++(((bu a.natAbs).drop k).reverse.map fun d=>UInt8.ofNat (48+d))
theorem Ac {a:Int} {j:Nat} (h:j<(bu a.natAbs).length):rTx a (j+1)++[UInt8.ofNat (48+(bu a.natAbs).getD j 0)]=rTx a j:=by
 unfold rTx
 rw [dcq h,List.reverse_cons,List.map_append,List.append_assoc]
 simp [gEq,h]
theorem AZ {a:Int} {j:Nat}:(rTx a j).length≤1+(bu a.natAbs).length:=by
 unfold rTx;simp;split<;>simp<;>omega
theorem Al:EntOk Tryz.prog 48 (Ent.pure rI):=by
 refine Ype fun _ H K h=>?_
 unfold rI at h
 split at h
 rotate_left
 ·exact h.elim
 obtain ⟨a,⟨rfl,ha⟩,hK⟩:=h
 refine ⟨_,hK,?_⟩
 clear hK
 refine ACalls.fW aE tNq Tryz.func48 [.tmp 2] (nrq _) (T:=ay []) (h:=fun hcl hlt=>?_)
 clear hlt
 have la:=ki ha
 have hms:bZ=9223372036854775807:=rfl
 have ew:IntKind.i64.wrap (((bu a.natAbs).length:Int) - 1)=((bu a.natAbs).length:Int) - 1:=by rw [wrap_i64]<;>omega
 have e0:rTx a (bu a.natAbs).length=if a<0 then [45] else []:=by unfold rTx;simp
 simp only [go_sem,biq,ae,zAV]
 refine ah (fun h1=>?_) (fun h1=>?_)
 all_goals
  simp only [go_sem,biq,ae,ew]
  refine au (A:=Nat) (fun k=>[(4,.int .i64 ((k:Int) - 1)),(3,.str (rTx a k)),(1,.ptr H.nx 0)])
   (fun k=>H.push (.cells [.bool (decide (a<0)),.slice .any 1 (bK (bu a.natAbs))])) (fun k=>k≤(bu a.natAbs).length) (fun k=>k) (bu a.natAbs).length (nrq _) ?_ fun k hk=>?_
  ·simp only [decide_eq_true_eq,decide_eq_false_iff_not] at h1
   first|rw [if_pos h1] at e0|rw [if_neg h1] at e0
   exact Z4
  simp only [go_sem,biq,ae]
  refine ah (fun h2=>?_) (fun h2=>?_)
  ·obtain ⟨j,rfl⟩:∃ j,k=j+1:=⟨k - 1,by simp at h2;omega⟩
   have ej:(((j+1:Nat):Int) - 1)=(j:Int):=by omega
   have e3:IntKind.i64.wrap ((j:Int) - 1)=(j:Int) - 1:=by rw [wrap_i64]<;>omega
   have hj:j<(bu a.natAbs).length:=by omega
   have d10:(bu a.natAbs).getD j 0<10:=by rw [gA (eX _)];exact lr _ _
   have e5:AV.int .u8 (IntKind.u8.wrap (IntKind.i64.wrap (48+(((bu a.natAbs).getD j 0:Nat):Int))))=ba (UInt8.ofNat (48+(bu a.natAbs).getD j 0)):=by
    rw [wrap_i64 (by omega) (by omega),BC]
    congr 2;omega
   have hl:=@AZ a (j+1)
   simp only [go_sem,byq,biq,ae,ej,e3,dU hj,fJ hj,e5,zlq,Ac hj,zlz]
   refine ⟨by omega,by omega,j,by omega,by omega,?_⟩
   exact Z1
  ·have h2':k=0:=by simp at h2;omega
   subst h2'
   simp only [go_sem,biq,ae]
   refine ah (fun h3=>?_) (fun h3=>?_)
   ·have h3':a=0:=by
     by_cases h:a.natAbs=0
     ·omega
     ·rw [eE h] at h3;simp at h3;omega
    have et:txt a=[48]:=by subst h3';decide +kernel
    simp only [go_sem,biq,ae,et]
    exact Z0
   ·have h3':a.natAbs≠0:=fun h=>by rw [h,aQ] at h3;simp at h3
    have et:txt a=rTx a 0:=by
     unfold txt rTx
     rw [zX _ _ h3',yap,yaj]
     split<;>simp
    simp only [go_sem,biq,ae,et]
    exact Z0
end Go.AL
open Go Go.AL Go.Proofs
namespace Go.AL
theorem AM:ti Tryz.prog 47=some ⟨.slice 9,1,24,.slice .nil 1 []⟩:=by kernel_rfl
attribute [go_sem] AM
def dw (s p:List UInt8):Bool:=s.take p.length==p
def gg:List AV→AHeap→(AV→Prop)→Prop
 |[.str s,.str p],_,K=>K (.bool (dw s p))
 |_,_,_=>False
theorem kP:EntOk Tryz.prog 50 (Ent.pure gg):=by
 refine Ype fun _ H K h=>?_
 unfold gg at h
 split at h
 rotate_left
 ·exact h.elim
 rename_i s p
 refine ⟨_,h,?_⟩
 clear h
 refine ACalls.fW aE tNq Tryz.func50 [.tmp 4] (nrq _) (T:=ay []) (h:=fun hcl hlt=>?_)
 clear hlt
 simp only [go_sem,iNq,yap]
 refine aP (fun h1=>?_) (fun h1=>?_)
 ·have h1':p.length≤s.length:=by simpa using h1
  refine ⟨by omega,?_⟩
  simp (disch:=first|exact Zd|omega) [↓zmo,beq,ybc,ybd,ybe,af,wk,wk2,wk1,wkM,wkL,am,ybf,hcl,dw]
 ·have h1':dw s p=false:=by
   have:¬ p.length≤s.length:=by simpa using h1
   unfold dw
   rw [ybc (by omega)]
   exact beq_eq_false_iff_ne.2 fun h=>this (by rw [h];exact nrq _)
  simp only [go_sem,h1']
  exact Z0
def qo (s p:List UInt8):AV:=.tup [.str (if dw s p then s.drop p.length else s),.bool (dw s p)]
def iZ:List AV→AHeap→(AV→Prop)→Prop
 |[.str s,.str p],_,K=>K (qo s p)
 |_,_,_=>False
theorem pQ:EntOk Tryz.prog 74 (Ent.pure iZ):=by
 refine Ype fun _ H K h=>?_
 unfold iZ at h
 split at h
 rotate_left
 ·exact h.elim
 rename_i s p
 refine ⟨_,h,?_⟩
 clear h
 refine ACalls.fW aE (tCq kP tNq) Tryz.func74 [.tmp 4,.tmp 5] (nrq _) (T:=ay []) (h:=fun hcl hlt=>?_)
 clear hlt
 simp only [go_sem,gg,iNq,List.take_length]
 refine ah (fun h1=>?_) (fun h1=>?_)
 ·have h1':dw s p=false:=by simpa using h1
  simp only [go_sem,qo,h1']
  exact Z0
 ·have h1':dw s p=true:=by simpa using h1
  have hle:p.length≤s.length:=by
   have:=eq_of_beq h1'
   have h2:=congrArg List.length this
   rw [List.length_take] at h2;omega
  simp only [go_sem,qo,h1',iNq,List.take_length]
  refine ⟨by omega,?_⟩
  exact Z0
def jW:List AV→AHeap→(AV→Prop)→Prop
 |[.str s,.str p],_,K=>K (qo s p)
 |_,_,_=>False
theorem rV:EntOk Tryz.prog 53 (Ent.pure jW):=by
 refine Ype fun _ H K h=>?_
 unfold jW at h
 split at h
 rotate_left
 ·exact h.elim
 rename_i s p
 refine ⟨_,h,?_⟩
 clear h
 refine ACalls.fW aE (tCq pQ tNq) Tryz.func53 [.tmp 4,.tmp 5] (nrq _) (T:=ay []) (h:=fun hcl hlt=>?_)
 clear hlt
 simp only [go_sem,iZ,qo]
 exact Z0
def lK:List AV→AHeap→(AV→Prop)→Prop
 |[.int .u64 x,.int .u64 y],_,K=>((0≤x∧x<18446744073709551616)∧(y=10∨y=16))∧K (.tup [.int .u64 (x*y/18446744073709551616),.int .u64 (x*y % 18446744073709551616)])
 |_,_,_=>False
theorem ku {x:Int} (h:0≤x∧x<18446744073709551616):rM .u64 x 4294967295=x % 4294967296:=by
 obtain ⟨n,rfl⟩:=Int.eq_ofNat_of_zero_le h.1
 have:=sY n 4294967295 (by omega) (by decide)
 rw [show ((4294967295:Nat):Int)=4294967295 from rfl] at this
 rw [this]
 have h2:n &&& 4294967295=n % 2^32:=Nat.and_two_pow_sub_one_eq_mod n 32
 rw [h2];omega
theorem zY {x:Int}:fT .u64 x 32=x/4294967296:=by
 unfold fT
 rw [show min (32:Int).toNat IntKind.u64.bits=32 from rfl]
 exact Int.fdiv_eq_ediv_of_nonneg _ (by decide)
theorem zS {a b y:Int} (ha:0≤a∧a<4294967296) (hb:0≤b∧b<4294967296) (hy:y=10∨y=16) :
 ((0+(a*y+b*y/4294967296)/4294967296) % 18446744073709551616+((a*y+b*y/4294967296) % 4294967296+0) % 18446744073709551616/4294967296) % 18446744073709551616=(4294967296*a+b)*y/18446744073709551616:=by
 have key:∀ d r:Int,0≤d→d<4294967296*32→0≤r→r<4294967296→((0+d/4294967296) % 18446744073709551616+(d % 4294967296+0) % 18446744073709551616/4294967296) % 18446744073709551616=(4294967296*d+r)/18446744073709551616:=fun d r h1 h2 h3 h4=>by
  have e:d=4294967296*(d/4294967296)+d % 4294967296:=by omega
  have f1:0≤d % 4294967296∧d % 4294967296<4294967296:=by omega
  generalize d/4294967296=p at *
  generalize d % 4294967296=q at *
  omega
 have hr:b*y=4294967296*(b*y/4294967296)+b*y % 4294967296:=by omega
 have hr2:0≤b*y % 4294967296∧b*y % 4294967296<4294967296:=by omega
 have e:(4294967296*a+b)*y=4294967296*(a*y+b*y/4294967296)+b*y % 4294967296:=by rw [Int.add_mul,Int.mul_assoc];omega
 rw [e]
 refine key _ _ ?_ ?_ hr2.1 hr2.2
 ·rcases hy with rfl|rfl<;>omega
 ·rcases hy with rfl|rfl<;>omega
theorem yw:EntOk Tryz.prog 75 (Ent.pure lK):=by
 refine Ype fun _ H K h=>?_
 unfold lK at h
 split at h
 rotate_left
 ·exact h.elim
 rename_i x y
 obtain ⟨⟨hx,hy⟩,hK⟩:=h
 refine ⟨_,hK,?_⟩
 clear hK
 refine ACalls.fW aE tNq Tryz.func75 [.tmp 4,.tmp 5] (nrq _) (T:=ay []) (h:=fun hcl hlt=>?_)
 clear hlt
 have w:∀ x,IntKind.u64.wrap x=x % 18446744073709551616:=fun x=>by simp [IntKind.wrap,IntKind.signed,IntKind.bits]
 rcases hy with rfl|rfl
 ·have m1:=@ku x hx
  have m2:rM .u64 10 4294967295=10:=by decide +kernel
  have s2:fT .u64 10 32=0:=by decide +kernel
  have e1:IntKind.u64.wrap (x % 4294967296*10)=x % 4294967296*10:=by rw [w];omega
  have e2:IntKind.u64.wrap (x/4294967296*10)=x/4294967296*10:=by rw [w];omega
  have e3:IntKind.u64.wrap (x/4294967296*10+x % 4294967296*10/4294967296)=x/4294967296*10+x % 4294967296*10/4294967296:=by rw [w];omega
  have m3:=@ku (x/4294967296*10+x % 4294967296*10/4294967296) (by omega)
  have z1:IntKind.u64.wrap (x % 4294967296*0)=0:=by rw [Int.mul_zero];rfl
  have z2:IntKind.u64.wrap (x/4294967296*0)=0:=by rw [Int.mul_zero];rfl
  have e4:IntKind.u64.wrap (IntKind.u64.wrap (0+(x/4294967296*10+x % 4294967296*10/4294967296)/4294967296)+(IntKind.u64.wrap ((x/4294967296*10+x % 4294967296*10/4294967296) % 4294967296+0))/4294967296)=x*10/18446744073709551616:=by
   rw [w,w,w,zS (by omega) (by omega) (by omega)]
   congr 2;omega
  simp only [go_sem,zY,m1,m2,m3,e1,e2,e3,z1,z2,s2]
  refine ⟨by omega,by omega,by omega,by omega,by omega,?_⟩
  rw [e4,w]
  exact Z0
 ·have m1:=@ku x hx
  have m2:rM .u64 16 4294967295=16:=by decide +kernel
  have s2:fT .u64 16 32=0:=by decide +kernel
  have e1:IntKind.u64.wrap (x % 4294967296*16)=x % 4294967296*16:=by rw [w];omega
  have e2:IntKind.u64.wrap (x/4294967296*16)=x/4294967296*16:=by rw [w];omega
  have e3:IntKind.u64.wrap (x/4294967296*16+x % 4294967296*16/4294967296)=x/4294967296*16+x % 4294967296*16/4294967296:=by rw [w];omega
  have m3:=@ku (x/4294967296*16+x % 4294967296*16/4294967296) (by omega)
  have z1:IntKind.u64.wrap (x % 4294967296*0)=0:=by rw [Int.mul_zero];rfl
  have z2:IntKind.u64.wrap (x/4294967296*0)=0:=by rw [Int.mul_zero];rfl
  have e4:IntKind.u64.wrap (IntKind.u64.wrap (0+(x/4294967296*16+x % 4294967296*16/4294967296)/4294967296)+(IntKind.u64.wrap ((x/4294967296*16+x % 4294967296*16/4294967296) % 4294967296+0))/4294967296)=x*16/18446744073709551616:=by
   rw [w,w,w,zS (by omega) (by omega) (by omega)]
   congr 2;omega
  simp only [go_sem,zY,m1,m2,m3,e1,e2,e3,z1,z2,s2]
  refine ⟨by omega,by omega,by omega,by omega,by omega,?_⟩
  rw [e4,w]
  exact Z0
def dg (c:UInt8):Nat:=if 48≤c.toNat∧c.toNat≤57 then c.toNat - 48 else if 97≤c.toNat∧c.toNat≤102 then c.toNat - 87 else 99
def lS:List AV→AHeap→(AV→Prop)→Prop
 |[x,.int .u64 y],_,K=>∃ c,(x=ba c∧(y=10∨y=16))∧K (.int .u64 (if (dg c:Int)<y then (dg c:Int) else y))
 |_,_,_=>False
theorem xm:EntOk Tryz.prog 54 (Ent.pure lS):=by
 refine Ype fun _ H K h=>?_
 unfold lS at h
 split at h
 rotate_left
 ·exact h.elim
 rename_i x y
 obtain ⟨c,⟨rfl,hy⟩,hK⟩:=h
 refine ⟨_,hK,?_⟩
 clear hK
 refine ACalls.fW aE tNq Tryz.func54 [.tmp 4] (nrq _) (T:=ay []) (h:=fun hcl hlt=>?_)
 clear hlt
 have hc:c.toNat<256:=UInt8.toNat_lt c
 have w8:∀ x,IntKind.u8.wrap x=x % 256:=fun x=>by simp [IntKind.wrap,IntKind.signed,IntKind.bits]
 have w:∀ x,IntKind.u64.wrap x=x % 18446744073709551616:=fun x=>by simp [IntKind.wrap,IntKind.signed,IntKind.bits]
 simp only [go_sem,ba]
 refine aP (fun h1=>?_) (fun h1=>?_)
 ·refine ah (fun h2=>?_) (fun h2=>?_)
  ·have hd:dg c=c.toNat - 48:=by unfold dg;rw [if_pos (by simp at h1 h2;omega)]
   have e:min (IntKind.u64.wrap (IntKind.u8.wrap ((c.toNat:Int) - 48))) y=if (dg c:Int)<y then (dg c:Int) else y:=by
    rw [w,w8,hd];simp at h1 h2;split<;>omega
   simp only [go_sem,e]
   exact Z0
  ·simp only [go_sem]
   refine aP (fun h3=>?_) (fun h3=>?_)
   ·refine ah (fun h4=>?_) (fun h4=>?_)
    ·have hd:dg c=c.toNat - 87:=by unfold dg;simp at h1 h2 h3 h4;rw [if_neg (by omega),if_pos (by omega)]
     have e:min (IntKind.u64.wrap (IntKind.u64.wrap (IntKind.u8.wrap ((c.toNat:Int) - 97))+10)) y=if (dg c:Int)<y then (dg c:Int) else y:=by
      rw [w,w,w8,hd];simp at h1 h2 h3 h4;split<;>omega
     simp only [go_sem,e]
     exact Z0
    ·have hd:dg c=99:=by unfold dg;simp at h1 h2 h3 h4;rw [if_neg (by omega),if_neg (by omega)]
     have e:min y y=if (dg c:Int)<y then (dg c:Int) else y:=by rw [hd];split<;>omega
     simp only [go_sem,e]
     exact Z0
   ·have hd:dg c=99:=by unfold dg;simp at h1 h2 h3;rw [if_neg (by omega),if_neg (by omega)]
    have e:min y y=if (dg c:Int)<y then (dg c:Int) else y:=by rw [hd];split<;>omega
    try simp only [go_sem,zau,e]
    exact Z0
 ·try simp only [go_sem,zau]
  refine aP (fun h3=>?_) (fun h3=>?_)
  ·refine ah (fun h4=>?_) (fun h4=>?_)
   ·simp at h1 h3;omega
   ·have hd:dg c=99:=by unfold dg;simp at h1 h3 h4;rw [if_neg (by omega),if_neg (by omega)]
    have e:min y y=if (dg c:Int)<y then (dg c:Int) else y:=by rw [hd];split<;>omega
    simp only [go_sem,e]
    exact Z0
  ·have hd:dg c=99:=by unfold dg;simp at h1 h3;rw [if_neg (by omega),if_neg (by omega)]
   have e:min y y=if (dg c:Int)<y then (dg c:Int) else y:=by rw [hd];split<;>omega
   simp only [go_sem,zau,e]
   exact Z0
def jL (z:Int) (k:Nat):List AV:=[.int .u64 (if 0<k then w0 z else 0),.int .u64 (if 1<k then w1 z else 0),.int .u64 (if 2<k then w2 z else 0)]
def mck (a y m:Int) (k:Nat):Int:=match k with
 |0=>m
 |1=>(a % 2^64*y+m)/2^64
 |2=>(a % 2^128*y+m)/2^128
 |_=>(a*y+m)/2^192
theorem yX {a y m:Int} (h0:0≤a) (h1:a<2^128) (hy:y=10∨y=16) (hm:0≤m∧m<y) :
 ((w0 a*y+m) % 2^64=w0 (a*y+m)∧(w0 a*y+m)/2^64=mck a y m 1)∧((w1 a*y+mck a y m 1) % 2^64=w1 (a*y+m)∧(w1 a*y+mck a y m 1)/2^64=mck a y m 2) ∧
 ((w2 a*y+mck a y m 2) % 2^64=w2 (a*y+m)∧(w2 a*y+mck a y m 2)/2^64=0)∧(0≤mck a y m 1∧mck a y m 1<16)∧(0≤mck a y m 2∧mck a y m 2<16):=by
 have split:∀ z:Int,0≤z→z<2^192→z=w0 z+18446744073709551616*w1 z+340282366920938463463374607431768211456*w2 z:=fun z g0 g1=>by unfold w0 w1 w2;omega
 have a0:=jP a
 have a1:=jv a
 have a2:=jM a
 have ha:=split a h0 (by omega)
 have hp:0≤a*y+m∧a*y+m<2^192:=by rcases hy with rfl|rfl<;>omega
 have hz:=split (a*y+m) hp.1 hp.2
 have b0:=jP (a*y+m)
 have b1:=jv (a*y+m)
 have b2:=jM (a*y+m)
 have q2:w2 a=0:=by generalize w0 a=x0 at *;generalize w1 a=x1 at *;generalize w2 a=x2 at *;omega
 have e1:a % 2^64=w0 a:=rfl
 have e2:a % 2^128=a:=by omega
 simp only [mck,e1,e2,q2] at *
 generalize w0 (a*y+m)=z0 at *
 generalize w1 (a*y+m)=z1 at *
 generalize w2 (a*y+m)=z2 at *
 generalize w0 a=x0 at *
 generalize w1 a=x1 at *
 subst ha
 clear q2 e1 e2 split h0 h1 a2
 have k2:((x0+18446744073709551616*x1+340282366920938463463374607431768211456*0)*y+m)/2^128=z2:=by omega
 have k1:(x0*y+m)/2^64=z1+18446744073709551616*z2 - x1*y:=by rcases hy with rfl|rfl<;>omega
 have k0:(x0*y+m) % 2^64=z0:=by rcases hy with rfl|rfl<;>omega
 rw [k2,k1,k0]
 have k3:0≤x0*y+m∧x0*y+m<16*18446744073709551616:=by rcases hy with rfl|rfl<;>omega
 have k4:z1+18446744073709551616*z2 - x1*y<16∧0≤z1+18446744073709551616*z2 - x1*y:=by omega
 have k5:z2<16:=by rcases hy with rfl|rfl<;>omega
 refine ⟨⟨?_,?_⟩,⟨?_,?_⟩,⟨?_,?_⟩,⟨?_,?_⟩,?_,?_⟩<;>first|trivial|omega
def mn:List AV→AHeap→(AV→Prop)→Prop
 |[x,.int .u64 y,.int .u64 m],_,K=>∃ a,(x=nAV a∧(0≤a∧a<2^128)∧(y=10∨y=16)∧0≤m∧m<y)∧K (nAV (a*y+m))
 |_,_,_=>False
theorem yh:EntOk Tryz.prog 55 (Ent.pure mn):=by
 refine Ype fun _ H K h=>?_
 unfold mn at h
 split at h
 rotate_left
 ·exact h.elim
 rename_i y m
 obtain ⟨a,⟨rfl,ha,hy,hm⟩,hK⟩:=h
 refine ⟨_,hK,?_⟩
 refine ACalls.fW aE (tCq yw (tCq sS tNq)) Tryz.func55 [.cell 6 78] (nrq _) (T:=ay []) (h:=fun hcl hlt=>?_)
 clear hlt hK
 obtain ⟨⟨s1,s2⟩,⟨s3,s4⟩,⟨s5,s6⟩,r1,r2⟩:=yX ha.1 ha.2 hy hm
 have a0:=jP a
 have a1:=jv a
 have a2:=jM a
 have hml:0≤m∧m<18446744073709551616:=by omega
 have split:∀ x m':Int,(0≤x∧x<18446744073709551616)→(0≤m'∧m'<16)→(x*y % 18446744073709551616+m'+0) % 18446744073709551616=(x*y+m') % 2^64∧IntKind.u64.wrap (x*y/18446744073709551616+(x*y % 18446744073709551616+m'+0)/18446744073709551616)=(x*y+m')/2^64:=fun x m' hx hm'=>by
  have w:∀ x,IntKind.u64.wrap x=x % 18446744073709551616:=fun x=>by simp [IntKind.wrap,IntKind.signed,IntKind.bits]
  rw [w]
  have e:x*y=18446744073709551616*(x*y/18446744073709551616)+x*y % 18446744073709551616:=by omega
  have b:0≤x*y∧x*y<18446744073709551616*16:=by rcases hy with rfl|rfl<;>omega
  generalize x*y=z at *
  constructor<;>omega
 have m0:mck a y m 0=m:=rfl
 simp only [go_sem,nAV]
 refine au (A:=Nat) (fun k=>[(13,.int .i64 (k:Int)),(1,.int .u64 y),(2,.int .u64 (if k=3 then 0 else mck a y m k)),(3,.ptr H.nx 0),(6,.ptr (H.nx+1) 0),(7,.ptr (H.nx+1+1) 0)])
  (fun k=>((H.push (.cells [.int .u64 (w0 a),.int .u64 (w1 a),.int .u64 (w2 a)])).push (.cells [.int .u64 0,.int .u64 0,.int .u64 0])).push (.cells (jL (a*y+m) k)))
  (fun k=>k≤3) (fun k=>3 - k) 0 (by omega) ?_ fun k hk=>?_
 ·(simp only [bkq,enterW,aU,ltF,ne_eq,Nat.reduceEqDiff,reduceCtorEq,jL,Nat.lt_irrefl,if_false,Nat.not_lt_zero,m0];try simp (disch:=first|exact Zd|omega) [↓zmo,beq,ybc,ybd,ybe,af,wk,wk2,wk1,wkM,wkL,am,ybf,byq,biq,ae,hcl,jL,Nat.lt_irrefl,if_false,Nat.not_lt_zero,m0];try (repeat' (first|assumption|omega|exact True.intro|refine And.intro ?_ ?_|refine ag ?_|refine ac ?_|refine aa ?_ ?_|refine ai ?_ ?_|refine ak ?_|exact lRq _|refine lPq ?_ _|refine AHeap.Le.del ?_ ?_|(simp only [bt,and_true,true_and,jL,Nat.lt_irrefl,if_false,Nat.not_lt_zero,m0];first|done|omega|(simp;done)))))
 rcases (by omega:k=0∨k=1∨k=2∨k=3) with rfl|rfl|rfl|rfl
 ·have hd:decide (((0:Nat):Int)<3)=true:=rfl
  have e1:IntKind.i64.wrap (((0:Nat):Int)+1)=((1:Nat):Int):=by rw [wrap_i64]<;>omega
  have t1:((0:Nat):Int).toNat=0:=rfl
  obtain ⟨f1,f2⟩:=split (w0 a) m a0 (by omega)
  rw [s1] at f1
  rw [s2] at f2
  simp only [go_sem,zat,lK,gX,hd,jL,e1,t1,m0,f1,f2,Int.reduceLT,Nat.reduceEqDiff]
  refine ⟨by omega,by omega,by omega,by omega,1,by omega,by omega,?_⟩
  exact Z8
 ·have hd:decide (((1:Nat):Int)<3)=true:=rfl
  have e1:IntKind.i64.wrap (((1:Nat):Int)+1)=((2:Nat):Int):=by rw [wrap_i64]<;>omega
  have t1:((1:Nat):Int).toNat=1:=rfl
  obtain ⟨f1,f2⟩:=split (w1 a) (mck a y m 1) a1 (by omega)
  rw [s3] at f1
  rw [s4] at f2
  simp only [go_sem,zat,lK,gX,hd,jL,e1,t1,f1,f2,Nat.reduceEqDiff]
  refine ⟨by omega,by omega,by omega,by omega,2,by omega,by omega,?_⟩
  exact Z8
 ·have hd:decide (((2:Nat):Int)<3)=true:=rfl
  have e1:IntKind.i64.wrap (((2:Nat):Int)+1)=((3:Nat):Int):=by rw [wrap_i64]<;>omega
  have t1:((2:Nat):Int).toNat=2:=rfl
  obtain ⟨f1,f2⟩:=split (w2 a) (mck a y m 2) a2 (by omega)
  rw [s5] at f1
  rw [s6] at f2
  simp only [go_sem,zat,lK,gX,hd,jL,e1,t1,f1,f2,Nat.reduceEqDiff]
  refine ⟨by omega,by omega,by omega,by omega,3,by omega,by omega,?_⟩
  exact Z8
 ·have hd:decide (((3:Nat):Int)<3)=false:=rfl
  simp only [go_sem,zau,hd,jL]
  exact Z0
def cz (base:Nat):Nat→List UInt8→Option Nat
 |n,[]=>some n
 |n,c::s=>if dg c<base then (if n*base+dg c<2^128 then cz base (n*base+dg c) s else none) else none
def lit (s:List UInt8):Option Nat:=if dw s [48,120] then (if s.drop 2=[] then none else cz 16 0 (s.drop 2)) else if s=[] then none else cz 10 0 s
theorem gm {a b:Nat} {G:Prop} (h1:a<b→G) (h2:b≤a→G):G:=(Nat.lt_or_ge a b).elim h1 h2
def nN (o:Option Nat):AV:=match o with
 |some n=>.tup [nAV n,.bool true]
 |none=>.tup [nAV 0,.bool false]
def i7:List AV→AHeap→(AV→Prop)→Prop
 |[.str s],_,K=>(s.length≤140737488355328)∧K (nN (lit s))
 |_,_,_=>False
theorem nv:EntOk Tryz.prog 33 (Ent.pure i7):=by
 refine Ype fun _ H K h=>?_
 unfold i7 at h
 split at h
 rotate_left
 ·exact h.elim
 rename_i s
 obtain ⟨hl,hK⟩:=h
 refine ⟨_,hK,?_⟩
 refine ACalls.fW aE (tCq rV (tCq xm (tCq yh (tCq p4 tNq)))) Tryz.func33 [.cell 2 78,.tmp 3] (nrq _) (T:=ay []) (h:=fun hcl hlt=>?_)
 clear hlt hK
 have z0:nAV 0=.agg [.int .u64 0,.int .u64 0,.int .u64 0]:=rfl
 simp only [go_sem,jW,qo]
 refine ah (fun h1=>?_) (fun h1=>?_)
 ·simp only [go_sem,h1]
  have hl':(s.drop 2).length≤140737488355328:=by rw [List.length_drop];omega
  have hr:lit s=if s.drop 2=[] then none else cz 16 0 (s.drop 2):=by unfold lit;rw [h1];simp
  rw [hr]
  clear hr h1 hl
  generalize s.drop 2=b at *
  refine ⟨by omega,?_⟩
  refine au (A:=Nat × Nat) (fun x=>[(0,.str b),(2,.ptr H.nx 0),(4,.int .u64 16),(7,.ptr (H.nx+1) 0),(21,.slice .any 1 (bys b)),(22,.int .i64 (b.length:Int)),(23,.int .i64 (x.1:Int))])
   (fun x=>(H.push (.cells [.int .u64 0,.int .u64 0,.int .u64 0])).push (.cells [.int .u64 (w0 (x.2:Int)),.int .u64 (w1 (x.2:Int)),.int .u64 (w2 (x.2:Int))]))
   (fun x=>x.1≤b.length∧x.2<2^128∧cz 16 0 b=cz 16 x.2 (b.drop x.1)) (fun x=>b.length - x.1) (0,0) ⟨by omega,by decide,rfl⟩ ?_ fun x hI=>?_
  ·have z1:w0 0=0:=rfl
   have z2:w1 0=0:=rfl
   have z3:w2 0=0:=rfl
   exact Z9
  obtain ⟨k,n⟩:=x
  obtain ⟨hk,hn,hl2⟩:=hI
  dsimp only at *
  simp only [go_sem,byq]
  refine ah (fun h2=>?_) (fun h2=>?_)
  ·have h2':k<b.length:=by simpa using h2
   rw [dcq h2'] at hl2
   have hg:(bys b).getD k .junk=ba b[k]:=by rw [rJ h2'];simp [gEq,h2']
   have e5:=Yk5 k
   simp only [cz] at hl2
   generalize b[k]=c at *
   simp only [go_sem,byq,hg,lS]
   refine ⟨by omega,c,rfl,?_⟩
   by_cases hd:dg c<16
   ·have hdi:((dg c:Nat):Int)<16:=by omega
    rw [if_pos hdi]
    rw [if_pos hd] at hl2
    have hne:(((dg c:Nat):Int)==16)=false:=by simp;omega
    have hz:AV.agg [.int .u64 (w0 (n:Int)),.int .u64 (w1 (n:Int)),.int .u64 (w2 (n:Int))]=nAV (n:Int):=rfl
    simp only [go_sem,byq,zau,hne,mn]
    refine ⟨(n:Int),⟨rfl,by omega,by omega,by omega⟩,?_⟩
    obtain ⟨z,hz2⟩:∃ z:Int,z=((n*16+dg c:Nat):Int):=⟨_,rfl⟩
    have en:((n:Int)*16+(dg c:Nat))=z:=by omega
    have hN:isN z:=⟨by omega,by omega⟩
    refine gm (a:=n*16+dg c) (b:=2^128) (fun hf=>?_) (fun hf=>?_)
    ·rw [if_pos hf] at hl2
     have hv:iM z=.tup [.agg [.int .u64 (z/2^64),.int .u64 (z % 2^64)],.bool true]:=by unfold iM;rw [if_pos (by omega)]
     simp only [go_sem,byq,en,nAV,gq]
     refine ⟨z,⟨rfl,hN⟩,?_⟩
     simp only [go_sem,byq,zau,hv,e5]
     refine ⟨(k+1,n*16+dg c),⟨by omega,hf,hl2⟩,by omega,?_⟩
     exact Z10
    ·rw [if_neg (Nat.not_lt.2 hf)] at hl2
     have hv:iM z=.tup [.agg [.int .u64 0,.int .u64 0],.bool false]:=by unfold iM;rw [if_neg (by omega)]
     simp only [go_sem,byq,en,nAV,gq]
     refine ⟨z,⟨rfl,hN⟩,?_⟩
     have hbn:b≠[]:=by intro h;subst h;simp at h2'
     simp only [go_sem,byq,zat,hv,hl2,if_neg hbn,nN,z0]
     exact Z0
   ·rw [if_neg (by omega)]
    rw [if_neg hd] at hl2
    have hbn:b≠[]:=by intro h;subst h;simp at h2'
    have he:((16:Int)==16)=true:=rfl
    simp only [go_sem,byq,zat,hl2,if_neg hbn,nN,z0,he]
    exact Z0
  ·have h2':k=b.length:=by simp at h2;omega
   subst h2'
   rw [List.drop_length] at hl2
   simp only [cz] at hl2
   simp only [go_sem,byq]
   refine ah (fun h3=>?_) (fun h3=>?_)
   ·have hbn:b=[]:=by simpa using h3
    simp only [go_sem,byq,if_pos hbn,nN,z0]
    exact Z0
   ·have hbn:b≠[]:=by simpa using h3
    simp only [go_sem,byq,if_neg hbn,nN,hl2,nAV]
    exact Z0
 ·simp only [go_sem,h1]
  have hl':(s).length≤140737488355328:=by exact hl
  have hr:lit s=if s=[] then none else cz 10 0 (s):=by unfold lit;rw [h1];simp
  rw [hr]
  clear hr h1 hl
  generalize s=b at *
  refine ⟨by omega,?_⟩
  refine au (A:=Nat × Nat) (fun x=>[(0,.str b),(2,.ptr H.nx 0),(4,.int .u64 10),(7,.ptr (H.nx+1) 0),(21,.slice .any 1 (bys b)),(22,.int .i64 (b.length:Int)),(23,.int .i64 (x.1:Int))])
   (fun x=>(H.push (.cells [.int .u64 0,.int .u64 0,.int .u64 0])).push (.cells [.int .u64 (w0 (x.2:Int)),.int .u64 (w1 (x.2:Int)),.int .u64 (w2 (x.2:Int))]))
   (fun x=>x.1≤b.length∧x.2<2^128∧cz 10 0 b=cz 10 x.2 (b.drop x.1)) (fun x=>b.length - x.1) (0,0) ⟨by omega,by decide,rfl⟩ ?_ fun x hI=>?_
  ·have z1:w0 0=0:=rfl
   have z2:w1 0=0:=rfl
   have z3:w2 0=0:=rfl
   exact Z9
  obtain ⟨k,n⟩:=x
  obtain ⟨hk,hn,hl2⟩:=hI
  dsimp only at *
  simp only [go_sem,byq]
  refine ah (fun h2=>?_) (fun h2=>?_)
  ·have h2':k<b.length:=by simpa using h2
   rw [dcq h2'] at hl2
   have hg:(bys b).getD k .junk=ba b[k]:=by rw [rJ h2'];simp [gEq,h2']
   have e5:=Yk5 k
   simp only [cz] at hl2
   generalize b[k]=c at *
   simp only [go_sem,byq,hg,lS]
   refine ⟨by omega,c,rfl,?_⟩
   by_cases hd:dg c<10
   ·have hdi:((dg c:Nat):Int)<10:=by omega
    rw [if_pos hdi]
    rw [if_pos hd] at hl2
    have hne:(((dg c:Nat):Int)==10)=false:=by simp;omega
    have hz:AV.agg [.int .u64 (w0 (n:Int)),.int .u64 (w1 (n:Int)),.int .u64 (w2 (n:Int))]=nAV (n:Int):=rfl
    simp only [go_sem,byq,zau,hne,mn]
    refine ⟨(n:Int),⟨rfl,by omega,by omega,by omega⟩,?_⟩
    obtain ⟨z,hz2⟩:∃ z:Int,z=((n*10+dg c:Nat):Int):=⟨_,rfl⟩
    have en:((n:Int)*10+(dg c:Nat))=z:=by omega
    have hN:isN z:=⟨by omega,by omega⟩
    refine gm (a:=n*10+dg c) (b:=2^128) (fun hf=>?_) (fun hf=>?_)
    ·rw [if_pos hf] at hl2
     have hv:iM z=.tup [.agg [.int .u64 (z/2^64),.int .u64 (z % 2^64)],.bool true]:=by unfold iM;rw [if_pos (by omega)]
     simp only [go_sem,byq,en,nAV,gq]
     refine ⟨z,⟨rfl,hN⟩,?_⟩
     simp only [go_sem,byq,zau,hv,e5]
     refine ⟨(k+1,n*10+dg c),⟨by omega,hf,hl2⟩,by omega,?_⟩
     exact Z10
    ·rw [if_neg (Nat.not_lt.2 hf)] at hl2
     have hv:iM z=.tup [.agg [.int .u64 0,.int .u64 0],.bool false]:=by unfold iM;rw [if_neg (by omega)]
     simp only [go_sem,byq,en,nAV,gq]
     refine ⟨z,⟨rfl,hN⟩,?_⟩
     have hbn:b≠[]:=by intro h;subst h;simp at h2'
     simp only [go_sem,byq,zat,hv,hl2,if_neg hbn,nN,z0]
     exact Z0
   ·rw [if_neg (by omega)]
    rw [if_neg hd] at hl2
    have hbn:b≠[]:=by intro h;subst h;simp at h2'
    have he:((10:Int)==10)=true:=rfl
    simp only [go_sem,byq,zat,hl2,if_neg hbn,nN,z0,he]
    exact Z0
  ·have h2':k=b.length:=by simp at h2;omega
   subst h2'
   rw [List.drop_length] at hl2
   simp only [cz] at hl2
   simp only [go_sem,byq]
   refine ah (fun h3=>?_) (fun h3=>?_)
   ·have hbn:b=[]:=by simpa using h3
    simp only [go_sem,byq,if_pos hbn,nN,z0]
    exact Z0
   ·have hbn:b≠[]:=by simpa using h3
    simp only [go_sem,byq,if_neg hbn,nN,hl2,nAV]
    exact Z0
end Go.AL
