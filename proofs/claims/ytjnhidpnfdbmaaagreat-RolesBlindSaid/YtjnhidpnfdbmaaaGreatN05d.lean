/- Lemmas of the proof; no condition. -/
import Derived.Test.YtjnhidpnfdbmaaaGreatLVal
import Derived.Test.YtjnhidpnfdbmaaaGreatAlByte
import Derived.Test.YtjnhidpnfdbmaaaGreatAlBun
set_option linter.all false
set_option maxRecDepth 10000
set_option maxHeartbeats 32000000
open List renaming length_cons → yaz, length_nil → yba, take_of_length_le → ybc, drop_append → ybd, take_append → ybe, drop_eq_nil_of_le → ybf, drop_zero → yap
namespace Go.AL
open Go
def w0 (z:Int):Int:=z % 2^64
def w1 (z:Int):Int:=z/2^64 % 2^64
def w2 (z:Int):Int:=z/2^64/2^64 % 2^64
def nAV (z:Int):AV:=.agg [.int .u64 (w0 z),.int .u64 (w1 z),.int .u64 (w2 z)]
theorem rk (z:Int):0≤w0 z∧w0 z<18446744073709551616:=by unfold w0;omega
theorem rB (z:Int):0≤w1 z∧w1 z<18446744073709551616:=by unfold w1;omega
theorem rH (z:Int):0≤w2 z∧w2 z<18446744073709551616:=by unfold w2;omega
theorem KH (a b:Int):(w0 a+w0 b) % 2^64=w0 (a+b):=by unfold w0;omega
theorem LN (a b:Int):(w1 a+w1 b+(w0 a+w0 b)/2^64) % 2^64=w1 (a+b):=by unfold w0 w1;omega
theorem KB (a b:Int):(w2 a+w2 b+(w1 a+w1 b+(w0 a+w0 b)/2^64)/2^64) % 2^64=w2 (a+b):=by unfold w0 w1 w2;omega
theorem LB (a:Int):2^64 - 1 - w0 a=w0 (-1 - a):=by unfold w0;omega
theorem KU (a:Int):2^64 - 1 - w1 a=w1 (-1 - a):=by unfold w1;omega
theorem KR (a:Int):2^64 - 1 - w2 a=w2 (-1 - a):=by unfold w2;omega
theorem GA (n:Int) (h : -(2^63)≤n∧n<2^63):w1 n=(if n<0 then 2^64 - 1 else 0)∧w2 n=(if n<0 then 2^64 - 1 else 0):=by
 unfold w1 w2;split<;>constructor<;>omega
theorem K6 (hi lo:Int) (h1:0≤hi∧hi<2^64) (h2:0≤lo∧lo<2^64):w0 (hi*2^64+lo)=lo∧w1 (hi*2^64+lo)=hi∧w2 (hi*2^64+lo)=0:=by
 unfold w0 w1 w2;refine ⟨?_,?_,?_⟩<;>omega
theorem Ng {a b:Int} (ha : -(2^191)≤a∧a<2^191) (hb : -(2^191)≤b∧b<2^191) (h0:w0 a=w0 b) (h1:w1 a=w1 b) (h2:w2 a=w2 b):a=b:=by
 unfold w0 at h0;unfold w1 at h1;unfold w2 at h2;omega
theorem M4 {a:Int} (ha : -(2^191)≤a∧a<2^191):w2 a/2^63=if a<0 then 1 else 0:=by
 unfold w2;split<;>omega
theorem Lu {a:Int} (ha : -(2^191)≤a∧a<2^191):w2 a=0↔0≤a∧a<2^128:=by
 unfold w2;omega
theorem tH (x:Int) (h:0≤x∧x<18446744073709551616):EE .u64 (if IntKind.u64.signed=true then -1 else IntKind.u64.max) x=2^64 - 1 - x:=by
 obtain ⟨n,rfl⟩:=Int.eq_ofNat_of_zero_le h.1
 have hn:n<2^64:=by omega
 have e:(if IntKind.u64.signed=true then (-1:Int) else IntKind.u64.max)=((2^64 - 1:Nat):Int):=rfl
 rw [e,tq _ _ (by decide) hn]
 have h1:=congrArg BitVec.toNat (BitVec.allOnes_xor (x:=BitVec.ofNat 64 n))
 rw [BitVec.toNat_xor,BitVec.toNat_not,BitVec.toNat_allOnes,BitVec.toNat_ofNat,Nat.mod_eq_of_lt hn] at h1
 rw [h1];omega
end Go.AL
open Go Go.AL Go.Proofs
namespace Go.AL
theorem IF:ti Tryz.prog 3=some ⟨.int .i64,1,8,.int .i64 0⟩:=by kernel_rfl
theorem HA:ti Tryz.prog 29=some ⟨.struct [(0,27,false),(1,27,false)],2,16,.agg [.int .u64 0,.int .u64 0]⟩:=by kernel_rfl
theorem sy:ti Tryz.prog 27=some ⟨.int .u64,1,8,.int .u64 0⟩:=by kernel_rfl
theorem vB:ti Tryz.prog 194=some ⟨.struct [(0,192,false)],3,24,.agg [.int .u64 0,.int .u64 0,.int .u64 0]⟩:=by kernel_rfl
theorem uz:ti Tryz.prog 192=some ⟨.array 3 27,3,24,.agg [.int .u64 0,.int .u64 0,.int .u64 0]⟩:=by kernel_rfl
attribute [go_sem] IF HA sy vB uz
def j4:List AV→AHeap→(AV→Prop)→Prop
 |[.int .u64 x,.int .u64 y,.int .u64 c],_,K=>(0≤x∧0≤y∧0≤c∧c≤1)∧K (.tup [.int .u64 ((x+y+c) % 18446744073709551616),.int .u64 ((x+y+c)/18446744073709551616)])
 |_,_,_=>False
theorem yx:EntOk Tryz.prog 196 (Ent.pure j4):=by
 refine Ype fun _ H K h=>?_
 unfold j4 at h
 split at h
 rotate_left
 ·exact h.elim
 obtain ⟨⟨h1,h2,h3,h4⟩,hK⟩:=h
 exact ⟨_,hK,wR Tryz.func196 (by kernel_rfl) (by kernel_rfl) (by kernel_rfl) (by kernel_rfl) h1 h2 h3 h4⟩
def Cv:List AV→AHeap→(AV→Prop)→Prop
 |[.int .i64 n],_,K=>(-9223372036854775808≤n∧n<9223372036854775808)∧K (nAV n)
 |_,_,_=>False
theorem GV:EntOk Tryz.prog 152 (Ent.pure Cv):=by
 refine Ype fun _ H K h=>?_
 unfold Cv at h
 split at h
 rotate_left
 ·exact h.elim
 rename_i n
 obtain ⟨⟨h1,h2⟩,hK⟩:=h
 refine ⟨_,hK,?_⟩
 refine ACalls.fW au tNq Tryz.func152 [.cell 2 194] (nrq _) (T:=aq []) (h:=fun hcl hlt=>?_)
 clear hlt hK
 have e0:IntKind.u64.wrap n=w0 n:=by
  unfold w0;simp [IntKind.wrap,IntKind.bits,IntKind.signed]
 have es:lw .i64 n 63=n/2^63:=by
  unfold lw
  rw [show min (63:Int).toNat IntKind.i64.bits=63 from rfl]
  exact Int.fdiv_eq_ediv_of_nonneg _ (by decide)
 have e1:IntKind.u64.wrap (lw .i64 n 63)=w1 n:=by
  rw [es,(GA n (by omega)).1];simp [IntKind.wrap,IntKind.bits,IntKind.signed];split<;>omega
 have e2:w2 n=w1 n:=by rw [(GA n (by omega)).1,(GA n (by omega)).2]
 simp only [go_sem,zav,byq,e0,e1]
 refine ⟨by omega,?_⟩
 unfold nAV
 rw [e2]
 exact Z0
def EI (a b:Int) (k:Nat):List AV:=[.int .u64 (if 0<k then w0 (a+b) else 0),.int .u64 (if 1<k then w1 (a+b) else 0),.int .u64 (if 2<k then w2 (a+b) else 0)]
def cyk (a b:Int) (k:Nat):Int:=match k with
 |0=>0
 |1=>(w0 a+w0 b)/2^64
 |2=>(w1 a+w1 b+(w0 a+w0 b)/2^64)/2^64
 |_=>(w2 a+w2 b+(w1 a+w1 b+(w0 a+w0 b)/2^64)/2^64)/2^64
theorem Bh (a b:Int):∀ k,0≤cyk a b k∧cyk a b k≤1:=by
 have a0:=rk a
 have a1:=rB a
 have a2:=rH a
 have b0:=rk b
 have b1:=rB b
 have b2:=rH b
 intro k
 unfold cyk
 split<;>omega
theorem Nj (a b:Int):(w0 a+w0 b+cyk a b 0) % 18446744073709551616=w0 (a+b)∧(w0 a+w0 b+cyk a b 0)/18446744073709551616=cyk a b 1:=by
 have:=KH a b;simp only [cyk];constructor<;>omega
theorem Nu (a b:Int):(w1 a+w1 b+cyk a b 1) % 18446744073709551616=w1 (a+b)∧(w1 a+w1 b+cyk a b 1)/18446744073709551616=cyk a b 2:=by
 have:=LN a b;simp only [cyk];constructor<;>omega
theorem Mk (a b:Int):(w2 a+w2 b+cyk a b 2) % 18446744073709551616=w2 (a+b)∧(w2 a+w2 b+cyk a b 2)/18446744073709551616=cyk a b 3:=by
 have:=KB a b;simp only [cyk];constructor<;>omega
def wX:List AV→AHeap→(AV→Prop)→Prop
 |[x,y],_,K=>∃ a b,(x=nAV a∧y=nAV b)∧K (nAV (a+b))
 |_,_,_=>False
theorem xm:EntOk Tryz.prog 180 (Ent.pure wX):=by
 refine Ype fun _ H K h=>?_
 unfold wX at h
 split at h
 rotate_left
 ·exact h.elim
 obtain ⟨a,b,⟨rfl,rfl⟩,hK⟩:=h
 refine ⟨_,hK,?_⟩
 refine ACalls.fW au (tCq yx tNq) Tryz.func180 [.cell 4 194] (nrq _) (T:=aq []) (h:=fun hcl hlt=>?_)
 clear hlt hK
 simp only [go_sem,byq,nAV]
 refine lK (A:=Nat) (fun k=>[(8,.int .i64 (k:Int)),(6,.int .u64 (cyk a b k)),(5,.ptr (H.nx+1+1+1) 0),(4,.ptr (H.nx+1+1) 0),(3,.ptr (H.nx+1) 0),(2,.ptr H.nx 0)])
  (fun k=>(((H.push (.cells [.int .u64 (w0 a),.int .u64 (w1 a),.int .u64 (w2 a)])).push (.cells [.int .u64 (w0 b),.int .u64 (w1 b),.int .u64 (w2 b)])).push (.cells [.int .u64 0,.int .u64 0,.int .u64 0])).push (.cells (EI a b k)))
  (fun k=>k≤3) (fun k=>3 - k) 0 (by omega) ?_ fun k hk=>?_
 ·simp only [bnq,enter,oI,ltF,ne_eq,Nat.reduceEqDiff,reduceCtorEq,cyk,EI,Nat.lt_irrefl,if_false,true_or,and_true,Nat.not_lt_zero]
 have a0:=rk a
 have a1:=rB a
 have a2:=rH a
 have b0:=rk b
 have b1:=rB b
 have b2:=rH b
 rcases (by omega:k=0∨k=1∨k=2∨k=3) with rfl|rfl|rfl|rfl
 ·have hd:decide (((0:Nat):Int)<3)=true:=rfl
  have e1:IntKind.i64.wrap (((0:Nat):Int)+1)=((1:Nat):Int):=by rw [wrap_i64]<;>omega
  have hc:=Bh a b 0
  obtain ⟨s1,s2⟩:=Nj a b
  have t1:((0:Nat):Int).toNat=0:=rfl
  simp only [go_sem,zat,byq,j4,hd,EI,e1,s1,s2,t1]
  refine ⟨by omega,by omega,by omega,by omega,.inr (by omega),1,by omega,by omega,?_⟩
  simp only [bnq,enter,oI,ltF,ne_eq,Nat.reduceEqDiff,reduceCtorEq]
  exact .inl rfl
 ·have hd:decide (((1:Nat):Int)<3)=true:=rfl
  have e1:IntKind.i64.wrap (((1:Nat):Int)+1)=((2:Nat):Int):=by rw [wrap_i64]<;>omega
  have hc:=Bh a b 1
  obtain ⟨s1,s2⟩:=Nu a b
  have t1:((1:Nat):Int).toNat=1:=rfl
  simp only [go_sem,zat,byq,j4,hd,EI,e1,s1,s2,t1]
  refine ⟨by omega,by omega,by omega,by omega,.inr (by omega),2,by omega,by omega,?_⟩
  simp only [bnq,enter,oI,ltF,ne_eq,Nat.reduceEqDiff,reduceCtorEq]
  exact .inl rfl
 ·have hd:decide (((2:Nat):Int)<3)=true:=rfl
  have e1:IntKind.i64.wrap (((2:Nat):Int)+1)=((3:Nat):Int):=by rw [wrap_i64]<;>omega
  have hc:=Bh a b 2
  obtain ⟨s1,s2⟩:=Mk a b
  have t1:((2:Nat):Int).toNat=2:=rfl
  simp only [go_sem,zat,byq,j4,hd,EI,e1,s1,s2,t1]
  refine ⟨by omega,by omega,by omega,by omega,.inr (by omega),3,by omega,by omega,?_⟩
  simp only [bnq,enter,oI,ltF,ne_eq,Nat.reduceEqDiff,reduceCtorEq]
  exact .inl rfl
 ·have hd:decide (((3:Nat):Int)<3)=false:=rfl
  simp only [go_sem,zau,byq,hd,EI]
  exact Z0
def DP (a:Int) (k:Nat):List AV:=[.int .u64 (if 0<k then w0 (-1 - a) else w0 a),.int .u64 (if 1<k then w1 (-1 - a) else w1 a),.int .u64 (if 2<k then w2 (-1 - a) else w2 a)]
def Ba:List AV→AHeap→(AV→Prop)→Prop
 |[x],_,K=>∃ a,x=nAV a∧K (nAV (-a))
 |_,_,_=>False
theorem Bx:EntOk Tryz.prog 179 (Ent.pure Ba):=by
 refine Ype fun _ H K h=>?_
 unfold Ba at h
 split at h
 rotate_left
 ·exact h.elim
 obtain ⟨a,rfl,hK⟩:=h
 refine ⟨_,hK,?_⟩
 refine ACalls.fW au (tCq xm (tCq GV tNq)) Tryz.func179 [.cell 2 194] (nrq _) (T:=aq []) (h:=fun hcl hlt=>?_)
 clear hlt hK
 simp only [go_sem,byq,nAV]
 refine lK (A:=Nat) (fun k=>[(4,.int .i64 (k:Int)),(2,.ptr (H.nx+1) 0),(1,.ptr H.nx 0)])
  (fun k=>(H.push (.cells (DP a k))).push (.cells [.int .u64 0,.int .u64 0,.int .u64 0]))
  (fun k=>k≤3) (fun k=>3 - k) 0 (by omega) ?_ fun k hk=>?_
 ·simp only [bnq,enter,oI,ltF,ne_eq,Nat.reduceEqDiff,reduceCtorEq,DP,Nat.lt_irrefl,if_false,true_or,and_true,Nat.not_lt_zero]
 rcases (by omega:k=0∨k=1∨k=2∨k=3) with rfl|rfl|rfl|rfl
 ·have hd:decide (((0:Nat):Int)<3)=true:=rfl
  have e1:IntKind.i64.wrap (((0:Nat):Int)+1)=((1:Nat):Int):=by rw [wrap_i64]<;>omega
  have t1:((0:Nat):Int).toNat=0:=rfl
  have hx:=tH (w0 a) (rk a)
  rw [LB] at hx
  simp only [go_sem,zat,byq,hd,DP,e1,t1,hx]
  refine ⟨by omega,by omega,1,by omega,by omega,?_⟩
  simp only [bnq,enter,oI,ltF,ne_eq,Nat.reduceEqDiff,reduceCtorEq]
  exact .inl rfl
 ·have hd:decide (((1:Nat):Int)<3)=true:=rfl
  have e1:IntKind.i64.wrap (((1:Nat):Int)+1)=((2:Nat):Int):=by rw [wrap_i64]<;>omega
  have t1:((1:Nat):Int).toNat=1:=rfl
  have hx:=tH (w1 a) (rB a)
  rw [KU] at hx
  simp only [go_sem,zat,byq,hd,DP,e1,t1,hx]
  refine ⟨by omega,by omega,2,by omega,by omega,?_⟩
  simp only [bnq,enter,oI,ltF,ne_eq,Nat.reduceEqDiff,reduceCtorEq]
  exact .inl rfl
 ·have hd:decide (((2:Nat):Int)<3)=true:=rfl
  have e1:IntKind.i64.wrap (((2:Nat):Int)+1)=((3:Nat):Int):=by rw [wrap_i64]<;>omega
  have t1:((2:Nat):Int).toNat=2:=rfl
  have hx:=tH (w2 a) (rH a)
  rw [KR] at hx
  simp only [go_sem,zat,byq,hd,DP,e1,t1,hx]
  refine ⟨by omega,by omega,3,by omega,by omega,?_⟩
  simp only [bnq,enter,oI,ltF,ne_eq,Nat.reduceEqDiff,reduceCtorEq]
  exact .inl rfl
 ·have hd:decide (((3:Nat):Int)<3)=false:=rfl
  simp only [go_sem,zau,byq,hd,DP,wX,Cv]
  refine ⟨by omega,-1 - a,1,⟨rfl,rfl⟩,?_⟩
  have en:(-1 - a+1) = -a:=by omega
  simp only [go_sem,zau,byq,en,nAV]
  simp (disch:=first|exact Zd|omega) [↓zmo,beq,ybc,ybd,ybe,ae,wk,wk2,wk1,wkM,wkL,ah,ybf,hcl]
  refine .inr ⟨-1 - a,1,⟨⟨rfl,rfl,rfl⟩,rfl,rfl,rfl⟩,?_⟩
  rw [en];exact ⟨rfl,rfl,rfl⟩
def wY:List AV→AHeap→(AV→Prop)→Prop
 |[x,y],_,K=>∃ a b,(x=nAV a∧y=nAV b)∧K (nAV (a - b))
 |_,_,_=>False
theorem BB:EntOk Tryz.prog 181 (Ent.pure wY):=by
 refine Ype fun _ H K h=>?_
 unfold wY at h
 split at h
 rotate_left
 ·exact h.elim
 obtain ⟨a,b,⟨rfl,rfl⟩,hK⟩:=h
 refine ⟨_,hK,?_⟩
 refine ACalls.fW au (tCq xm (tCq Bx tNq)) Tryz.func181 [.cell 4 194] (nrq _) (T:=aq []) (h:=fun hcl hlt=>?_)
 clear hlt hK
 simp only [go_sem,byq,nAV]
 refine ⟨b,rfl,?_⟩
 simp only [go_sem,byq,nAV]
 refine ⟨a,-b,⟨rfl,rfl⟩,?_⟩
 have en:a + -b=a - b:=by omega
 simp only [go_sem,byq,en,nAV]
 simp (disch:=first|exact Zd|omega) [↓zmo,beq,ybc,ybd,ybe,ae,wk,wk2,wk1,wkM,wkL,ah,ybf,hcl]
 exact ⟨.inr ⟨a,-b,⟨rfl,rfl⟩,by rw [en];rfl⟩,.inr ⟨b,rfl,rfl⟩⟩
def isN (a:Int):Prop := -(2^191)≤a∧a<2^191
def zS:List AV→AHeap→(AV→Prop)→Prop
 |[x],_,K=>∃ a,(x=nAV a∧isN a)∧K (.bool (decide (a<0)))
 |_,_,_=>False
theorem HX:EntOk Tryz.prog 200 (Ent.pure zS):=by
 refine Ype fun _ H K h=>?_
 unfold zS at h
 split at h
 rotate_left
 ·exact h.elim
 obtain ⟨a,⟨rfl,ha⟩,hK⟩:=h
 refine ⟨_,hK,?_⟩
 refine ACalls.fW au tNq Tryz.func200 [.tmp 2] (nrq _) (T:=aq []) (h:=fun hcl hlt=>?_)
 clear hlt hK
 have hs:lw .u64 (w2 a) 63=w2 a/2^63:=by
  unfold lw
  rw [show min (63:Int).toNat IntKind.u64.bits=63 from rfl]
  exact Int.fdiv_eq_ediv_of_nonneg _ (by decide)
 rw [M4 ha] at hs
 have hb:(lw .u64 (w2 a) 63==1)=decide (a<0):=by
  rw [hs];by_cases h:a<0
  ·rw [if_pos h,dtq h];rfl
  ·rw [if_neg h,dfq h];rfl
 simp only [go_sem,zav,byq,nAV,hb]
 refine ⟨by omega,?_⟩
 exact Z0
def sD:List AV→AHeap→(AV→Prop)→Prop
 |[.agg [.int .u64 hi,.int .u64 lo]],_,K=>((0≤hi∧hi<18446744073709551616)∧(0≤lo∧lo<18446744073709551616))∧K (nAV (hi*2^64+lo))
 |_,_,_=>False
theorem zy:EntOk Tryz.prog 119 (Ent.pure sD):=by
 refine Ype fun _ H K h=>?_
 unfold sD at h
 split at h
 rotate_left
 ·exact h.elim
 rename_i hi lo
 obtain ⟨⟨h1,h2⟩,hK⟩:=h
 refine ⟨_,hK,?_⟩
 refine ACalls.fW au tNq Tryz.func119 [.cell 2 194] (nrq _) (T:=aq []) (h:=fun hcl hlt=>?_)
 clear hlt hK
 obtain ⟨e0,e1,e2⟩:=K6 hi lo h1 h2
 simp only [go_sem,zav,byq,nAV,e0,e1,e2]
 exact Z0
def dv:List Nat→Nat
 |[]=>0
 |d::l=>d+10*dv l
def isD (l:List Nat):Prop:=∀ d∈l,d<10
def dig (n i:Nat):Nat:=n/10^i % 10
def first (k n:Nat):List Nat:=(List.range k).map (dig n)
end Go.AL
open Go Go.AL Go.Proofs
namespace Go.AL
theorem Gw:ti Tryz.prog 4=some ⟨.bool,1,1,.bool false⟩:=by kernel_rfl
theorem IG:ti Tryz.prog 50=some ⟨.slice 3,1,24,.slice .nil 1 []⟩:=by kernel_rfl
theorem LD:ti Tryz.prog 270=some ⟨.struct [(0,4,false),(1,50,false)],2,32,.agg [.bool false,.slice .nil 1 []]⟩:=by kernel_rfl
attribute [go_sem] Gw IG LD
def Mp (l:List AV):Prop:=isI l∧isD (uni l)
theorem aG {l:List Nat}:Mp (gD l)=isD l:=by unfold Mp;rw [s7,kJ];simp
end Go.AL
open Go Go.AL Go.Proofs
namespace Go.AL
end Go.AL
open Go Go.AL Go.Proofs
namespace Go.AL
theorem Hb:ti Tryz.prog 163=some ⟨.int .u64,1,8,.int .u64 0⟩:=by kernel_rfl
theorem qv:ti Tryz.prog 22=some ⟨.slice 5,1,24,.slice .nil 1 []⟩:=by kernel_rfl
theorem xq:ti Tryz.prog 5=some ⟨.int .u8,1,1,.int .u8 0⟩:=by kernel_rfl
theorem sU:ti Tryz.prog 9=some ⟨.string,1,16,.str []⟩:=by kernel_rfl
attribute [go_sem] Hb qv xq sU
theorem C4:Tryz.prog.eqGuardType Tryz.prog.depth 192=false:=by kernel_rfl
theorem JT:Tryz.prog.eqGuardType Tryz.prog.depth 194=false:=by kernel_rfl
theorem Ee {a b c d e f:Int}:teq Tryz.prog 9 192 (.agg [.int .u64 a,.int .u64 b,.int .u64 c]) (.agg [.int .u64 d,.int .u64 e,.int .u64 f])=some ((a==d)&&((b==e)&&((c==f)&&true))):=by
 simp [uz,teq,teq.arr,teq.part,sy,ceq,TD.agg]
theorem I3 {a b c d e f:Int}:teq Tryz.prog 9 194 (.agg [.int .u64 a,.int .u64 b,.int .u64 c]) (.agg [.int .u64 d,.int .u64 e,.int .u64 f])=some (((a==d)&&((b==e)&&((c==f)&&true)))&&true):=by
 have g2:Tryz.prog.stoodInHeld 194=false:=by kernel_rfl
 simp [vB,uz,teq,teq.go,teq.arr,teq.part,sy,ceq,TD.agg,g2]
theorem Na {a b:Int} (ha:isN a) (hb:isN b):((w0 a==w0 b)&&((w1 a==w1 b)&&(w2 a==w2 b)))=decide (a=b):=by
 by_cases h:a=b
 ·subst h;simp
 ·rw [dfq h]
  have:=fun h0 h1 h2=>h (Ng ha hb h0 h1 h2)
  simp only [Bool.and_eq_false_iff,beq_eq_false_iff_ne,ne_eq]
  by_cases h0:w0 a=w0 b
  ·by_cases h1:w1 a=w1 b
   ·exact .inr (.inr (this h0 h1))
   ·exact .inr (.inl h1)
  ·exact .inl h0
def lU (a b:Int):Int:=if a=b then 0 else if a<b then -1 else 1
def iA:List AV→AHeap→(AV→Prop)→Prop
 |[x,y],_,K=>∃ a b,(x=nAV a∧y=nAV b∧isN a∧isN b∧isN (a - b))∧K (.int .i64 (lU a b))
 |_,_,_=>False
theorem zc:EntOk Tryz.prog 182 (Ent.pure iA):=by
 refine Ype fun _ H K h=>?_
 unfold iA at h
 split at h
 rotate_left
 ·exact h.elim
 obtain ⟨a,b,⟨rfl,rfl,ha,hb,hc⟩,hK⟩:=h
 refine ⟨_,hK,?_⟩
 refine ACalls.fW au (tCq BB (tCq HX tNq)) Tryz.func182 [.tmp 4] (nrq _) (T:=aq []) (h:=fun hcl hlt=>?_)
 clear hlt hK
 simp only [go_sem,byq,nAV,Ee,C4,Bool.bne_false,Na ha hb]
 refine ai (fun h1=>?_) (fun h1=>?_)
 ·have h1':a=b:=by simpa using h1
  simp only [go_sem,byq,lU,if_pos h1']
  exact Z0
 ·have h1':¬ a=b:=by simpa using h1
  simp only [go_sem,byq,wY]
  refine ⟨a,b,⟨rfl,rfl⟩,?_⟩
  simp only [go_sem,byq,nAV,zS]
  refine ⟨a - b,⟨rfl,hc⟩,?_⟩
  refine ai (fun h2=>?_) (fun h2=>?_)
  ·have h2':a<b:=by simp at h2;omega
   simp only [go_sem,byq]
   exact Z1
  ·have h2':¬ a<b:=by simp at h2;omega
   simp only [go_sem,byq]
   exact Z1
def k8 (a:Int):AV:=if 0≤a∧a<2^128 then .tup [.agg [.int .u64 (a/2^64),.int .u64 (a % 2^64)],.bool true] else .tup [.agg [.int .u64 0,.int .u64 0],.bool false]
def jF:List AV→AHeap→(AV→Prop)→Prop
 |[x],_,K=>∃ a,(x=nAV a∧isN a)∧K (k8 a)
 |_,_,_=>False
theorem wg:EntOk Tryz.prog 172 (Ent.pure jF):=by
 refine Ype fun _ H K h=>?_
 unfold jF at h
 split at h
 rotate_left
 ·exact h.elim
 obtain ⟨a,⟨rfl,ha⟩,hK⟩:=h
 refine ⟨_,hK,?_⟩
 refine ACalls.fW au tNq Tryz.func172 [.cell 2 29,.tmp 3] (nrq _) (T:=aq []) (h:=fun hcl hlt=>?_)
 clear hlt hK
 have hf:=Lu ha
 simp only [go_sem,byq,nAV]
 refine ⟨by omega,ai (fun h1=>?_) (fun h1=>?_)⟩
 ·have h1':¬ (0≤a∧a<2^128):=fun h=>by rw [← hf] at h;simp [h] at h1
  simp only [go_sem,byq,k8,if_neg h1']
  exact Z0
 ·have h1':(0≤a∧a<2^128):=by rw [← hf];simpa using h1
  have e1:w1 a=a/2^64:=by unfold w1;omega
  have e0:w0 a=a % 2^64:=rfl
  simp only [go_sem,byq,k8,if_pos h1',e1,e0]
  refine ⟨by omega,by omega,?_⟩
  exact Z0
end Go.AL
open Go Go.AL Go.Proofs
namespace Go.AL
theorem F4:ti Tryz.prog 236=some ⟨.array 128 4,128,128,.agg (List.replicate 128 (.bool false))⟩:=by kernel_rfl
attribute [go_sem] F4
def GI (hi lo:Int):Prop:=0≤hi∧hi<18446744073709551616∧0≤lo∧lo<18446744073709551616
end Go.AL
open Go Go.AL Go.Proofs
namespace Go.AL
theorem JE:ti Tryz.prog 124=some ⟨.slice 9,1,24,.slice .nil 1 []⟩:=by kernel_rfl
attribute [go_sem] JE
def mv (s p:List UInt8):Bool:=s.take p.length==p
def ju:List AV→AHeap→(AV→Prop)→Prop
 |[.str s,.str p],_,K=>K (.bool (mv s p))
 |_,_,_=>False
theorem nY:EntOk Tryz.prog 166 (Ent.pure ju):=by
 refine Ype fun _ H K h=>?_
 unfold ju at h
 split at h
 rotate_left
 ·exact h.elim
 rename_i s p
 refine ⟨_,h,?_⟩
 clear h
 refine ACalls.fW au tNq Tryz.func166 [.tmp 4] (nrq _) (T:=aq []) (h:=fun hcl hlt=>?_)
 clear hlt
 simp only [go_sem,iNq,yap]
 refine bz (fun h1=>?_) (fun h1=>?_)
 ·have h1':p.length≤s.length:=by simpa using h1
  refine ⟨by omega,?_⟩
  simp (disch:=first|exact Zd|omega) [↓zmo,beq,ybc,ybd,ybe,ae,wk,wk2,wk1,wkM,wkL,ah,ybf,hcl,mv]
 ·have h1':mv s p=false:=by
   have:¬ p.length≤s.length:=by simpa using h1
   unfold mv
   rw [ybc (by omega)]
   exact beq_eq_false_iff_ne.2 fun h=>this (by rw [h];exact nrq _)
  simp only [go_sem,h1']
  exact Z0
def vZ (s p:List UInt8):AV:=.tup [.str (if mv s p then s.drop p.length else s),.bool (mv s p)]
def lC:List AV→AHeap→(AV→Prop)→Prop
 |[.str s,.str p],_,K=>K (vZ s p)
 |_,_,_=>False
theorem uX:EntOk Tryz.prog 194 (Ent.pure lC):=by
 refine Ype fun _ H K h=>?_
 unfold lC at h
 split at h
 rotate_left
 ·exact h.elim
 rename_i s p
 refine ⟨_,h,?_⟩
 clear h
 refine ACalls.fW au (tCq nY tNq) Tryz.func194 [.tmp 4,.tmp 5] (nrq _) (T:=aq []) (h:=fun hcl hlt=>?_)
 clear hlt
 simp only [go_sem,ju,iNq,List.take_length]
 refine ai (fun h1=>?_) (fun h1=>?_)
 ·have h1':mv s p=false:=by simpa using h1
  simp only [go_sem,vZ,h1']
  exact Z0
 ·have h1':mv s p=true:=by simpa using h1
  have hle:p.length≤s.length:=by
   have:=eq_of_beq h1'
   have h2:=congrArg List.length this
   rw [List.length_take] at h2;omega
  simp only [go_sem,vZ,h1',iNq,List.take_length]
  refine ⟨by omega,?_⟩
  exact Z0
def mt:List AV→AHeap→(AV→Prop)→Prop
 |[.str s,.str p],_,K=>K (vZ s p)
 |_,_,_=>False
theorem w4:EntOk Tryz.prog 169 (Ent.pure mt):=by
 refine Ype fun _ H K h=>?_
 unfold mt at h
 split at h
 rotate_left
 ·exact h.elim
 rename_i s p
 refine ⟨_,h,?_⟩
 clear h
 refine ACalls.fW au (tCq uX tNq) Tryz.func169 [.tmp 4,.tmp 5] (nrq _) (T:=aq []) (h:=fun hcl hlt=>?_)
 clear hlt
 simp only [go_sem,lC,vZ]
 exact Z0
def pu:List AV→AHeap→(AV→Prop)→Prop
 |[.int .u64 x,.int .u64 y],_,K=>((0≤x∧x<18446744073709551616)∧(y=10∨y=16))∧K (.tup [.int .u64 (x*y/18446744073709551616),.int .u64 (x*y % 18446744073709551616)])
 |_,_,_=>False
theorem nC {x:Int} (h:0≤x∧x<18446744073709551616):u6 .u64 x 4294967295=x % 4294967296:=by
 obtain ⟨n,rfl⟩:=Int.eq_ofNat_of_zero_le h.1
 have:=jE n 4294967295 (by omega) (by decide)
 rw [show ((4294967295:Nat):Int)=4294967295 from rfl] at this
 rw [this]
 have h2:n &&& 4294967295=n % 2^32:=Nat.and_two_pow_sub_one_eq_mod n 32
 rw [h2];omega
theorem Gr {x:Int}:lw .u64 x 32=x/4294967296:=by
 unfold lw
 rw [show min (32:Int).toNat IntKind.u64.bits=32 from rfl]
 exact Int.fdiv_eq_ediv_of_nonneg _ (by decide)
theorem ER {a b y:Int} (ha:0≤a∧a<4294967296) (hb:0≤b∧b<4294967296) (hy:y=10∨y=16) :
 ((0+(a*y+b*y/4294967296)/4294967296) % 18446744073709551616+((a*y+b*y/4294967296) % 4294967296+0) % 18446744073709551616/4294967296) % 18446744073709551616=(4294967296*a+b)*y/18446744073709551616:=by
 have key:∀ d r:Int,0≤d→d<4294967296*32→0≤r→r<4294967296→((0+d/4294967296) % 18446744073709551616+(d % 4294967296+0) % 18446744073709551616/4294967296) % 18446744073709551616=(4294967296*d+r)/18446744073709551616:=fun d r h1 h2 h3 h4=>by
  have e:d=4294967296*(d/4294967296)+d % 4294967296:=by omega
  have f1:0≤d % 4294967296∧d % 4294967296<4294967296:=by omega
  generalize d/4294967296=p at *
  generalize d % 4294967296=q at *
  omega
 have hr:b*y=4294967296*(b*y/4294967296)+b*y % 4294967296:=by omega
 have hr2:0≤b*y % 4294967296∧b*y % 4294967296<4294967296:=by omega
 have e:(4294967296*a+b)*y=4294967296*(a*y+b*y/4294967296)+b*y % 4294967296:=by rw [Int.add_mul,Int.mul_assoc];omega
 rw [e]
 refine key _ _ ?_ ?_ hr2.1 hr2.2
 ·rcases hy with rfl|rfl<;>omega
 ·rcases hy with rfl|rfl<;>omega
theorem He:EntOk Tryz.prog 195 (Ent.pure pu):=by
 refine Ype fun _ H K h=>?_
 unfold pu at h
 split at h
 rotate_left
 ·exact h.elim
 rename_i x y
 obtain ⟨⟨hx,hy⟩,hK⟩:=h
 refine ⟨_,hK,?_⟩
 clear hK
 refine ACalls.fW au tNq Tryz.func195 [.tmp 4,.tmp 5] (nrq _) (T:=aq []) (h:=fun hcl hlt=>?_)
 clear hlt
 have w:∀ x,IntKind.u64.wrap x=x % 18446744073709551616:=fun x=>by simp [IntKind.wrap,IntKind.signed,IntKind.bits]
 rcases hy with rfl|rfl
 ·have m1:=@nC x hx
  have m2:u6 .u64 10 4294967295=10:=by decide +kernel
  have s2:lw .u64 10 32=0:=by decide +kernel
  have e1:IntKind.u64.wrap (x % 4294967296*10)=x % 4294967296*10:=by rw [w];omega
  have e2:IntKind.u64.wrap (x/4294967296*10)=x/4294967296*10:=by rw [w];omega
  have e3:IntKind.u64.wrap (x/4294967296*10+x % 4294967296*10/4294967296)=x/4294967296*10+x % 4294967296*10/4294967296:=by rw [w];omega
  have m3:=@nC (x/4294967296*10+x % 4294967296*10/4294967296) (by omega)
  have z1:IntKind.u64.wrap (x % 4294967296*0)=0:=by rw [Int.mul_zero];rfl
  have z2:IntKind.u64.wrap (x/4294967296*0)=0:=by rw [Int.mul_zero];rfl
  have e4:IntKind.u64.wrap (IntKind.u64.wrap (0+(x/4294967296*10+x % 4294967296*10/4294967296)/4294967296)+(IntKind.u64.wrap ((x/4294967296*10+x % 4294967296*10/4294967296) % 4294967296+0))/4294967296)=x*10/18446744073709551616:=by
   rw [w,w,w,ER (by omega) (by omega) (by omega)]
   congr 2;omega
  simp only [go_sem,Gr,m1,m2,m3,e1,e2,e3,z1,z2,s2]
  refine ⟨by omega,by omega,by omega,by omega,by omega,?_⟩
  rw [e4,w]
  exact Z0
 ·have m1:=@nC x hx
  have m2:u6 .u64 16 4294967295=16:=by decide +kernel
  have s2:lw .u64 16 32=0:=by decide +kernel
  have e1:IntKind.u64.wrap (x % 4294967296*16)=x % 4294967296*16:=by rw [w];omega
  have e2:IntKind.u64.wrap (x/4294967296*16)=x/4294967296*16:=by rw [w];omega
  have e3:IntKind.u64.wrap (x/4294967296*16+x % 4294967296*16/4294967296)=x/4294967296*16+x % 4294967296*16/4294967296:=by rw [w];omega
  have m3:=@nC (x/4294967296*16+x % 4294967296*16/4294967296) (by omega)
  have z1:IntKind.u64.wrap (x % 4294967296*0)=0:=by rw [Int.mul_zero];rfl
  have z2:IntKind.u64.wrap (x/4294967296*0)=0:=by rw [Int.mul_zero];rfl
  have e4:IntKind.u64.wrap (IntKind.u64.wrap (0+(x/4294967296*16+x % 4294967296*16/4294967296)/4294967296)+(IntKind.u64.wrap ((x/4294967296*16+x % 4294967296*16/4294967296) % 4294967296+0))/4294967296)=x*16/18446744073709551616:=by
   rw [w,w,w,ER (by omega) (by omega) (by omega)]
   congr 2;omega
  simp only [go_sem,Gr,m1,m2,m3,e1,e2,e3,z1,z2,s2]
  refine ⟨by omega,by omega,by omega,by omega,by omega,?_⟩
  rw [e4,w]
  exact Z0
def dg (c:UInt8):Nat:=if 48≤c.toNat∧c.toNat≤57 then c.toNat - 48 else if 97≤c.toNat∧c.toNat≤102 then c.toNat - 87 else 99
def pG:List AV→AHeap→(AV→Prop)→Prop
 |[x,.int .u64 y],_,K=>∃ c,(x=bW c∧(y=10∨y=16))∧K (.int .u64 (if (dg c:Int)<y then (dg c:Int) else y))
 |_,_,_=>False
theorem Dg:EntOk Tryz.prog 170 (Ent.pure pG):=by
 refine Ype fun _ H K h=>?_
 unfold pG at h
 split at h
 rotate_left
 ·exact h.elim
 rename_i x y
 obtain ⟨c,⟨rfl,hy⟩,hK⟩:=h
 refine ⟨_,hK,?_⟩
 clear hK
 refine ACalls.fW au tNq Tryz.func170 [.tmp 4] (nrq _) (T:=aq []) (h:=fun hcl hlt=>?_)
 clear hlt
 have hc:c.toNat<256:=UInt8.toNat_lt c
 have w8:∀ x,IntKind.u8.wrap x=x % 256:=fun x=>by simp [IntKind.wrap,IntKind.signed,IntKind.bits]
 have w:∀ x,IntKind.u64.wrap x=x % 18446744073709551616:=fun x=>by simp [IntKind.wrap,IntKind.signed,IntKind.bits]
 simp only [go_sem,bW]
 refine bz (fun h1=>?_) (fun h1=>?_)
 ·refine ai (fun h2=>?_) (fun h2=>?_)
  ·have hd:dg c=c.toNat - 48:=by unfold dg;rw [if_pos (by simp at h1 h2;omega)]
   have e:min (IntKind.u64.wrap (IntKind.u8.wrap ((c.toNat:Int) - 48))) y=if (dg c:Int)<y then (dg c:Int) else y:=by
    rw [w,w8,hd];simp at h1 h2;split<;>omega
   simp only [go_sem,e]
   exact Z0
  ·simp only [go_sem]
   refine bz (fun h3=>?_) (fun h3=>?_)
   ·refine ai (fun h4=>?_) (fun h4=>?_)
    ·have hd:dg c=c.toNat - 87:=by unfold dg;simp at h1 h2 h3 h4;rw [if_neg (by omega),if_pos (by omega)]
     have e:min (IntKind.u64.wrap (IntKind.u64.wrap (IntKind.u8.wrap ((c.toNat:Int) - 97))+10)) y=if (dg c:Int)<y then (dg c:Int) else y:=by
      rw [w,w,w8,hd];simp at h1 h2 h3 h4;split<;>omega
     simp only [go_sem,e]
     exact Z0
    ·have hd:dg c=99:=by unfold dg;simp at h1 h2 h3 h4;rw [if_neg (by omega),if_neg (by omega)]
     have e:min y y=if (dg c:Int)<y then (dg c:Int) else y:=by rw [hd];split<;>omega
     simp only [go_sem,e]
     exact Z0
   ·have hd:dg c=99:=by unfold dg;simp at h1 h2 h3;rw [if_neg (by omega),if_neg (by omega)]
    have e:min y y=if (dg c:Int)<y then (dg c:Int) else y:=by rw [hd];split<;>omega
    try simp only [go_sem,zau,e]
    exact Z0
 ·try simp only [go_sem,zau]
  refine bz (fun h3=>?_) (fun h3=>?_)
  ·refine ai (fun h4=>?_) (fun h4=>?_)
   ·simp at h1 h3;omega
   ·have hd:dg c=99:=by unfold dg;simp at h1 h3 h4;rw [if_neg (by omega),if_neg (by omega)]
    have e:min y y=if (dg c:Int)<y then (dg c:Int) else y:=by rw [hd];split<;>omega
    simp only [go_sem,e]
    exact Z0
  ·have hd:dg c=99:=by unfold dg;simp at h1 h3;rw [if_neg (by omega),if_neg (by omega)]
   have e:min y y=if (dg c:Int)<y then (dg c:Int) else y:=by rw [hd];split<;>omega
   simp only [go_sem,zau,e]
   exact Z0
def mf (z:Int) (k:Nat):List AV:=[.int .u64 (if 0<k then w0 z else 0),.int .u64 (if 1<k then w1 z else 0),.int .u64 (if 2<k then w2 z else 0)]
def mck (a y m:Int) (k:Nat):Int:=match k with
 |0=>m
 |1=>(a % 2^64*y+m)/2^64
 |2=>(a % 2^128*y+m)/2^128
 |_=>(a*y+m)/2^192
theorem FN {a y m:Int} (h0:0≤a) (h1:a<2^128) (hy:y=10∨y=16) (hm:0≤m∧m<y) :
 ((w0 a*y+m) % 2^64=w0 (a*y+m)∧(w0 a*y+m)/2^64=mck a y m 1)∧((w1 a*y+mck a y m 1) % 2^64=w1 (a*y+m)∧(w1 a*y+mck a y m 1)/2^64=mck a y m 2) ∧
 ((w2 a*y+mck a y m 2) % 2^64=w2 (a*y+m)∧(w2 a*y+mck a y m 2)/2^64=0)∧(0≤mck a y m 1∧mck a y m 1<16)∧(0≤mck a y m 2∧mck a y m 2<16):=by
 have split:∀ z:Int,0≤z→z<2^192→z=w0 z+18446744073709551616*w1 z+340282366920938463463374607431768211456*w2 z:=fun z g0 g1=>by unfold w0 w1 w2;omega
 have a0:=rk a
 have a1:=rB a
 have a2:=rH a
 have ha:=split a h0 (by omega)
 have hp:0≤a*y+m∧a*y+m<2^192:=by rcases hy with rfl|rfl<;>omega
 have hz:=split (a*y+m) hp.1 hp.2
 have b0:=rk (a*y+m)
 have b1:=rB (a*y+m)
 have b2:=rH (a*y+m)
 have q2:w2 a=0:=by generalize w0 a=x0 at *;generalize w1 a=x1 at *;generalize w2 a=x2 at *;omega
 have e1:a % 2^64=w0 a:=rfl
 have e2:a % 2^128=a:=by omega
 simp only [mck,e1,e2,q2] at *
 generalize w0 (a*y+m)=z0 at *
 generalize w1 (a*y+m)=z1 at *
 generalize w2 (a*y+m)=z2 at *
 generalize w0 a=x0 at *
 generalize w1 a=x1 at *
 subst ha
 clear q2 e1 e2 split h0 h1 a2
 have k2:((x0+18446744073709551616*x1+340282366920938463463374607431768211456*0)*y+m)/2^128=z2:=by omega
 have k1:(x0*y+m)/2^64=z1+18446744073709551616*z2 - x1*y:=by rcases hy with rfl|rfl<;>omega
 have k0:(x0*y+m) % 2^64=z0:=by rcases hy with rfl|rfl<;>omega
 rw [k2,k1,k0]
 have k3:0≤x0*y+m∧x0*y+m<16*18446744073709551616:=by rcases hy with rfl|rfl<;>omega
 have k4:z1+18446744073709551616*z2 - x1*y<16∧0≤z1+18446744073709551616*z2 - x1*y:=by omega
 have k5:z2<16:=by rcases hy with rfl|rfl<;>omega
 refine ⟨⟨?_,?_⟩,⟨?_,?_⟩,⟨?_,?_⟩,⟨?_,?_⟩,?_,?_⟩<;>first|trivial|omega
def pA:List AV→AHeap→(AV→Prop)→Prop
 |[x,.int .u64 y,.int .u64 m],_,K=>∃ a,(x=nAV a∧(0≤a∧a<2^128)∧(y=10∨y=16)∧0≤m∧m<y)∧K (nAV (a*y+m))
 |_,_,_=>False
theorem Dh:EntOk Tryz.prog 171 (Ent.pure pA):=by
 refine Ype fun _ H K h=>?_
 unfold pA at h
 split at h
 rotate_left
 ·exact h.elim
 rename_i y m
 obtain ⟨a,⟨rfl,ha,hy,hm⟩,hK⟩:=h
 refine ⟨_,hK,?_⟩
 refine ACalls.fW au (tCq He (tCq yx tNq)) Tryz.func171 [.cell 6 194] (nrq _) (T:=aq []) (h:=fun hcl hlt=>?_)
 clear hlt hK
 obtain ⟨⟨s1,s2⟩,⟨s3,s4⟩,⟨s5,s6⟩,r1,r2⟩:=FN ha.1 ha.2 hy hm
 have a0:=rk a
 have a1:=rB a
 have a2:=rH a
 have hml:0≤m∧m<18446744073709551616:=by omega
 have split:∀ x m':Int,(0≤x∧x<18446744073709551616)→(0≤m'∧m'<16)→(x*y % 18446744073709551616+m'+0) % 18446744073709551616=(x*y+m') % 2^64∧IntKind.u64.wrap (x*y/18446744073709551616+(x*y % 18446744073709551616+m'+0)/18446744073709551616)=(x*y+m')/2^64:=fun x m' hx hm'=>by
  have w:∀ x,IntKind.u64.wrap x=x % 18446744073709551616:=fun x=>by simp [IntKind.wrap,IntKind.signed,IntKind.bits]
  rw [w]
  have e:x*y=18446744073709551616*(x*y/18446744073709551616)+x*y % 18446744073709551616:=by omega
  have b:0≤x*y∧x*y<18446744073709551616*16:=by rcases hy with rfl|rfl<;>omega
  generalize x*y=z at *
  constructor<;>omega
 have m0:mck a y m 0=m:=rfl
 simp only [go_sem,nAV]
 refine az (A:=Nat) (fun k=>[(13,.int .i64 (k:Int)),(1,.int .u64 y),(2,.int .u64 (if k=3 then 0 else mck a y m k)),(3,.ptr H.nx 0),(6,.ptr (H.nx+1) 0),(7,.ptr (H.nx+1+1) 0)])
  (fun k=>((H.push (.cells [.int .u64 (w0 a),.int .u64 (w1 a),.int .u64 (w2 a)])).push (.cells [.int .u64 0,.int .u64 0,.int .u64 0])).push (.cells (mf (a*y+m) k)))
  (fun k=>k≤3) (fun k=>3 - k) 0 (by omega) ?_ fun k hk=>?_
 ·(simp only [bkq,enterW,aJ,ltF,ne_eq,Nat.reduceEqDiff,reduceCtorEq,mf,Nat.lt_irrefl,if_false,Nat.not_lt_zero,m0];try simp (disch:=first|exact Zd|omega) [↓zmo,beq,ybc,ybd,ybe,ae,wk,wk2,wk1,wkM,wkL,ah,ybf,byq,biq,aG,hcl,mf,Nat.lt_irrefl,if_false,Nat.not_lt_zero,m0];try (repeat' (first|assumption|omega|exact True.intro|refine And.intro ?_ ?_|refine ag ?_|refine af ?_|refine aa ?_ ?_|refine aj ?_ ?_|refine ay ?_|exact lRq _|refine lPq ?_ _|refine AHeap.Le.del ?_ ?_|(simp only [bt,and_true,true_and,mf,Nat.lt_irrefl,if_false,Nat.not_lt_zero,m0];first|done|omega|(simp;done)))))
 rcases (by omega:k=0∨k=1∨k=2∨k=3) with rfl|rfl|rfl|rfl
 ·have hd:decide (((0:Nat):Int)<3)=true:=rfl
  have e1:IntKind.i64.wrap (((0:Nat):Int)+1)=((1:Nat):Int):=by rw [wrap_i64]<;>omega
  have t1:((0:Nat):Int).toNat=0:=rfl
  obtain ⟨f1,f2⟩:=split (w0 a) m a0 (by omega)
  rw [s1] at f1
  rw [s2] at f2
  simp only [go_sem,zat,pu,j4,hd,mf,e1,t1,m0,f1,f2,Int.reduceLT,Nat.reduceEqDiff]
  refine ⟨by omega,by omega,by omega,by omega,1,by omega,by omega,?_⟩
  exact Z2
 ·have hd:decide (((1:Nat):Int)<3)=true:=rfl
  have e1:IntKind.i64.wrap (((1:Nat):Int)+1)=((2:Nat):Int):=by rw [wrap_i64]<;>omega
  have t1:((1:Nat):Int).toNat=1:=rfl
  obtain ⟨f1,f2⟩:=split (w1 a) (mck a y m 1) a1 (by omega)
  rw [s3] at f1
  rw [s4] at f2
  simp only [go_sem,zat,pu,j4,hd,mf,e1,t1,f1,f2,Nat.reduceEqDiff]
  refine ⟨by omega,by omega,by omega,by omega,2,by omega,by omega,?_⟩
  exact Z2
 ·have hd:decide (((2:Nat):Int)<3)=true:=rfl
  have e1:IntKind.i64.wrap (((2:Nat):Int)+1)=((3:Nat):Int):=by rw [wrap_i64]<;>omega
  have t1:((2:Nat):Int).toNat=2:=rfl
  obtain ⟨f1,f2⟩:=split (w2 a) (mck a y m 2) a2 (by omega)
  rw [s5] at f1
  rw [s6] at f2
  simp only [go_sem,zat,pu,j4,hd,mf,e1,t1,f1,f2,Nat.reduceEqDiff]
  refine ⟨by omega,by omega,by omega,by omega,3,by omega,by omega,?_⟩
  exact Z2
 ·have hd:decide (((3:Nat):Int)<3)=false:=rfl
  simp only [go_sem,zau,hd,mf]
  exact Z0
def oy (base:Nat):Nat→List UInt8→Option Nat
 |n,[]=>some n
 |n,c::s=>if dg c<base then (if n*base+dg c<2^128 then oy base (n*base+dg c) s else none) else none
def lit (s:List UInt8):Option Nat:=if mv s [48,120] then (if s.drop 2=[] then none else oy 16 0 (s.drop 2)) else if s=[] then none else oy 10 0 s
theorem tN {a b:Nat} {G:Prop} (h1:a<b→G) (h2:b≤a→G):G:=(Nat.lt_or_ge a b).elim h1 h2
def rT (o:Option Nat):AV:=match o with
 |some n=>.tup [nAV n,.bool true]
 |none=>.tup [nAV 0,.bool false]
def lz:List AV→AHeap→(AV→Prop)→Prop
 |[.str s],_,K=>(s.length≤140737488355328)∧K (rT (lit s))
 |_,_,_=>False
theorem re:EntOk Tryz.prog 147 (Ent.pure lz):=by
 refine Ype fun _ H K h=>?_
 unfold lz at h
 split at h
 rotate_left
 ·exact h.elim
 rename_i s
 obtain ⟨hl,hK⟩:=h
 refine ⟨_,hK,?_⟩
 refine ACalls.fW au (tCq w4 (tCq Dg (tCq Dh (tCq wg tNq)))) Tryz.func147 [.cell 2 194,.tmp 3] (nrq _) (T:=aq []) (h:=fun hcl hlt=>?_)
 clear hlt hK
 have z0:nAV 0=.agg [.int .u64 0,.int .u64 0,.int .u64 0]:=rfl
 simp only [go_sem,mt,vZ]
 refine ai (fun h1=>?_) (fun h1=>?_)
 ·simp only [go_sem,h1]
  have hl':(s.drop 2).length≤140737488355328:=by rw [List.length_drop];omega
  have hr:lit s=if s.drop 2=[] then none else oy 16 0 (s.drop 2):=by unfold lit;rw [h1];simp
  rw [hr]
  clear hr h1 hl
  generalize s.drop 2=b at *
  refine ⟨by omega,?_⟩
  refine az (A:=Nat × Nat) (fun x=>[(0,.str b),(2,.ptr H.nx 0),(4,.int .u64 16),(7,.ptr (H.nx+1) 0),(21,.slice .any 1 (bys b)),(22,.int .i64 (b.length:Int)),(23,.int .i64 (x.1:Int))])
   (fun x=>(H.push (.cells [.int .u64 0,.int .u64 0,.int .u64 0])).push (.cells [.int .u64 (w0 (x.2:Int)),.int .u64 (w1 (x.2:Int)),.int .u64 (w2 (x.2:Int))]))
   (fun x=>x.1≤b.length∧x.2<2^128∧oy 16 0 b=oy 16 x.2 (b.drop x.1)) (fun x=>b.length - x.1) (0,0) ⟨by omega,by decide,rfl⟩ ?_ fun x hI=>?_
  ·have z1:w0 0=0:=rfl
   have z2:w1 0=0:=rfl
   have z3:w2 0=0:=rfl
   exact Z3
  obtain ⟨k,n⟩:=x
  obtain ⟨hk,hn,hl2⟩:=hI
  dsimp only at *
  simp only [go_sem,byq]
  refine ai (fun h2=>?_) (fun h2=>?_)
  ·have h2':k<b.length:=by simpa using h2
   rw [dcq h2'] at hl2
   have hg:(bys b).getD k .junk=bW b[k]:=by rw [wD h2'];simp [gEq,h2']
   have e5:=Yk5 k
   simp only [oy] at hl2
   generalize b[k]=c at *
   simp only [go_sem,byq,hg,pG]
   refine ⟨by omega,c,rfl,?_⟩
   by_cases hd:dg c<16
   ·have hdi:((dg c:Nat):Int)<16:=by omega
    rw [if_pos hdi]
    rw [if_pos hd] at hl2
    have hne:(((dg c:Nat):Int)==16)=false:=by simp;omega
    have hz:AV.agg [.int .u64 (w0 (n:Int)),.int .u64 (w1 (n:Int)),.int .u64 (w2 (n:Int))]=nAV (n:Int):=rfl
    simp only [go_sem,byq,zau,hne,pA]
    refine ⟨(n:Int),⟨rfl,by omega,by omega,by omega⟩,?_⟩
    obtain ⟨z,hz2⟩:∃ z:Int,z=((n*16+dg c:Nat):Int):=⟨_,rfl⟩
    have en:((n:Int)*16+(dg c:Nat))=z:=by omega
    have hN:isN z:=⟨by omega,by omega⟩
    refine tN (a:=n*16+dg c) (b:=2^128) (fun hf=>?_) (fun hf=>?_)
    ·rw [if_pos hf] at hl2
     have hv:k8 z=.tup [.agg [.int .u64 (z/2^64),.int .u64 (z % 2^64)],.bool true]:=by unfold k8;rw [if_pos (by omega)]
     simp only [go_sem,byq,en,nAV,jF]
     refine ⟨z,⟨rfl,hN⟩,?_⟩
     simp only [go_sem,byq,zau,hv,e5]
     refine ⟨(k+1,n*16+dg c),⟨by omega,hf,hl2⟩,by omega,?_⟩
     exact Z4
    ·rw [if_neg (Nat.not_lt.2 hf)] at hl2
     have hv:k8 z=.tup [.agg [.int .u64 0,.int .u64 0],.bool false]:=by unfold k8;rw [if_neg (by omega)]
     simp only [go_sem,byq,en,nAV,jF]
     refine ⟨z,⟨rfl,hN⟩,?_⟩
     have hbn:b≠[]:=by intro h;subst h;simp at h2'
     simp only [go_sem,byq,zat,hv,hl2,if_neg hbn,rT,z0]
     exact Z0
   ·rw [if_neg (by omega)]
    rw [if_neg hd] at hl2
    have hbn:b≠[]:=by intro h;subst h;simp at h2'
    have he:((16:Int)==16)=true:=rfl
    simp only [go_sem,byq,zat,hl2,if_neg hbn,rT,z0,he]
    exact Z0
  ·have h2':k=b.length:=by simp at h2;omega
   subst h2'
   rw [List.drop_length] at hl2
   simp only [oy] at hl2
   simp only [go_sem,byq]
   refine ai (fun h3=>?_) (fun h3=>?_)
   ·have hbn:b=[]:=by simpa using h3
    simp only [go_sem,byq,if_pos hbn,rT,z0]
    exact Z0
   ·have hbn:b≠[]:=by simpa using h3
    simp only [go_sem,byq,if_neg hbn,rT,hl2,nAV]
    exact Z0
 ·simp only [go_sem,h1]
  have hl':(s).length≤140737488355328:=by exact hl
  have hr:lit s=if s=[] then none else oy 10 0 (s):=by unfold lit;rw [h1];simp
  rw [hr]
  clear hr h1 hl
  generalize s=b at *
  refine ⟨by omega,?_⟩
  refine az (A:=Nat × Nat) (fun x=>[(0,.str b),(2,.ptr H.nx 0),(4,.int .u64 10),(7,.ptr (H.nx+1) 0),(21,.slice .any 1 (bys b)),(22,.int .i64 (b.length:Int)),(23,.int .i64 (x.1:Int))])
   (fun x=>(H.push (.cells [.int .u64 0,.int .u64 0,.int .u64 0])).push (.cells [.int .u64 (w0 (x.2:Int)),.int .u64 (w1 (x.2:Int)),.int .u64 (w2 (x.2:Int))]))
   (fun x=>x.1≤b.length∧x.2<2^128∧oy 10 0 b=oy 10 x.2 (b.drop x.1)) (fun x=>b.length - x.1) (0,0) ⟨by omega,by decide,rfl⟩ ?_ fun x hI=>?_
  ·have z1:w0 0=0:=rfl
   have z2:w1 0=0:=rfl
   have z3:w2 0=0:=rfl
   exact Z3
  obtain ⟨k,n⟩:=x
  obtain ⟨hk,hn,hl2⟩:=hI
  dsimp only at *
  simp only [go_sem,byq]
  refine ai (fun h2=>?_) (fun h2=>?_)
  ·have h2':k<b.length:=by simpa using h2
   rw [dcq h2'] at hl2
   have hg:(bys b).getD k .junk=bW b[k]:=by rw [wD h2'];simp [gEq,h2']
   have e5:=Yk5 k
   simp only [oy] at hl2
   generalize b[k]=c at *
   simp only [go_sem,byq,hg,pG]
   refine ⟨by omega,c,rfl,?_⟩
   by_cases hd:dg c<10
   ·have hdi:((dg c:Nat):Int)<10:=by omega
    rw [if_pos hdi]
    rw [if_pos hd] at hl2
    have hne:(((dg c:Nat):Int)==10)=false:=by simp;omega
    have hz:AV.agg [.int .u64 (w0 (n:Int)),.int .u64 (w1 (n:Int)),.int .u64 (w2 (n:Int))]=nAV (n:Int):=rfl
    simp only [go_sem,byq,zau,hne,pA]
    refine ⟨(n:Int),⟨rfl,by omega,by omega,by omega⟩,?_⟩
    obtain ⟨z,hz2⟩:∃ z:Int,z=((n*10+dg c:Nat):Int):=⟨_,rfl⟩
    have en:((n:Int)*10+(dg c:Nat))=z:=by omega
    have hN:isN z:=⟨by omega,by omega⟩
    refine tN (a:=n*10+dg c) (b:=2^128) (fun hf=>?_) (fun hf=>?_)
    ·rw [if_pos hf] at hl2
     have hv:k8 z=.tup [.agg [.int .u64 (z/2^64),.int .u64 (z % 2^64)],.bool true]:=by unfold k8;rw [if_pos (by omega)]
     simp only [go_sem,byq,en,nAV,jF]
     refine ⟨z,⟨rfl,hN⟩,?_⟩
     simp only [go_sem,byq,zau,hv,e5]
     refine ⟨(k+1,n*10+dg c),⟨by omega,hf,hl2⟩,by omega,?_⟩
     exact Z4
    ·rw [if_neg (Nat.not_lt.2 hf)] at hl2
     have hv:k8 z=.tup [.agg [.int .u64 0,.int .u64 0],.bool false]:=by unfold k8;rw [if_neg (by omega)]
     simp only [go_sem,byq,en,nAV,jF]
     refine ⟨z,⟨rfl,hN⟩,?_⟩
     have hbn:b≠[]:=by intro h;subst h;simp at h2'
     simp only [go_sem,byq,zat,hv,hl2,if_neg hbn,rT,z0]
     exact Z0
   ·rw [if_neg (by omega)]
    rw [if_neg hd] at hl2
    have hbn:b≠[]:=by intro h;subst h;simp at h2'
    have he:((10:Int)==10)=true:=rfl
    simp only [go_sem,byq,zat,hl2,if_neg hbn,rT,z0,he]
    exact Z0
  ·have h2':k=b.length:=by simp at h2;omega
   subst h2'
   rw [List.drop_length] at hl2
   simp only [oy] at hl2
   simp only [go_sem,byq]
   refine ai (fun h3=>?_) (fun h3=>?_)
   ·have hbn:b=[]:=by simpa using h3
    simp only [go_sem,byq,if_pos hbn,rT,z0]
    exact Z0
   ·have hbn:b≠[]:=by simpa using h3
    simp only [go_sem,byq,if_neg hbn,rT,hl2,nAV]
    exact Z0
end Go.AL
