/- Lemmas of the proof; no condition. -/
import Derived.Test.YtokjjhidigoodaaGreatLVal
import Derived.Test.YtokjjhidigoodaaGreatAlByte
import Derived.Test.YtokjjhidigoodaaGreatAlBun
set_option linter.all false
set_option maxRecDepth 10000
set_option maxHeartbeats 32000000
open List renaming length_cons → yaz, length_nil → yba, take_of_length_le → ybc, drop_append → ybd, take_append → ybe, drop_eq_nil_of_le → ybf, getD_cons_succ → yav, cons_append → yal, map_nil → yaf, drop_zero → yap, take_zero → yar
namespace Go.AL
open Go
def w0 (z:Int):Int:=z % 2^64
def w1 (z:Int):Int:=z/2^64 % 2^64
def w2 (z:Int):Int:=z/2^64/2^64 % 2^64
def nAV (z:Int):AV:=.agg [.int .u64 (w0 z),.int .u64 (w1 z),.int .u64 (w2 z)]
theorem uv (z:Int):0≤w0 z∧w0 z<18446744073709551616:=by unfold w0;omega
theorem uo (z:Int):0≤w1 z∧w1 z<18446744073709551616:=by unfold w1;omega
theorem ud (z:Int):0≤w2 z∧w2 z<18446744073709551616:=by unfold w2;omega
theorem M7 (a b:Int):(w0 a+w0 b) % 2^64=w0 (a+b):=by unfold w0;omega
theorem Nb (a b:Int):(w1 a+w1 b+(w0 a+w0 b)/2^64) % 2^64=w1 (a+b):=by unfold w0 w1;omega
theorem NU (a b:Int):(w2 a+w2 b+(w1 a+w1 b+(w0 a+w0 b)/2^64)/2^64) % 2^64=w2 (a+b):=by unfold w0 w1 w2;omega
theorem Nq (a:Int):2^64 - 1 - w0 a=w0 (-1 - a):=by unfold w0;omega
theorem N1 (a:Int):2^64 - 1 - w1 a=w1 (-1 - a):=by unfold w1;omega
theorem Nw (a:Int):2^64 - 1 - w2 a=w2 (-1 - a):=by unfold w2;omega
theorem Jm (n:Int) (h : -(2^63)≤n∧n<2^63):w1 n=(if n<0 then 2^64 - 1 else 0)∧w2 n=(if n<0 then 2^64 - 1 else 0):=by
 unfold w1 w2;split<;>constructor<;>omega
theorem NJ (hi lo:Int) (h1:0≤hi∧hi<2^64) (h2:0≤lo∧lo<2^64):w0 (hi*2^64+lo)=lo∧w1 (hi*2^64+lo)=hi∧w2 (hi*2^64+lo)=0:=by
 unfold w0 w1 w2;refine ⟨?_,?_,?_⟩<;>omega
theorem OK {a b:Int} (ha : -(2^191)≤a∧a<2^191) (hb : -(2^191)≤b∧b<2^191) (h0:w0 a=w0 b) (h1:w1 a=w1 b) (h2:w2 a=w2 b):a=b:=by
 unfold w0 at h0;unfold w1 at h1;unfold w2 at h2;omega
theorem Oi {a:Int} (ha : -(2^191)≤a∧a<2^191):w2 a/2^63=if a<0 then 1 else 0:=by
 unfold w2;split<;>omega
theorem NS {a:Int} (ha : -(2^191)≤a∧a<2^191):w2 a=0↔0≤a∧a<2^128:=by
 unfold w2;omega
theorem vB (x:Int) (h:0≤x∧x<18446744073709551616):Fx .u64 (if IntKind.u64.signed=true then -1 else IntKind.u64.max) x=2^64 - 1 - x:=by
 obtain ⟨n,rfl⟩:=Int.eq_ofNat_of_zero_le h.1
 have hn:n<2^64:=by omega
 have e:(if IntKind.u64.signed=true then (-1:Int) else IntKind.u64.max)=((2^64 - 1:Nat):Int):=rfl
 rw [e,wK _ _ (by decide) hn]
 have h1:=congrArg BitVec.toNat (BitVec.allOnes_xor (x:=BitVec.ofNat 64 n))
 rw [BitVec.toNat_xor,BitVec.toNat_not,BitVec.toNat_allOnes,BitVec.toNat_ofNat,Nat.mod_eq_of_lt hn] at h1
 rw [h1];omega
end Go.AL
open Go Go.AL Go.Proofs
namespace Go.AL
theorem zP:ti Tryz.prog 3=some ⟨.int .i64,1,8,.int .i64 0⟩:=by kernel_rfl
theorem HU:ti Tryz.prog 48=some ⟨.struct [(0,46,false),(1,46,false)],2,16,.agg [.int .u64 0,.int .u64 0]⟩:=by kernel_rfl
theorem uK:ti Tryz.prog 46=some ⟨.int .u64,1,8,.int .u64 0⟩:=by kernel_rfl
theorem yR:ti Tryz.prog 198=some ⟨.struct [(0,196,false)],3,24,.agg [.int .u64 0,.int .u64 0,.int .u64 0]⟩:=by kernel_rfl
theorem v5:ti Tryz.prog 196=some ⟨.array 3 46,3,24,.agg [.int .u64 0,.int .u64 0,.int .u64 0]⟩:=by kernel_rfl
attribute [go_sem] zP HU uK yR v5
def mf:List AV→AHeap→(AV→Prop)→Prop
 |[.int .u64 x,.int .u64 y,.int .u64 c],_,K=>(0≤x∧0≤y∧0≤c∧c≤1)∧K (.tup [.int .u64 ((x+y+c) % 18446744073709551616),.int .u64 ((x+y+c)/18446744073709551616)])
 |_,_,_=>False
theorem Bc:EntOk Tryz.prog 459 (Ent.pure mf):=by
 refine Ype fun _ H K h=>?_
 unfold mf at h
 split at h
 rotate_left
 ·exact h.elim
 obtain ⟨⟨h1,h2,h3,h4⟩,hK⟩:=h
 exact ⟨_,hK,y7 Tryz.func459 (by kernel_rfl) (by kernel_rfl) (by kernel_rfl) (by kernel_rfl) h1 h2 h3 h4⟩
def EI:List AV→AHeap→(AV→Prop)→Prop
 |[.int .i64 n],_,K=>(-9223372036854775808≤n∧n<9223372036854775808)∧K (nAV n)
 |_,_,_=>False
theorem Kj:EntOk Tryz.prog 287 (Ent.pure EI):=by
 refine Ype fun _ H K h=>?_
 unfold EI at h
 split at h
 rotate_left
 ·exact h.elim
 rename_i n
 obtain ⟨⟨h1,h2⟩,hK⟩:=h
 refine ⟨_,hK,?_⟩
 refine Yfv ax tNq Tryz.func287 [.cell 2 198] fun hcl hlt=>?_
 clear hlt hK
 have e0:IntKind.u64.wrap n=w0 n:=by
  unfold w0;simp [IntKind.wrap,IntKind.bits,IntKind.signed]
 have es:nq .i64 n 63=n/2^63:=by
  unfold nq
  rw [show min (63:Int).toNat IntKind.i64.bits=63 from rfl]
  exact Y162
 have e1:IntKind.u64.wrap (nq .i64 n 63)=w1 n:=by
  rw [es,(Jm n (by omega)).1];simp [IntKind.wrap,IntKind.bits,IntKind.signed];split<;>omega
 have e2:w2 n=w1 n:=by rw [(Jm n (by omega)).1,(Jm n (by omega)).2]
 simp only [go_sem,zav,byq,e0,e1]
 refine ⟨by omega,?_⟩
 unfold nAV
 rw [e2]
 exact Z0
def FL (a b:Int) (k:Nat):List AV:=[.int .u64 (if 0<k then w0 (a+b) else 0),.int .u64 (if 1<k then w1 (a+b) else 0),.int .u64 (if 2<k then w2 (a+b) else 0)]
def cyk (a b:Int) (k:Nat):Int:=match k with
 |0=>0
 |1=>(w0 a+w0 b)/2^64
 |2=>(w1 a+w1 b+(w0 a+w0 b)/2^64)/2^64
 |_=>(w2 a+w2 b+(w1 a+w1 b+(w0 a+w0 b)/2^64)/2^64)/2^64
theorem D9 (a b:Int):∀ k,0≤cyk a b k∧cyk a b k≤1:=by
 have a0:=uv a
 have a1:=uo a
 have a2:=ud a
 have b0:=uv b
 have b1:=uo b
 have b2:=ud b
 intro k
 unfold cyk
 split<;>omega
theorem OI (a b:Int):(w0 a+w0 b+cyk a b 0) % 18446744073709551616=w0 (a+b)∧(w0 a+w0 b+cyk a b 0)/18446744073709551616=cyk a b 1:=by
 have:=M7 a b;simp only [cyk];constructor<;>omega
theorem OH (a b:Int):(w1 a+w1 b+cyk a b 1) % 18446744073709551616=w1 (a+b)∧(w1 a+w1 b+cyk a b 1)/18446744073709551616=cyk a b 2:=by
 have:=Nb a b;simp only [cyk];constructor<;>omega
theorem OQ (a b:Int):(w2 a+w2 b+cyk a b 2) % 18446744073709551616=w2 (a+b)∧(w2 a+w2 b+cyk a b 2)/18446744073709551616=cyk a b 3:=by
 have:=NU a b;simp only [cyk];constructor<;>omega
def zX:List AV→AHeap→(AV→Prop)→Prop
 |[x,y],_,K=>∃ a b,(x=nAV a∧y=nAV b)∧K (nAV (a+b))
 |_,_,_=>False
theorem AG:EntOk Tryz.prog 404 (Ent.pure zX):=by
 refine Ype fun _ H K h=>?_
 unfold zX at h
 split at h
 rotate_left
 ·exact h.elim
 obtain ⟨a,b,⟨rfl,rfl⟩,hK⟩:=h
 refine ⟨_,hK,?_⟩
 refine Yfv ax (tCq Bc tNq) Tryz.func404 [.cell 4 198] fun hcl hlt=>?_
 clear hlt hK
 simp only [go_sem,byq,nAV]
 refine eJ (A:=Nat) (fun k=>[(8,.int .i64 (k:Int)),(6,.int .u64 (cyk a b k)),(5,.ptr (H.nx+1+1+1) 0),(4,.ptr (H.nx+1+1) 0),(3,.ptr (H.nx+1) 0),(2,.ptr H.nx 0)])
  (fun k=>(((H.push (.cells [.int .u64 (w0 a),.int .u64 (w1 a),.int .u64 (w2 a)])).push (.cells [.int .u64 (w0 b),.int .u64 (w1 b),.int .u64 (w2 b)])).push (.cells [.int .u64 0,.int .u64 0,.int .u64 0])).push (.cells (FL a b k)))
  (fun k=>k≤3) (fun k=>3 - k) 0 (by omega) ?_ fun k hk=>?_
 ·simp only [bnq,enter,gA,ltF,ne_eq,Nat.reduceEqDiff,reduceCtorEq,cyk,FL,Nat.lt_irrefl,if_false,true_or,and_true,Nat.not_lt_zero]
 have a0:=uv a
 have a1:=uo a
 have a2:=ud a
 have b0:=uv b
 have b1:=uo b
 have b2:=ud b
 rcases (by omega:k=0∨k=1∨k=2∨k=3) with rfl|rfl|rfl|rfl
 ·have hd:decide (((0:Nat):Int)<3)=true:=rfl
  have e1:IntKind.i64.wrap (((0:Nat):Int)+1)=((1:Nat):Int):=by rw [wrap_i64]<;>omega
  have hc:=D9 a b 0
  obtain ⟨s1,s2⟩:=OI a b
  have t1:((0:Nat):Int).toNat=0:=rfl
  simp only [go_sem,zat,byq,mf,hd,FL,e1,s1,s2,t1]
  refine ⟨by omega,by omega,by omega,by omega,.inr (by omega),1,by omega,by omega,?_⟩
  exact Y53
 ·have hd:decide (((1:Nat):Int)<3)=true:=rfl
  have e1:IntKind.i64.wrap (((1:Nat):Int)+1)=((2:Nat):Int):=by rw [wrap_i64]<;>omega
  have hc:=D9 a b 1
  obtain ⟨s1,s2⟩:=OH a b
  have t1:((1:Nat):Int).toNat=1:=rfl
  simp only [go_sem,zat,byq,mf,hd,FL,e1,s1,s2,t1]
  refine ⟨by omega,by omega,by omega,by omega,.inr (by omega),2,by omega,by omega,?_⟩
  exact Y53
 ·have hd:decide (((2:Nat):Int)<3)=true:=rfl
  have e1:IntKind.i64.wrap (((2:Nat):Int)+1)=((3:Nat):Int):=by rw [wrap_i64]<;>omega
  have hc:=D9 a b 2
  obtain ⟨s1,s2⟩:=OQ a b
  have t1:((2:Nat):Int).toNat=2:=rfl
  simp only [go_sem,zat,byq,mf,hd,FL,e1,s1,s2,t1]
  refine ⟨by omega,by omega,by omega,by omega,.inr (by omega),3,by omega,by omega,?_⟩
  exact Y53
 ·have hd:decide (((3:Nat):Int)<3)=false:=rfl
  simp only [go_sem,zau,byq,hd,FL]
  exact Z0
def F5 (a:Int) (k:Nat):List AV:=[.int .u64 (if 0<k then w0 (-1 - a) else w0 a),.int .u64 (if 1<k then w1 (-1 - a) else w1 a),.int .u64 (if 2<k then w2 (-1 - a) else w2 a)]
def C7:List AV→AHeap→(AV→Prop)→Prop
 |[x],_,K=>∃ a,x=nAV a∧K (nAV (-a))
 |_,_,_=>False
theorem EQ:EntOk Tryz.prog 403 (Ent.pure C7):=by
 refine Ype fun _ H K h=>?_
 unfold C7 at h
 split at h
 rotate_left
 ·exact h.elim
 obtain ⟨a,rfl,hK⟩:=h
 refine ⟨_,hK,?_⟩
 refine Yfv ax (tCq AG (tCq Kj tNq)) Tryz.func403 [.cell 2 198] fun hcl hlt=>?_
 clear hlt hK
 simp only [go_sem,byq,nAV]
 refine eJ (A:=Nat) (fun k=>[(4,.int .i64 (k:Int)),(2,.ptr (H.nx+1) 0),(1,.ptr H.nx 0)])
  (fun k=>(H.push (.cells (F5 a k))).push (.cells [.int .u64 0,.int .u64 0,.int .u64 0]))
  (fun k=>k≤3) (fun k=>3 - k) 0 (by omega) ?_ fun k hk=>?_
 ·simp only [bnq,enter,gA,ltF,ne_eq,Nat.reduceEqDiff,reduceCtorEq,F5,Nat.lt_irrefl,if_false,true_or,and_true,Nat.not_lt_zero]
 rcases (by omega:k=0∨k=1∨k=2∨k=3) with rfl|rfl|rfl|rfl
 ·have hd:decide (((0:Nat):Int)<3)=true:=rfl
  have e1:IntKind.i64.wrap (((0:Nat):Int)+1)=((1:Nat):Int):=by rw [wrap_i64]<;>omega
  have t1:((0:Nat):Int).toNat=0:=rfl
  have hx:=vB (w0 a) (uv a)
  rw [Nq] at hx
  simp only [go_sem,zat,byq,hd,F5,e1,t1,hx]
  refine ⟨by omega,by omega,1,by omega,by omega,?_⟩
  exact Y53
 ·have hd:decide (((1:Nat):Int)<3)=true:=rfl
  have e1:IntKind.i64.wrap (((1:Nat):Int)+1)=((2:Nat):Int):=by rw [wrap_i64]<;>omega
  have t1:((1:Nat):Int).toNat=1:=rfl
  have hx:=vB (w1 a) (uo a)
  rw [N1] at hx
  simp only [go_sem,zat,byq,hd,F5,e1,t1,hx]
  refine ⟨by omega,by omega,2,by omega,by omega,?_⟩
  exact Y53
 ·have hd:decide (((2:Nat):Int)<3)=true:=rfl
  have e1:IntKind.i64.wrap (((2:Nat):Int)+1)=((3:Nat):Int):=by rw [wrap_i64]<;>omega
  have t1:((2:Nat):Int).toNat=2:=rfl
  have hx:=vB (w2 a) (ud a)
  rw [Nw] at hx
  simp only [go_sem,zat,byq,hd,F5,e1,t1,hx]
  refine ⟨by omega,by omega,3,by omega,by omega,?_⟩
  exact Y53
 ·have hd:decide (((3:Nat):Int)<3)=false:=rfl
  simp only [go_sem,zau,byq,hd,F5,zX,EI]
  refine ⟨by omega,-1 - a,1,⟨rfl,rfl⟩,?_⟩
  have en:(-1 - a+1) = -a:=by omega
  simp only [go_sem,zau,byq,en,nAV]
  simp (disch:=first|exact Zd|omega) [↓zmk,beq,ybc,ybd,ybe,af,wk,wk2,wk1,wkM,wkL,aj,ybf,hcl]
  refine .inr ⟨-1 - a,1,⟨⟨rfl,rfl,rfl⟩,rfl,rfl,rfl⟩,?_⟩
  rw [en];exact ⟨rfl,rfl,rfl⟩
def zZ:List AV→AHeap→(AV→Prop)→Prop
 |[x,y],_,K=>∃ a b,(x=nAV a∧y=nAV b)∧K (nAV (a - b))
 |_,_,_=>False
theorem ER:EntOk Tryz.prog 405 (Ent.pure zZ):=by
 refine Ype fun _ H K h=>?_
 unfold zZ at h
 split at h
 rotate_left
 ·exact h.elim
 obtain ⟨a,b,⟨rfl,rfl⟩,hK⟩:=h
 refine ⟨_,hK,?_⟩
 refine Yfv ax (tCq AG (tCq EQ tNq)) Tryz.func405 [.cell 4 198] fun hcl hlt=>?_
 clear hlt hK
 simp only [go_sem,byq,nAV]
 refine ⟨b,rfl,?_⟩
 simp only [go_sem,byq,nAV]
 refine ⟨a,-b,⟨rfl,rfl⟩,?_⟩
 have en:a + -b=a - b:=by omega
 simp only [go_sem,byq,en,nAV]
 simp (disch:=first|exact Zd|omega) [↓zmk,beq,ybc,ybd,ybe,af,wk,wk2,wk1,wkM,wkL,aj,ybf,hcl]
 exact ⟨.inr ⟨a,-b,⟨rfl,rfl⟩,by rw [en];rfl⟩,.inr ⟨b,rfl,rfl⟩⟩
def isN (a:Int):Prop := -(2^191)≤a∧a<2^191
def DP:List AV→AHeap→(AV→Prop)→Prop
 |[x],_,K=>∃ a,(x=nAV a∧isN a)∧K (.bool (decide (a<0)))
 |_,_,_=>False
theorem MN:EntOk Tryz.prog 463 (Ent.pure DP):=by
 refine Ype fun _ H K h=>?_
 unfold DP at h
 split at h
 rotate_left
 ·exact h.elim
 obtain ⟨a,⟨rfl,ha⟩,hK⟩:=h
 refine ⟨_,hK,?_⟩
 refine Yfv ax tNq Tryz.func463 [.tmp 2] fun hcl hlt=>?_
 clear hlt hK
 have hs:nq .u64 (w2 a) 63=w2 a/2^63:=by
  unfold nq
  rw [show min (63:Int).toNat IntKind.u64.bits=63 from rfl]
  exact Y162
 rw [Oi ha] at hs
 have hb:(nq .u64 (w2 a) 63==1)=decide (a<0):=by
  rw [hs];by_cases h:a<0
  ·rw [if_pos h,dtq h];rfl
  ·rw [if_neg h,dfq h];rfl
 simp only [go_sem,zav,byq,nAV,hb]
 exact Y34
def u6:List AV→AHeap→(AV→Prop)→Prop
 |[.agg [.int .u64 hi,.int .u64 lo]],_,K=>((0≤hi∧hi<18446744073709551616)∧(0≤lo∧lo<18446744073709551616))∧K (nAV (hi*2^64+lo))
 |_,_,_=>False
theorem A0:EntOk Tryz.prog 128 (Ent.pure u6):=by
 refine Ype fun _ H K h=>?_
 unfold u6 at h
 split at h
 rotate_left
 ·exact h.elim
 rename_i hi lo
 obtain ⟨⟨h1,h2⟩,hK⟩:=h
 refine ⟨_,hK,?_⟩
 refine Yfv ax tNq Tryz.func128 [.cell 2 198] fun hcl hlt=>?_
 clear hlt hK
 obtain ⟨e0,e1,e2⟩:=NJ hi lo h1 h2
 simp only [go_sem,zav,byq,nAV,e0,e1,e2]
 exact Z0
def dv:List Nat→Nat
 |[]=>0
 |d::l=>d+10*dv l
def cG (n:Nat):List Nat:=if h:n=0 then [] else n % 10::cG (n/10)
decreasing_by omega
def isD (l:List Nat):Prop:=∀ d∈l,d<10
def dig (n i:Nat):Nat:=n/10^i % 10
theorem bK:cG 0=[]:=by rw [cG];simp
theorem kA {n:Nat} (h:n≠0):cG n=n % 10::cG (n/10):=by rw [cG];simp [h]
theorem mq (n:Nat):dv (cG n)=n:=by
 induction n using Nat.strongRecOn with
 |_ n ih =>
  by_cases h:n=0
  ·subst h;rw [bK];rfl
  ·rw [kA h,dv,ih (n/10) (by omega)];omega
theorem kr (n:Nat):isD (cG n):=by
 induction n using Nat.strongRecOn with
 |_ n ih =>
  by_cases h:n=0
  ·subst h;rw [bK];intro d hd;cases hd
  ·rw [kA h]
   intro d hd
   rcases List.mem_cons.1 hd with rfl|hd
   ·omega
   ·exact ih (n/10) (by omega) d hd
theorem wB {d:Nat} {l:List Nat} (h:isD (d::l)):isD l:=fun x hx=>h x (List.mem_cons_of_mem _ hx)
theorem wX {d:Nat} {l:List Nat} (h:isD (d::l)):d<10:=h d List.mem_cons_self
theorem I6 {l:List Nat} (h:isD l):dv l<10^l.length:=by
 induction l with
 |nil=>simp [dv]
 |cons d l ih =>
  have h1:=ih (wB h)
  have h2:=wX h
  rw [dv,yaz,Nat.pow_succ];omega
theorem mZ {l:List Nat} (h:isD l):∀ i,l.getD i 0=dig (dv l) i:=by
 induction l with
 |nil=>intro i;simp [dv,dig]
 |cons d l ih =>
  intro i
  have h2:=wX h
  cases i with
  |zero=>simp [dig,dv];omega
  |succ i =>
   have:=ih (wB h) i
   rw [yav,this,dig,dig,dv,Nat.pow_succ,Nat.mul_comm (10^i) 10,← Nat.div_div_eq_div_mul]
   have:(d+10*dv l)/10=dv l:=by omega
   rw [this]
theorem tT (n i:Nat):dig n i<10:=Nat.mod_lt _ (by decide)
theorem lm (n i:Nat):n % 10^(i+1)=n % 10^i+10^i*dig n i:=by
 rw [Nat.pow_succ,Nat.mod_mul,dig]
def first (k n:Nat):List Nat:=(List.range k).map (dig n)
theorem jV (k n:Nat):(first k n).length=k:=by simp [first]
theorem F4 (k n:Nat):isD (first k n):=fun d hd=>by
 obtain ⟨i,_,rfl⟩:=List.mem_map.1 hd;exact tT n i
theorem nv (k n:Nat):first (k+1) n=first k n++[dig n k]:=by simp [first,List.range_succ]
theorem mW (a b:List Nat):dv (a++b)=dv a+10^a.length*dv b:=by
 induction a with
 |nil=>simp [dv]
 |cons d a ih =>
  rw [yal,dv,dv,ih,yaz,Nat.pow_succ,Nat.mul_comm (10^a.length) 10,Nat.mul_assoc,Nat.mul_add];omega
theorem KJ (k n:Nat):dv (first k n)=n % 10^k:=by
 induction k with
 |zero=>simp [first,dv,Nat.mod_one]
 |succ k ih=>rw [nv,mW,ih,jV,lm];simp [dv]
theorem Gg {l:List Nat} (h:isD l) (hl:l.getLast?≠some 0):cG (dv l)=l:=by
 induction l with
 |nil=>simp [dv,bK]
 |cons d l ih =>
  have h2:=wX h
  cases l with
  |nil =>
   have hd:d≠0:=by intro e;subst e;simp at hl
   rw [show dv [d]=d by simp [dv],kA hd,Nat.mod_eq_of_lt h2,Nat.div_eq_of_lt h2,bK]
  |cons e l =>
   have hl':(e::l).getLast?≠some 0:=by simpa [List.getLast?_cons_cons] using hl
   have ih:=ih (wB h) hl'
   have hnz:dv (e::l)≠0:=by
    intro h0
    rw [h0,bK] at ih;cases ih
   have h3:dv (d::e::l)≠0:=by rw [dv];omega
   rw [kA h3]
   have e1:dv (d::e::l) % 10=d:=by rw [dv];omega
   have e2:dv (d::e::l)/10=dv (e::l):=by rw [dv];omega
   rw [e1,e2,ih]
def cry (a b i:Nat):Nat:=(a % 10^i+b % 10^i)/10^i
theorem Kg (a b i:Nat):cry a b i≤1:=by
 have hp:0<10^i:=Nat.pow_pos (by decide)
 have h1:=Nat.mod_lt a hp
 have h2:=Nat.mod_lt b hp
 unfold cry
 exact Nat.le_of_lt_succ (Nat.div_lt_of_lt_mul (by omega))
theorem xT (a b i:Nat):(a+b)/10^i=a/10^i+b/10^i+cry a b i:=by
 have hp:0<10^i:=Nat.pow_pos (by decide)
 have h1:=Nat.div_add_mod a (10^i)
 have h2:=Nat.div_add_mod b (10^i)
 unfold cry
 generalize a/10^i=qa at *
 generalize b/10^i=qb at *
 generalize a % 10^i=ra at *
 generalize b % 10^i=rb at *
 rw [← h1,← h2,show 10^i*qa+ra+(10^i*qb+rb)=ra+rb+10^i*(qa+qb) by rw [Nat.mul_add];omega,Nat.add_mul_div_left _ _ hp];omega
theorem K0 (a b i:Nat):(dig a i+dig b i+cry a b i) % 10=dig (a+b) i:=by
 unfold dig;rw [xT];omega
theorem MO (a b i:Nat):(dig a i+dig b i+cry a b i)/10=cry a b (i+1):=by
 have hp:0<10^i:=Nat.pow_pos (by decide)
 have e:cry a b (i+1)=(dig a i+dig b i+cry a b i)/10:=by
  unfold cry
  rw [lm,lm,Nat.pow_succ,← Nat.div_div_eq_div_mul,show a % 10^i+10^i*dig a i+(b % 10^i+10^i*dig b i)=a % 10^i+b % 10^i+10^i*(dig a i+dig b i) by rw [Nat.mul_add];omega,Nat.add_mul_div_left _ _ hp,Nat.add_comm]
 exact e.symm
theorem wG (a b:Nat):cry a b 0=0:=by simp [cry,Nat.mod_one]
def bor (a b i:Nat):Nat:=if a % 10^i<b % 10^i then 1 else 0
theorem xm (a b:Nat):bor a b 0=0:=by simp [bor,Nat.mod_one]
theorem JH (a b i:Nat):bor a b (i+1)=if dig a i<dig b i+bor a b i then 1 else 0:=by
 have hp:0<10^i:=Nat.pow_pos (by decide)
 have h1:=Nat.mod_lt a hp
 have h2:=Nat.mod_lt b hp
 unfold bor
 rw [lm,lm]
 generalize dig a i=x
 generalize dig b i=y
 generalize a % 10^i=ra at *
 generalize b % 10^i=rb at *
 generalize 10^i=p at *
 rcases Nat.lt_trichotomy x y with h|h|h
 ·have:=Nat.mul_le_mul_left p (show x+1≤y from h)
  rw [Nat.mul_add] at this
  rw [if_pos (by omega),if_pos (by omega)]
 ·subst h
  by_cases hr:ra<rb
  ·rw [if_pos (by omega),if_pos hr,if_pos (by omega)]
  ·rw [if_neg (by omega),if_neg hr,if_neg (by omega)]
 ·have:=Nat.mul_le_mul_left p (show y+1≤x from h)
  rw [Nat.mul_add] at this
  rw [if_neg (by omega)]
  split<;>rw [if_neg (by omega)]
theorem D8 (a b i:Nat) (h:b≤a):(a - b)/10^i+b/10^i+bor a b i=a/10^i:=by
 have hp:0<10^i:=Nat.pow_pos (by decide)
 have h1:=xT (a - b) b i
 rw [Nat.sub_add_cancel h] at h1
 have h2:cry (a - b) b i=bor a b i:=by
  have e:=Nat.div_add_mod a (10^i)
  have e2:a % 10^i+10^i*cry (a - b) b i=(a - b) % 10^i+b % 10^i:=by
   have g1:=Nat.div_add_mod (a - b) (10^i)
   have g2:=Nat.div_add_mod b (10^i)
   rw [h1,Nat.mul_add,Nat.mul_add] at e
   omega
  have r1:=Nat.mod_lt a hp
  have r2:=Nat.mod_lt b hp
  have r3:=Nat.mod_lt (a - b) hp
  have hc:=Kg (a - b) b i
  unfold bor
  rcases (by omega:cry (a - b) b i=0∨cry (a - b) b i=1) with hc|hc<;>rw [hc] at e2 ⊢
  ·rw [if_neg (by omega)]
  ·rw [if_pos (by omega)]
 omega
theorem L1 (a b i:Nat) (h:b≤a):(dig a i:Int) - dig b i - bor a b i=dig (a - b) i - 10*bor a b (i+1):=by
 have h1:=D8 a b i h
 rw [JH]
 have hb:bor a b i≤1:=by unfold bor;split<;>omega
 unfold dig
 split<;>omega
theorem Bm {n k:Nat} (h:n<10^k):(cG n).length≤k:=by
 induction k generalizing n with
 |zero =>
  have:n=0:=by simpa using h
  subst this;rw [bK];simp
 |succ k ih =>
  by_cases h0:n=0
  ·subst h0;rw [bK];simp
  ·rw [kA h0,yaz]
   have:n/10<10^k:=Nat.div_lt_of_lt_mul (by rw [Nat.pow_succ] at h;omega)
   have:=ih this
   omega
theorem LZ {n:Nat} (h:n≠0):10^((cG n).length - 1)≤n:=by
 induction n using Nat.strongRecOn with
 |_ n ih =>
  rw [kA h,yaz,Nat.add_sub_cancel]
  by_cases h1:n/10=0
  ·rw [h1,bK];simp;omega
  ·have:=ih (n/10) (by omega) h1
   have hl:(cG (n/10)).length≠0:=by rw [kA h1];simp
   have e:(cG (n/10)).length=((cG (n/10)).length - 1)+1:=by omega
   rw [e,Nat.pow_succ];omega
theorem yV {a b:Nat} (h:(cG a).length<(cG b).length):a<b:=by
 have hb:b≠0:=by intro e;subst e;rw [bK] at h;simp at h
 have h1:=LZ hb
 have h2:=I6 (kr a)
 rw [mq] at h2
 have h3:10^(cG a).length≤10^((cG b).length - 1):=Nat.pow_le_pow_right (by decide) (by omega)
 omega
theorem yQ {a b i:Nat} (h:a/10^(i+1)=b/10^(i+1)) (hd:dig a i<dig b i):a<b:=by
 have hp:0<10^i:=Nat.pow_pos (by decide)
 rw [Nat.pow_succ,← Nat.div_div_eq_div_mul,← Nat.div_div_eq_div_mul] at h
 unfold dig at hd
 have h1:a/10^i<b/10^i:=by omega
 have h2:=Nat.div_add_mod a (10^i)
 have h3:=Nat.div_add_mod b (10^i)
 have h4:=Nat.mod_lt a hp
 have h5:=Nat.mul_le_mul_left (10^i) (show a/10^i+1≤b/10^i from h1)
 rw [Nat.mul_add] at h5
 omega
theorem CH {a b i:Nat} (h:a/10^(i+1)=b/10^(i+1)) (hd:dig a i=dig b i):a/10^i=b/10^i:=by
 rw [Nat.pow_succ,← Nat.div_div_eq_div_mul,← Nat.div_div_eq_div_mul] at h
 unfold dig at hd
 omega
theorem yf {n:Nat} {k:Nat} (h:(cG n).length≤k):n/10^k=0:=by
 have h2:=I6 (kr n)
 rw [mq] at h2
 exact Nat.div_eq_of_lt (Nat.lt_of_lt_of_le h2 (Nat.pow_le_pow_right (by decide) h))
end Go.AL
open Go Go.AL Go.Proofs
namespace Go.AL
theorem JA:ti Tryz.prog 4=some ⟨.bool,1,1,.bool false⟩:=by kernel_rfl
theorem LD:ti Tryz.prog 56=some ⟨.slice 3,1,24,.slice .nil 1 []⟩:=by kernel_rfl
theorem NC:ti Tryz.prog 454=some ⟨.struct [(0,4,false),(1,56,false)],2,32,.agg [.bool false,.slice .nil 1 []]⟩:=by kernel_rfl
attribute [go_sem] JA LD NC
def Br (l:List AV):Prop:=isI l∧isD (uni l)
theorem ah {l:List Nat}:Br (cO l)=isD l:=by unfold Br;rw [wx,gC];simp
theorem oY {l:List AV} (h:Br l):∃ xs,l=cO xs∧isD xs:=⟨_,h.1,h.2⟩
def Ey:List AV→AHeap→(AV→Prop)→Prop
 |[.slice _ 1 l,.int .i64 i],_,K=>(isI l∧0≤i)∧K (.int .i64 ((uni l).getD i.toNat 0:Nat))
 |_,_,_=>False
theorem HW:EntOk Tryz.prog 495 (Ent.pure Ey):=by
 refine Ype fun _ H K h=>?_
 unfold Ey at h
 split at h
 rotate_left
 ·exact h.elim
 rename_i m l i
 obtain ⟨⟨c1,h0⟩,hK⟩:=h
 refine ⟨_,hK,?_⟩
 obtain ⟨xs,rfl⟩:=Lk c1
 obtain ⟨j,rfl⟩:=Int.eq_ofNat_of_zero_le h0
 rw [gC,iNq]
 clear hK c1 h0
 refine Yfv ax tNq Tryz.func495 [.tmp 4] fun hcl hlt=>?_
 clear hlt
 simp only [go_sem,dN,iNq]
 refine au (fun h1=>?_) (fun h1=>?_)
 ·have h1':j<xs.length:=by simpa using h1
  simp only [go_sem,dN,iNq,iR h1',lg h1']
  exact Y34
 ·have h1':xs.length≤j:=by simpa using h1
  have e:xs.getD j 0=0:=by simp [gEq,h1']
  simp only [go_sem,dN,iNq,e]
  exact Z0
def Ap:List AV→AHeap→(AV→Prop)→Prop
 |[.slice _ 1 l,.slice _ 1 m],_,K=>(Br l∧Br m∧l.length≤1000∧m.length≤1000)∧K (.slice .any 1 (cO (first (max l.length m.length+1) (dv (uni l)+dv (uni m)))))
 |_,_,_=>False
theorem I8:EntOk Tryz.prog 484 (Ent.pure Ap):=by
 refine Ype fun _ H K h=>?_
 unfold Ap at h
 split at h
 rotate_left
 ·exact h.elim
 rename_i ma l mb m
 obtain ⟨⟨c1,c2,l1,l2⟩,hK⟩:=h
 refine ⟨_,hK,?_⟩
 obtain ⟨xs,rfl,hx⟩:=oY c1
 obtain ⟨ys,rfl,hy⟩:=oY c2
 rw [gC,gC]
 rw [dN] at l1 l2 ⊢
 rw [dN]
 clear hK c1 c2
 refine Yfv ax (tCq HW tNq) Tryz.func484 [.tmp 4] fun hcl hlt=>?_
 clear hlt
 generalize hn:max xs.length ys.length+1=n
 have hw:IntKind.i64.wrap (max (xs.length:Int) (ys.length:Int)+1)=(n:Int):=by rw [wrap_i64]<;>omega
 simp only [go_sem,dN]
 refine az (A:=Nat) (fun k=>[(7,.int .i64 (k:Int)),(6,.int .i64 (cry (dv xs) (dv ys) k:Nat)),(5,.slice (.own (H.nx+1)) 1 (cO (first k (dv xs+dv ys)))),(1,.slice .any 1 (cO ys)),(0,.slice .any 1 (cO xs))])
  (fun k=>(H.push (.buf 1 0)).push (.buf 1 k)) (fun k=>k≤n) (fun k=>n - k) 0 (by omega) ?_ fun k hk=>?_
 ·(simp only [bkq,enterW,aK,ltF,ne_eq,Nat.reduceEqDiff,reduceCtorEq,wG,first,List.range_zero,yaf,fa];try simp (disch:=first|exact Zd|omega) [↓zmk,beq,ybc,ybd,ybe,af,wk,wk2,wk1,wkM,wkL,aj,ybf,byq,biq,ah,hcl,wG,first,List.range_zero,yaf,fa];try (repeat' (first|assumption|omega|exact True.intro|refine And.intro ?_ ?_|refine ag ?_|refine aa ?_|refine ae ?_ ?_|refine ai ?_ ?_|refine aq ?_|exact lRq _|refine lPq ?_ _|refine AHeap.Le.del ?_ ?_|(simp only [bt,and_true,true_and,wG,first,List.range_zero,yaf,fa];first|done|omega|(simp;done)))))
 simp only [go_sem,dN,hw]
 refine au (fun h1=>?_) (fun h1=>?_)
 ·have h1':k<n:=by simpa using h1
  have d1:=tT (dv xs) k
  have d2:=tT (dv ys) k
  have hc:=Kg (dv xs) (dv ys) k
  have e1:IntKind.i64.wrap ((dig (dv xs) k:Nat)+(dig (dv ys) k:Nat):Int)=((dig (dv xs) k+dig (dv ys) k:Nat):Int):=by rw [wrap_i64]<;>omega
  have e2:IntKind.i64.wrap (((dig (dv xs) k+dig (dv ys) k:Nat):Int)+(cry (dv xs) (dv ys) k:Nat))=((dig (dv xs) k+dig (dv ys) k+cry (dv xs) (dv ys) k:Nat):Int):=by rw [wrap_i64]<;>omega
  have e3:(((dig (dv xs) k+dig (dv ys) k+cry (dv xs) (dv ys) k:Nat):Int)).tmod 10=(dig (dv xs+dv ys) k:Nat):=by
   rw [Int.tmod_eq_emod_of_nonneg (by omega),← K0];omega
  have e4:IntKind.i64.wrap ((((dig (dv xs) k+dig (dv ys) k+cry (dv xs) (dv ys) k:Nat):Int)).tdiv 10)=(cry (dv xs) (dv ys) (k+1):Nat):=by
   rw [Int.tdiv_eq_ediv_of_nonneg (by omega),← MO,wrap_i64]<;>omega
  have e5:=Yk5 k
  simp only [go_sem,biq,ah,Ey,mZ hx,mZ hy,e1,e2,e3,e4,e5,jV,← nv]
  refine ⟨by omega,by omega,by omega,⟨by omega,by omega⟩,by omega,k+1,by omega,by omega,?_⟩
  exact Z1
 ·exact Y165
def sO:List AV→AHeap→(AV→Prop)→Prop
 |[.slice _ 1 l,.slice _ 1 m],_,K=>(Br l∧Br m∧l.length≤1000∧m.length≤1000∧dv (uni m)≤dv (uni l))∧K (.slice .any 1 (cO (first l.length (dv (uni l) - dv (uni m)))))
 |_,_,_=>False
theorem Hu:EntOk Tryz.prog 486 (Ent.pure sO):=by
 refine Ype fun _ H K h=>?_
 unfold sO at h
 split at h
 rotate_left
 ·exact h.elim
 rename_i ma l mb m
 obtain ⟨⟨c1,c2,l1,l2,hle⟩,hK⟩:=h
 refine ⟨_,hK,?_⟩
 obtain ⟨xs,rfl,hx⟩:=oY c1
 obtain ⟨ys,rfl,hy⟩:=oY c2
 rw [gC,gC] at hle ⊢
 rw [dN] at l1 l2 ⊢
 clear hK c1 c2
 refine Yfv ax (tCq HW tNq) Tryz.func486 [.tmp 4] fun hcl hlt=>?_
 clear hlt
 generalize hn:xs.length=n at *
 simp only [go_sem,biq,ah,hn]
 refine az (A:=Nat) (fun k=>[(11,.int .i64 (k:Int)),(10,.int .i64 (n:Int)),(6,.int .i64 (bor (dv xs) (dv ys) k:Nat)),(5,.slice (.own (H.nx+1)) 1 (cO (first k (dv xs - dv ys)))),(1,.slice .any 1 (cO ys)),(0,.slice .any 1 (cO xs))])
  (fun k=>(H.push (.buf 1 0)).push (.buf 1 k)) (fun k=>k≤n) (fun k=>n - k) 0 (by omega) ?_ fun k hk=>?_
 ·(simp only [bkq,enterW,aK,ltF,ne_eq,Nat.reduceEqDiff,reduceCtorEq,xm,first,List.range_zero,yaf,fa];try simp (disch:=first|exact Zd|omega) [↓zmk,beq,ybc,ybd,ybe,af,wk,wk2,wk1,wkM,wkL,aj,ybf,byq,biq,ah,hcl,xm,first,List.range_zero,yaf,fa];try (repeat' (first|assumption|omega|exact True.intro|refine And.intro ?_ ?_|refine ag ?_|refine aa ?_|refine ae ?_ ?_|refine ai ?_ ?_|refine aq ?_|exact lRq _|refine lPq ?_ _|refine AHeap.Le.del ?_ ?_|(simp only [bt,and_true,true_and,xm,first,List.range_zero,yaf,fa];first|done|omega|(simp;done)))))
 simp only [go_sem,biq,ah]
 refine au (fun h1=>?_) (fun h1=>?_)
 ·have h1':k<n:=by simpa using h1
  have d1:=tT (dv xs) k
  have d2:=tT (dv ys) k
  have d3:=tT (dv xs - dv ys) k
  have hc:bor (dv xs) (dv ys) k≤1:=by unfold bor;split<;>omega
  have hc2:bor (dv xs) (dv ys) (k+1)≤1:=by unfold bor;split<;>omega
  have hs:=L1 (dv xs) (dv ys) k hle
  have hkx:k<xs.length:=by omega
  have e1:IntKind.i64.wrap ((dig (dv xs) k:Nat) - (dig (dv ys) k:Nat):Int)=(dig (dv xs) k:Nat) - (dig (dv ys) k:Nat):=by rw [wrap_i64]<;>omega
  have e2:IntKind.i64.wrap ((dig (dv xs) k:Nat) - (dig (dv ys) k:Nat) - (bor (dv xs) (dv ys) k:Nat):Int)=(dig (dv xs - dv ys) k:Nat) - 10*(bor (dv xs) (dv ys) (k+1):Nat):=by rw [hs,wrap_i64]<;>omega
  have e5:=Yk5 k
  simp only [go_sem,biq,ah,Ey,iR hkx,lg hkx,hn,mZ hx,mZ hy,e1,e2]
  refine ⟨by omega,by omega,au (fun h2=>?_) (fun h2=>?_)⟩
  ·have h2':bor (dv xs) (dv ys) (k+1)=1:=by simp at h2;omega
   have e3:IntKind.i64.wrap ((dig (dv xs - dv ys) k:Nat) - 10*(bor (dv xs) (dv ys) (k+1):Nat)+10:Int)=(dig (dv xs - dv ys) k:Nat):=by rw [wrap_i64]<;>omega
   have e4:(1:Int)=(bor (dv xs) (dv ys) (k+1):Nat):=by omega
   exact Y133
  ·have h2':bor (dv xs) (dv ys) (k+1)=0:=by simp at h2;omega
   have e3:((dig (dv xs - dv ys) k:Nat) - 10*(bor (dv xs) (dv ys) (k+1):Nat):Int)=(dig (dv xs - dv ys) k:Nat):=by omega
   exact Y133
 ·exact Y165
def oQ:List AV→AHeap→(AV→Prop)→Prop
 |[.slice _ 1 l,.slice _ 1 m],_,K=>∃ a b,(l=cO (cG a)∧m=cO (cG b)∧l.length≤1000∧m.length≤1000)∧K (.int .i64 (if a=b then 0 else if a<b then -1 else 1))
 |_,_,_=>False
theorem AJ:EntOk Tryz.prog 485 (Ent.pure oQ):=by
 refine Ype fun _ H K h=>?_
 unfold oQ at h
 split at h
 rotate_left
 ·exact h.elim
 rename_i ma l mb m
 obtain ⟨a,b,⟨rfl,rfl,l1,l2⟩,hK⟩:=h
 refine ⟨_,hK,?_⟩
 rw [dN] at l1 l2
 clear hK
 refine Yfv ax tNq Tryz.func485 [.tmp 4] fun hcl hlt=>?_
 clear hlt
 simp only [go_sem,biq,ah]
 refine au (fun h1=>?_) (fun h1=>?_)
 ·have h1':(cG a).length≠(cG b).length:=by simp at h1;omega
  have hne:a≠b:=fun h=>h1' (by rw [h])
  simp only [go_sem,biq,ah,if_neg hne]
  refine au (fun h2=>?_) (fun h2=>?_)
  ·have h2':(cG a).length<(cG b).length:=by simpa using h2
   simp only [go_sem,biq,ah,if_pos (yV h2')]
   exact Z0
  ·have h2':¬ (cG a).length<(cG b).length:=by simpa using h2
   have:=yV (show (cG b).length<(cG a).length by omega)
   simp only [go_sem,biq,ah,if_neg (show ¬ a<b by omega)]
   exact Z0
 have h1':(cG a).length=(cG b).length:=by simp at h1;omega
 have ew:IntKind.i64.wrap (((cG a).length:Int) - 1)=((cG a).length:Int) - 1:=by rw [wrap_i64]<;>omega
 simp only [go_sem,biq,ah,ew]
 refine eJ (A:=Nat) (fun k=>[(5,.int .i64 ((k:Int) - 1)),(1,.slice mb 1 (cO (cG b))),(0,.slice ma 1 (cO (cG a)))])
  (fun k=>H) (fun k=>k≤(cG a).length∧a/10^k=b/10^k) (fun k=>k) (cG a).length ⟨nrq _,by rw [yf (nrq _),yf (by omega)]⟩ ?_ fun k hk=>?_
 ·exact Z3
 obtain ⟨hk,hab⟩:=hk
 simp only [go_sem,biq,ah]
 refine au (fun h2=>?_) (fun h2=>?_)
 ·obtain ⟨j,rfl⟩:∃ j,k=j+1:=⟨k - 1,by simp at h2;omega⟩
  have ej:(((j+1:Nat):Int) - 1)=(j:Int):=by omega
  have eg1:=mZ (kr a) j
  have eg2:=mZ (kr b) j
  rw [mq] at eg1 eg2
  have e3:IntKind.i64.wrap ((j:Int) - 1)=(j:Int) - 1:=by rw [wrap_i64]<;>omega
  simp only [go_sem,biq,ah,ej,iR (show j<(cG a).length by omega),lg (show j<(cG a).length by omega),iR (show j<(cG b).length by omega),lg (show j<(cG b).length by omega),eg1,eg2,e3]
  refine ⟨by omega,by omega,au (fun h3=>?_) (fun h3=>?_)⟩
  ·have h3':dig a j≠dig b j:=by simp at h3;omega
   have hne:a≠b:=fun h=>h3' (by rw [h])
   simp only [go_sem,biq,ah,if_neg hne,iR (show j<(cG a).length by omega),lg (show j<(cG a).length by omega),iR (show j<(cG b).length by omega),lg (show j<(cG b).length by omega),eg1,eg2]
   refine ⟨by omega,by omega,au (fun h4=>?_) (fun h4=>?_)⟩
   ·have:=yQ hab (show dig a j<dig b j by simpa using h4)
    simp only [go_sem,biq,ah,if_pos this]
    exact Z0
   ·have:=yQ hab.symm (show dig b j<dig a j by simp at h4;omega)
    simp only [go_sem,biq,ah,if_neg (show ¬ a<b by omega)]
    exact Z0
  ·have h3':dig a j=dig b j:=by simp at h3;omega
   simp only [go_sem,biq,ah,e3]
   refine ⟨j,⟨by omega,CH hab h3'⟩,by omega,?_⟩
   exact Z3
 ·have h2':k=0:=by simp at h2;omega
  subst h2'
  have he:a=b:=by simpa using hab
  simp only [go_sem,biq,ah,if_pos he]
  exact Z0
def rAV (m:Bool) (n:Nat):AV:=.agg [.bool (m&&n != 0),.slice .any 1 (cO (cG n))]
theorem Cj {m mm:Bool} {x:List Nat} (h1:isD x) (h2:x.getLast?≠some 0) (h3:mm=(m&&x != [])):AV.agg [AV.bool mm,AV.slice .any 1 (cO x)]=rAV m (dv x):=by
 have e:=Gg h1 h2
 unfold rAV
 rw [e,h3]
 have:(x != [])=(dv x != 0):=by
  cases x with
  |nil=>rfl
  |cons a x =>
   have:dv (a::x)≠0:=fun h0=>by rw [h0,bK] at e;cases e
   rw [bne_iff_ne.2 this];rfl
 rw [this]
def lQ:List AV→AHeap→(AV→Prop)→Prop
 |[.bool m,.slice _ 1 l],_,K=>(Br l∧l.length≤100000)∧K (rAV m (dv (uni l)))
 |_,_,_=>False
theorem wc:EntOk Tryz.prog 483 (Ent.pure lQ):=by
 refine Ype fun _ H K h=>?_
 unfold lQ at h
 split at h
 rotate_left
 ·exact h.elim
 rename_i m mk l
 obtain ⟨⟨c1,l1⟩,hK⟩:=h
 refine ⟨_,hK,?_⟩
 obtain ⟨xs,rfl,hx⟩:=oY c1
 rw [gC]
 rw [dN] at l1
 clear hK c1
 refine Yfv ax tNq Tryz.func483 [.cell 4 454] fun hcl hlt=>?_
 clear hlt
 simp only [go_sem,biq,ah]
 refine az (A:=List Nat) (fun x=>[(1,.slice .any 1 (cO x)),(0,.bool m),(4,.ptr H.nx 0)])
  (fun x=>H.push (.cells [.bool false,.slice .nil 1 []])) (fun x=>isD x∧dv x=dv xs∧x.length≤100000) (fun x=>x.length) xs ⟨hx,rfl,l1⟩ ?_ fun x hI=>?_
 ·exact Z1
 obtain ⟨hxd,hdv,hxl⟩:=hI
 rw [← hdv]
 rcases List.eq_nil_or_concat x with rfl|⟨y,d,rfl⟩
 ·have hd:decide (((0:Nat):Int) > 0)=false:=rfl
  have ff:AV.agg [AV.bool false,AV.slice .any 1 []]=rAV m (dv []):=Cj hxd (by simp) (by cases m<;>rfl)
  simp only [go_sem,biq,ah,zau,hd]
  refine bx (fun h1=>?_) (fun h1=>?_)
  all_goals
   try simp only [go_sem,biq,ah,zau,hd]
   rw [← ff]
   exact Z0
 ·rw [List.concat_eq_append] at *
  rw [lAq,List.length_singleton] at hxl
  have e1:IntKind.i64.wrap (((y++[d]).length:Int) - 1)=((y.length:Nat):Int):=by simp;rw [wrap_i64]<;>omega
  have hlen:y.length<(y++[d]).length:=by simp
  have hd:decide (((y++[d]).length:Int) > 0)=true:=dtq (by simp)
  have eg:(y++[d]).getD y.length 0=d:=by simp [gEq]
  have et:(y++[d]).take y.length=y:=by simp
  simp only [go_sem,biq,ah,hd,e1,iR hlen,eg]
  refine ⟨by omega,au (fun h1=>?_) (fun h1=>?_)⟩
  ·have h1':d=0:=by simp at h1;omega
   simp only [go_sem,biq,ah,e1,et,yap]
   refine ⟨by omega,y,⟨fun x hx=>hxd x (by simp [hx]),?_,by omega⟩,by simp,?_⟩
   ·rw [mW,h1'];simp [dv]
   ·exact Z1
  ·have h1':d≠0:=by simp at h1;omega
   have ff:AV.agg [AV.bool (m&&true),AV.slice .any 1 (cO (y++[d]))]=rAV m (dv (y++[d])):=Cj hxd (by simp;exact h1') (by simp)
   simp only [go_sem,biq,ah,hd,zau,h1]
   rw [← ff]
   refine bx (fun h1=>?_) (fun h1=>?_)
   all_goals
    subst h1
    try simp only [go_sem,biq,ah]
    exact Z0
end Go.AL
open Go Go.AL Go.Proofs
namespace Go.AL
def zAV (a:Int):AV:=.agg [.bool (decide (a<0)),.slice .any 1 (cO (cG a.natAbs))]
theorem pn (m:Bool) (n:Nat):rAV m n=zAV (if m=true then -(n:Int) else n):=by
 unfold rAV zAV
 cases m
 ·simp
 ·simp only [Bool.true_and,if_true,Int.natAbs_neg,Int.natAbs_natCast]
  congr 3
  rw [Bool.eq_iff_iff];simp;omega
def fe (a:Int):Prop:=a.natAbs<10^200
theorem sS {a:Int} (h:fe a):(cG a.natAbs).length≤200:=Bm h
theorem A9 {a b:Int} (h:fe a) (hb:b.natAbs≤a.natAbs):fe b:=Nat.lt_of_le_of_lt hb h
theorem nI {k n:Nat} (h:n<10^k):dv (first k n)=n:=by rw [KJ,Nat.mod_eq_of_lt h]
theorem rk (n:Nat):n<10^(cG n).length:=by have:=I6 (kr n);rwa [mq] at this
theorem qe {n k:Nat} (h:(cG n).length≤k):n<10^k:=Nat.lt_of_lt_of_le (rk n) (Nat.pow_le_pow_right (by decide) h)
theorem Kc (a b:Nat):a+b<10^(max (cG a).length (cG b).length+1):=by
 have h1:=@qe a (max (cG a).length (cG b).length) (Nat.le_max_left _ _)
 have h2:=@qe b (max (cG a).length (cG b).length) (Nat.le_max_right _ _)
 rw [Nat.pow_succ];omega
def jr:List AV→AHeap→(AV→Prop)→Prop
 |[x,y],_,K=>∃ a b,(x=zAV a∧y=zAV b∧fe a∧fe b)∧K (zAV (a+b))
 |_,_,_=>False
theorem uX:EntOk Tryz.prog 467 (Ent.pure jr):=by
 refine Ype fun _ H K h=>?_
 unfold jr at h
 split at h
 rotate_left
 ·exact h.elim
 obtain ⟨a,b,⟨rfl,rfl,ha,hb⟩,hK⟩:=h
 refine ⟨_,hK,?_⟩
 clear hK
 refine ACalls.fW ax (tCq I8 (tCq Hu (tCq AJ (tCq wc tNq)))) Tryz.func467 [.cell 4 454] (nrq _) (T:=av [(2,[[],[],[],[],[],[],[3,5],[1,3,5,6],[1,3,5,6,7]]),(4,[[],[],[],[],[],[],[3,5],[1,3,5,6],[1,3,5,6,7]]),(5,[[],[],[],[],[],[],[3,5],[1,3,5,6],[1,3,5,6,7]])]) (h:=fun hcl hlt=>?_)
 clear hlt
 have la:=sS ha
 have lb:=sS hb
 have ia:=kr a.natAbs
 have ib:=kr b.natAbs
 have fi:∀ k n,isD (first k n):=F4
 simp only [go_sem,biq,ah,zAV]
 refine au (fun h1=>?_) (fun h1=>?_)
 ·have e1:rAV (decide (a<0)) (dv (first (max (cG a.natAbs).length (cG b.natAbs).length+1) (a.natAbs+b.natAbs)))=.agg [.bool (decide (a+b<0)),.slice .any 1 (cO (cG (a+b).natAbs))]:=by
   rw [nI (Kc _ _),pn]
   show zAV _=zAV (a+b)
   congr 1
   have h1':decide (a<0)=decide (b<0):=by simpa using h1
   by_cases hn:a<0
   ·have:b<0:=by rw [dtq hn] at h1';simpa using h1'.symm
    rw [dtq hn,if_pos rfl];omega
   ·have:¬ b<0:=by rw [dfq hn] at h1';simpa using h1'.symm
    exact Y160
  simp only [go_sem,biq,ah,Ap,lQ,mq,jV,ia,ib,fi,e1]
  exact Y112
 ·simp only [go_sem,biq,ah,oQ]
  refine ⟨a.natAbs,b.natAbs,⟨rfl,rfl,by omega,by omega⟩,au (fun h2=>?_) (fun h2=>?_)⟩
  ·have hab:b.natAbs≤a.natAbs:=by
    simp only [decide_eq_true_eq] at h2
    split at h2
    ·omega
    ·split at h2<;>omega
   have e1:rAV (decide (a<0)) (dv (first (cG a.natAbs).length (a.natAbs - b.natAbs)))=.agg [.bool (decide (a+b<0)),.slice .any 1 (cO (cG (a+b).natAbs))]:=by
    rw [nI (Nat.lt_of_le_of_lt (Nat.sub_le _ _) (rk _)),pn]
    show zAV _=zAV (a+b)
    congr 1
    by_cases hn:a<0
    ·have:¬ b<0:=by rw [dtq hn] at h1;simpa using h1
     rw [dtq hn,if_pos rfl];omega
    ·have:b<0:=by rw [dfq hn] at h1;simpa using h1
     exact Y160
   simp only [go_sem,biq,ah,sO,lQ,mq,jV,ia,ib,fi,e1]
   exact Y112
  ·have hab:a.natAbs<b.natAbs:=by
    simp only [decide_eq_false_iff_not] at h2
    split at h2
    ·omega
    ·split at h2<;>omega
   have e1:rAV (decide (b<0)) (dv (first (cG b.natAbs).length (b.natAbs - a.natAbs)))=.agg [.bool (decide (a+b<0)),.slice .any 1 (cO (cG (a+b).natAbs))]:=by
    rw [nI (Nat.lt_of_le_of_lt (Nat.sub_le _ _) (rk _)),pn]
    show zAV _=zAV (a+b)
    congr 1
    by_cases hn:b<0
    ·have:¬ a<0:=fun h=>by simp [h,hn] at h1
     rw [dtq hn,if_pos rfl];omega
    ·have:a<0:=by
      by_cases h:a<0
      ·exact h
      ·simp [h,hn] at h1
     exact Y160
   simp only [go_sem,biq,ah,sO,lQ,mq,jV,ia,ib,fi,e1]
   exact Y112
def DN:List AV→AHeap→(AV→Prop)→Prop
 |[x],_,K=>∃ a,(x=zAV a∧fe a)∧K (zAV (-a))
 |_,_,_=>False
theorem Et:EntOk Tryz.prog 474 (Ent.pure DN):=by
 refine Ype fun _ H K h=>?_
 unfold DN at h
 split at h
 rotate_left
 ·exact h.elim
 obtain ⟨a,⟨rfl,ha⟩,hK⟩:=h
 refine ⟨_,hK,?_⟩
 clear hK
 refine Yfv ax (tCq wc tNq) Tryz.func474 [.cell 2 454] fun hcl hlt=>?_
 clear hlt
 have la:=sS ha
 have ia:=kr a.natAbs
 have e1:rAV (!decide (a<0)) a.natAbs=.agg [.bool (decide (-a<0)),.slice .any 1 (cO (cG (-a).natAbs))]:=by
  rw [pn]
  show zAV _=zAV (-a)
  congr 1
  by_cases hn:a<0
  ·simp [hn];omega
  ·simp [hn];omega
 simp only [go_sem,biq,ah,zAV,lQ,mq,ia,e1]
 exact Y34
def Do:List AV→AHeap→(AV→Prop)→Prop
 |[x,y],_,K=>∃ a b,(x=zAV a∧y=zAV b∧fe a∧fe b)∧K (zAV (a - b))
 |_,_,_=>False
theorem Fc:EntOk Tryz.prog 472 (Ent.pure Do):=by
 refine Ype fun _ H K h=>?_
 unfold Do at h
 split at h
 rotate_left
 ·exact h.elim
 obtain ⟨a,b,⟨rfl,rfl,ha,hb⟩,hK⟩:=h
 refine ⟨_,hK,?_⟩
 clear hK
 refine ACalls.fW ax (tCq Et (tCq uX tNq)) Tryz.func472 [.cell 4 454] (nrq _) (T:=av [(1,[[],[],[1],[0,1,2],[0,1,2,3]])]) (h:=fun hcl hlt=>?_)
 clear hlt
 simp only [go_sem,biq,ah,zAV,DN]
 refine ⟨b,⟨rfl,hb⟩,?_⟩
 simp only [go_sem,biq,ah,zAV,jr]
 refine ⟨a,-b,⟨rfl,rfl,ha,A9 hb (by omega)⟩,?_⟩
 have en:a + -b=a - b:=by omega
 simp only [go_sem,biq,ah,zAV,en]
 exact Z0
def Eg:List AV→AHeap→(AV→Prop)→Prop
 |[x,y],_,K=>∃ a b,(x=zAV a∧y=zAV b∧fe a∧fe b)∧K (.int .i64 (if a=b then 0 else if a<b then -1 else 1))
 |_,_,_=>False
theorem Eq:EntOk Tryz.prog 416 (Ent.pure Eg):=by
 refine Ype fun _ H K h=>?_
 unfold Eg at h
 split at h
 rotate_left
 ·exact h.elim
 obtain ⟨a,b,⟨rfl,rfl,ha,hb⟩,hK⟩:=h
 refine ⟨_,hK,?_⟩
 clear hK
 refine Yfv ax (tCq Fc tNq) Tryz.func416 [.tmp 4] fun hcl hlt=>?_
 clear hlt
 simp only [go_sem,biq,ah,zAV,Do]
 refine ⟨a,b,⟨rfl,rfl,ha,hb⟩,?_⟩
 try simp only [go_sem,biq,ah,zAV]
 refine au (fun h1=>?_) (fun h1=>?_)
 ·have h1':a<b:=by simp at h1;omega
  simp only [go_sem,biq,ah,if_neg (show ¬ a=b by omega),if_pos h1']
  exact Z0
 ·have h1':b≤a:=by simp at h1;omega
  simp only [go_sem,biq,ah]
  refine au (fun h2=>?_) (fun h2=>?_)
  ·have h2':a≠b:=fun h=>by subst h;simp [bK] at h2
   simp only [go_sem,biq,ah,if_neg h2',if_neg (show ¬ a<b by omega)]
   exact Z0
  ·have h2':a=b:=by
    by_cases h:(a - b).natAbs=0
    ·omega
    ·rw [kA h] at h2;simp at h2
   simp only [go_sem,biq,ah,if_pos h2']
   exact Z0
def fX:List AV→AHeap→(AV→Prop)→Prop
 |[.int .i64 n],_,K=>(-9223372036854775808≤n∧n<9223372036854775808)∧K (zAV n)
 |_,_,_=>False
theorem Dk:EntOk Tryz.prog 465 (Ent.pure fX):=by
 refine Ype fun _ H K h=>?_
 unfold fX at h
 split at h
 rotate_left
 ·exact h.elim
 rename_i n
 obtain ⟨⟨h0,h1⟩,hK⟩:=h
 refine ⟨_,hK,?_⟩
 clear hK
 refine Yfv ax (tCq wc tNq) Tryz.func465 [.cell 2 454] fun hcl hlt=>?_
 clear hlt
 simp only [go_sem,biq,ah]
 refine az (A:=Nat × List Nat) (fun x=>[(0,.int .i64 (if n<0 then -(x.1:Int) else x.1)),(2,.ptr H.nx 0),(3,.bool (decide (n<0))),(4,.slice (.own (H.nx+1)) 1 (cO x.2))])
  (fun x=>(H.push (.cells [.bool false,.slice .nil 1 []])).push (.buf 1 x.2.length)) (fun x=>n.natAbs=dv x.2+10^x.2.length*x.1∧isD x.2∧x.2.length≤20∧x.1<10^(20 - x.2.length)) (fun x=>x.1) (n.natAbs,[]) ⟨by simp [dv],fun d hd=>(by cases hd),by simp,by simp;omega⟩ ?_ fun x hI=>?_
 ·have e0:(if n<0 then -((n.natAbs:Nat):Int) else ((n.natAbs:Nat):Int))=n:=by split<;>omega
  (simp only [bkq,enterW,aK,ltF,ne_eq,Nat.reduceEqDiff,reduceCtorEq,e0];try simp (disch:=first|exact Zd|omega) [↓zmk,beq,ybc,ybd,ybe,af,wk,wk2,wk1,wkM,wkL,aj,ybf,byq,biq,ah,hcl,e0];try (repeat' (first|assumption|omega|exact True.intro|refine And.intro ?_ ?_|refine ag ?_|refine aa ?_|refine ae ?_ ?_|refine ai ?_ ?_|refine aq ?_|exact lRq _|refine lPq ?_ _|refine AHeap.Le.del ?_ ?_|(simp only [bt,and_true,true_and,e0];first|done|omega|(simp;done)))))
 obtain ⟨m,l⟩:=x
 obtain ⟨hn,hl,hle,hm⟩:=hI
 dsimp only at *
 have hmb:m≤9223372036854775808:=by
  have:1≤10^l.length:=Nat.pow_pos (by decide)
  have:=Nat.mul_le_mul_right m this
  omega
 by_cases hs:n<0
 ·skip
  have er:(-(m:Int)).tmod 10 = -((m % 10:Nat):Int):=by rw [Int.neg_tmod,Int.tmod_eq_emod_of_nonneg (by omega)];omega
  have eq:IntKind.i64.wrap ((-(m:Int)).tdiv 10) = -((m/10:Nat):Int):=by rw [Int.neg_tdiv,Int.tdiv_eq_ediv_of_nonneg (by omega),wrap_i64]<;>omega
  simp only [go_sem,biq,ah,if_pos hs,er,eq]
  refine au (fun h2=>?_) (fun h2=>?_)
  ·have h2':m≠0:=by simp at h2;omega
   have hl20:l.length<20:=by
    exact Y158
   have hq:m/10<10^(20 - (l.length+1)):=Nat.div_lt_of_lt_mul (by rw [Nat.mul_comm,← Nat.pow_succ,show (20 - (l.length+1)).succ=20 - l.length by omega];exact hm)
   simp only [go_sem,biq,ah,if_pos hs,er,eq]
   refine ⟨by omega,au (fun h3=>?_) (fun h3=>?_)⟩
   ·have en:IntKind.i64.wrap (0 - -((m % 10:Nat):Int))=((m % 10:Nat):Int):=by rw [wrap_i64]<;>omega
    exact Y44
   ·have en : -((m % 10:Nat):Int)=((m % 10:Nat):Int):=by simp at h3;omega
    exact Y44
  ·have h2':m=0:=by simp at h2;omega
   have ev:rAV (decide (n<0)) (dv l)=.agg [.bool (decide (n<0)),.slice .any 1 (cO (cG n.natAbs))]:=by
    exact Y143
   simp only [go_sem,biq,ah,if_pos hs,lQ,hl,ev,zAV]
   exact Y34
 ·skip
  have er:((m:Int)).tmod 10=((m % 10:Nat):Int):=by rw [Int.tmod_eq_emod_of_nonneg (by omega)];omega
  have eq:IntKind.i64.wrap (((m:Int)).tdiv 10)=((m/10:Nat):Int):=by rw [Int.tdiv_eq_ediv_of_nonneg (by omega),wrap_i64]<;>omega
  simp only [go_sem,biq,ah,if_neg hs,er,eq]
  refine au (fun h2=>?_) (fun h2=>?_)
  ·have h2':m≠0:=by simp at h2;omega
   have hl20:l.length<20:=by
    exact Y158
   have hq:m/10<10^(20 - (l.length+1)):=Nat.div_lt_of_lt_mul (by rw [Nat.mul_comm,← Nat.pow_succ,show (20 - (l.length+1)).succ=20 - l.length by omega];exact hm)
   simp only [go_sem,biq,ah,if_neg hs,er,eq]
   have hd3:decide (((m % 10:Nat):Int)<0)=false:=dfq (by omega)
   simp only [go_sem,biq,ah,if_neg hs,er,eq,zau,hd3]
   refine ⟨by omega,?_⟩
   refine ⟨⟨by omega,by omega⟩,by omega,(m/10,l++[m % 10]),⟨?_,?_,by simp;omega,by simpa using hq⟩,by omega,?_⟩
   ·rw [hn,mW,lAq,List.length_singleton,Nat.pow_succ,Nat.mul_assoc,Nat.add_assoc,← Nat.mul_add]
    congr 2;simp [dv];omega
   ·exact fun d hd=>by
     rcases List.mem_append.1 hd with hd|hd
     ·exact hl d hd
     ·rw [List.mem_singleton.1 hd];omega
   ·(simp only [bkq,enterW,aK,ltF,ne_eq,Nat.reduceEqDiff,reduceCtorEq,if_neg hs];try simp (disch:=first|exact Zd|omega) [↓zmk,beq,ybc,ybd,ybe,af,wk,wk2,wk1,wkM,wkL,aj,ybf,byq,biq,ah,hcl,if_neg hs];try (repeat' (first|assumption|omega|exact True.intro|refine And.intro ?_ ?_|refine ag ?_|refine aa ?_|refine ae ?_ ?_|refine ai ?_ ?_|refine aq ?_|exact lRq _|refine lPq ?_ _|refine AHeap.Le.del ?_ ?_|(simp only [bt,and_true,true_and,if_neg hs];first|done|omega|(simp;done)))))
  ·have h2':m=0:=by simp at h2;omega
   have ev:rAV (decide (n<0)) (dv l)=.agg [.bool (decide (n<0)),.slice .any 1 (cO (cG n.natAbs))]:=by
    exact Y143
   simp only [go_sem,biq,ah,if_neg hs,lQ,hl,ev,zAV]
   exact Y34
end Go.AL
open Go Go.AL Go.Proofs
namespace Go.AL
theorem KR:ti Tryz.prog 121=some ⟨.int .u64,1,8,.int .u64 0⟩:=by kernel_rfl
theorem tG:ti Tryz.prog 22=some ⟨.slice 5,1,24,.slice .nil 1 []⟩:=by kernel_rfl
theorem zU:ti Tryz.prog 5=some ⟨.int .u8,1,1,.int .u8 0⟩:=by kernel_rfl
theorem qN:ti Tryz.prog 9=some ⟨.string,1,16,.str []⟩:=by kernel_rfl
attribute [go_sem] KR tG zU qN
theorem Gm:Tryz.prog.eqGuardType Tryz.prog.depth 196=false:=by kernel_rfl
theorem Mp:Tryz.prog.eqGuardType Tryz.prog.depth 198=false:=by kernel_rfl
theorem HC {a b c d e f:Int}:teq Tryz.prog 9 196 (.agg [.int .u64 a,.int .u64 b,.int .u64 c]) (.agg [.int .u64 d,.int .u64 e,.int .u64 f])=some ((a==d)&&((b==e)&&((c==f)&&true))):=by
 simp [v5,teq,teq.arr,teq.part,uK,ceq,TD.agg]
theorem LU {a b c d e f:Int}:teq Tryz.prog 9 198 (.agg [.int .u64 a,.int .u64 b,.int .u64 c]) (.agg [.int .u64 d,.int .u64 e,.int .u64 f])=some (((a==d)&&((b==e)&&((c==f)&&true)))&&true):=by
 have g2:Tryz.prog.stoodInHeld 198=false:=by kernel_rfl
 simp [yR,v5,teq,teq.go,teq.arr,teq.part,uK,ceq,TD.agg,g2]
theorem OG {a b:Int} (ha:isN a) (hb:isN b):((w0 a==w0 b)&&((w1 a==w1 b)&&(w2 a==w2 b)))=decide (a=b):=by
 by_cases h:a=b
 ·subst h;simp
 ·rw [dfq h]
  have:=fun h0 h1 h2=>h (OK ha hb h0 h1 h2)
  simp only [Bool.and_eq_false_iff,beq_eq_false_iff_ne,ne_eq]
  by_cases h0:w0 a=w0 b
  ·by_cases h1:w1 a=w1 b
   ·exact .inr (.inr (this h0 h1))
   ·exact .inr (.inl h1)
  ·exact .inl h0
def ki (a b:Int):Int:=if a=b then 0 else if a<b then -1 else 1
def jT:List AV→AHeap→(AV→Prop)→Prop
 |[x,y],_,K=>∃ a b,(x=nAV a∧y=nAV b∧isN a∧isN b∧isN (a - b))∧K (.int .i64 (ki a b))
 |_,_,_=>False
theorem BO:EntOk Tryz.prog 406 (Ent.pure jT):=by
 refine Ype fun _ H K h=>?_
 unfold jT at h
 split at h
 rotate_left
 ·exact h.elim
 obtain ⟨a,b,⟨rfl,rfl,ha,hb,hc⟩,hK⟩:=h
 refine ⟨_,hK,?_⟩
 refine Yfv ax (tCq ER (tCq MN tNq)) Tryz.func406 [.tmp 4] fun hcl hlt=>?_
 clear hlt hK
 simp only [go_sem,byq,nAV,HC,Gm,Bool.bne_false,OG ha hb]
 refine au (fun h1=>?_) (fun h1=>?_)
 ·have h1':a=b:=by simpa using h1
  simp only [go_sem,byq,ki,if_pos h1']
  exact Z0
 ·have h1':¬ a=b:=by simpa using h1
  simp only [go_sem,byq,zZ]
  refine ⟨a,b,⟨rfl,rfl⟩,?_⟩
  simp only [go_sem,byq,nAV,DP]
  refine ⟨a - b,⟨rfl,hc⟩,?_⟩
  refine au (fun h2=>?_) (fun h2=>?_)
  ·have h2':a<b:=by simp at h2;omega
   simp only [go_sem,byq]
   exact Z5
  ·have h2':¬ a<b:=by simp at h2;omega
   simp only [go_sem,byq]
   exact Z5
def mT (a:Int):AV:=if 0≤a∧a<2^128 then .tup [.agg [.int .u64 (a/2^64),.int .u64 (a % 2^64)],.bool true] else .tup [.agg [.int .u64 0,.int .u64 0],.bool false]
def lC:List AV→AHeap→(AV→Prop)→Prop
 |[x],_,K=>∃ a,(x=nAV a∧isN a)∧K (mT a)
 |_,_,_=>False
theorem ya:EntOk Tryz.prog 396 (Ent.pure lC):=by
 refine Ype fun _ H K h=>?_
 unfold lC at h
 split at h
 rotate_left
 ·exact h.elim
 obtain ⟨a,⟨rfl,ha⟩,hK⟩:=h
 refine ⟨_,hK,?_⟩
 refine Yfv ax tNq Tryz.func396 [.cell 2 48,.tmp 3] fun hcl hlt=>?_
 clear hlt hK
 have hf:=NS ha
 simp only [go_sem,byq,nAV]
 refine ⟨by omega,au (fun h1=>?_) (fun h1=>?_)⟩
 ·have h1':¬ (0≤a∧a<2^128):=fun h=>by rw [← hf] at h;simp [h] at h1
  simp only [go_sem,byq,mT,if_neg h1']
  exact Z0
 ·have h1':(0≤a∧a<2^128):=by rw [← hf];simpa using h1
  have e1:w1 a=a/2^64:=by unfold w1;omega
  have e0:w0 a=a % 2^64:=rfl
  simp only [go_sem,byq,mT,if_pos h1',e1,e0]
  exact Y112
end Go.AL
open Go Go.AL Go.Proofs
namespace Go.AL
theorem J8:ti Tryz.prog 215=some ⟨.array 128 4,128,128,.agg (List.replicate 128 (.bool false))⟩:=by kernel_rfl
attribute [go_sem] J8
def lK (hi lo:Int):Prop:=0≤hi∧hi<18446744073709551616∧0≤lo∧lo<18446744073709551616
def oC:List AV→AHeap→(AV→Prop)→Prop
 |[.agg [.int .u64 hi,.int .u64 lo]],_,K=>lK hi lo∧K (.agg (bits (vOf hi.toNat lo.toNat)))
 |_,_,_=>False
theorem tR:EntOk Tryz.prog 299 (Ent.pure oC):=by
 refine Ype fun _ H K h=>?_
 unfold oC at h
 exact Y3
theorem ja:zAV 0=.agg [.bool false,.slice .any 1 []]:=by simp [zAV,bK,fa]
theorem fc {a:Int} (k:Nat) (h:a.natAbs<10^k) (hk:k≤200):fe a:=Nat.lt_of_lt_of_le h (Nat.pow_le_pow_right (by decide) hk)
def u7:List AV→AHeap→(AV→Prop)→Prop
 |[.agg [.int .u64 hi,.int .u64 lo]],_,K=>lK hi lo∧K (zAV (hi*2^64+lo))
 |_,_,_=>False
theorem Ks:EntOk Tryz.prog 473 (Ent.pure u7):=by
 refine Ype fun _ H K h=>?_
 unfold u7 at h
 split at h
 rotate_left
 ·exact h.elim
 rename_i hi lo
 obtain ⟨⟨h0,h1,h2,h3⟩,hK⟩:=h
 refine ⟨_,hK,?_⟩
 clear hK
 obtain ⟨x,rfl⟩:=bj h0
 obtain ⟨y,rfl⟩:=bj h2
 refine ACalls.fW ax (tCq tR (tCq Dk (tCq uX tNq))) Tryz.func473 [.cell 2 454] (nrq _) (T:=av [(8,[[],[],[0,1],[0,1,2]])]) (h:=fun hcl hlt=>?_)
 clear hlt
 have hv:vOf x y<2^128:=kB (by omega) (by omega)
 have hvz:((x:Int)*2^64+y)=((vOf x y:Nat):Int):=by unfold vOf;omega
 rw [hvz]
 generalize hvo:vOf x y=v at *
 have et:List.take 128 (bits v)=bits v:=ybc (by rw [bJ];omega)
 have es:splice (List.replicate 128 (.bool false)) 0 (bits v)=bits v:=dY (y:=.junk) (bJ v)
 simp only [go_sem,byq,biq,ah,oC,fX,lK,iNq,hvo,ja,bJ,eS,es]
 refine ⟨by omega,by simp,by omega,?_⟩
 have hz:∀ n:Nat,AV.agg [.bool (decide (((n:Nat):Int)<0)),.slice .any 1 (cO (cG (((n:Nat):Int)).natAbs))]=zAV (n:Int):=fun n=>rfl
 have hsm:∀ k,fe ((v >>> k:Nat):Int):=fun k=>fc 40 (by rw [Int.natAbs_natCast];exact Nat.lt_of_le_of_lt (Nat.shiftRight_le v k) (Nat.lt_trans hv (by decide))) (by decide)
 refine az (A:=Nat) (fun k=>[(5,.int .i64 ((k:Int) - 1)),(2,.ptr (H.nx+1) 0 ),(3,.ptr (H.nx+1+1) 0),(4,.ptr (H.nx+1+1+1) 0)])
  (fun k=>((((H.push (.cells [.int .u64 (x:Int),.int .u64 (y:Int)])).push (.cells [.bool false,.slice .nil 1 []])).push (.cells (bits v))).push (.cells [.bool (decide (((v >>> k:Nat):Int)<0)),.slice .any 1 (cO (cG (((v >>> k:Nat):Int)).natAbs))])))
  (fun k=>k≤128) (fun k=>k) 128 (by omega) ?_ fun k hk=>?_
 ·have e0:v >>> 128=0:=by rw [Nat.shiftRight_eq_div_pow,Nat.div_eq_of_lt hv]
  (simp only [bkq,enterW,aK,ltF,ne_eq,Nat.reduceEqDiff,reduceCtorEq,e0,bK,Int.natAbs_zero,dV];try simp (disch:=first|exact Zd|omega) [↓zmk,beq,ybc,ybd,ybe,af,wk,wk2,wk1,wkM,wkL,aj,ybf,byq,biq,ah,hcl,e0,bK,Int.natAbs_zero,dV];try (repeat' (first|assumption|omega|exact True.intro|refine And.intro ?_ ?_|refine ag ?_|refine aa ?_|refine ae ?_ ?_|refine ai ?_ ?_|refine aq ?_|exact lRq _|refine lPq ?_ _|refine AHeap.Le.del ?_ ?_|(simp only [bt,and_true,true_and,e0,bK,Int.natAbs_zero,dV];first|done|omega|(simp;done)))))
 simp only [go_sem,byq,biq,ah]
 refine au (fun h4=>?_) (fun h4=>?_)
 ·obtain ⟨j,rfl⟩:∃ j,k=j+1:=⟨k - 1,by simp at h4;omega⟩
  have ej:(((j+1:Nat):Int) - 1)=(j:Int):=by omega
  have e3:IntKind.i64.wrap ((j:Int) - 1)=(j:Int) - 1:=by rw [wrap_i64]<;>omega
  have hbit:v >>> j=2*(v >>> (j+1))+(if v.testBit j then 1 else 0):=by
   rw [Nat.testBit_eq_decide_div_mod_eq,Nat.shiftRight_eq_div_pow,Nat.shiftRight_eq_div_pow,Nat.pow_succ,← Nat.div_div_eq_div_mul]
   by_cases hb:v/2^j % 2=1
   ·rw [if_pos (by simpa using hb)];omega
   ·rw [if_neg (by simpa using hb)];omega
  simp only [go_sem,byq,biq,ah,ej,e3,jr,hz]
  refine ⟨((v >>> (j+1):Nat):Int),((v >>> (j+1):Nat):Int),⟨rfl,rfl,hsm _,hsm _⟩,?_⟩
  simp only [go_sem,byq,biq,ah,ej,e3,zAV,bJ,gF v j (by omega)]
  refine ⟨by omega,by omega,au (fun h5=>?_) (fun h5=>?_)⟩
  ·have hb2:v >>> j=2*(v >>> (j+1))+1:=by rw [hbit,if_pos h5]
   have hz2:AV.agg [.bool (decide (((v >>> (j+1):Nat):Int)+((v >>> (j+1):Nat):Int)<0)),.slice .any 1 (cO (cG (((v >>> (j+1):Nat):Int)+((v >>> (j+1):Nat):Int)).natAbs))]=zAV (((v >>> (j+1):Nat):Int)+((v >>> (j+1):Nat):Int)):=rfl
   simp only [go_sem,byq,biq,ah,fX,jr,hz2,e3]
   refine ⟨by omega,((v >>> (j+1):Nat):Int)+((v >>> (j+1):Nat):Int),1,⟨rfl,rfl,A9 (hsm j) (by omega),fc 2 (by decide) (by decide)⟩,?_⟩
   have en:((v >>> (j+1):Nat):Int)+((v >>> (j+1):Nat):Int)+1=((v >>> j:Nat):Int):=by omega
   exact Y156
  ·have hb2:v >>> j=2*(v >>> (j+1)):=by rw [hbit,h5];simp
   have en:((v >>> (j+1):Nat):Int)+((v >>> (j+1):Nat):Int)=((v >>> j:Nat):Int):=by omega
   exact Y156
 ·have h4':k=0:=by simp at h4;omega
  subst h4'
  simp only [go_sem,byq,biq,ah,zAV,Nat.shiftRight_zero]
  exact Z0
def limDigs:List Nat:=[6,5,4,1,1,2,8,6,7,1,3,4,7,0,6,4,7,3,3,6,4,3,6,4,8,3,9,0,2,9,6,6,3,2,8,2,0,4,3]
theorem Dw:cG (2^128)=limDigs:=by decide +kernel
def limText:List UInt8:=(limDigs.map fun d=>UInt8.ofNat (48+d)).reverse
theorem Dx:[51,52,48,50,56,50,51,54,54,57,50,48,57,51,56,52,54,51,52,54,51,51,55,52,54,48,55,52,51,49,55,54,56,50,49,49,52,53,54]=limText:=by decide +kernel
theorem Cb:∀ j,j<39→IntKind.i64.wrap (IntKind.u8.wrap (((limText.getD j 0).toNat:Int) - 48))=((limDigs.getD (38 - j) 0:Nat):Int):=by decide +kernel
theorem HZ:∀ j,j<39→limDigs.take (38 - j)++[limDigs.getD (38 - j) 0]=limDigs.take (39 - j):=by decide +kernel
def vT:List AV→AHeap→(AV→Prop)→Prop
 |[],_,K=>K (zAV (2^128))
 |_,_,_=>False
theorem G2:EntOk Tryz.prog 487 (Ent.pure vT):=by
 refine Ype fun _ H K h=>?_
 unfold vT at h
 split at h
 rotate_left
 ·exact h.elim
 refine ⟨_,h,?_⟩
 clear h
 refine Yfv ax tNq Tryz.func487 [.cell 0 454] fun hcl hlt=>?_
 clear hlt
 have hl:limText.length=39:=by decide +kernel
 have ew:IntKind.i64.wrap (((39:Nat):Int) - 1)=((39:Nat):Int) - 1:=by decide
 simp only [go_sem,byq,biq,ah,Dx,hl,ew]
 refine az (A:=Nat) (fun k=>[(3,.int .i64 ((k:Int) - 1)),(2,.slice (.own (H.nx+1)) 1 (cO (limDigs.take (39 - k)))),(1,.str limText),(0,.ptr H.nx 0)])
  (fun k=>(H.push (.cells [.bool false,.slice .nil 1 []])).push (.buf 1 (39 - k))) (fun k=>k≤39) (fun k=>k) 39 (by omega) ?_ fun k hk=>?_
 ·(simp only [bkq,enterW,aK,ltF,ne_eq,Nat.reduceEqDiff,reduceCtorEq,fa,Nat.sub_self,yar];try simp (disch:=first|exact Zd|omega) [↓zmk,beq,ybc,ybd,ybe,af,wk,wk2,wk1,wkM,wkL,aj,ybf,byq,biq,ah,hcl,fa,Nat.sub_self,yar];try (repeat' (first|assumption|omega|exact True.intro|refine And.intro ?_ ?_|refine ag ?_|refine aa ?_|refine ae ?_ ?_|refine ai ?_ ?_|refine aq ?_|exact lRq _|refine lPq ?_ _|refine AHeap.Le.del ?_ ?_|(simp only [bt,and_true,true_and,fa,Nat.sub_self,yar];first|done|omega|(simp;done)))))
 simp only [go_sem,byq,biq,ah]
 refine au (fun h4=>?_) (fun h4=>?_)
 ·obtain ⟨j,rfl⟩:∃ j,k=j+1:=⟨k - 1,by simp at h4;omega⟩
  have ej:(((j+1:Nat):Int) - 1)=(j:Int):=by omega
  have e3:IntKind.i64.wrap ((j:Int) - 1)=(j:Int) - 1:=by rw [wrap_i64]<;>omega
  have eg:=Cb j (by omega)
  have es:=HZ j (by omega)
  have el:(limDigs.take (38 - j)).length=38 - j:=by rw [List.length_take,show limDigs.length=39 from rfl];omega
  have e39:39 - (j+1)=38 - j:=by omega
  simp only [go_sem,byq,biq,ah,ej,e3,eg,hl,e39,es,el]
  have e40:38 - j+1=39 - j:=by omega
  refine ⟨by omega,by omega,j,by omega,by omega,?_⟩
  rw [e40]
  exact Z1
 ·have h4':k=0:=by simp at h4;omega
  subst h4'
  have ez:AV.agg [AV.bool false,AV.slice .any 1 (cO (List.take 39 limDigs))]=zAV (2^128):=by
   unfold zAV
   rw [show ((2:Int)^128).natAbs=2^128 by decide,Dw];rfl
  simp only [go_sem,byq,biq,ah]
  rw [← ez]
  exact Z0
def lW:List AV→AHeap→(AV→Prop)→Prop
 |[x],_,K=>∃ a,(x=zAV a∧fe a)∧K (.bool (decide (0≤a∧a<2^128)))
 |_,_,_=>False
theorem Jj:EntOk Tryz.prog 468 (Ent.pure lW):=by
 refine Ype fun _ H K h=>?_
 unfold lW at h
 split at h
 rotate_left
 ·exact h.elim
 obtain ⟨a,⟨rfl,ha⟩,hK⟩:=h
 refine ⟨_,hK,?_⟩
 clear hK
 refine ACalls.fW ax (tCq G2 (tCq Eq tNq)) Tryz.func468 [.tmp 2] (nrq _) (T:=av [(1,[[],[],[],[],[],[1],[1,4,5]])]) (h:=fun hcl hlt=>?_)
 clear hlt
 simp only [go_sem,biq,ah,zAV,vT,Eg]
 refine bx (fun h1=>?_) (fun h1=>?_)
 ·have h1':0≤a:=by simpa using h1
  refine ⟨a,2^128,⟨rfl,rfl,ha,fc 40 (by decide) (by decide)⟩,?_⟩
  have e:decide ((if a=2^128 then (0:Int) else if a<2^128 then -1 else 1)<0)=decide (0≤a∧a<2^128):=by
   rw [Bool.eq_iff_iff];simp only [decide_eq_true_eq]
   split
   ·omega
   ·split<;>omega
  try simp only [go_sem,biq,ah,e]
  exact Z0
 ·have h1':¬ (0≤a∧a<2^128):=by simp at h1;omega
  try simp only [go_sem,biq,ah,dfq h1']
  exact Z0
end Go.AL
open Go Go.AL Go.Proofs
namespace Go.AL
theorem Mq:ti Tryz.prog 173=some ⟨.slice 9,1,24,.slice .nil 1 []⟩:=by kernel_rfl
attribute [go_sem] Mq
def jz (s p:List UInt8):Bool:=s.take p.length==p
def kJ:List AV→AHeap→(AV→Prop)→Prop
 |[.str s,.str p],_,K=>K (.bool (jz s p))
 |_,_,_=>False
theorem qt:EntOk Tryz.prog 390 (Ent.pure kJ):=by
 refine Ype fun _ H K h=>?_
 unfold kJ at h
 split at h
 rotate_left
 ·exact h.elim
 rename_i s p
 refine ⟨_,h,?_⟩
 clear h
 refine Yfv ax tNq Tryz.func390 [.tmp 4] fun hcl hlt=>?_
 clear hlt
 simp only [go_sem,iNq,yap]
 refine bx (fun h1=>?_) (fun h1=>?_)
 ·have h1':p.length≤s.length:=by simpa using h1
  refine ⟨by omega,?_⟩
  simp (disch:=first|exact Zd|omega) [↓zmk,beq,ybc,ybd,ybe,af,wk,wk2,wk1,wkM,wkL,aj,ybf,hcl,jz]
 ·have h1':jz s p=false:=by
   have:¬ p.length≤s.length:=by simpa using h1
   unfold jz
   rw [ybc (by omega)]
   exact beq_eq_false_iff_ne.2 fun h=>this (by rw [h];exact nrq _)
  simp only [go_sem,h1']
  exact Z0
def ym (s p:List UInt8):AV:=.tup [.str (if jz s p then s.drop p.length else s),.bool (jz s p)]
def nC:List AV→AHeap→(AV→Prop)→Prop
 |[.str s,.str p],_,K=>K (ym s p)
 |_,_,_=>False
theorem xG:EntOk Tryz.prog 457 (Ent.pure nC):=by
 refine Ype fun _ H K h=>?_
 unfold nC at h
 split at h
 rotate_left
 ·exact h.elim
 rename_i s p
 refine ⟨_,h,?_⟩
 clear h
 refine Yfv ax (tCq qt tNq) Tryz.func457 [.tmp 4,.tmp 5] fun hcl hlt=>?_
 clear hlt
 simp only [go_sem,kJ,iNq,List.take_length]
 refine au (fun h1=>?_) (fun h1=>?_)
 ·have h1':jz s p=false:=by simpa using h1
  simp only [go_sem,ym,h1']
  exact Z0
 ·have h1':jz s p=true:=by simpa using h1
  have hle:p.length≤s.length:=by
   have:=eq_of_beq h1'
   have h2:=congrArg List.length this
   rw [List.length_take] at h2;omega
  simp only [go_sem,ym,h1',iNq,List.take_length]
  exact Y34
def oF:List AV→AHeap→(AV→Prop)→Prop
 |[.str s,.str p],_,K=>K (ym s p)
 |_,_,_=>False
theorem z9:EntOk Tryz.prog 393 (Ent.pure oF):=by
 refine Ype fun _ H K h=>?_
 unfold oF at h
 split at h
 rotate_left
 ·exact h.elim
 rename_i s p
 refine ⟨_,h,?_⟩
 clear h
 refine Yfv ax (tCq xG tNq) Tryz.func393 [.tmp 4,.tmp 5] fun hcl hlt=>?_
 clear hlt
 simp only [go_sem,nC,ym]
 exact Z0
def sj:List AV→AHeap→(AV→Prop)→Prop
 |[.int .u64 x,.int .u64 y],_,K=>((0≤x∧x<18446744073709551616)∧(y=10∨y=16))∧K (.tup [.int .u64 (x*y/18446744073709551616),.int .u64 (x*y % 18446744073709551616)])
 |_,_,_=>False
theorem pW {x:Int} (h:0≤x∧x<18446744073709551616):jA .u64 x 4294967295=x % 4294967296:=by
 obtain ⟨n,rfl⟩:=Int.eq_ofNat_of_zero_le h.1
 have:=lI n 4294967295 (by omega) (by decide)
 rw [show ((4294967295:Nat):Int)=4294967295 from rfl] at this
 rw [this]
 have h2:n &&& 4294967295=n % 2^32:=Nat.and_two_pow_sub_one_eq_mod n 32
 rw [h2];omega
theorem IW {x:Int}:nq .u64 x 32=x/4294967296:=by
 unfold nq
 rw [show min (32:Int).toNat IntKind.u64.bits=32 from rfl]
 exact Y162
theorem IB {a b y:Int} (ha:0≤a∧a<4294967296) (hb:0≤b∧b<4294967296) (hy:y=10∨y=16) :
 ((0+(a*y+b*y/4294967296)/4294967296) % 18446744073709551616+((a*y+b*y/4294967296) % 4294967296+0) % 18446744073709551616/4294967296) % 18446744073709551616=(4294967296*a+b)*y/18446744073709551616:=by
 have key:∀ d r:Int,0≤d→d<4294967296*32→0≤r→r<4294967296→((0+d/4294967296) % 18446744073709551616+(d % 4294967296+0) % 18446744073709551616/4294967296) % 18446744073709551616=(4294967296*d+r)/18446744073709551616:=fun d r h1 h2 h3 h4=>by
  have e:d=4294967296*(d/4294967296)+d % 4294967296:=by omega
  have f1:0≤d % 4294967296∧d % 4294967296<4294967296:=by omega
  generalize d/4294967296=p at *
  generalize d % 4294967296=q at *
  omega
 have hr:b*y=4294967296*(b*y/4294967296)+b*y % 4294967296:=by omega
 have hr2:0≤b*y % 4294967296∧b*y % 4294967296<4294967296:=by omega
 have e:(4294967296*a+b)*y=4294967296*(a*y+b*y/4294967296)+b*y % 4294967296:=by rw [Int.add_mul,Int.mul_assoc];omega
 rw [e]
 refine key _ _ ?_ ?_ hr2.1 hr2.2
 ·rcases hy with rfl|rfl<;>omega
 ·rcases hy with rfl|rfl<;>omega
theorem Kq:EntOk Tryz.prog 458 (Ent.pure sj):=by
 refine Ype fun _ H K h=>?_
 unfold sj at h
 split at h
 rotate_left
 ·exact h.elim
 rename_i x y
 obtain ⟨⟨hx,hy⟩,hK⟩:=h
 refine ⟨_,hK,?_⟩
 clear hK
 refine Yfv ax tNq Tryz.func458 [.tmp 4,.tmp 5] fun hcl hlt=>?_
 clear hlt
 have w:∀ x,IntKind.u64.wrap x=x % 18446744073709551616:=fun x=>by simp [IntKind.wrap,IntKind.signed,IntKind.bits]
 rcases hy with rfl|rfl
 ·have m1:=@pW x hx
  have m2:jA .u64 10 4294967295=10:=by decide +kernel
  have s2:nq .u64 10 32=0:=by decide +kernel
  have e1:IntKind.u64.wrap (x % 4294967296*10)=x % 4294967296*10:=by rw [w];omega
  have e2:IntKind.u64.wrap (x/4294967296*10)=x/4294967296*10:=by rw [w];omega
  have e3:IntKind.u64.wrap (x/4294967296*10+x % 4294967296*10/4294967296)=x/4294967296*10+x % 4294967296*10/4294967296:=by rw [w];omega
  have m3:=@pW (x/4294967296*10+x % 4294967296*10/4294967296) (by omega)
  have z1:IntKind.u64.wrap (x % 4294967296*0)=0:=by rw [Int.mul_zero];rfl
  have z2:IntKind.u64.wrap (x/4294967296*0)=0:=by rw [Int.mul_zero];rfl
  have e4:IntKind.u64.wrap (IntKind.u64.wrap (0+(x/4294967296*10+x % 4294967296*10/4294967296)/4294967296)+(IntKind.u64.wrap ((x/4294967296*10+x % 4294967296*10/4294967296) % 4294967296+0))/4294967296)=x*10/18446744073709551616:=by
   rw [w,w,w,IB (by omega) (by omega) (by omega)]
   congr 2;omega
  exact Y124
 ·have m1:=@pW x hx
  have m2:jA .u64 16 4294967295=16:=by decide +kernel
  have s2:nq .u64 16 32=0:=by decide +kernel
  have e1:IntKind.u64.wrap (x % 4294967296*16)=x % 4294967296*16:=by rw [w];omega
  have e2:IntKind.u64.wrap (x/4294967296*16)=x/4294967296*16:=by rw [w];omega
  have e3:IntKind.u64.wrap (x/4294967296*16+x % 4294967296*16/4294967296)=x/4294967296*16+x % 4294967296*16/4294967296:=by rw [w];omega
  have m3:=@pW (x/4294967296*16+x % 4294967296*16/4294967296) (by omega)
  have z1:IntKind.u64.wrap (x % 4294967296*0)=0:=by rw [Int.mul_zero];rfl
  have z2:IntKind.u64.wrap (x/4294967296*0)=0:=by rw [Int.mul_zero];rfl
  have e4:IntKind.u64.wrap (IntKind.u64.wrap (0+(x/4294967296*16+x % 4294967296*16/4294967296)/4294967296)+(IntKind.u64.wrap ((x/4294967296*16+x % 4294967296*16/4294967296) % 4294967296+0))/4294967296)=x*16/18446744073709551616:=by
   rw [w,w,w,IB (by omega) (by omega) (by omega)]
   congr 2;omega
  exact Y124
def dg (c:UInt8):Nat:=if 48≤c.toNat∧c.toNat≤57 then c.toNat - 48 else if 97≤c.toNat∧c.toNat≤102 then c.toNat - 87 else 99
def rP:List AV→AHeap→(AV→Prop)→Prop
 |[x,.int .u64 y],_,K=>∃ c,(x=bZ c∧(y=10∨y=16))∧K (.int .u64 (if (dg c:Int)<y then (dg c:Int) else y))
 |_,_,_=>False
theorem FU:EntOk Tryz.prog 394 (Ent.pure rP):=by
 refine Ype fun _ H K h=>?_
 unfold rP at h
 split at h
 rotate_left
 ·exact h.elim
 rename_i x y
 obtain ⟨c,⟨rfl,hy⟩,hK⟩:=h
 refine ⟨_,hK,?_⟩
 clear hK
 refine Yfv ax tNq Tryz.func394 [.tmp 4] fun hcl hlt=>?_
 clear hlt
 have hc:c.toNat<256:=UInt8.toNat_lt c
 have w8:∀ x,IntKind.u8.wrap x=x % 256:=fun x=>by simp [IntKind.wrap,IntKind.signed,IntKind.bits]
 have w:∀ x,IntKind.u64.wrap x=x % 18446744073709551616:=fun x=>by simp [IntKind.wrap,IntKind.signed,IntKind.bits]
 simp only [go_sem,bZ]
 refine bx (fun h1=>?_) (fun h1=>?_)
 ·refine au (fun h2=>?_) (fun h2=>?_)
  ·have hd:dg c=c.toNat - 48:=by unfold dg;rw [if_pos (by simp at h1 h2;omega)]
   have e:min (IntKind.u64.wrap (IntKind.u8.wrap ((c.toNat:Int) - 48))) y=if (dg c:Int)<y then (dg c:Int) else y:=by
    rw [w,w8,hd];simp at h1 h2;split<;>omega
   exact Y81
  ·simp only [go_sem]
   refine bx (fun h3=>?_) (fun h3=>?_)
   ·refine au (fun h4=>?_) (fun h4=>?_)
    ·have hd:dg c=c.toNat - 87:=by unfold dg;simp at h1 h2 h3 h4;rw [if_neg (by omega),if_pos (by omega)]
     have e:min (IntKind.u64.wrap (IntKind.u64.wrap (IntKind.u8.wrap ((c.toNat:Int) - 97))+10)) y=if (dg c:Int)<y then (dg c:Int) else y:=by
      rw [w,w,w8,hd];simp at h1 h2 h3 h4;split<;>omega
     exact Y81
    ·have hd:dg c=99:=by unfold dg;simp at h1 h2 h3 h4;rw [if_neg (by omega),if_neg (by omega)]
     have e:min y y=if (dg c:Int)<y then (dg c:Int) else y:=by rw [hd];split<;>omega
     exact Y81
   ·have hd:dg c=99:=by unfold dg;simp at h1 h2 h3;rw [if_neg (by omega),if_neg (by omega)]
    have e:min y y=if (dg c:Int)<y then (dg c:Int) else y:=by rw [hd];split<;>omega
    try simp only [go_sem,zau,e]
    exact Z0
 ·try simp only [go_sem,zau]
  refine bx (fun h3=>?_) (fun h3=>?_)
  ·refine au (fun h4=>?_) (fun h4=>?_)
   ·simp at h1 h3;omega
   ·have hd:dg c=99:=by unfold dg;simp at h1 h3 h4;rw [if_neg (by omega),if_neg (by omega)]
    have e:min y y=if (dg c:Int)<y then (dg c:Int) else y:=by rw [hd];split<;>omega
    exact Y81
  ·have hd:dg c=99:=by unfold dg;simp at h1 h3;rw [if_neg (by omega),if_neg (by omega)]
   have e:min y y=if (dg c:Int)<y then (dg c:Int) else y:=by rw [hd];split<;>omega
   simp only [go_sem,zau,e]
   exact Z0
def og (z:Int) (k:Nat):List AV:=[.int .u64 (if 0<k then w0 z else 0),.int .u64 (if 1<k then w1 z else 0),.int .u64 (if 2<k then w2 z else 0)]
def mck (a y m:Int) (k:Nat):Int:=match k with
 |0=>m
 |1=>(a % 2^64*y+m)/2^64
 |2=>(a % 2^128*y+m)/2^128
 |_=>(a*y+m)/2^192
theorem Iy {a y m:Int} (h0:0≤a) (h1:a<2^128) (hy:y=10∨y=16) (hm:0≤m∧m<y) :
 ((w0 a*y+m) % 2^64=w0 (a*y+m)∧(w0 a*y+m)/2^64=mck a y m 1)∧((w1 a*y+mck a y m 1) % 2^64=w1 (a*y+m)∧(w1 a*y+mck a y m 1)/2^64=mck a y m 2) ∧
 ((w2 a*y+mck a y m 2) % 2^64=w2 (a*y+m)∧(w2 a*y+mck a y m 2)/2^64=0)∧(0≤mck a y m 1∧mck a y m 1<16)∧(0≤mck a y m 2∧mck a y m 2<16):=by
 have split:∀ z:Int,0≤z→z<2^192→z=w0 z+18446744073709551616*w1 z+340282366920938463463374607431768211456*w2 z:=fun z g0 g1=>by unfold w0 w1 w2;omega
 have a0:=uv a
 have a1:=uo a
 have a2:=ud a
 have ha:=split a h0 (by omega)
 have hp:0≤a*y+m∧a*y+m<2^192:=by rcases hy with rfl|rfl<;>omega
 have hz:=split (a*y+m) hp.1 hp.2
 have b0:=uv (a*y+m)
 have b1:=uo (a*y+m)
 have b2:=ud (a*y+m)
 have q2:w2 a=0:=by generalize w0 a=x0 at *;generalize w1 a=x1 at *;generalize w2 a=x2 at *;omega
 have e1:a % 2^64=w0 a:=rfl
 have e2:a % 2^128=a:=by omega
 simp only [mck,e1,e2,q2] at *
 generalize w0 (a*y+m)=z0 at *
 generalize w1 (a*y+m)=z1 at *
 generalize w2 (a*y+m)=z2 at *
 generalize w0 a=x0 at *
 generalize w1 a=x1 at *
 subst ha
 clear q2 e1 e2 split h0 h1 a2
 have k2:((x0+18446744073709551616*x1+340282366920938463463374607431768211456*0)*y+m)/2^128=z2:=by omega
 have k1:(x0*y+m)/2^64=z1+18446744073709551616*z2 - x1*y:=by rcases hy with rfl|rfl<;>omega
 have k0:(x0*y+m) % 2^64=z0:=by rcases hy with rfl|rfl<;>omega
 rw [k2,k1,k0]
 have k3:0≤x0*y+m∧x0*y+m<16*18446744073709551616:=by rcases hy with rfl|rfl<;>omega
 have k4:z1+18446744073709551616*z2 - x1*y<16∧0≤z1+18446744073709551616*z2 - x1*y:=by omega
 have k5:z2<16:=by rcases hy with rfl|rfl<;>omega
 refine ⟨⟨?_,?_⟩,⟨?_,?_⟩,⟨?_,?_⟩,⟨?_,?_⟩,?_,?_⟩<;>first|trivial|omega
def sB:List AV→AHeap→(AV→Prop)→Prop
 |[x,.int .u64 y,.int .u64 m],_,K=>∃ a,(x=nAV a∧(0≤a∧a<2^128)∧(y=10∨y=16)∧0≤m∧m<y)∧K (nAV (a*y+m))
 |_,_,_=>False
theorem Hj:EntOk Tryz.prog 395 (Ent.pure sB):=by
 refine Ype fun _ H K h=>?_
 unfold sB at h
 split at h
 rotate_left
 ·exact h.elim
 rename_i y m
 obtain ⟨a,⟨rfl,ha,hy,hm⟩,hK⟩:=h
 refine ⟨_,hK,?_⟩
 refine Yfv ax (tCq Kq (tCq Bc tNq)) Tryz.func395 [.cell 6 198] fun hcl hlt=>?_
 clear hlt hK
 obtain ⟨⟨s1,s2⟩,⟨s3,s4⟩,⟨s5,s6⟩,r1,r2⟩:=Iy ha.1 ha.2 hy hm
 have a0:=uv a
 have a1:=uo a
 have a2:=ud a
 have hml:0≤m∧m<18446744073709551616:=by omega
 have split:∀ x m':Int,(0≤x∧x<18446744073709551616)→(0≤m'∧m'<16)→(x*y % 18446744073709551616+m'+0) % 18446744073709551616=(x*y+m') % 2^64∧IntKind.u64.wrap (x*y/18446744073709551616+(x*y % 18446744073709551616+m'+0)/18446744073709551616)=(x*y+m')/2^64:=fun x m' hx hm'=>by
  have w:∀ x,IntKind.u64.wrap x=x % 18446744073709551616:=fun x=>by simp [IntKind.wrap,IntKind.signed,IntKind.bits]
  rw [w]
  have e:x*y=18446744073709551616*(x*y/18446744073709551616)+x*y % 18446744073709551616:=by omega
  have b:0≤x*y∧x*y<18446744073709551616*16:=by rcases hy with rfl|rfl<;>omega
  generalize x*y=z at *
  constructor<;>omega
 have m0:mck a y m 0=m:=rfl
 simp only [go_sem,nAV]
 refine az (A:=Nat) (fun k=>[(13,.int .i64 (k:Int)),(1,.int .u64 y),(2,.int .u64 (if k=3 then 0 else mck a y m k)),(3,.ptr H.nx 0),(6,.ptr (H.nx+1) 0),(7,.ptr (H.nx+1+1) 0)])
  (fun k=>((H.push (.cells [.int .u64 (w0 a),.int .u64 (w1 a),.int .u64 (w2 a)])).push (.cells [.int .u64 0,.int .u64 0,.int .u64 0])).push (.cells (og (a*y+m) k)))
  (fun k=>k≤3) (fun k=>3 - k) 0 (by omega) ?_ fun k hk=>?_
 ·(simp only [bkq,enterW,aK,ltF,ne_eq,Nat.reduceEqDiff,reduceCtorEq,og,Nat.lt_irrefl,if_false,Nat.not_lt_zero,m0];try simp (disch:=first|exact Zd|omega) [↓zmk,beq,ybc,ybd,ybe,af,wk,wk2,wk1,wkM,wkL,aj,ybf,byq,biq,ah,hcl,og,Nat.lt_irrefl,if_false,Nat.not_lt_zero,m0];try (repeat' (first|assumption|omega|exact True.intro|refine And.intro ?_ ?_|refine ag ?_|refine aa ?_|refine ae ?_ ?_|refine ai ?_ ?_|refine aq ?_|exact lRq _|refine lPq ?_ _|refine AHeap.Le.del ?_ ?_|(simp only [bt,and_true,true_and,og,Nat.lt_irrefl,if_false,Nat.not_lt_zero,m0];first|done|omega|(simp;done)))))
 rcases (by omega:k=0∨k=1∨k=2∨k=3) with rfl|rfl|rfl|rfl
 ·have hd:decide (((0:Nat):Int)<3)=true:=rfl
  have e1:IntKind.i64.wrap (((0:Nat):Int)+1)=((1:Nat):Int):=by rw [wrap_i64]<;>omega
  have t1:((0:Nat):Int).toNat=0:=rfl
  obtain ⟨f1,f2⟩:=split (w0 a) m a0 (by omega)
  rw [s1] at f1
  rw [s2] at f2
  simp only [go_sem,zat,sj,mf,hd,og,e1,t1,m0,f1,f2,Int.reduceLT,Nat.reduceEqDiff]
  refine ⟨by omega,by omega,by omega,by omega,1,by omega,by omega,?_⟩
  exact Z9
 ·have hd:decide (((1:Nat):Int)<3)=true:=rfl
  have e1:IntKind.i64.wrap (((1:Nat):Int)+1)=((2:Nat):Int):=by rw [wrap_i64]<;>omega
  have t1:((1:Nat):Int).toNat=1:=rfl
  obtain ⟨f1,f2⟩:=split (w1 a) (mck a y m 1) a1 (by omega)
  rw [s3] at f1
  rw [s4] at f2
  simp only [go_sem,zat,sj,mf,hd,og,e1,t1,f1,f2,Nat.reduceEqDiff]
  refine ⟨by omega,by omega,by omega,by omega,2,by omega,by omega,?_⟩
  exact Z9
 ·have hd:decide (((2:Nat):Int)<3)=true:=rfl
  have e1:IntKind.i64.wrap (((2:Nat):Int)+1)=((3:Nat):Int):=by rw [wrap_i64]<;>omega
  have t1:((2:Nat):Int).toNat=2:=rfl
  obtain ⟨f1,f2⟩:=split (w2 a) (mck a y m 2) a2 (by omega)
  rw [s5] at f1
  rw [s6] at f2
  simp only [go_sem,zat,sj,mf,hd,og,e1,t1,f1,f2,Nat.reduceEqDiff]
  refine ⟨by omega,by omega,by omega,by omega,3,by omega,by omega,?_⟩
  exact Z9
 ·have hd:decide (((3:Nat):Int)<3)=false:=rfl
  simp only [go_sem,zau,hd,og]
  exact Z0
def fB (base:Nat):Nat→List UInt8→Option Nat
 |n,[]=>some n
 |n,c::s=>if dg c<base then (if n*base+dg c<2^128 then fB base (n*base+dg c) s else none) else none
def lit (s:List UInt8):Option Nat:=if jz s [48,120] then (if s.drop 2=[] then none else fB 16 0 (s.drop 2)) else if s=[] then none else fB 10 0 s
theorem lw {a b:Nat} {G:Prop} (h1:a<b→G) (h2:b≤a→G):G:=(Nat.lt_or_ge a b).elim h1 h2
def uI (o:Option Nat):AV:=match o with
 |some n=>.tup [nAV n,.bool true]
 |none=>.tup [nAV 0,.bool false]
def nn:List AV→AHeap→(AV→Prop)→Prop
 |[.str s],_,K=>(s.length≤140737488355328)∧K (uI (lit s))
 |_,_,_=>False
theorem uc:EntOk Tryz.prog 282 (Ent.pure nn):=by
 refine Ype fun _ H K h=>?_
 unfold nn at h
 split at h
 rotate_left
 ·exact h.elim
 rename_i s
 obtain ⟨hl,hK⟩:=h
 refine ⟨_,hK,?_⟩
 refine Yfv ax (tCq z9 (tCq FU (tCq Hj (tCq ya tNq)))) Tryz.func282 [.cell 2 198,.tmp 3] fun hcl hlt=>?_
 clear hlt hK
 have z0:nAV 0=.agg [.int .u64 0,.int .u64 0,.int .u64 0]:=rfl
 simp only [go_sem,oF,ym]
 refine au (fun h1=>?_) (fun h1=>?_)
 ·simp only [go_sem,h1]
  have hl':(s.drop 2).length≤140737488355328:=by rw [List.length_drop];omega
  have hr:lit s=if s.drop 2=[] then none else fB 16 0 (s.drop 2):=by unfold lit;rw [h1];simp
  rw [hr]
  clear hr h1 hl
  generalize s.drop 2=b at *
  refine ⟨by omega,?_⟩
  refine az (A:=Nat × Nat) (fun x=>[(0,.str b),(2,.ptr H.nx 0),(4,.int .u64 16),(7,.ptr (H.nx+1) 0),(21,.slice .any 1 (bys b)),(22,.int .i64 (b.length:Int)),(23,.int .i64 (x.1:Int))])
   (fun x=>(H.push (.cells [.int .u64 0,.int .u64 0,.int .u64 0])).push (.cells [.int .u64 (w0 (x.2:Int)),.int .u64 (w1 (x.2:Int)),.int .u64 (w2 (x.2:Int))]))
   (fun x=>x.1≤b.length∧x.2<2^128∧fB 16 0 b=fB 16 x.2 (b.drop x.1)) (fun x=>b.length - x.1) (0,0) ⟨by omega,by decide,rfl⟩ ?_ fun x hI=>?_
  ·have z1:w0 0=0:=rfl
   have z2:w1 0=0:=rfl
   have z3:w2 0=0:=rfl
   exact Z10
  obtain ⟨k,n⟩:=x
  obtain ⟨hk,hn,hl2⟩:=hI
  dsimp only at *
  simp only [go_sem,byq]
  refine au (fun h2=>?_) (fun h2=>?_)
  ·have h2':k<b.length:=by simpa using h2
   rw [dcq h2'] at hl2
   have hg:(bys b).getD k .junk=bZ b[k]:=by rw [Ay h2'];simp [gEq,h2']
   have e5:=Yk5 k
   simp only [fB] at hl2
   generalize b[k]=c at *
   simp only [go_sem,byq,hg,rP]
   refine ⟨by omega,c,rfl,?_⟩
   by_cases hd:dg c<16
   ·have hdi:((dg c:Nat):Int)<16:=by omega
    rw [if_pos hdi]
    rw [if_pos hd] at hl2
    have hne:(((dg c:Nat):Int)==16)=false:=by simp;omega
    have hz:AV.agg [.int .u64 (w0 (n:Int)),.int .u64 (w1 (n:Int)),.int .u64 (w2 (n:Int))]=nAV (n:Int):=rfl
    simp only [go_sem,byq,zau,hne,sB]
    refine ⟨(n:Int),⟨rfl,by omega,by omega,by omega⟩,?_⟩
    obtain ⟨z,hz2⟩:∃ z:Int,z=((n*16+dg c:Nat):Int):=⟨_,rfl⟩
    have en:((n:Int)*16+(dg c:Nat))=z:=by omega
    have hN:isN z:=⟨by omega,by omega⟩
    refine lw (a:=n*16+dg c) (b:=2^128) (fun hf=>?_) (fun hf=>?_)
    ·rw [if_pos hf] at hl2
     have hv:mT z=.tup [.agg [.int .u64 (z/2^64),.int .u64 (z % 2^64)],.bool true]:=by unfold mT;rw [if_pos (by omega)]
     simp only [go_sem,byq,en,nAV,lC]
     refine ⟨z,⟨rfl,hN⟩,?_⟩
     simp only [go_sem,byq,zau,hv,e5]
     exact Y173
    ·exact Y65
   ·rw [if_neg (by omega)]
    rw [if_neg hd] at hl2
    have hbn:b≠[]:=by intro h;subst h;simp at h2'
    have he:((16:Int)==16)=true:=rfl
    simp only [go_sem,byq,zat,hl2,if_neg hbn,uI,z0,he]
    exact Z0
  ·exact Y54
 ·simp only [go_sem,h1]
  have hl':(s).length≤140737488355328:=by exact hl
  have hr:lit s=if s=[] then none else fB 10 0 (s):=by unfold lit;rw [h1];simp
  rw [hr]
  clear hr h1 hl
  generalize s=b at *
  refine ⟨by omega,?_⟩
  refine az (A:=Nat × Nat) (fun x=>[(0,.str b),(2,.ptr H.nx 0),(4,.int .u64 10),(7,.ptr (H.nx+1) 0),(21,.slice .any 1 (bys b)),(22,.int .i64 (b.length:Int)),(23,.int .i64 (x.1:Int))])
   (fun x=>(H.push (.cells [.int .u64 0,.int .u64 0,.int .u64 0])).push (.cells [.int .u64 (w0 (x.2:Int)),.int .u64 (w1 (x.2:Int)),.int .u64 (w2 (x.2:Int))]))
   (fun x=>x.1≤b.length∧x.2<2^128∧fB 10 0 b=fB 10 x.2 (b.drop x.1)) (fun x=>b.length - x.1) (0,0) ⟨by omega,by decide,rfl⟩ ?_ fun x hI=>?_
  ·have z1:w0 0=0:=rfl
   have z2:w1 0=0:=rfl
   have z3:w2 0=0:=rfl
   exact Z10
  obtain ⟨k,n⟩:=x
  obtain ⟨hk,hn,hl2⟩:=hI
  dsimp only at *
  simp only [go_sem,byq]
  refine au (fun h2=>?_) (fun h2=>?_)
  ·have h2':k<b.length:=by simpa using h2
   rw [dcq h2'] at hl2
   have hg:(bys b).getD k .junk=bZ b[k]:=by rw [Ay h2'];simp [gEq,h2']
   have e5:=Yk5 k
   simp only [fB] at hl2
   generalize b[k]=c at *
   simp only [go_sem,byq,hg,rP]
   refine ⟨by omega,c,rfl,?_⟩
   by_cases hd:dg c<10
   ·have hdi:((dg c:Nat):Int)<10:=by omega
    rw [if_pos hdi]
    rw [if_pos hd] at hl2
    have hne:(((dg c:Nat):Int)==10)=false:=by simp;omega
    have hz:AV.agg [.int .u64 (w0 (n:Int)),.int .u64 (w1 (n:Int)),.int .u64 (w2 (n:Int))]=nAV (n:Int):=rfl
    simp only [go_sem,byq,zau,hne,sB]
    refine ⟨(n:Int),⟨rfl,by omega,by omega,by omega⟩,?_⟩
    obtain ⟨z,hz2⟩:∃ z:Int,z=((n*10+dg c:Nat):Int):=⟨_,rfl⟩
    have en:((n:Int)*10+(dg c:Nat))=z:=by omega
    have hN:isN z:=⟨by omega,by omega⟩
    refine lw (a:=n*10+dg c) (b:=2^128) (fun hf=>?_) (fun hf=>?_)
    ·rw [if_pos hf] at hl2
     have hv:mT z=.tup [.agg [.int .u64 (z/2^64),.int .u64 (z % 2^64)],.bool true]:=by unfold mT;rw [if_pos (by omega)]
     simp only [go_sem,byq,en,nAV,lC]
     refine ⟨z,⟨rfl,hN⟩,?_⟩
     simp only [go_sem,byq,zau,hv,e5]
     refine ⟨(k+1,n*10+dg c),⟨by omega,hf,hl2⟩,by omega,?_⟩
     exact Z11
    ·exact Y65
   ·rw [if_neg (by omega)]
    rw [if_neg hd] at hl2
    have hbn:b≠[]:=by intro h;subst h;simp at h2'
    have he:((10:Int)==10)=true:=rfl
    simp only [go_sem,byq,zat,hl2,if_neg hbn,uI,z0,he]
    exact Z0
  ·exact Y54
end Go.AL
