/- Lemmas of the proof; no condition. -/
import Derived.Test.YtjnhidpnfdbmaaaGreatLVal
import Derived.Test.YtjnhidpnfdbmaaaGreatAlByte
import Derived.Test.YtjnhidpnfdbmaaaGreatAlBun
set_option linter.all false
set_option maxRecDepth 10000
set_option maxHeartbeats 32000000
open List renaming length_cons → yaz, length_nil → yba, take_of_length_le → ybc, drop_append → ybd, take_append → ybe, drop_eq_nil_of_le → ybf, drop_zero → yap
namespace Go.AL
open Go
def w0 (z:Int):Int:=z % 2^64
def w1 (z:Int):Int:=z/2^64 % 2^64
def w2 (z:Int):Int:=z/2^64/2^64 % 2^64
def nAV (z:Int):AV:=.agg [.int .u64 (w0 z),.int .u64 (w1 z),.int .u64 (w2 z)]
theorem rn (z:Int):0≤w0 z∧w0 z<18446744073709551616:=by unfold w0;omega
theorem rA (z:Int):0≤w1 z∧w1 z<18446744073709551616:=by unfold w1;omega
theorem rB (z:Int):0≤w2 z∧w2 z<18446744073709551616:=by unfold w2;omega
theorem Lt (a b:Int):(w0 a+w0 b) % 2^64=w0 (a+b):=by unfold w0;omega
theorem Lg (a b:Int):(w1 a+w1 b+(w0 a+w0 b)/2^64) % 2^64=w1 (a+b):=by unfold w0 w1;omega
theorem J5 (a b:Int):(w2 a+w2 b+(w1 a+w1 b+(w0 a+w0 b)/2^64)/2^64) % 2^64=w2 (a+b):=by unfold w0 w1 w2;omega
theorem KC (a:Int):2^64 - 1 - w0 a=w0 (-1 - a):=by unfold w0;omega
theorem KS (a:Int):2^64 - 1 - w1 a=w1 (-1 - a):=by unfold w1;omega
theorem KK (a:Int):2^64 - 1 - w2 a=w2 (-1 - a):=by unfold w2;omega
theorem E0 (n:Int) (h : -(2^63)≤n∧n<2^63):w1 n=(if n<0 then 2^64 - 1 else 0)∧w2 n=(if n<0 then 2^64 - 1 else 0):=by
 unfold w1 w2;split<;>constructor<;>omega
theorem KW (hi lo:Int) (h1:0≤hi∧hi<2^64) (h2:0≤lo∧lo<2^64):w0 (hi*2^64+lo)=lo∧w1 (hi*2^64+lo)=hi∧w2 (hi*2^64+lo)=0:=by
 unfold w0 w1 w2;refine ⟨?_,?_,?_⟩<;>omega
theorem LU {a b:Int} (ha : -(2^191)≤a∧a<2^191) (hb : -(2^191)≤b∧b<2^191) (h0:w0 a=w0 b) (h1:w1 a=w1 b) (h2:w2 a=w2 b):a=b:=by
 unfold w0 at h0;unfold w1 at h1;unfold w2 at h2;omega
theorem Mp {a:Int} (ha : -(2^191)≤a∧a<2^191):w2 a/2^63=if a<0 then 1 else 0:=by
 unfold w2;split<;>omega
theorem KF {a:Int} (ha : -(2^191)≤a∧a<2^191):w2 a=0↔0≤a∧a<2^128:=by
 unfold w2;omega
theorem tP (x:Int) (h:0≤x∧x<18446744073709551616):Cf .u64 (if IntKind.u64.signed=true then -1 else IntKind.u64.max) x=2^64 - 1 - x:=by
 obtain ⟨n,rfl⟩:=Int.eq_ofNat_of_zero_le h.1
 have hn:n<2^64:=by omega
 have e:(if IntKind.u64.signed=true then (-1:Int) else IntKind.u64.max)=((2^64 - 1:Nat):Int):=rfl
 rw [e,ub _ _ (by decide) hn]
 have h1:=congrArg BitVec.toNat (BitVec.allOnes_xor (x:=BitVec.ofNat 64 n))
 rw [BitVec.toNat_xor,BitVec.toNat_not,BitVec.toNat_allOnes,BitVec.toNat_ofNat,Nat.mod_eq_of_lt hn] at h1
 rw [h1];omega
end Go.AL
open Go Go.AL Go.Proofs
namespace Go.AL
theorem v9:ti Tryz.prog 3=some ⟨.int .i64,1,8,.int .i64 0⟩:=by kernel_rfl
theorem GT:ti Tryz.prog 29=some ⟨.struct [(0,27,false),(1,27,false)],2,16,.agg [.int .u64 0,.int .u64 0]⟩:=by kernel_rfl
theorem r9:ti Tryz.prog 27=some ⟨.int .u64,1,8,.int .u64 0⟩:=by kernel_rfl
theorem uT:ti Tryz.prog 194=some ⟨.struct [(0,192,false)],3,24,.agg [.int .u64 0,.int .u64 0,.int .u64 0]⟩:=by kernel_rfl
theorem t5:ti Tryz.prog 192=some ⟨.array 3 27,3,24,.agg [.int .u64 0,.int .u64 0,.int .u64 0]⟩:=by kernel_rfl
attribute [go_sem] v9 GT r9 uT t5
def jL:List AV→AHeap→(AV→Prop)→Prop
 |[.int .u64 x,.int .u64 y,.int .u64 c],_,K=>(0≤x∧0≤y∧0≤c∧c≤1)∧K (.tup [.int .u64 ((x+y+c) % 18446744073709551616),.int .u64 ((x+y+c)/18446744073709551616)])
 |_,_,_=>False
theorem yI:EntOk Tryz.prog 196 (Ent.pure jL):=by
 refine Ype fun _ H K h=>?_
 unfold jL at h
 split at h
 rotate_left
 ·exact h.elim
 obtain ⟨⟨h1,h2,h3,h4⟩,hK⟩:=h
 exact ⟨_,hK,xd Tryz.func196 (by kernel_rfl) (by kernel_rfl) (by kernel_rfl) (by kernel_rfl) h1 h2 h3 h4⟩
def Bf:List AV→AHeap→(AV→Prop)→Prop
 |[.int .i64 n],_,K=>(-9223372036854775808≤n∧n<9223372036854775808)∧K (nAV n)
 |_,_,_=>False
theorem EI:EntOk Tryz.prog 152 (Ent.pure Bf):=by
 refine Ype fun _ H K h=>?_
 unfold Bf at h
 split at h
 rotate_left
 ·exact h.elim
 rename_i n
 obtain ⟨⟨h1,h2⟩,hK⟩:=h
 refine ⟨_,hK,?_⟩
 refine ACalls.fW ax tNq Tryz.func152 [.cell 2 194] (nrq _) (T:=aq []) (h:=fun hcl hlt=>?_)
 clear hlt hK
 have e0:IntKind.u64.wrap n=w0 n:=by
  unfold w0;simp [IntKind.wrap,IntKind.bits,IntKind.signed]
 have es:ly .i64 n 63=n/2^63:=by
  unfold ly
  rw [show min (63:Int).toNat IntKind.i64.bits=63 from rfl]
  exact Int.fdiv_eq_ediv_of_nonneg _ (by decide)
 have e1:IntKind.u64.wrap (ly .i64 n 63)=w1 n:=by
  rw [es,(E0 n (by omega)).1];simp [IntKind.wrap,IntKind.bits,IntKind.signed];split<;>omega
 have e2:w2 n=w1 n:=by rw [(E0 n (by omega)).1,(E0 n (by omega)).2]
 simp only [go_sem,zav,byq,e0,e1]
 refine ⟨by omega,?_⟩
 unfold nAV
 rw [e2]
 exact Z0
def CY (a b:Int) (k:Nat):List AV:=[.int .u64 (if 0<k then w0 (a+b) else 0),.int .u64 (if 1<k then w1 (a+b) else 0),.int .u64 (if 2<k then w2 (a+b) else 0)]
def cyk (a b:Int) (k:Nat):Int:=match k with
 |0=>0
 |1=>(w0 a+w0 b)/2^64
 |2=>(w1 a+w1 b+(w0 a+w0 b)/2^64)/2^64
 |_=>(w2 a+w2 b+(w1 a+w1 b+(w0 a+w0 b)/2^64)/2^64)/2^64
theorem AD (a b:Int):∀ k,0≤cyk a b k∧cyk a b k≤1:=by
 have a0:=rn a
 have a1:=rA a
 have a2:=rB a
 have b0:=rn b
 have b1:=rA b
 have b2:=rB b
 intro k
 unfold cyk
 split<;>omega
theorem Mf (a b:Int):(w0 a+w0 b+cyk a b 0) % 18446744073709551616=w0 (a+b)∧(w0 a+w0 b+cyk a b 0)/18446744073709551616=cyk a b 1:=by
 have:=Lt a b;simp only [cyk];constructor<;>omega
theorem MF (a b:Int):(w1 a+w1 b+cyk a b 1) % 18446744073709551616=w1 (a+b)∧(w1 a+w1 b+cyk a b 1)/18446744073709551616=cyk a b 2:=by
 have:=Lg a b;simp only [cyk];constructor<;>omega
theorem LY (a b:Int):(w2 a+w2 b+cyk a b 2) % 18446744073709551616=w2 (a+b)∧(w2 a+w2 b+cyk a b 2)/18446744073709551616=cyk a b 3:=by
 have:=J5 a b;simp only [cyk];constructor<;>omega
def w5:List AV→AHeap→(AV→Prop)→Prop
 |[x,y],_,K=>∃ a b,(x=nAV a∧y=nAV b)∧K (nAV (a+b))
 |_,_,_=>False
theorem wm:EntOk Tryz.prog 180 (Ent.pure w5):=by
 refine Ype fun _ H K h=>?_
 unfold w5 at h
 split at h
 rotate_left
 ·exact h.elim
 obtain ⟨a,b,⟨rfl,rfl⟩,hK⟩:=h
 refine ⟨_,hK,?_⟩
 refine ACalls.fW ax (tCq yI tNq) Tryz.func180 [.cell 4 194] (nrq _) (T:=aq []) (h:=fun hcl hlt=>?_)
 clear hlt hK
 simp only [go_sem,byq,nAV]
 refine sO (A:=Nat) (fun k=>[(8,.int .i64 (k:Int)),(6,.int .u64 (cyk a b k)),(5,.ptr (H.nx+1+1+1) 0),(4,.ptr (H.nx+1+1) 0),(3,.ptr (H.nx+1) 0),(2,.ptr H.nx 0)])
  (fun k=>(((H.push (.cells [.int .u64 (w0 a),.int .u64 (w1 a),.int .u64 (w2 a)])).push (.cells [.int .u64 (w0 b),.int .u64 (w1 b),.int .u64 (w2 b)])).push (.cells [.int .u64 0,.int .u64 0,.int .u64 0])).push (.cells (CY a b k)))
  (fun k=>k≤3) (fun k=>3 - k) 0 (by omega) ?_ fun k hk=>?_
 ·simp only [bnq,enter,tH,ltF,ne_eq,Nat.reduceEqDiff,reduceCtorEq,cyk,CY,Nat.lt_irrefl,if_false,true_or,and_true,Nat.not_lt_zero]
 have a0:=rn a
 have a1:=rA a
 have a2:=rB a
 have b0:=rn b
 have b1:=rA b
 have b2:=rB b
 rcases (by omega:k=0∨k=1∨k=2∨k=3) with rfl|rfl|rfl|rfl
 ·have hd:decide (((0:Nat):Int)<3)=true:=rfl
  have e1:IntKind.i64.wrap (((0:Nat):Int)+1)=((1:Nat):Int):=by rw [wrap_i64]<;>omega
  have hc:=AD a b 0
  obtain ⟨s1,s2⟩:=Mf a b
  have t1:((0:Nat):Int).toNat=0:=rfl
  simp only [go_sem,zat,byq,jL,hd,CY,e1,s1,s2,t1]
  refine ⟨by omega,by omega,by omega,by omega,.inr (by omega),1,by omega,by omega,?_⟩
  simp only [bnq,enter,tH,ltF,ne_eq,Nat.reduceEqDiff,reduceCtorEq]
  exact .inl rfl
 ·have hd:decide (((1:Nat):Int)<3)=true:=rfl
  have e1:IntKind.i64.wrap (((1:Nat):Int)+1)=((2:Nat):Int):=by rw [wrap_i64]<;>omega
  have hc:=AD a b 1
  obtain ⟨s1,s2⟩:=MF a b
  have t1:((1:Nat):Int).toNat=1:=rfl
  simp only [go_sem,zat,byq,jL,hd,CY,e1,s1,s2,t1]
  refine ⟨by omega,by omega,by omega,by omega,.inr (by omega),2,by omega,by omega,?_⟩
  simp only [bnq,enter,tH,ltF,ne_eq,Nat.reduceEqDiff,reduceCtorEq]
  exact .inl rfl
 ·have hd:decide (((2:Nat):Int)<3)=true:=rfl
  have e1:IntKind.i64.wrap (((2:Nat):Int)+1)=((3:Nat):Int):=by rw [wrap_i64]<;>omega
  have hc:=AD a b 2
  obtain ⟨s1,s2⟩:=LY a b
  have t1:((2:Nat):Int).toNat=2:=rfl
  simp only [go_sem,zat,byq,jL,hd,CY,e1,s1,s2,t1]
  refine ⟨by omega,by omega,by omega,by omega,.inr (by omega),3,by omega,by omega,?_⟩
  simp only [bnq,enter,tH,ltF,ne_eq,Nat.reduceEqDiff,reduceCtorEq]
  exact .inl rfl
 ·have hd:decide (((3:Nat):Int)<3)=false:=rfl
  simp only [go_sem,zau,byq,hd,CY]
  exact Z0
def CK (a:Int) (k:Nat):List AV:=[.int .u64 (if 0<k then w0 (-1 - a) else w0 a),.int .u64 (if 1<k then w1 (-1 - a) else w1 a),.int .u64 (if 2<k then w2 (-1 - a) else w2 a)]
def zZ:List AV→AHeap→(AV→Prop)→Prop
 |[x],_,K=>∃ a,x=nAV a∧K (nAV (-a))
 |_,_,_=>False
theorem Bl:EntOk Tryz.prog 179 (Ent.pure zZ):=by
 refine Ype fun _ H K h=>?_
 unfold zZ at h
 split at h
 rotate_left
 ·exact h.elim
 obtain ⟨a,rfl,hK⟩:=h
 refine ⟨_,hK,?_⟩
 refine ACalls.fW ax (tCq wm (tCq EI tNq)) Tryz.func179 [.cell 2 194] (nrq _) (T:=aq []) (h:=fun hcl hlt=>?_)
 clear hlt hK
 simp only [go_sem,byq,nAV]
 refine sO (A:=Nat) (fun k=>[(4,.int .i64 (k:Int)),(2,.ptr (H.nx+1) 0),(1,.ptr H.nx 0)])
  (fun k=>(H.push (.cells (CK a k))).push (.cells [.int .u64 0,.int .u64 0,.int .u64 0]))
  (fun k=>k≤3) (fun k=>3 - k) 0 (by omega) ?_ fun k hk=>?_
 ·simp only [bnq,enter,tH,ltF,ne_eq,Nat.reduceEqDiff,reduceCtorEq,CK,Nat.lt_irrefl,if_false,true_or,and_true,Nat.not_lt_zero]
 rcases (by omega:k=0∨k=1∨k=2∨k=3) with rfl|rfl|rfl|rfl
 ·have hd:decide (((0:Nat):Int)<3)=true:=rfl
  have e1:IntKind.i64.wrap (((0:Nat):Int)+1)=((1:Nat):Int):=by rw [wrap_i64]<;>omega
  have t1:((0:Nat):Int).toNat=0:=rfl
  have hx:=tP (w0 a) (rn a)
  rw [KC] at hx
  simp only [go_sem,zat,byq,hd,CK,e1,t1,hx]
  refine ⟨by omega,by omega,1,by omega,by omega,?_⟩
  simp only [bnq,enter,tH,ltF,ne_eq,Nat.reduceEqDiff,reduceCtorEq]
  exact .inl rfl
 ·have hd:decide (((1:Nat):Int)<3)=true:=rfl
  have e1:IntKind.i64.wrap (((1:Nat):Int)+1)=((2:Nat):Int):=by rw [wrap_i64]<;>omega
  have t1:((1:Nat):Int).toNat=1:=rfl
  have hx:=tP (w1 a) (rA a)
  rw [KS] at hx
  simp only [go_sem,zat,byq,hd,CK,e1,t1,hx]
  refine ⟨by omega,by omega,2,by omega,by omega,?_⟩
  simp only [bnq,enter,tH,ltF,ne_eq,Nat.reduceEqDiff,reduceCtorEq]
  exact .inl rfl
 ·have hd:decide (((2:Nat):Int)<3)=true:=rfl
  have e1:IntKind.i64.wrap (((2:Nat):Int)+1)=((3:Nat):Int):=by rw [wrap_i64]<;>omega
  have t1:((2:Nat):Int).toNat=2:=rfl
  have hx:=tP (w2 a) (rB a)
  rw [KK] at hx
  simp only [go_sem,zat,byq,hd,CK,e1,t1,hx]
  refine ⟨by omega,by omega,3,by omega,by omega,?_⟩
  simp only [bnq,enter,tH,ltF,ne_eq,Nat.reduceEqDiff,reduceCtorEq]
  exact .inl rfl
 ·have hd:decide (((3:Nat):Int)<3)=false:=rfl
  simp only [go_sem,zau,byq,hd,CK,w5,Bf]
  refine ⟨by omega,-1 - a,1,⟨rfl,rfl⟩,?_⟩
  have en:(-1 - a+1) = -a:=by omega
  simp only [go_sem,zau,byq,en,nAV]
  simp (disch:=first|exact Zd|omega) [↓zmo,beq,ybc,ybd,ybe,ae,wk,wk2,wk1,wkM,wkL,ah,ybf,hcl]
  refine .inr ⟨-1 - a,1,⟨⟨rfl,rfl,rfl⟩,rfl,rfl,rfl⟩,?_⟩
  rw [en];exact ⟨rfl,rfl,rfl⟩
def wE:List AV→AHeap→(AV→Prop)→Prop
 |[x,y],_,K=>∃ a b,(x=nAV a∧y=nAV b)∧K (nAV (a - b))
 |_,_,_=>False
theorem Bv:EntOk Tryz.prog 181 (Ent.pure wE):=by
 refine Ype fun _ H K h=>?_
 unfold wE at h
 split at h
 rotate_left
 ·exact h.elim
 obtain ⟨a,b,⟨rfl,rfl⟩,hK⟩:=h
 refine ⟨_,hK,?_⟩
 refine ACalls.fW ax (tCq wm (tCq Bl tNq)) Tryz.func181 [.cell 4 194] (nrq _) (T:=aq []) (h:=fun hcl hlt=>?_)
 clear hlt hK
 simp only [go_sem,byq,nAV]
 refine ⟨b,rfl,?_⟩
 simp only [go_sem,byq,nAV]
 refine ⟨a,-b,⟨rfl,rfl⟩,?_⟩
 have en:a + -b=a - b:=by omega
 simp only [go_sem,byq,en,nAV]
 simp (disch:=first|exact Zd|omega) [↓zmo,beq,ybc,ybd,ybe,ae,wk,wk2,wk1,wkM,wkL,ah,ybf,hcl]
 exact ⟨.inr ⟨a,-b,⟨rfl,rfl⟩,by rw [en];rfl⟩,.inr ⟨b,rfl,rfl⟩⟩
def isN (a:Int):Prop := -(2^191)≤a∧a<2^191
def AM:List AV→AHeap→(AV→Prop)→Prop
 |[x],_,K=>∃ a,(x=nAV a∧isN a)∧K (.bool (decide (a<0)))
 |_,_,_=>False
theorem Ji:EntOk Tryz.prog 200 (Ent.pure AM):=by
 refine Ype fun _ H K h=>?_
 unfold AM at h
 split at h
 rotate_left
 ·exact h.elim
 obtain ⟨a,⟨rfl,ha⟩,hK⟩:=h
 refine ⟨_,hK,?_⟩
 refine ACalls.fW ax tNq Tryz.func200 [.tmp 2] (nrq _) (T:=aq []) (h:=fun hcl hlt=>?_)
 clear hlt hK
 have hs:ly .u64 (w2 a) 63=w2 a/2^63:=by
  unfold ly
  rw [show min (63:Int).toNat IntKind.u64.bits=63 from rfl]
  exact Int.fdiv_eq_ediv_of_nonneg _ (by decide)
 rw [Mp ha] at hs
 have hb:(ly .u64 (w2 a) 63==1)=decide (a<0):=by
  rw [hs];by_cases h:a<0
  ·rw [if_pos h,dtq h];rfl
  ·rw [if_neg h,dfq h];rfl
 simp only [go_sem,zav,byq,nAV,hb]
 refine ⟨by omega,?_⟩
 exact Z0
def sf:List AV→AHeap→(AV→Prop)→Prop
 |[.agg [.int .u64 hi,.int .u64 lo]],_,K=>((0≤hi∧hi<18446744073709551616)∧(0≤lo∧lo<18446744073709551616))∧K (nAV (hi*2^64+lo))
 |_,_,_=>False
theorem xL:EntOk Tryz.prog 119 (Ent.pure sf):=by
 refine Ype fun _ H K h=>?_
 unfold sf at h
 split at h
 rotate_left
 ·exact h.elim
 rename_i hi lo
 obtain ⟨⟨h1,h2⟩,hK⟩:=h
 refine ⟨_,hK,?_⟩
 refine ACalls.fW ax tNq Tryz.func119 [.cell 2 194] (nrq _) (T:=aq []) (h:=fun hcl hlt=>?_)
 clear hlt hK
 obtain ⟨e0,e1,e2⟩:=KW hi lo h1 h2
 simp only [go_sem,zav,byq,nAV,e0,e1,e2]
 exact Z0
def isD (l:List Nat):Prop:=∀ d∈l,d<10
def dig (n i:Nat):Nat:=n/10^i % 10
def first (k n:Nat):List Nat:=(List.range k).map (dig n)
end Go.AL
open Go Go.AL Go.Proofs
namespace Go.AL
theorem GC:ti Tryz.prog 4=some ⟨.bool,1,1,.bool false⟩:=by kernel_rfl
theorem HV:ti Tryz.prog 50=some ⟨.slice 3,1,24,.slice .nil 1 []⟩:=by kernel_rfl
theorem Kj:ti Tryz.prog 270=some ⟨.struct [(0,4,false),(1,50,false)],2,32,.agg [.bool false,.slice .nil 1 []]⟩:=by kernel_rfl
attribute [go_sem] GC HV Kj
def MO (l:List AV):Prop:=isI l∧isD (uni l)
theorem aH {l:List Nat}:MO (gq l)=isD l:=by unfold MO;rw [sU,kI];simp
end Go.AL
open Go Go.AL Go.Proofs
namespace Go.AL
end Go.AL
open Go Go.AL Go.Proofs
namespace Go.AL
theorem Gr:ti Tryz.prog 163=some ⟨.int .u64,1,8,.int .u64 0⟩:=by kernel_rfl
theorem qo:ti Tryz.prog 22=some ⟨.slice 5,1,24,.slice .nil 1 []⟩:=by kernel_rfl
theorem wc:ti Tryz.prog 5=some ⟨.int .u8,1,1,.int .u8 0⟩:=by kernel_rfl
theorem tI:ti Tryz.prog 9=some ⟨.string,1,16,.str []⟩:=by kernel_rfl
attribute [go_sem] Gr qo wc tI
theorem CZ:Tryz.prog.eqGuardType Tryz.prog.depth 192=false:=by kernel_rfl
theorem Il:Tryz.prog.eqGuardType Tryz.prog.depth 194=false:=by kernel_rfl
theorem Dt {a b c d e f:Int}:teq Tryz.prog 9 192 (.agg [.int .u64 a,.int .u64 b,.int .u64 c]) (.agg [.int .u64 d,.int .u64 e,.int .u64 f])=some ((a==d)&&((b==e)&&((c==f)&&true))):=by
 simp [t5,teq,teq.arr,teq.part,r9,ceq,TD.agg]
theorem Jw {a b c d e f:Int}:teq Tryz.prog 9 194 (.agg [.int .u64 a,.int .u64 b,.int .u64 c]) (.agg [.int .u64 d,.int .u64 e,.int .u64 f])=some (((a==d)&&((b==e)&&((c==f)&&true)))&&true):=by
 have g2:Tryz.prog.stoodInHeld 194=false:=by kernel_rfl
 simp [uT,t5,teq,teq.go,teq.arr,teq.part,r9,ceq,TD.agg,g2]
theorem MS {a b:Int} (ha:isN a) (hb:isN b):((w0 a==w0 b)&&((w1 a==w1 b)&&(w2 a==w2 b)))=decide (a=b):=by
 by_cases h:a=b
 ·subst h;simp
 ·rw [dfq h]
  have:=fun h0 h1 h2=>h (LU ha hb h0 h1 h2)
  simp only [Bool.and_eq_false_iff,beq_eq_false_iff_ne,ne_eq]
  by_cases h0:w0 a=w0 b
  ·by_cases h1:w1 a=w1 b
   ·exact .inr (.inr (this h0 h1))
   ·exact .inr (.inl h1)
  ·exact .inl h0
def lC (a b:Int):Int:=if a=b then 0 else if a<b then -1 else 1
def iy:List AV→AHeap→(AV→Prop)→Prop
 |[x,y],_,K=>∃ a b,(x=nAV a∧y=nAV b∧isN a∧isN b∧isN (a - b))∧K (.int .i64 (lC a b))
 |_,_,_=>False
theorem xZ:EntOk Tryz.prog 182 (Ent.pure iy):=by
 refine Ype fun _ H K h=>?_
 unfold iy at h
 split at h
 rotate_left
 ·exact h.elim
 obtain ⟨a,b,⟨rfl,rfl,ha,hb,hc⟩,hK⟩:=h
 refine ⟨_,hK,?_⟩
 refine ACalls.fW ax (tCq Bv (tCq Ji tNq)) Tryz.func182 [.tmp 4] (nrq _) (T:=aq []) (h:=fun hcl hlt=>?_)
 clear hlt hK
 simp only [go_sem,byq,nAV,Dt,CZ,Bool.bne_false,MS ha hb]
 refine aj (fun h1=>?_) (fun h1=>?_)
 ·have h1':a=b:=by simpa using h1
  simp only [go_sem,byq,lC,if_pos h1']
  exact Z0
 ·have h1':¬ a=b:=by simpa using h1
  simp only [go_sem,byq,wE]
  refine ⟨a,b,⟨rfl,rfl⟩,?_⟩
  simp only [go_sem,byq,nAV,AM]
  refine ⟨a - b,⟨rfl,hc⟩,?_⟩
  refine aj (fun h2=>?_) (fun h2=>?_)
  ·have h2':a<b:=by simp at h2;omega
   simp only [go_sem,byq]
   exact Z1
  ·have h2':¬ a<b:=by simp at h2;omega
   simp only [go_sem,byq]
   exact Z1
def kV (a:Int):AV:=if 0≤a∧a<2^128 then .tup [.agg [.int .u64 (a/2^64),.int .u64 (a % 2^64)],.bool true] else .tup [.agg [.int .u64 0,.int .u64 0],.bool false]
def jz:List AV→AHeap→(AV→Prop)→Prop
 |[x],_,K=>∃ a,(x=nAV a∧isN a)∧K (kV a)
 |_,_,_=>False
theorem ve:EntOk Tryz.prog 172 (Ent.pure jz):=by
 refine Ype fun _ H K h=>?_
 unfold jz at h
 split at h
 rotate_left
 ·exact h.elim
 obtain ⟨a,⟨rfl,ha⟩,hK⟩:=h
 refine ⟨_,hK,?_⟩
 refine ACalls.fW ax tNq Tryz.func172 [.cell 2 29,.tmp 3] (nrq _) (T:=aq []) (h:=fun hcl hlt=>?_)
 clear hlt hK
 have hf:=KF ha
 simp only [go_sem,byq,nAV]
 refine ⟨by omega,aj (fun h1=>?_) (fun h1=>?_)⟩
 ·have h1':¬ (0≤a∧a<2^128):=fun h=>by rw [← hf] at h;simp [h] at h1
  simp only [go_sem,byq,kV,if_neg h1']
  exact Z0
 ·have h1':(0≤a∧a<2^128):=by rw [← hf];simpa using h1
  have e1:w1 a=a/2^64:=by unfold w1;omega
  have e0:w0 a=a % 2^64:=rfl
  simp only [go_sem,byq,kV,if_pos h1',e1,e0]
  refine ⟨by omega,by omega,?_⟩
  exact Z0
end Go.AL
open Go Go.AL Go.Proofs
namespace Go.AL
theorem Er:ti Tryz.prog 236=some ⟨.array 128 4,128,128,.agg (List.replicate 128 (.bool false))⟩:=by kernel_rfl
attribute [go_sem] Er
def Hj (hi lo:Int):Prop:=0≤hi∧hi<18446744073709551616∧0≤lo∧lo<18446744073709551616
end Go.AL
open Go Go.AL Go.Proofs
namespace Go.AL
theorem IB:ti Tryz.prog 124=some ⟨.slice 9,1,24,.slice .nil 1 []⟩:=by kernel_rfl
attribute [go_sem] IB
def mF (s p:List UInt8):Bool:=s.take p.length==p
def je:List AV→AHeap→(AV→Prop)→Prop
 |[.str s,.str p],_,K=>K (.bool (mF s p))
 |_,_,_=>False
theorem nK:EntOk Tryz.prog 166 (Ent.pure je):=by
 refine Ype fun _ H K h=>?_
 unfold je at h
 split at h
 rotate_left
 ·exact h.elim
 rename_i s p
 refine ⟨_,h,?_⟩
 clear h
 refine ACalls.fW ax tNq Tryz.func166 [.tmp 4] (nrq _) (T:=aq []) (h:=fun hcl hlt=>?_)
 clear hlt
 simp only [go_sem,iNq,yap]
 refine bB (fun h1=>?_) (fun h1=>?_)
 ·have h1':p.length≤s.length:=by simpa using h1
  refine ⟨by omega,?_⟩
  simp (disch:=first|exact Zd|omega) [↓zmo,beq,ybc,ybd,ybe,ae,wk,wk2,wk1,wkM,wkL,ah,ybf,hcl,mF]
 ·have h1':mF s p=false:=by
   have:¬ p.length≤s.length:=by simpa using h1
   unfold mF
   rw [ybc (by omega)]
   exact beq_eq_false_iff_ne.2 fun h=>this (by rw [h];exact nrq _)
  simp only [go_sem,h1']
  exact Z0
def vB (s p:List UInt8):AV:=.tup [.str (if mF s p then s.drop p.length else s),.bool (mF s p)]
def lq:List AV→AHeap→(AV→Prop)→Prop
 |[.str s,.str p],_,K=>K (vB s p)
 |_,_,_=>False
theorem uJ:EntOk Tryz.prog 194 (Ent.pure lq):=by
 refine Ype fun _ H K h=>?_
 unfold lq at h
 split at h
 rotate_left
 ·exact h.elim
 rename_i s p
 refine ⟨_,h,?_⟩
 clear h
 refine ACalls.fW ax (tCq nK tNq) Tryz.func194 [.tmp 4,.tmp 5] (nrq _) (T:=aq []) (h:=fun hcl hlt=>?_)
 clear hlt
 simp only [go_sem,je,iNq,List.take_length]
 refine aj (fun h1=>?_) (fun h1=>?_)
 ·have h1':mF s p=false:=by simpa using h1
  simp only [go_sem,vB,h1']
  exact Z0
 ·have h1':mF s p=true:=by simpa using h1
  have hle:p.length≤s.length:=by
   have:=eq_of_beq h1'
   have h2:=congrArg List.length this
   rw [List.length_take] at h2;omega
  simp only [go_sem,vB,h1',iNq,List.take_length]
  refine ⟨by omega,?_⟩
  exact Z0
def l6:List AV→AHeap→(AV→Prop)→Prop
 |[.str s,.str p],_,K=>K (vB s p)
 |_,_,_=>False
theorem xJ:EntOk Tryz.prog 169 (Ent.pure l6):=by
 refine Ype fun _ H K h=>?_
 unfold l6 at h
 split at h
 rotate_left
 ·exact h.elim
 rename_i s p
 refine ⟨_,h,?_⟩
 clear h
 refine ACalls.fW ax (tCq uJ tNq) Tryz.func169 [.tmp 4,.tmp 5] (nrq _) (T:=aq []) (h:=fun hcl hlt=>?_)
 clear hlt
 simp only [go_sem,lq,vB]
 exact Z0
def pk:List AV→AHeap→(AV→Prop)→Prop
 |[.int .u64 x,.int .u64 y],_,K=>((0≤x∧x<18446744073709551616)∧(y=10∨y=16))∧K (.tup [.int .u64 (x*y/18446744073709551616),.int .u64 (x*y % 18446744073709551616)])
 |_,_,_=>False
theorem mY {x:Int} (h:0≤x∧x<18446744073709551616):xt .u64 x 4294967295=x % 4294967296:=by
 obtain ⟨n,rfl⟩:=Int.eq_ofNat_of_zero_le h.1
 have:=kU n 4294967295 (by omega) (by decide)
 rw [show ((4294967295:Nat):Int)=4294967295 from rfl] at this
 rw [this]
 have h2:n &&& 4294967295=n % 2^32:=Nat.and_two_pow_sub_one_eq_mod n 32
 rw [h2];omega
theorem Fz {x:Int}:ly .u64 x 32=x/4294967296:=by
 unfold ly
 rw [show min (32:Int).toNat IntKind.u64.bits=32 from rfl]
 exact Int.fdiv_eq_ediv_of_nonneg _ (by decide)
theorem Fa {a b y:Int} (ha:0≤a∧a<4294967296) (hb:0≤b∧b<4294967296) (hy:y=10∨y=16) :
 ((0+(a*y+b*y/4294967296)/4294967296) % 18446744073709551616+((a*y+b*y/4294967296) % 4294967296+0) % 18446744073709551616/4294967296) % 18446744073709551616=(4294967296*a+b)*y/18446744073709551616:=by
 have key:∀ d r:Int,0≤d→d<4294967296*32→0≤r→r<4294967296→((0+d/4294967296) % 18446744073709551616+(d % 4294967296+0) % 18446744073709551616/4294967296) % 18446744073709551616=(4294967296*d+r)/18446744073709551616:=fun d r h1 h2 h3 h4=>by
  have e:d=4294967296*(d/4294967296)+d % 4294967296:=by omega
  have f1:0≤d % 4294967296∧d % 4294967296<4294967296:=by omega
  generalize d/4294967296=p at *
  generalize d % 4294967296=q at *
  omega
 have hr:b*y=4294967296*(b*y/4294967296)+b*y % 4294967296:=by omega
 have hr2:0≤b*y % 4294967296∧b*y % 4294967296<4294967296:=by omega
 have e:(4294967296*a+b)*y=4294967296*(a*y+b*y/4294967296)+b*y % 4294967296:=by rw [Int.add_mul,Int.mul_assoc];omega
 rw [e]
 refine key _ _ ?_ ?_ hr2.1 hr2.2
 ·rcases hy with rfl|rfl<;>omega
 ·rcases hy with rfl|rfl<;>omega
theorem Fj:EntOk Tryz.prog 195 (Ent.pure pk):=by
 refine Ype fun _ H K h=>?_
 unfold pk at h
 split at h
 rotate_left
 ·exact h.elim
 rename_i x y
 obtain ⟨⟨hx,hy⟩,hK⟩:=h
 refine ⟨_,hK,?_⟩
 clear hK
 refine ACalls.fW ax tNq Tryz.func195 [.tmp 4,.tmp 5] (nrq _) (T:=aq []) (h:=fun hcl hlt=>?_)
 clear hlt
 have w:∀ x,IntKind.u64.wrap x=x % 18446744073709551616:=fun x=>by simp [IntKind.wrap,IntKind.signed,IntKind.bits]
 rcases hy with rfl|rfl
 ·have m1:=@mY x hx
  have m2:xt .u64 10 4294967295=10:=by decide +kernel
  have s2:ly .u64 10 32=0:=by decide +kernel
  have e1:IntKind.u64.wrap (x % 4294967296*10)=x % 4294967296*10:=by rw [w];omega
  have e2:IntKind.u64.wrap (x/4294967296*10)=x/4294967296*10:=by rw [w];omega
  have e3:IntKind.u64.wrap (x/4294967296*10+x % 4294967296*10/4294967296)=x/4294967296*10+x % 4294967296*10/4294967296:=by rw [w];omega
  have m3:=@mY (x/4294967296*10+x % 4294967296*10/4294967296) (by omega)
  have z1:IntKind.u64.wrap (x % 4294967296*0)=0:=by rw [Int.mul_zero];rfl
  have z2:IntKind.u64.wrap (x/4294967296*0)=0:=by rw [Int.mul_zero];rfl
  have e4:IntKind.u64.wrap (IntKind.u64.wrap (0+(x/4294967296*10+x % 4294967296*10/4294967296)/4294967296)+(IntKind.u64.wrap ((x/4294967296*10+x % 4294967296*10/4294967296) % 4294967296+0))/4294967296)=x*10/18446744073709551616:=by
   rw [w,w,w,Fa (by omega) (by omega) (by omega)]
   congr 2;omega
  simp only [go_sem,Fz,m1,m2,m3,e1,e2,e3,z1,z2,s2]
  refine ⟨by omega,by omega,by omega,by omega,by omega,?_⟩
  rw [e4,w]
  exact Z0
 ·have m1:=@mY x hx
  have m2:xt .u64 16 4294967295=16:=by decide +kernel
  have s2:ly .u64 16 32=0:=by decide +kernel
  have e1:IntKind.u64.wrap (x % 4294967296*16)=x % 4294967296*16:=by rw [w];omega
  have e2:IntKind.u64.wrap (x/4294967296*16)=x/4294967296*16:=by rw [w];omega
  have e3:IntKind.u64.wrap (x/4294967296*16+x % 4294967296*16/4294967296)=x/4294967296*16+x % 4294967296*16/4294967296:=by rw [w];omega
  have m3:=@mY (x/4294967296*16+x % 4294967296*16/4294967296) (by omega)
  have z1:IntKind.u64.wrap (x % 4294967296*0)=0:=by rw [Int.mul_zero];rfl
  have z2:IntKind.u64.wrap (x/4294967296*0)=0:=by rw [Int.mul_zero];rfl
  have e4:IntKind.u64.wrap (IntKind.u64.wrap (0+(x/4294967296*16+x % 4294967296*16/4294967296)/4294967296)+(IntKind.u64.wrap ((x/4294967296*16+x % 4294967296*16/4294967296) % 4294967296+0))/4294967296)=x*16/18446744073709551616:=by
   rw [w,w,w,Fa (by omega) (by omega) (by omega)]
   congr 2;omega
  simp only [go_sem,Fz,m1,m2,m3,e1,e2,e3,z1,z2,s2]
  refine ⟨by omega,by omega,by omega,by omega,by omega,?_⟩
  rw [e4,w]
  exact Z0
def dg (c:UInt8):Nat:=if 48≤c.toNat∧c.toNat≤57 then c.toNat - 48 else if 97≤c.toNat∧c.toNat≤102 then c.toNat - 87 else 99
def pP:List AV→AHeap→(AV→Prop)→Prop
 |[x,.int .u64 y],_,K=>∃ c,(x=bY c∧(y=10∨y=16))∧K (.int .u64 (if (dg c:Int)<y then (dg c:Int) else y))
 |_,_,_=>False
theorem CM:EntOk Tryz.prog 170 (Ent.pure pP):=by
 refine Ype fun _ H K h=>?_
 unfold pP at h
 split at h
 rotate_left
 ·exact h.elim
 rename_i x y
 obtain ⟨c,⟨rfl,hy⟩,hK⟩:=h
 refine ⟨_,hK,?_⟩
 clear hK
 refine ACalls.fW ax tNq Tryz.func170 [.tmp 4] (nrq _) (T:=aq []) (h:=fun hcl hlt=>?_)
 clear hlt
 have hc:c.toNat<256:=UInt8.toNat_lt c
 have w8:∀ x,IntKind.u8.wrap x=x % 256:=fun x=>by simp [IntKind.wrap,IntKind.signed,IntKind.bits]
 have w:∀ x,IntKind.u64.wrap x=x % 18446744073709551616:=fun x=>by simp [IntKind.wrap,IntKind.signed,IntKind.bits]
 simp only [go_sem,bY]
 refine bB (fun h1=>?_) (fun h1=>?_)
 ·refine aj (fun h2=>?_) (fun h2=>?_)
  ·have hd:dg c=c.toNat - 48:=by unfold dg;rw [if_pos (by simp at h1 h2;omega)]
   have e:min (IntKind.u64.wrap (IntKind.u8.wrap ((c.toNat:Int) - 48))) y=if (dg c:Int)<y then (dg c:Int) else y:=by
    rw [w,w8,hd];simp at h1 h2;split<;>omega
   simp only [go_sem,e]
   exact Z0
  ·simp only [go_sem]
   refine bB (fun h3=>?_) (fun h3=>?_)
   ·refine aj (fun h4=>?_) (fun h4=>?_)
    ·have hd:dg c=c.toNat - 87:=by unfold dg;simp at h1 h2 h3 h4;rw [if_neg (by omega),if_pos (by omega)]
     have e:min (IntKind.u64.wrap (IntKind.u64.wrap (IntKind.u8.wrap ((c.toNat:Int) - 97))+10)) y=if (dg c:Int)<y then (dg c:Int) else y:=by
      rw [w,w,w8,hd];simp at h1 h2 h3 h4;split<;>omega
     simp only [go_sem,e]
     exact Z0
    ·have hd:dg c=99:=by unfold dg;simp at h1 h2 h3 h4;rw [if_neg (by omega),if_neg (by omega)]
     have e:min y y=if (dg c:Int)<y then (dg c:Int) else y:=by rw [hd];split<;>omega
     simp only [go_sem,e]
     exact Z0
   ·have hd:dg c=99:=by unfold dg;simp at h1 h2 h3;rw [if_neg (by omega),if_neg (by omega)]
    have e:min y y=if (dg c:Int)<y then (dg c:Int) else y:=by rw [hd];split<;>omega
    try simp only [go_sem,zau,e]
    exact Z0
 ·try simp only [go_sem,zau]
  refine bB (fun h3=>?_) (fun h3=>?_)
  ·refine aj (fun h4=>?_) (fun h4=>?_)
   ·simp at h1 h3;omega
   ·have hd:dg c=99:=by unfold dg;simp at h1 h3 h4;rw [if_neg (by omega),if_neg (by omega)]
    have e:min y y=if (dg c:Int)<y then (dg c:Int) else y:=by rw [hd];split<;>omega
    simp only [go_sem,e]
    exact Z0
  ·have hd:dg c=99:=by unfold dg;simp at h1 h3;rw [if_neg (by omega),if_neg (by omega)]
   have e:min y y=if (dg c:Int)<y then (dg c:Int) else y:=by rw [hd];split<;>omega
   simp only [go_sem,zau,e]
   exact Z0
def mE (z:Int) (k:Nat):List AV:=[.int .u64 (if 0<k then w0 z else 0),.int .u64 (if 1<k then w1 z else 0),.int .u64 (if 2<k then w2 z else 0)]
def mck (a y m:Int) (k:Nat):Int:=match k with
 |0=>m
 |1=>(a % 2^64*y+m)/2^64
 |2=>(a % 2^128*y+m)/2^128
 |_=>(a*y+m)/2^192
theorem FL {a y m:Int} (h0:0≤a) (h1:a<2^128) (hy:y=10∨y=16) (hm:0≤m∧m<y) :
 ((w0 a*y+m) % 2^64=w0 (a*y+m)∧(w0 a*y+m)/2^64=mck a y m 1)∧((w1 a*y+mck a y m 1) % 2^64=w1 (a*y+m)∧(w1 a*y+mck a y m 1)/2^64=mck a y m 2) ∧
 ((w2 a*y+mck a y m 2) % 2^64=w2 (a*y+m)∧(w2 a*y+mck a y m 2)/2^64=0)∧(0≤mck a y m 1∧mck a y m 1<16)∧(0≤mck a y m 2∧mck a y m 2<16):=by
 have split:∀ z:Int,0≤z→z<2^192→z=w0 z+18446744073709551616*w1 z+340282366920938463463374607431768211456*w2 z:=fun z g0 g1=>by unfold w0 w1 w2;omega
 have a0:=rn a
 have a1:=rA a
 have a2:=rB a
 have ha:=split a h0 (by omega)
 have hp:0≤a*y+m∧a*y+m<2^192:=by rcases hy with rfl|rfl<;>omega
 have hz:=split (a*y+m) hp.1 hp.2
 have b0:=rn (a*y+m)
 have b1:=rA (a*y+m)
 have b2:=rB (a*y+m)
 have q2:w2 a=0:=by generalize w0 a=x0 at *;generalize w1 a=x1 at *;generalize w2 a=x2 at *;omega
 have e1:a % 2^64=w0 a:=rfl
 have e2:a % 2^128=a:=by omega
 simp only [mck,e1,e2,q2] at *
 generalize w0 (a*y+m)=z0 at *
 generalize w1 (a*y+m)=z1 at *
 generalize w2 (a*y+m)=z2 at *
 generalize w0 a=x0 at *
 generalize w1 a=x1 at *
 subst ha
 clear q2 e1 e2 split h0 h1 a2
 have k2:((x0+18446744073709551616*x1+340282366920938463463374607431768211456*0)*y+m)/2^128=z2:=by omega
 have k1:(x0*y+m)/2^64=z1+18446744073709551616*z2 - x1*y:=by rcases hy with rfl|rfl<;>omega
 have k0:(x0*y+m) % 2^64=z0:=by rcases hy with rfl|rfl<;>omega
 rw [k2,k1,k0]
 have k3:0≤x0*y+m∧x0*y+m<16*18446744073709551616:=by rcases hy with rfl|rfl<;>omega
 have k4:z1+18446744073709551616*z2 - x1*y<16∧0≤z1+18446744073709551616*z2 - x1*y:=by omega
 have k5:z2<16:=by rcases hy with rfl|rfl<;>omega
 refine ⟨⟨?_,?_⟩,⟨?_,?_⟩,⟨?_,?_⟩,⟨?_,?_⟩,?_,?_⟩<;>first|trivial|omega
def oM:List AV→AHeap→(AV→Prop)→Prop
 |[x,.int .u64 y,.int .u64 m],_,K=>∃ a,(x=nAV a∧(0≤a∧a<2^128)∧(y=10∨y=16)∧0≤m∧m<y)∧K (nAV (a*y+m))
 |_,_,_=>False
theorem El:EntOk Tryz.prog 171 (Ent.pure oM):=by
 refine Ype fun _ H K h=>?_
 unfold oM at h
 split at h
 rotate_left
 ·exact h.elim
 rename_i y m
 obtain ⟨a,⟨rfl,ha,hy,hm⟩,hK⟩:=h
 refine ⟨_,hK,?_⟩
 refine ACalls.fW ax (tCq Fj (tCq yI tNq)) Tryz.func171 [.cell 6 194] (nrq _) (T:=aq []) (h:=fun hcl hlt=>?_)
 clear hlt hK
 obtain ⟨⟨s1,s2⟩,⟨s3,s4⟩,⟨s5,s6⟩,r1,r2⟩:=FL ha.1 ha.2 hy hm
 have a0:=rn a
 have a1:=rA a
 have a2:=rB a
 have hml:0≤m∧m<18446744073709551616:=by omega
 have split:∀ x m':Int,(0≤x∧x<18446744073709551616)→(0≤m'∧m'<16)→(x*y % 18446744073709551616+m'+0) % 18446744073709551616=(x*y+m') % 2^64∧IntKind.u64.wrap (x*y/18446744073709551616+(x*y % 18446744073709551616+m'+0)/18446744073709551616)=(x*y+m')/2^64:=fun x m' hx hm'=>by
  have w:∀ x,IntKind.u64.wrap x=x % 18446744073709551616:=fun x=>by simp [IntKind.wrap,IntKind.signed,IntKind.bits]
  rw [w]
  have e:x*y=18446744073709551616*(x*y/18446744073709551616)+x*y % 18446744073709551616:=by omega
  have b:0≤x*y∧x*y<18446744073709551616*16:=by rcases hy with rfl|rfl<;>omega
  generalize x*y=z at *
  constructor<;>omega
 have m0:mck a y m 0=m:=rfl
 simp only [go_sem,nAV]
 refine aE (A:=Nat) (fun k=>[(13,.int .i64 (k:Int)),(1,.int .u64 y),(2,.int .u64 (if k=3 then 0 else mck a y m k)),(3,.ptr H.nx 0),(6,.ptr (H.nx+1) 0),(7,.ptr (H.nx+1+1) 0)])
  (fun k=>((H.push (.cells [.int .u64 (w0 a),.int .u64 (w1 a),.int .u64 (w2 a)])).push (.cells [.int .u64 0,.int .u64 0,.int .u64 0])).push (.cells (mE (a*y+m) k)))
  (fun k=>k≤3) (fun k=>3 - k) 0 (by omega) ?_ fun k hk=>?_
 ·(simp only [bkq,enterW,aK,ltF,ne_eq,Nat.reduceEqDiff,reduceCtorEq,mE,Nat.lt_irrefl,if_false,Nat.not_lt_zero,m0];try simp (disch:=first|exact Zd|omega) [↓zmo,beq,ybc,ybd,ybe,ae,wk,wk2,wk1,wkM,wkL,ah,ybf,byq,biq,aH,hcl,mE,Nat.lt_irrefl,if_false,Nat.not_lt_zero,m0];try (repeat' (first|assumption|omega|exact True.intro|refine And.intro ?_ ?_|refine ag ?_|refine af ?_|refine aa ?_ ?_|refine ai ?_ ?_|refine az ?_|exact lRq _|refine lPq ?_ _|refine AHeap.Le.del ?_ ?_|(simp only [bt,and_true,true_and,mE,Nat.lt_irrefl,if_false,Nat.not_lt_zero,m0];first|done|omega|(simp;done)))))
 rcases (by omega:k=0∨k=1∨k=2∨k=3) with rfl|rfl|rfl|rfl
 ·have hd:decide (((0:Nat):Int)<3)=true:=rfl
  have e1:IntKind.i64.wrap (((0:Nat):Int)+1)=((1:Nat):Int):=by rw [wrap_i64]<;>omega
  have t1:((0:Nat):Int).toNat=0:=rfl
  obtain ⟨f1,f2⟩:=split (w0 a) m a0 (by omega)
  rw [s1] at f1
  rw [s2] at f2
  simp only [go_sem,zat,pk,jL,hd,mE,e1,t1,m0,f1,f2,Int.reduceLT,Nat.reduceEqDiff]
  refine ⟨by omega,by omega,by omega,by omega,1,by omega,by omega,?_⟩
  exact Z2
 ·have hd:decide (((1:Nat):Int)<3)=true:=rfl
  have e1:IntKind.i64.wrap (((1:Nat):Int)+1)=((2:Nat):Int):=by rw [wrap_i64]<;>omega
  have t1:((1:Nat):Int).toNat=1:=rfl
  obtain ⟨f1,f2⟩:=split (w1 a) (mck a y m 1) a1 (by omega)
  rw [s3] at f1
  rw [s4] at f2
  simp only [go_sem,zat,pk,jL,hd,mE,e1,t1,f1,f2,Nat.reduceEqDiff]
  refine ⟨by omega,by omega,by omega,by omega,2,by omega,by omega,?_⟩
  exact Z2
 ·have hd:decide (((2:Nat):Int)<3)=true:=rfl
  have e1:IntKind.i64.wrap (((2:Nat):Int)+1)=((3:Nat):Int):=by rw [wrap_i64]<;>omega
  have t1:((2:Nat):Int).toNat=2:=rfl
  obtain ⟨f1,f2⟩:=split (w2 a) (mck a y m 2) a2 (by omega)
  rw [s5] at f1
  rw [s6] at f2
  simp only [go_sem,zat,pk,jL,hd,mE,e1,t1,f1,f2,Nat.reduceEqDiff]
  refine ⟨by omega,by omega,by omega,by omega,3,by omega,by omega,?_⟩
  exact Z2
 ·have hd:decide (((3:Nat):Int)<3)=false:=rfl
  simp only [go_sem,zau,hd,mE]
  exact Z0
def n7 (base:Nat):Nat→List UInt8→Option Nat
 |n,[]=>some n
 |n,c::s=>if dg c<base then (if n*base+dg c<2^128 then n7 base (n*base+dg c) s else none) else none
def lit (s:List UInt8):Option Nat:=if mF s [48,120] then (if s.drop 2=[] then none else n7 16 0 (s.drop 2)) else if s=[] then none else n7 10 0 s
theorem sR {a b:Nat} {G:Prop} (h1:a<b→G) (h2:b≤a→G):G:=(Nat.lt_or_ge a b).elim h1 h2
def rP (o:Option Nat):AV:=match o with
 |some n=>.tup [nAV n,.bool true]
 |none=>.tup [nAV 0,.bool false]
def lk:List AV→AHeap→(AV→Prop)→Prop
 |[.str s],_,K=>(s.length≤140737488355328)∧K (rP (lit s))
 |_,_,_=>False
theorem qX:EntOk Tryz.prog 147 (Ent.pure lk):=by
 refine Ype fun _ H K h=>?_
 unfold lk at h
 split at h
 rotate_left
 ·exact h.elim
 rename_i s
 obtain ⟨hl,hK⟩:=h
 refine ⟨_,hK,?_⟩
 refine ACalls.fW ax (tCq xJ (tCq CM (tCq El (tCq ve tNq)))) Tryz.func147 [.cell 2 194,.tmp 3] (nrq _) (T:=aq []) (h:=fun hcl hlt=>?_)
 clear hlt hK
 have z0:nAV 0=.agg [.int .u64 0,.int .u64 0,.int .u64 0]:=rfl
 simp only [go_sem,l6,vB]
 refine aj (fun h1=>?_) (fun h1=>?_)
 ·simp only [go_sem,h1]
  have hl':(s.drop 2).length≤140737488355328:=by rw [List.length_drop];omega
  have hr:lit s=if s.drop 2=[] then none else n7 16 0 (s.drop 2):=by unfold lit;rw [h1];simp
  rw [hr]
  clear hr h1 hl
  generalize s.drop 2=b at *
  refine ⟨by omega,?_⟩
  refine aE (A:=Nat × Nat) (fun x=>[(0,.str b),(2,.ptr H.nx 0),(4,.int .u64 16),(7,.ptr (H.nx+1) 0),(21,.slice .any 1 (bys b)),(22,.int .i64 (b.length:Int)),(23,.int .i64 (x.1:Int))])
   (fun x=>(H.push (.cells [.int .u64 0,.int .u64 0,.int .u64 0])).push (.cells [.int .u64 (w0 (x.2:Int)),.int .u64 (w1 (x.2:Int)),.int .u64 (w2 (x.2:Int))]))
   (fun x=>x.1≤b.length∧x.2<2^128∧n7 16 0 b=n7 16 x.2 (b.drop x.1)) (fun x=>b.length - x.1) (0,0) ⟨by omega,by decide,rfl⟩ ?_ fun x hI=>?_
  ·have z1:w0 0=0:=rfl
   have z2:w1 0=0:=rfl
   have z3:w2 0=0:=rfl
   exact Z3
  obtain ⟨k,n⟩:=x
  obtain ⟨hk,hn,hl2⟩:=hI
  dsimp only at *
  simp only [go_sem,byq]
  refine aj (fun h2=>?_) (fun h2=>?_)
  ·have h2':k<b.length:=by simpa using h2
   rw [dcq h2'] at hl2
   have hg:(bys b).getD k .junk=bY b[k]:=by rw [xr h2'];simp [gEq,h2']
   have e5:=Yk5 k
   simp only [n7] at hl2
   generalize b[k]=c at *
   simp only [go_sem,byq,hg,pP]
   refine ⟨by omega,c,rfl,?_⟩
   by_cases hd:dg c<16
   ·have hdi:((dg c:Nat):Int)<16:=by omega
    rw [if_pos hdi]
    rw [if_pos hd] at hl2
    have hne:(((dg c:Nat):Int)==16)=false:=by simp;omega
    have hz:AV.agg [.int .u64 (w0 (n:Int)),.int .u64 (w1 (n:Int)),.int .u64 (w2 (n:Int))]=nAV (n:Int):=rfl
    simp only [go_sem,byq,zau,hne,oM]
    refine ⟨(n:Int),⟨rfl,by omega,by omega,by omega⟩,?_⟩
    obtain ⟨z,hz2⟩:∃ z:Int,z=((n*16+dg c:Nat):Int):=⟨_,rfl⟩
    have en:((n:Int)*16+(dg c:Nat))=z:=by omega
    have hN:isN z:=⟨by omega,by omega⟩
    refine sR (a:=n*16+dg c) (b:=2^128) (fun hf=>?_) (fun hf=>?_)
    ·rw [if_pos hf] at hl2
     have hv:kV z=.tup [.agg [.int .u64 (z/2^64),.int .u64 (z % 2^64)],.bool true]:=by unfold kV;rw [if_pos (by omega)]
     simp only [go_sem,byq,en,nAV,jz]
     refine ⟨z,⟨rfl,hN⟩,?_⟩
     simp only [go_sem,byq,zau,hv,e5]
     refine ⟨(k+1,n*16+dg c),⟨by omega,hf,hl2⟩,by omega,?_⟩
     exact Z4
    ·rw [if_neg (Nat.not_lt.2 hf)] at hl2
     have hv:kV z=.tup [.agg [.int .u64 0,.int .u64 0],.bool false]:=by unfold kV;rw [if_neg (by omega)]
     simp only [go_sem,byq,en,nAV,jz]
     refine ⟨z,⟨rfl,hN⟩,?_⟩
     have hbn:b≠[]:=by intro h;subst h;simp at h2'
     simp only [go_sem,byq,zat,hv,hl2,if_neg hbn,rP,z0]
     exact Z0
   ·rw [if_neg (by omega)]
    rw [if_neg hd] at hl2
    have hbn:b≠[]:=by intro h;subst h;simp at h2'
    have he:((16:Int)==16)=true:=rfl
    simp only [go_sem,byq,zat,hl2,if_neg hbn,rP,z0,he]
    exact Z0
  ·have h2':k=b.length:=by simp at h2;omega
   subst h2'
   rw [List.drop_length] at hl2
   simp only [n7] at hl2
   simp only [go_sem,byq]
   refine aj (fun h3=>?_) (fun h3=>?_)
   ·have hbn:b=[]:=by simpa using h3
    simp only [go_sem,byq,if_pos hbn,rP,z0]
    exact Z0
   ·have hbn:b≠[]:=by simpa using h3
    simp only [go_sem,byq,if_neg hbn,rP,hl2,nAV]
    exact Z0
 ·simp only [go_sem,h1]
  have hl':(s).length≤140737488355328:=by exact hl
  have hr:lit s=if s=[] then none else n7 10 0 (s):=by unfold lit;rw [h1];simp
  rw [hr]
  clear hr h1 hl
  generalize s=b at *
  refine ⟨by omega,?_⟩
  refine aE (A:=Nat × Nat) (fun x=>[(0,.str b),(2,.ptr H.nx 0),(4,.int .u64 10),(7,.ptr (H.nx+1) 0),(21,.slice .any 1 (bys b)),(22,.int .i64 (b.length:Int)),(23,.int .i64 (x.1:Int))])
   (fun x=>(H.push (.cells [.int .u64 0,.int .u64 0,.int .u64 0])).push (.cells [.int .u64 (w0 (x.2:Int)),.int .u64 (w1 (x.2:Int)),.int .u64 (w2 (x.2:Int))]))
   (fun x=>x.1≤b.length∧x.2<2^128∧n7 10 0 b=n7 10 x.2 (b.drop x.1)) (fun x=>b.length - x.1) (0,0) ⟨by omega,by decide,rfl⟩ ?_ fun x hI=>?_
  ·have z1:w0 0=0:=rfl
   have z2:w1 0=0:=rfl
   have z3:w2 0=0:=rfl
   exact Z3
  obtain ⟨k,n⟩:=x
  obtain ⟨hk,hn,hl2⟩:=hI
  dsimp only at *
  simp only [go_sem,byq]
  refine aj (fun h2=>?_) (fun h2=>?_)
  ·have h2':k<b.length:=by simpa using h2
   rw [dcq h2'] at hl2
   have hg:(bys b).getD k .junk=bY b[k]:=by rw [xr h2'];simp [gEq,h2']
   have e5:=Yk5 k
   simp only [n7] at hl2
   generalize b[k]=c at *
   simp only [go_sem,byq,hg,pP]
   refine ⟨by omega,c,rfl,?_⟩
   by_cases hd:dg c<10
   ·have hdi:((dg c:Nat):Int)<10:=by omega
    rw [if_pos hdi]
    rw [if_pos hd] at hl2
    have hne:(((dg c:Nat):Int)==10)=false:=by simp;omega
    have hz:AV.agg [.int .u64 (w0 (n:Int)),.int .u64 (w1 (n:Int)),.int .u64 (w2 (n:Int))]=nAV (n:Int):=rfl
    simp only [go_sem,byq,zau,hne,oM]
    refine ⟨(n:Int),⟨rfl,by omega,by omega,by omega⟩,?_⟩
    obtain ⟨z,hz2⟩:∃ z:Int,z=((n*10+dg c:Nat):Int):=⟨_,rfl⟩
    have en:((n:Int)*10+(dg c:Nat))=z:=by omega
    have hN:isN z:=⟨by omega,by omega⟩
    refine sR (a:=n*10+dg c) (b:=2^128) (fun hf=>?_) (fun hf=>?_)
    ·rw [if_pos hf] at hl2
     have hv:kV z=.tup [.agg [.int .u64 (z/2^64),.int .u64 (z % 2^64)],.bool true]:=by unfold kV;rw [if_pos (by omega)]
     simp only [go_sem,byq,en,nAV,jz]
     refine ⟨z,⟨rfl,hN⟩,?_⟩
     simp only [go_sem,byq,zau,hv,e5]
     refine ⟨(k+1,n*10+dg c),⟨by omega,hf,hl2⟩,by omega,?_⟩
     exact Z4
    ·rw [if_neg (Nat.not_lt.2 hf)] at hl2
     have hv:kV z=.tup [.agg [.int .u64 0,.int .u64 0],.bool false]:=by unfold kV;rw [if_neg (by omega)]
     simp only [go_sem,byq,en,nAV,jz]
     refine ⟨z,⟨rfl,hN⟩,?_⟩
     have hbn:b≠[]:=by intro h;subst h;simp at h2'
     simp only [go_sem,byq,zat,hv,hl2,if_neg hbn,rP,z0]
     exact Z0
   ·rw [if_neg (by omega)]
    rw [if_neg hd] at hl2
    have hbn:b≠[]:=by intro h;subst h;simp at h2'
    have he:((10:Int)==10)=true:=rfl
    simp only [go_sem,byq,zat,hl2,if_neg hbn,rP,z0,he]
    exact Z0
  ·have h2':k=b.length:=by simp at h2;omega
   subst h2'
   rw [List.drop_length] at hl2
   simp only [n7] at hl2
   simp only [go_sem,byq]
   refine aj (fun h3=>?_) (fun h3=>?_)
   ·have hbn:b=[]:=by simpa using h3
    simp only [go_sem,byq,if_pos hbn,rP,z0]
    exact Z0
   ·have hbn:b≠[]:=by simpa using h3
    simp only [go_sem,byq,if_neg hbn,rP,hl2,nAV]
    exact Z0
end Go.AL
