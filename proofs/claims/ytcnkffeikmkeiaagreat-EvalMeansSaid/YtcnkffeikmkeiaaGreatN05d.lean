/- Contracts and plain laws, a part of the proof; no condition of its own. -/
import Derived.Test.YtcnkffeikmkeiaaGreatLVal
import Derived.Test.YtcnkffeikmkeiaaGreatAlByte
import Derived.Test.YtcnkffeikmkeiaaGreatAlBun
set_option maxHeartbeats 32000000
open List renaming length_cons → yaz, length_nil → yba, take_of_length_le → ybc, drop_append → ybd, take_append → ybe, drop_eq_nil_of_le → ybf, getD_cons_succ → yav, cons_append → yal, map_nil → yaf, drop_zero → yap, take_zero → yar
/- Plain laws of integers in three words of 64 bits, two's complement. -/
namespace Go.AL
open Go
def w0 (z:Int):Int:=z % 2^64
def w1 (z:Int):Int:=z/2^64 % 2^64
def w2 (z:Int):Int:=z/2^64/2^64 % 2^64
/-- a number in memory -/
def nAV (z:Int):AV:=.agg [.int .u64 (w0 z),.int .u64 (w1 z),.int .u64 (w2 z)]
theorem nC (z:Int):0≤w0 z∧w0 z<18446744073709551616:=by unfold w0;omega
theorem nD (z:Int):0≤w1 z∧w1 z<18446744073709551616:=by unfold w1;omega
theorem nk (z:Int):0≤w2 z∧w2 z<18446744073709551616:=by unfold w2;omega
/-! sums -/
theorem DO (a b:Int):(w0 a+w0 b) % 2^64=w0 (a+b):=by unfold w0;omega
theorem D3 (a b:Int):(w1 a+w1 b+(w0 a+w0 b)/2^64) % 2^64=w1 (a+b):=by unfold w0 w1;omega
theorem Eb (a b:Int):(w2 a+w2 b+(w1 a+w1 b+(w0 a+w0 b)/2^64)/2^64) % 2^64=w2 (a+b):=by unfold w0 w1 w2;omega
/-! the negative -/
theorem D9 (a:Int):2^64 - 1 - w0 a=w0 (-1 - a):=by unfold w0;omega
theorem D4 (a:Int):2^64 - 1 - w1 a=w1 (-1 - a):=by unfold w1;omega
theorem Ei (a:Int):2^64 - 1 - w2 a=w2 (-1 - a):=by unfold w2;omega
/-! cQ ones, values -/
theorem zI (n:Int) (h : -(2^63)≤n∧n<2^63):w1 n=(if n<0 then 2^64 - 1 else 0)∧w2 n=(if n<0 then 2^64 - 1 else 0):=by
 unfold w1 w2;split<;>constructor<;>omega
theorem DM (hi lo:Int) (h1:0≤hi∧hi<2^64) (h2:0≤lo∧lo<2^64):w0 (hi*2^64+lo)=lo∧w1 (hi*2^64+lo)=hi∧w2 (hi*2^64+lo)=0:=by
 unfold w0 w1 w2;refine ⟨?_,?_,?_⟩<;>omega
/-- numbers that are not too great are told apart by their words -/
theorem EO {a b:Int} (ha : -(2^191)≤a∧a<2^191) (hb : -(2^191)≤b∧b<2^191) (h0:w0 a=w0 b) (h1:w1 a=w1 b) (h2:w2 a=w2 b):a=b:=by
 unfold w0 at h0;unfold w1 at h1;unfold w2 at h2;omega
theorem EZ {a:Int} (ha : -(2^191)≤a∧a<2^191):w2 a/2^63=if a<0 then 1 else 0:=by
 unfold w2;split<;>omega
theorem D2 {a:Int} (ha : -(2^191)≤a∧a<2^191):w2 a=0↔0≤a∧a<2^128:=by
 unfold w2;omega
theorem oD (x:Int) (h:0≤x∧x<18446744073709551616):yQ .u64 (if IntKind.u64.signed=true then -1 else IntKind.u64.max) x=2^64 - 1 - x:=by
 obtain ⟨n,rfl⟩:=Int.eq_ofNat_of_zero_le h.1
 have hn:n<2^64:=by omega
 have e:(if IntKind.u64.signed=true then (-1:Int) else IntKind.u64.max)=((2^64 - 1:Nat):Int):=rfl
 rw [e,Bl _ _ (by decide) hn]
 have h1:=congrArg BitVec.toNat (BitVec.allOnes_xor (x:=BitVec.ofNat 64 n))
 rw [BitVec.toNat_xor,BitVec.toNat_not,BitVec.toNat_allOnes,BitVec.toNat_ofNat,Nat.mod_eq_of_lt hn] at h1
 rw [h1];omega
end Go.AL
open Go Go.AL Go.Proofs
namespace Go.AL
set_option linter.all false
set_option maxRecDepth 10000
theorem Cm:ti Tryz.prog 3=some ⟨.int .i64,1,8,.int .i64 0⟩:=by kernel_rfl
theorem zM:ti Tryz.prog 67=some ⟨.struct [(0,65,false),(1,65,false)],2,16,.agg [.int .u64 0,.int .u64 0]⟩:=by kernel_rfl
theorem l5:ti Tryz.prog 65=some ⟨.int .u64,1,8,.int .u64 0⟩:=by kernel_rfl
theorem rk:ti Tryz.prog 100=some ⟨.struct [(0,98,false)],3,24,.agg [.int .u64 0,.int .u64 0,.int .u64 0]⟩:=by kernel_rfl
theorem oW:ti Tryz.prog 98=some ⟨.array 3 65,3,24,.agg [.int .u64 0,.int .u64 0,.int .u64 0]⟩:=by kernel_rfl
attribute [go_sem] Cm zM l5 rk oW
def g8:List AV→AHeap→(AV→Prop)→Prop
 |[.int .u64 x,.int .u64 y,.int .u64 c],_,K=>(0≤x∧0≤y∧0≤c∧c≤1)∧K (.tup [.int .u64 ((x+y+c) % 18446744073709551616),.int .u64 ((x+y+c)/18446744073709551616)])
 |_,_,_=>False
theorem tE:EntOk Tryz.prog 129 (Ent.pure g8):=by
 refine EntOk.pure fun args H K h=>?_
 unfold g8 at h
 split at h
 rotate_left
 ·exact h.elim
 obtain ⟨⟨h1,h2,h3,h4⟩,hK⟩:=h
 exact ⟨_,hK,sl Tryz.func129 (by kernel_rfl) (by kernel_rfl) (by kernel_rfl) (by kernel_rfl) h1 h2 h3 h4⟩
def wN:List AV→AHeap→(AV→Prop)→Prop
 |[.int .i64 n],_,K=>(-9223372036854775808≤n∧n<9223372036854775808)∧K (nAV n)
 |_,_,_=>False
theorem Av:EntOk Tryz.prog 68 (Ent.pure wN):=by
 refine EntOk.pure fun args H K h=>?_
 unfold wN at h
 split at h
 rotate_left
 ·exact h.elim
 rename_i n
 obtain ⟨⟨h1,h2⟩,hK⟩:=h
 refine ⟨_,hK,?_⟩
 refine ACalls.fW aA TblOk.nil Tryz.func68 [.cell 2 100] (Nat.le_refl _) (T:=au []) (h:=fun hcl hlt=>?_)
 clear hlt hK
 have e0:IntKind.u64.wrap n=w0 n:=by
  unfold w0;simp [IntKind.wrap,IntKind.bits,IntKind.signed]
 have es:kx .i64 n 63=n/2^63:=by
  unfold kx
  rw [show min (63:Int).toNat IntKind.i64.bits=63 from rfl]
  exact Int.fdiv_eq_ediv_of_nonneg _ (by decide)
 have e1:IntKind.u64.wrap (kx .i64 n 63)=w1 n:=by
  rw [es,(zI n (by omega)).1];simp [IntKind.wrap,IntKind.bits,IntKind.signed];split<;>omega
 have e2:w2 n=w1 n:=by rw [(zI n (by omega)).1,(zI n (by omega)).2]
 simp only [go_sem,zav,byq,e0,e1]
 refine ⟨by omega,?_⟩
 unfold nAV
 rw [e2]
 simp (disch:=first|assumption|omega|(simp;done)|(simp;omega)|(simp only [bt,and_true];first|done|omega|(simp;done))) [↓zmk,beq,ybc,ybd,ybe,ae,wk,wk2,wk1,wkM,wkL,al,ybf,hcl]
/-- the words of a sum as far as they are done, and the carry -/
def yb (a b:Int) (k:Nat):List AV:=[.int .u64 (if 0<k then w0 (a+b) else 0),.int .u64 (if 1<k then w1 (a+b) else 0),.int .u64 (if 2<k then w2 (a+b) else 0)]
def cyk (a b:Int) (k:Nat):Int:=match k with
 |0=>0
 |1=>(w0 a+w0 b)/2^64
 |2=>(w1 a+w1 b+(w0 a+w0 b)/2^64)/2^64
 |_=>(w2 a+w2 b+(w1 a+w1 b+(w0 a+w0 b)/2^64)/2^64)/2^64
theorem vj (a b:Int):∀ k,0≤cyk a b k∧cyk a b k≤1:=by
 have a0:=nC a
 have a1:=nD a
 have a2:=nk a
 have b0:=nC b
 have b1:=nD b
 have b2:=nk b
 intro k
 unfold cyk
 split<;>omega
theorem ER (a b:Int):(w0 a+w0 b+cyk a b 0) % 18446744073709551616=w0 (a+b)∧(w0 a+w0 b+cyk a b 0)/18446744073709551616=cyk a b 1:=by
 have:=DO a b;simp only [cyk];constructor<;>omega
theorem EK (a b:Int):(w1 a+w1 b+cyk a b 1) % 18446744073709551616=w1 (a+b)∧(w1 a+w1 b+cyk a b 1)/18446744073709551616=cyk a b 2:=by
 have:=D3 a b;simp only [cyk];constructor<;>omega
theorem E7 (a b:Int):(w2 a+w2 b+cyk a b 2) % 18446744073709551616=w2 (a+b)∧(w2 a+w2 b+cyk a b 2)/18446744073709551616=cyk a b 3:=by
 have:=Eb a b;simp only [cyk];constructor<;>omega
def rR:List AV→AHeap→(AV→Prop)→Prop
 |[x,y],_,K=>∃ a b,(x=nAV a∧y=nAV b)∧K (nAV (a+b))
 |_,_,_=>False
theorem si:EntOk Tryz.prog 113 (Ent.pure rR):=by
 refine EntOk.pure fun args H K h=>?_
 unfold rR at h
 split at h
 rotate_left
 ·exact h.elim
 obtain ⟨a,b,⟨rfl,rfl⟩,hK⟩:=h
 refine ⟨_,hK,?_⟩
 refine ACalls.fW aA (TblOk.cons tE TblOk.nil) Tryz.func113 [.cell 4 100] (Nat.le_refl _) (T:=au []) (h:=fun hcl hlt=>?_)
 clear hlt hK
 simp only [go_sem,byq,nAV]
 refine gO (A:=Nat) (fun k=>[(8,.int .i64 (k:Int)),(6,.int .u64 (cyk a b k)),(5,.ptr (H.nx+1+1+1) 0),(4,.ptr (H.nx+1+1) 0),(3,.ptr (H.nx+1) 0),(2,.ptr H.nx 0)])
  (fun k=>(((H.push (.cells [.int .u64 (w0 a),.int .u64 (w1 a),.int .u64 (w2 a)])).push (.cells [.int .u64 (w0 b),.int .u64 (w1 b),.int .u64 (w2 b)])).push (.cells [.int .u64 0,.int .u64 0,.int .u64 0])).push (.cells (yb a b k)))
  (fun k=>k≤3) (fun k=>3 - k) 0 (by omega) ?_ fun k hk=>?_
 ·simp only [bnq,enter,iP,ltF,ne_eq,Nat.reduceEqDiff,reduceCtorEq,cyk,yb,Nat.lt_irrefl,if_false,true_or,and_true,Nat.not_lt_zero]
 have a0:=nC a
 have a1:=nD a
 have a2:=nk a
 have b0:=nC b
 have b1:=nD b
 have b2:=nk b
 rcases (by omega:k=0∨k=1∨k=2∨k=3) with rfl|rfl|rfl|rfl
 ·have hd:decide (((0:Nat):Int)<3)=true:=rfl
  have e1:IntKind.i64.wrap (((0:Nat):Int)+1)=((1:Nat):Int):=by rw [wrap_i64]<;>omega
  have hc:=vj a b 0
  obtain ⟨s1,s2⟩:=ER a b
  have t1:((0:Nat):Int).toNat=0:=rfl
  simp only [go_sem,zat,byq,g8,hd,yb,e1,s1,s2,t1]
  refine ⟨by omega,by omega,by omega,by omega,.inr (by omega),1,by omega,by omega,?_⟩
  simp only [bnq,enter,iP,ltF,ne_eq,Nat.reduceEqDiff,reduceCtorEq]
  exact .inl rfl
 ·have hd:decide (((1:Nat):Int)<3)=true:=rfl
  have e1:IntKind.i64.wrap (((1:Nat):Int)+1)=((2:Nat):Int):=by rw [wrap_i64]<;>omega
  have hc:=vj a b 1
  obtain ⟨s1,s2⟩:=EK a b
  have t1:((1:Nat):Int).toNat=1:=rfl
  simp only [go_sem,zat,byq,g8,hd,yb,e1,s1,s2,t1]
  refine ⟨by omega,by omega,by omega,by omega,.inr (by omega),2,by omega,by omega,?_⟩
  simp only [bnq,enter,iP,ltF,ne_eq,Nat.reduceEqDiff,reduceCtorEq]
  exact .inl rfl
 ·have hd:decide (((2:Nat):Int)<3)=true:=rfl
  have e1:IntKind.i64.wrap (((2:Nat):Int)+1)=((3:Nat):Int):=by rw [wrap_i64]<;>omega
  have hc:=vj a b 2
  obtain ⟨s1,s2⟩:=E7 a b
  have t1:((2:Nat):Int).toNat=2:=rfl
  simp only [go_sem,zat,byq,g8,hd,yb,e1,s1,s2,t1]
  refine ⟨by omega,by omega,by omega,by omega,.inr (by omega),3,by omega,by omega,?_⟩
  simp only [bnq,enter,iP,ltF,ne_eq,Nat.reduceEqDiff,reduceCtorEq]
  exact .inl rfl
 ·have hd:decide (((3:Nat):Int)<3)=false:=rfl
  simp only [go_sem,zau,byq,hd,yb]
  simp (disch:=first|assumption|omega|(simp;done)|(simp;omega)|(simp only [bt,and_true];first|done|omega|(simp;done))) [↓zmk,beq,ybc,ybd,ybe,ae,wk,wk2,wk1,wkM,wkL,al,ybf,hcl]
def zh (a:Int) (k:Nat):List AV:=[.int .u64 (if 0<k then w0 (-1 - a) else w0 a),.int .u64 (if 1<k then w1 (-1 - a) else w1 a),.int .u64 (if 2<k then w2 (-1 - a) else w2 a)]
def vV:List AV→AHeap→(AV→Prop)→Prop
 |[x],_,K=>∃ a,x=nAV a∧K (nAV (-a))
 |_,_,_=>False
theorem xm:EntOk Tryz.prog 112 (Ent.pure vV):=by
 refine EntOk.pure fun args H K h=>?_
 unfold vV at h
 split at h
 rotate_left
 ·exact h.elim
 obtain ⟨a,rfl,hK⟩:=h
 refine ⟨_,hK,?_⟩
 refine ACalls.fW aA (TblOk.cons si (TblOk.cons Av TblOk.nil)) Tryz.func112 [.cell 2 100] (Nat.le_refl _) (T:=au []) (h:=fun hcl hlt=>?_)
 clear hlt hK
 simp only [go_sem,byq,nAV]
 refine gO (A:=Nat) (fun k=>[(4,.int .i64 (k:Int)),(2,.ptr (H.nx+1) 0),(1,.ptr H.nx 0)])
  (fun k=>(H.push (.cells (zh a k))).push (.cells [.int .u64 0,.int .u64 0,.int .u64 0]))
  (fun k=>k≤3) (fun k=>3 - k) 0 (by omega) ?_ fun k hk=>?_
 ·simp only [bnq,enter,iP,ltF,ne_eq,Nat.reduceEqDiff,reduceCtorEq,zh,Nat.lt_irrefl,if_false,true_or,and_true,Nat.not_lt_zero]
 rcases (by omega:k=0∨k=1∨k=2∨k=3) with rfl|rfl|rfl|rfl
 ·have hd:decide (((0:Nat):Int)<3)=true:=rfl
  have e1:IntKind.i64.wrap (((0:Nat):Int)+1)=((1:Nat):Int):=by rw [wrap_i64]<;>omega
  have t1:((0:Nat):Int).toNat=0:=rfl
  have hx:=oD (w0 a) (nC a)
  rw [D9] at hx
  simp only [go_sem,zat,byq,hd,zh,e1,t1,hx]
  refine ⟨by omega,by omega,1,by omega,by omega,?_⟩
  simp only [bnq,enter,iP,ltF,ne_eq,Nat.reduceEqDiff,reduceCtorEq]
  exact .inl rfl
 ·have hd:decide (((1:Nat):Int)<3)=true:=rfl
  have e1:IntKind.i64.wrap (((1:Nat):Int)+1)=((2:Nat):Int):=by rw [wrap_i64]<;>omega
  have t1:((1:Nat):Int).toNat=1:=rfl
  have hx:=oD (w1 a) (nD a)
  rw [D4] at hx
  simp only [go_sem,zat,byq,hd,zh,e1,t1,hx]
  refine ⟨by omega,by omega,2,by omega,by omega,?_⟩
  simp only [bnq,enter,iP,ltF,ne_eq,Nat.reduceEqDiff,reduceCtorEq]
  exact .inl rfl
 ·have hd:decide (((2:Nat):Int)<3)=true:=rfl
  have e1:IntKind.i64.wrap (((2:Nat):Int)+1)=((3:Nat):Int):=by rw [wrap_i64]<;>omega
  have t1:((2:Nat):Int).toNat=2:=rfl
  have hx:=oD (w2 a) (nk a)
  rw [Ei] at hx
  simp only [go_sem,zat,byq,hd,zh,e1,t1,hx]
  refine ⟨by omega,by omega,3,by omega,by omega,?_⟩
  simp only [bnq,enter,iP,ltF,ne_eq,Nat.reduceEqDiff,reduceCtorEq]
  exact .inl rfl
 ·have hd:decide (((3:Nat):Int)<3)=false:=rfl
  simp only [go_sem,zau,byq,hd,zh,rR,wN]
  refine ⟨by omega,-1 - a,1,⟨rfl,rfl⟩,?_⟩
  have en:(-1 - a+1) = -a:=by omega
  simp only [go_sem,zau,byq,en,nAV]
  simp (disch:=first|assumption|omega|(simp;done)|(simp;omega)|(simp only [bt,and_true];first|done|omega|(simp;done))) [↓zmk,beq,ybc,ybd,ybe,ae,wk,wk2,wk1,wkM,wkL,al,ybf,hcl]
  refine .inr ⟨-1 - a,1,⟨⟨rfl,rfl,rfl⟩,rfl,rfl,rfl⟩,?_⟩
  rw [en];exact ⟨rfl,rfl,rfl⟩
def rE:List AV→AHeap→(AV→Prop)→Prop
 |[x,y],_,K=>∃ a b,(x=nAV a∧y=nAV b)∧K (nAV (a - b))
 |_,_,_=>False
theorem w6:EntOk Tryz.prog 114 (Ent.pure rE):=by
 refine EntOk.pure fun args H K h=>?_
 unfold rE at h
 split at h
 rotate_left
 ·exact h.elim
 obtain ⟨a,b,⟨rfl,rfl⟩,hK⟩:=h
 refine ⟨_,hK,?_⟩
 refine ACalls.fW aA (TblOk.cons si (TblOk.cons xm TblOk.nil)) Tryz.func114 [.cell 4 100] (Nat.le_refl _) (T:=au []) (h:=fun hcl hlt=>?_)
 clear hlt hK
 simp only [go_sem,byq,nAV]
 refine ⟨b,rfl,?_⟩
 simp only [go_sem,byq,nAV]
 refine ⟨a,-b,⟨rfl,rfl⟩,?_⟩
 have en:a + -b=a - b:=by omega
 simp only [go_sem,byq,en,nAV]
 simp (disch:=first|assumption|omega|(simp;done)|(simp;omega)|(simp only [bt,and_true];first|done|omega|(simp;done))) [↓zmk,beq,ybc,ybd,ybe,ae,wk,wk2,wk1,wkM,wkL,al,ybf,hcl]
 exact ⟨.inr ⟨a,-b,⟨rfl,rfl⟩,by rw [en];rfl⟩,.inr ⟨b,rfl,rfl⟩⟩
/-- the numbers of which the sign is bg -/
def isN (a:Int):Prop := -(2^191)≤a∧a<2^191
def vq:List AV→AHeap→(AV→Prop)→Prop
 |[x],_,K=>∃ a,(x=nAV a∧isN a)∧K (.bool (decide (a<0)))
 |_,_,_=>False
theorem CP:EntOk Tryz.prog 140 (Ent.pure vq):=by
 refine EntOk.pure fun args H K h=>?_
 unfold vq at h
 split at h
 rotate_left
 ·exact h.elim
 obtain ⟨a,⟨rfl,ha⟩,hK⟩:=h
 refine ⟨_,hK,?_⟩
 refine ACalls.fW aA TblOk.nil Tryz.func140 [.tmp 2] (Nat.le_refl _) (T:=au []) (h:=fun hcl hlt=>?_)
 clear hlt hK
 have hs:kx .u64 (w2 a) 63=w2 a/2^63:=by
  unfold kx
  rw [show min (63:Int).toNat IntKind.u64.bits=63 from rfl]
  exact Int.fdiv_eq_ediv_of_nonneg _ (by decide)
 rw [EZ ha] at hs
 have hb:(kx .u64 (w2 a) 63==1)=decide (a<0):=by
  rw [hs];by_cases h:a<0
  ·rw [if_pos h,decide_eq_true h];rfl
  ·rw [if_neg h,decide_eq_false h];rfl
 simp only [go_sem,zav,byq,nAV,hb]
 refine ⟨by omega,?_⟩
 simp (disch:=first|assumption|omega|(simp;done)|(simp;omega)|(simp only [bt,and_true];first|done|omega|(simp;done))) [↓zmk,beq,ybc,ybd,ybe,ae,wk,wk2,wk1,wkM,wkL,al,ybf,hcl]
def nK:List AV→AHeap→(AV→Prop)→Prop
 |[.agg [.int .u64 hi,.int .u64 lo]],_,K=>((0≤hi∧hi<18446744073709551616)∧(0≤lo∧lo<18446744073709551616))∧K (nAV (hi*2^64+lo))
 |_,_,_=>False
theorem uD:EntOk Tryz.prog 28 (Ent.pure nK):=by
 refine EntOk.pure fun args H K h=>?_
 unfold nK at h
 split at h
 rotate_left
 ·exact h.elim
 rename_i hi lo
 obtain ⟨⟨h1,h2⟩,hK⟩:=h
 refine ⟨_,hK,?_⟩
 refine ACalls.fW aA TblOk.nil Tryz.func28 [.cell 2 100] (Nat.le_refl _) (T:=au []) (h:=fun hcl hlt=>?_)
 clear hlt hK
 obtain ⟨e0,e1,e2⟩:=DM hi lo h1 h2
 simp only [go_sem,zav,byq,nAV,e0,e1,e2]
 simp (disch:=first|assumption|omega|(simp;done)|(simp;omega)|(simp only [bt,and_true];first|done|omega|(simp;done))) [↓zmk,beq,ybc,ybd,ybe,ae,wk,wk2,wk1,wkM,wkL,al,ybf,hcl]
end Go.AL
/- Plain laws of decimal digits, the lowest one first. -/
namespace Go.AL
/-- the number that digits stand for -/
def dv:List Nat→Nat
 |[]=>0
 |d::l=>d+10*dv l
/-- the digits of a number, without leading zeros -/
def bE (n:Nat):List Nat:=if h:n=0 then [] else n % 10::bE (n/10)
decreasing_by omega
def isD (l:List Nat):Prop:=∀ d∈l,d<10
/-- digit i -/
def dig (n i:Nat):Nat:=n/10^i % 10
theorem aV:bE 0=[]:=by rw [bE];simp
theorem fT {n:Nat} (h:n≠0):bE n=n % 10::bE (n/10):=by rw [bE];simp [h]
theorem hZ (n:Nat):dv (bE n)=n:=by
 induction n using Nat.strongRecOn with
 |_ n ih =>
  by_cases h:n=0
  ·subst h;rw [aV];rfl
  ·rw [fT h,dv,ih (n/10) (by omega)];omega
theorem f7 (n:Nat):isD (bE n):=by
 induction n using Nat.strongRecOn with
 |_ n ih =>
  by_cases h:n=0
  ·subst h;rw [aV];intro d hd;cases hd
  ·rw [fT h]
   intro d hd
   rcases List.mem_cons.1 hd with rfl|hd
   ·omega
   ·exact ih (n/10) (by omega) d hd
theorem nY {d:Nat} {l:List Nat} (h:isD (d::l)):isD l:=fun x hx=>h x (List.mem_cons_of_mem _ hx)
theorem pq {d:Nat} {l:List Nat} (h:isD (d::l)):d<10:=h d List.mem_cons_self
theorem AJ {l:List Nat} (h:isD l):dv l<10^l.length:=by
 induction l with
 |nil=>simp [dv]
 |cons d l ih =>
  have h1:=ih (nY h)
  have h2:=pq h
  rw [dv,yaz,Nat.pow_succ];omega
/-- a digit that is looked up, zero beyond the end -/
theorem iA {l:List Nat} (h:isD l):∀ i,l.getD i 0=dig (dv l) i:=by
 induction l with
 |nil=>intro i;simp [dv,dig]
 |cons d l ih =>
  intro i
  have h2:=pq h
  cases i with
  |zero=>simp [dig,dv];omega
  |succ i =>
   have:=ih (nY h) i
   rw [yav,this,dig,dig,dv,Nat.pow_succ,Nat.mul_comm (10^i) 10,← Nat.div_div_eq_div_mul]
   have:(d+10*dv l)/10=dv l:=by omega
   rw [this]
theorem mE (n i:Nat):dig n i<10:=Nat.mod_lt _ (by decide)
theorem gI (n i:Nat):n % 10^(i+1)=n % 10^i+10^i*dig n i:=by
 rw [Nat.pow_succ,Nat.mod_mul,dig]
/-- the lowest k digits -/
def first (k n:Nat):List Nat:=(List.range k).map (dig n)
theorem fG (k n:Nat):(first k n).length=k:=by simp [first]
theorem xx (k n:Nat):isD (first k n):=fun d hd=>by
 obtain ⟨i,_,rfl⟩:=List.mem_map.1 hd;exact mE n i
theorem jh (k n:Nat):first (k+1) n=first k n++[dig n k]:=by simp [first,List.range_succ]
theorem iD (a b:List Nat):dv (a++b)=dv a+10^a.length*dv b:=by
 induction a with
 |nil=>simp [dv]
 |cons d a ih =>
  rw [yal,dv,dv,ih,yaz,Nat.pow_succ,Nat.mul_comm (10^a.length) 10,Nat.mul_assoc,Nat.mul_add];omega
theorem Bu (k n:Nat):dv (first k n)=n % 10^k:=by
 induction k with
 |zero=>simp [first,dv,Nat.mod_one]
 |succ k ih=>rw [jh,iD,ih,fG,gI];simp [dv]
theorem xO {l:List Nat} (h:isD l) (hl:l.getLast?≠some 0):bE (dv l)=l:=by
 induction l with
 |nil=>simp [dv,aV]
 |cons d l ih =>
  have h2:=pq h
  cases l with
  |nil =>
   have hd:d≠0:=by intro e;subst e;simp at hl
   rw [show dv [d]=d by simp [dv],fT hd,Nat.mod_eq_of_lt h2,Nat.div_eq_of_lt h2,aV]
  |cons e l =>
   have hl':(e::l).getLast?≠some 0:=by simpa [List.getLast?_cons_cons] using hl
   have ih:=ih (nY h) hl'
   have hnz:dv (e::l)≠0:=by
    intro h0
    rw [h0,aV] at ih;cases ih
   have h3:dv (d::e::l)≠0:=by rw [dv];omega
   rw [fT h3]
   have e1:dv (d::e::l) % 10=d:=by rw [dv];omega
   have e2:dv (d::e::l)/10=dv (e::l):=by rw [dv];omega
   rw [e1,e2,ih]
/-! one cA of a sum, of a difference -/
def cry (a b i:Nat):Nat:=(a % 10^i+b % 10^i)/10^i
theorem zT (a b i:Nat):cry a b i≤1:=by
 have hp:0<10^i:=Nat.pow_pos (by decide)
 have h1:=Nat.mod_lt a hp
 have h2:=Nat.mod_lt b hp
 unfold cry
 exact Nat.le_of_lt_succ (Nat.div_lt_of_lt_mul (by omega))
theorem qY (a b i:Nat):(a+b)/10^i=a/10^i+b/10^i+cry a b i:=by
 have hp:0<10^i:=Nat.pow_pos (by decide)
 have h1:=Nat.div_add_mod a (10^i)
 have h2:=Nat.div_add_mod b (10^i)
 unfold cry
 generalize a/10^i=qa at *
 generalize b/10^i=qb at *
 generalize a % 10^i=ra at *
 generalize b % 10^i=rb at *
 rw [← h1,← h2,show 10^i*qa+ra+(10^i*qb+rb)=ra+rb+10^i*(qa+qb) by rw [Nat.mul_add];omega,Nat.add_mul_div_left _ _ hp];omega
theorem CL (a b i:Nat):(dig a i+dig b i+cry a b i) % 10=dig (a+b) i:=by
 unfold dig;rw [qY];omega
theorem Cl (a b i:Nat):(dig a i+dig b i+cry a b i)/10=cry a b (i+1):=by
 have hp:0<10^i:=Nat.pow_pos (by decide)
 have e:cry a b (i+1)=(dig a i+dig b i+cry a b i)/10:=by
  unfold cry
  rw [gI,gI,Nat.pow_succ,← Nat.div_div_eq_div_mul,show a % 10^i+10^i*dig a i+(b % 10^i+10^i*dig b i)=a % 10^i+b % 10^i+10^i*(dig a i+dig b i) by rw [Nat.mul_add];omega,Nat.add_mul_div_left _ _ hp,Nat.add_comm]
 exact e.symm
theorem oI (a b:Nat):cry a b 0=0:=by simp [cry,Nat.mod_one]
def bor (a b i:Nat):Nat:=if a % 10^i<b % 10^i then 1 else 0
theorem pl (a b:Nat):bor a b 0=0:=by simp [bor,Nat.mod_one]
theorem BO (a b i:Nat):bor a b (i+1)=if dig a i<dig b i+bor a b i then 1 else 0:=by
 have hp:0<10^i:=Nat.pow_pos (by decide)
 have h1:=Nat.mod_lt a hp
 have h2:=Nat.mod_lt b hp
 unfold bor
 rw [gI,gI]
 generalize dig a i=x
 generalize dig b i=y
 generalize a % 10^i=ra at *
 generalize b % 10^i=rb at *
 generalize 10^i=p at *
 rcases Nat.lt_trichotomy x y with h|h|h
 ·have:=Nat.mul_le_mul_left p (show x+1≤y from h)
  rw [Nat.mul_add] at this
  rw [if_pos (by omega),if_pos (by omega)]
 ·subst h
  by_cases hr:ra<rb
  ·rw [if_pos (by omega),if_pos hr,if_pos (by omega)]
  ·rw [if_neg (by omega),if_neg hr,if_neg (by omega)]
 ·have:=Nat.mul_le_mul_left p (show y+1≤x from h)
  rw [Nat.mul_add] at this
  rw [if_neg (by omega)]
  split<;>rw [if_neg (by omega)]
theorem wg (a b i:Nat) (h:b≤a):(a - b)/10^i+b/10^i+bor a b i=a/10^i:=by
 have hp:0<10^i:=Nat.pow_pos (by decide)
 have h1:=qY (a - b) b i
 rw [Nat.sub_add_cancel h] at h1
 have h2:cry (a - b) b i=bor a b i:=by
  have e:=Nat.div_add_mod a (10^i)
  have e2:a % 10^i+10^i*cry (a - b) b i=(a - b) % 10^i+b % 10^i:=by
   have g1:=Nat.div_add_mod (a - b) (10^i)
   have g2:=Nat.div_add_mod b (10^i)
   rw [h1,Nat.mul_add,Nat.mul_add] at e
   omega
  have r1:=Nat.mod_lt a hp
  have r2:=Nat.mod_lt b hp
  have r3:=Nat.mod_lt (a - b) hp
  have hc:=zT (a - b) b i
  unfold bor
  rcases (by omega:cry (a - b) b i=0∨cry (a - b) b i=1) with hc|hc<;>rw [hc] at e2 ⊢
  ·rw [if_neg (by omega)]
  ·rw [if_pos (by omega)]
 omega
/-- one cA of a difference -/
theorem CN (a b i:Nat) (h:b≤a):(dig a i:Int) - dig b i - bor a b i=dig (a - b) i - 10*bor a b (i+1):=by
 have h1:=wg a b i h
 rw [BO]
 have hb:bor a b i≤1:=by unfold bor;split<;>omega
 unfold dig
 split<;>omega
/-! the order -/
theorem tF {n k:Nat} (h:n<10^k):(bE n).length≤k:=by
 induction k generalizing n with
 |zero =>
  have:n=0:=by simpa using h
  subst this;rw [aV];simp
 |succ k ih =>
  by_cases h0:n=0
  ·subst h0;rw [aV];simp
  ·rw [fT h0,yaz]
   have:n/10<10^k:=Nat.div_lt_of_lt_mul (by rw [Nat.pow_succ] at h;omega)
   have:=ih this
   omega
theorem CH {n:Nat} (h:n≠0):10^((bE n).length - 1)≤n:=by
 induction n using Nat.strongRecOn with
 |_ n ih =>
  rw [fT h,yaz,Nat.add_sub_cancel]
  by_cases h1:n/10=0
  ·rw [h1,aV];simp;omega
  ·have:=ih (n/10) (by omega) h1
   have hl:(bE (n/10)).length≠0:=by rw [fT h1];simp
   have e:(bE (n/10)).length=((bE (n/10)).length - 1)+1:=by omega
   rw [e,Nat.pow_succ];omega
theorem qk {a b:Nat} (h:(bE a).length<(bE b).length):a<b:=by
 have hb:b≠0:=by intro e;subst e;rw [aV] at h;simp at h
 have h1:=CH hb
 have h2:=AJ (f7 a)
 rw [hZ] at h2
 have h3:10^(bE a).length≤10^((bE b).length - 1):=Nat.pow_le_pow_right (by decide) (by omega)
 omega
/-- what lies above digit i decides -/
theorem qv {a b i:Nat} (h:a/10^(i+1)=b/10^(i+1)) (hd:dig a i<dig b i):a<b:=by
 have hp:0<10^i:=Nat.pow_pos (by decide)
 rw [Nat.pow_succ,← Nat.div_div_eq_div_mul,← Nat.div_div_eq_div_mul] at h
 unfold dig at hd
 have h1:a/10^i<b/10^i:=by omega
 have h2:=Nat.div_add_mod a (10^i)
 have h3:=Nat.div_add_mod b (10^i)
 have h4:=Nat.mod_lt a hp
 have h5:=Nat.mul_le_mul_left (10^i) (show a/10^i+1≤b/10^i from h1)
 rw [Nat.mul_add] at h5
 omega
theorem vX {a b i:Nat} (h:a/10^(i+1)=b/10^(i+1)) (hd:dig a i=dig b i):a/10^i=b/10^i:=by
 rw [Nat.pow_succ,← Nat.div_div_eq_div_mul,← Nat.div_div_eq_div_mul] at h
 unfold dig at hd
 omega
theorem qm {n:Nat} {k:Nat} (h:(bE n).length≤k):n/10^k=0:=by
 have h2:=AJ (f7 n)
 rw [hZ] at h2
 exact Nat.div_eq_of_lt (Nat.lt_of_lt_of_le h2 (Nat.pow_le_pow_right (by decide) h))
end Go.AL
open Go Go.AL Go.Proofs
namespace Go.AL
set_option linter.all false
set_option maxRecDepth 10000
theorem A1:ti Tryz.prog 4=some ⟨.bool,1,1,.bool false⟩:=by kernel_rfl
theorem C5:ti Tryz.prog 110=some ⟨.slice 3,1,24,.slice .nil 1 []⟩:=by kernel_rfl
theorem Eq:ti Tryz.prog 158=some ⟨.struct [(0,4,false),(1,110,false)],2,32,.agg [.bool false,.slice .nil 1 []]⟩:=by kernel_rfl
attribute [go_sem] A1 C5 Eq
def uz (l:List AV):Prop:=isI l∧isD (uni l)
theorem af {l:List Nat}:uz (bI l)=isD l:=by unfold uz;rw [ov,du];simp
theorem jK {l:List AV} (h:uz l):∃ xs,l=bI xs∧isD xs:=⟨_,h.1,h.2⟩
def wx:List AV→AHeap→(AV→Prop)→Prop
 |[.slice _ 1 l,.int .i64 i],_,K=>(isI l∧0≤i)∧K (.int .i64 ((uni l).getD i.toNat 0:Nat))
 |_,_,_=>False
theorem Bi:EntOk Tryz.prog 147 (Ent.pure wx):=by
 refine EntOk.pure fun args H K h=>?_
 unfold wx at h
 split at h
 rotate_left
 ·exact h.elim
 rename_i m l i
 obtain ⟨⟨c1,h0⟩,hK⟩:=h
 refine ⟨_,hK,?_⟩
 obtain ⟨xs,rfl⟩:=Da c1
 obtain ⟨j,rfl⟩:=Int.eq_ofNat_of_zero_le h0
 rw [du,Int.toNat_natCast]
 clear hK c1 h0
 refine ACalls.fW aA TblOk.nil Tryz.func147 [.tmp 4] (Nat.le_refl _) (T:=au []) (h:=fun hcl hlt=>?_)
 clear hlt
 simp only [go_sem,cm,Int.toNat_natCast]
 refine aj (fun h1=>?_) (fun h1=>?_)
 ·have h1':j<xs.length:=by simpa using h1
  simp only [go_sem,cm,Int.toNat_natCast,eS h1',gJ h1']
  refine ⟨by omega,?_⟩
  simp (disch:=first|assumption|omega|(simp;done)|(simp;omega)|(simp only [bt,and_true];first|done|omega|(simp;done))) [↓zmk,beq,ybc,ybd,ybe,ae,wk,wk2,wk1,wkM,wkL,al,ybf,hcl]
 ·have h1':xs.length≤j:=by simpa using h1
  have e:xs.getD j 0=0:=by simp [List.getD_eq_getElem?_getD,h1']
  simp only [go_sem,cm,Int.toNat_natCast,e]
  simp (disch:=first|assumption|omega|(simp;done)|(simp;omega)|(simp only [bt,and_true];first|done|omega|(simp;done))) [↓zmk,beq,ybc,ybd,ybe,ae,wk,wk2,wk1,wkM,wkL,al,ybf,hcl]
def sQ:List AV→AHeap→(AV→Prop)→Prop
 |[.slice _ 1 l,.slice _ 1 m],_,K=>(uz l∧uz m∧l.length≤1000∧m.length≤1000)∧K (.slice .any 1 (bI (first (max l.length m.length+1) (dv (uni l)+dv (uni m)))))
 |_,_,_=>False
theorem AN:EntOk Tryz.prog 134 (Ent.pure sQ):=by
 refine EntOk.pure fun args H K h=>?_
 unfold sQ at h
 split at h
 rotate_left
 ·exact h.elim
 rename_i ma l mb m
 obtain ⟨⟨c1,c2,l1,l2⟩,hK⟩:=h
 refine ⟨_,hK,?_⟩
 obtain ⟨xs,rfl,hx⟩:=jK c1
 obtain ⟨ys,rfl,hy⟩:=jK c2
 rw [du,du]
 rw [cm] at l1 l2 ⊢
 rw [cm]
 clear hK c1 c2
 refine ACalls.fW aA (TblOk.cons Bi TblOk.nil) Tryz.func134 [.tmp 4] (Nat.le_refl _) (T:=au []) (h:=fun hcl hlt=>?_)
 clear hlt
 generalize hn:max xs.length ys.length+1=n
 have hw:IntKind.i64.wrap (max (xs.length:Int) (ys.length:Int)+1)=(n:Int):=by rw [wrap_i64]<;>omega
 simp only [go_sem,cm]
 refine av (A:=Nat) (fun k=>[(7,.int .i64 (k:Int)),(6,.int .i64 (cry (dv xs) (dv ys) k:Nat)),(5,.slice (.own (H.nx+1)) 1 (bI (first k (dv xs+dv ys)))),(1,.slice .any 1 (bI ys)),(0,.slice .any 1 (bI xs))])
  (fun k=>(H.push (.buf 1 0)).push (.buf 1 k)) (fun k=>k≤n) (fun k=>n - k) 0 (by omega) ?_ fun k hk=>?_
 ·(simp only [bkq,enterW,aS,ltF,ne_eq,Nat.reduceEqDiff,reduceCtorEq,oI,first,List.range_zero,yaf,cN];try simp (disch:=first|assumption|omega|(simp;done)|(simp;omega)|(simp only [bt,and_true];first|done|omega|(simp;done))) [↓zmk,beq,ybc,ybd,ybe,ae,wk,wk2,wk1,wkM,wkL,al,ybf,byq,biq,af,hcl,oI,first,List.range_zero,yaf,cN];try (repeat' (first|assumption|omega|exact True.intro|refine And.intro ?_ ?_|refine ag ?_|refine aa ?_|refine ac ?_ ?_|refine ah ?_ ?_|refine ai ?_|exact AHeap.Le.refl _|refine AHeap.Le.push ?_ _|refine AHeap.Le.del ?_ ?_|(simp only [bt,and_true,true_and,oI,first,List.range_zero,yaf,cN];first|done|omega|(simp;done)))))
 simp only [go_sem,cm,hw]
 refine aj (fun h1=>?_) (fun h1=>?_)
 ·have h1':k<n:=by simpa using h1
  have d1:=mE (dv xs) k
  have d2:=mE (dv ys) k
  have hc:=zT (dv xs) (dv ys) k
  have e1:IntKind.i64.wrap ((dig (dv xs) k:Nat)+(dig (dv ys) k:Nat):Int)=((dig (dv xs) k+dig (dv ys) k:Nat):Int):=by rw [wrap_i64]<;>omega
  have e2:IntKind.i64.wrap (((dig (dv xs) k+dig (dv ys) k:Nat):Int)+(cry (dv xs) (dv ys) k:Nat))=((dig (dv xs) k+dig (dv ys) k+cry (dv xs) (dv ys) k:Nat):Int):=by rw [wrap_i64]<;>omega
  have e3:(((dig (dv xs) k+dig (dv ys) k+cry (dv xs) (dv ys) k:Nat):Int)).tmod 10=(dig (dv xs+dv ys) k:Nat):=by
   rw [Int.tmod_eq_emod_of_nonneg (by omega),← CL];omega
  have e4:IntKind.i64.wrap ((((dig (dv xs) k+dig (dv ys) k+cry (dv xs) (dv ys) k:Nat):Int)).tdiv 10)=(cry (dv xs) (dv ys) (k+1):Nat):=by
   rw [Int.tdiv_eq_ediv_of_nonneg (by omega),← Cl,wrap_i64]<;>omega
  have e5:IntKind.i64.wrap ((k:Int)+1)=((k+1:Nat):Int):=by rw [wrap_i64]<;>omega
  simp only [go_sem,biq,af,wx,iA hx,iA hy,e1,e2,e3,e4,e5,fG,← jh]
  refine ⟨by omega,by omega,by omega,⟨by omega,by omega⟩,by omega,k+1,by omega,by omega,?_⟩
  (simp only [bkq,enterW,aS,ltF,ne_eq,Nat.reduceEqDiff,reduceCtorEq];try simp (disch:=first|assumption|omega|(simp;done)|(simp;omega)|(simp only [bt,and_true];first|done|omega|(simp;done))) [↓zmk,beq,ybc,ybd,ybe,ae,wk,wk2,wk1,wkM,wkL,al,ybf,byq,biq,af,hcl];try (repeat' (first|assumption|omega|exact True.intro|refine And.intro ?_ ?_|refine ag ?_|refine aa ?_|refine ac ?_ ?_|refine ah ?_ ?_|refine ai ?_|exact AHeap.Le.refl _|refine AHeap.Le.push ?_ _|refine AHeap.Le.del ?_ ?_|(simp only [bt,and_true,true_and];first|done|omega|(simp;done)))))
 ·have h1':k=n:=by simp at h1;omega
  subst h1'
  simp only [go_sem,biq,af]
  simp (disch:=first|assumption|omega|(simp;done)|(simp;omega)|(simp only [bt,and_true];first|done|omega|(simp;done))) [↓zmk,beq,ybc,ybd,ybe,ae,wk,wk2,wk1,wkM,wkL,al,ybf,hcl]
def lY:List AV→AHeap→(AV→Prop)→Prop
 |[.slice _ 1 l,.slice _ 1 m],_,K=>(uz l∧uz m∧l.length≤1000∧m.length≤1000∧dv (uni m)≤dv (uni l))∧K (.slice .any 1 (bI (first l.length (dv (uni l) - dv (uni m)))))
 |_,_,_=>False
theorem y7:EntOk Tryz.prog 136 (Ent.pure lY):=by
 refine EntOk.pure fun args H K h=>?_
 unfold lY at h
 split at h
 rotate_left
 ·exact h.elim
 rename_i ma l mb m
 obtain ⟨⟨c1,c2,l1,l2,hle⟩,hK⟩:=h
 refine ⟨_,hK,?_⟩
 obtain ⟨xs,rfl,hx⟩:=jK c1
 obtain ⟨ys,rfl,hy⟩:=jK c2
 rw [du,du] at hle ⊢
 rw [cm] at l1 l2 ⊢
 clear hK c1 c2
 refine ACalls.fW aA (TblOk.cons Bi TblOk.nil) Tryz.func136 [.tmp 4] (Nat.le_refl _) (T:=au []) (h:=fun hcl hlt=>?_)
 clear hlt
 generalize hn:xs.length=n at *
 simp only [go_sem,biq,af,hn]
 refine av (A:=Nat) (fun k=>[(11,.int .i64 (k:Int)),(10,.int .i64 (n:Int)),(6,.int .i64 (bor (dv xs) (dv ys) k:Nat)),(5,.slice (.own (H.nx+1)) 1 (bI (first k (dv xs - dv ys)))),(1,.slice .any 1 (bI ys)),(0,.slice .any 1 (bI xs))])
  (fun k=>(H.push (.buf 1 0)).push (.buf 1 k)) (fun k=>k≤n) (fun k=>n - k) 0 (by omega) ?_ fun k hk=>?_
 ·(simp only [bkq,enterW,aS,ltF,ne_eq,Nat.reduceEqDiff,reduceCtorEq,pl,first,List.range_zero,yaf,cN];try simp (disch:=first|assumption|omega|(simp;done)|(simp;omega)|(simp only [bt,and_true];first|done|omega|(simp;done))) [↓zmk,beq,ybc,ybd,ybe,ae,wk,wk2,wk1,wkM,wkL,al,ybf,byq,biq,af,hcl,pl,first,List.range_zero,yaf,cN];try (repeat' (first|assumption|omega|exact True.intro|refine And.intro ?_ ?_|refine ag ?_|refine aa ?_|refine ac ?_ ?_|refine ah ?_ ?_|refine ai ?_|exact AHeap.Le.refl _|refine AHeap.Le.push ?_ _|refine AHeap.Le.del ?_ ?_|(simp only [bt,and_true,true_and,pl,first,List.range_zero,yaf,cN];first|done|omega|(simp;done)))))
 simp only [go_sem,biq,af]
 refine aj (fun h1=>?_) (fun h1=>?_)
 ·have h1':k<n:=by simpa using h1
  have d1:=mE (dv xs) k
  have d2:=mE (dv ys) k
  have d3:=mE (dv xs - dv ys) k
  have hc:bor (dv xs) (dv ys) k≤1:=by unfold bor;split<;>omega
  have hc2:bor (dv xs) (dv ys) (k+1)≤1:=by unfold bor;split<;>omega
  have hs:=CN (dv xs) (dv ys) k hle
  have hkx:k<xs.length:=by omega
  have e1:IntKind.i64.wrap ((dig (dv xs) k:Nat) - (dig (dv ys) k:Nat):Int)=(dig (dv xs) k:Nat) - (dig (dv ys) k:Nat):=by rw [wrap_i64]<;>omega
  have e2:IntKind.i64.wrap ((dig (dv xs) k:Nat) - (dig (dv ys) k:Nat) - (bor (dv xs) (dv ys) k:Nat):Int)=(dig (dv xs - dv ys) k:Nat) - 10*(bor (dv xs) (dv ys) (k+1):Nat):=by rw [hs,wrap_i64]<;>omega
  have e5:IntKind.i64.wrap ((k:Int)+1)=((k+1:Nat):Int):=by rw [wrap_i64]<;>omega
  simp only [go_sem,biq,af,wx,eS hkx,gJ hkx,hn,iA hx,iA hy,e1,e2]
  refine ⟨by omega,by omega,aj (fun h2=>?_) (fun h2=>?_)⟩
  ·have h2':bor (dv xs) (dv ys) (k+1)=1:=by simp at h2;omega
   have e3:IntKind.i64.wrap ((dig (dv xs - dv ys) k:Nat) - 10*(bor (dv xs) (dv ys) (k+1):Nat)+10:Int)=(dig (dv xs - dv ys) k:Nat):=by rw [wrap_i64]<;>omega
   have e4:(1:Int)=(bor (dv xs) (dv ys) (k+1):Nat):=by omega
   simp only [go_sem,biq,af,e3,e5,fG,← jh]
   refine ⟨⟨by omega,by omega⟩,k+1,by omega,by omega,?_⟩
   (simp only [bkq,enterW,aS,ltF,ne_eq,Nat.reduceEqDiff,reduceCtorEq,h2'];try simp (disch:=first|assumption|omega|(simp;done)|(simp;omega)|(simp only [bt,and_true];first|done|omega|(simp;done))) [↓zmk,beq,ybc,ybd,ybe,ae,wk,wk2,wk1,wkM,wkL,al,ybf,byq,biq,af,hcl,h2'];try (repeat' (first|assumption|omega|exact True.intro|refine And.intro ?_ ?_|refine ag ?_|refine aa ?_|refine ac ?_ ?_|refine ah ?_ ?_|refine ai ?_|exact AHeap.Le.refl _|refine AHeap.Le.push ?_ _|refine AHeap.Le.del ?_ ?_|(simp only [bt,and_true,true_and,h2'];first|done|omega|(simp;done)))))
  ·have h2':bor (dv xs) (dv ys) (k+1)=0:=by simp at h2;omega
   have e3:((dig (dv xs - dv ys) k:Nat) - 10*(bor (dv xs) (dv ys) (k+1):Nat):Int)=(dig (dv xs - dv ys) k:Nat):=by omega
   simp only [go_sem,biq,af,e3,e5,fG,← jh]
   refine ⟨⟨by omega,by omega⟩,k+1,by omega,by omega,?_⟩
   (simp only [bkq,enterW,aS,ltF,ne_eq,Nat.reduceEqDiff,reduceCtorEq,h2'];try simp (disch:=first|assumption|omega|(simp;done)|(simp;omega)|(simp only [bt,and_true];first|done|omega|(simp;done))) [↓zmk,beq,ybc,ybd,ybe,ae,wk,wk2,wk1,wkM,wkL,al,ybf,byq,biq,af,hcl,h2'];try (repeat' (first|assumption|omega|exact True.intro|refine And.intro ?_ ?_|refine ag ?_|refine aa ?_|refine ac ?_ ?_|refine ah ?_ ?_|refine ai ?_|exact AHeap.Le.refl _|refine AHeap.Le.push ?_ _|refine AHeap.Le.del ?_ ?_|(simp only [bt,and_true,true_and,h2'];first|done|omega|(simp;done)))))
 ·have h1':k=n:=by simp at h1;omega
  subst h1'
  simp only [go_sem,biq,af]
  simp (disch:=first|assumption|omega|(simp;done)|(simp;omega)|(simp only [bt,and_true];first|done|omega|(simp;done))) [↓zmk,beq,ybc,ybd,ybe,ae,wk,wk2,wk1,wkM,wkL,al,ybf,hcl]
/-- the order of two rows of digits without leading zeros -/
def jS:List AV→AHeap→(AV→Prop)→Prop
 |[.slice _ 1 l,.slice _ 1 m],_,K=>∃ a b,(l=bI (bE a)∧m=bI (bE b)∧l.length≤1000∧m.length≤1000)∧K (.int .i64 (if a=b then 0 else if a<b then -1 else 1))
 |_,_,_=>False
theorem rS:EntOk Tryz.prog 135 (Ent.pure jS):=by
 refine EntOk.pure fun args H K h=>?_
 unfold jS at h
 split at h
 rotate_left
 ·exact h.elim
 rename_i ma l mb m
 obtain ⟨a,b,⟨rfl,rfl,l1,l2⟩,hK⟩:=h
 refine ⟨_,hK,?_⟩
 rw [cm] at l1 l2
 clear hK
 refine ACalls.fW aA TblOk.nil Tryz.func135 [.tmp 4] (Nat.le_refl _) (T:=au []) (h:=fun hcl hlt=>?_)
 clear hlt
 simp only [go_sem,biq,af]
 refine aj (fun h1=>?_) (fun h1=>?_)
 ·have h1':(bE a).length≠(bE b).length:=by simp at h1;omega
  have hne:a≠b:=fun h=>h1' (by rw [h])
  simp only [go_sem,biq,af,if_neg hne]
  refine aj (fun h2=>?_) (fun h2=>?_)
  ·have h2':(bE a).length<(bE b).length:=by simpa using h2
   simp only [go_sem,biq,af,if_pos (qk h2')]
   simp (disch:=first|assumption|omega|(simp;done)|(simp;omega)|(simp only [bt,and_true];first|done|omega|(simp;done))) [↓zmk,beq,ybc,ybd,ybe,ae,wk,wk2,wk1,wkM,wkL,al,ybf,hcl]
  ·have h2':¬ (bE a).length<(bE b).length:=by simpa using h2
   have:=qk (show (bE b).length<(bE a).length by omega)
   simp only [go_sem,biq,af,if_neg (show ¬ a<b by omega)]
   simp (disch:=first|assumption|omega|(simp;done)|(simp;omega)|(simp only [bt,and_true];first|done|omega|(simp;done))) [↓zmk,beq,ybc,ybd,ybe,ae,wk,wk2,wk1,wkM,wkL,al,ybf,hcl]
 have h1':(bE a).length=(bE b).length:=by simp at h1;omega
 have ew:IntKind.i64.wrap (((bE a).length:Int) - 1)=((bE a).length:Int) - 1:=by rw [wrap_i64]<;>omega
 simp only [go_sem,biq,af,ew]
 refine gO (A:=Nat) (fun k=>[(5,.int .i64 ((k:Int) - 1)),(1,.slice mb 1 (bI (bE b))),(0,.slice ma 1 (bI (bE a)))])
  (fun k=>H) (fun k=>k≤(bE a).length∧a/10^k=b/10^k) (fun k=>k) (bE a).length ⟨Nat.le_refl _,by rw [qm (Nat.le_refl _),qm (by omega)]⟩ ?_ fun k hk=>?_
 ·simp only [bnq,enter,iP,ltF,ne_eq,Nat.reduceEqDiff,reduceCtorEq,true_or,and_true]
 obtain ⟨hk,hab⟩:=hk
 simp only [go_sem,biq,af]
 refine aj (fun h2=>?_) (fun h2=>?_)
 ·obtain ⟨j,rfl⟩:∃ j,k=j+1:=⟨k - 1,by simp at h2;omega⟩
  have ej:(((j+1:Nat):Int) - 1)=(j:Int):=by omega
  have eg1:=iA (f7 a) j
  have eg2:=iA (f7 b) j
  rw [hZ] at eg1 eg2
  have e3:IntKind.i64.wrap ((j:Int) - 1)=(j:Int) - 1:=by rw [wrap_i64]<;>omega
  simp only [go_sem,biq,af,ej,eS (show j<(bE a).length by omega),gJ (show j<(bE a).length by omega),eS (show j<(bE b).length by omega),gJ (show j<(bE b).length by omega),eg1,eg2,e3]
  refine ⟨by omega,by omega,aj (fun h3=>?_) (fun h3=>?_)⟩
  ·have h3':dig a j≠dig b j:=by simp at h3;omega
   have hne:a≠b:=fun h=>h3' (by rw [h])
   simp only [go_sem,biq,af,if_neg hne,eS (show j<(bE a).length by omega),gJ (show j<(bE a).length by omega),eS (show j<(bE b).length by omega),gJ (show j<(bE b).length by omega),eg1,eg2]
   refine ⟨by omega,by omega,aj (fun h4=>?_) (fun h4=>?_)⟩
   ·have:=qv hab (show dig a j<dig b j by simpa using h4)
    simp only [go_sem,biq,af,if_pos this]
    simp (disch:=first|assumption|omega|(simp;done)|(simp;omega)|(simp only [bt,and_true];first|done|omega|(simp;done))) [↓zmk,beq,ybc,ybd,ybe,ae,wk,wk2,wk1,wkM,wkL,al,ybf,hcl]
   ·have:=qv hab.symm (show dig b j<dig a j by simp at h4;omega)
    simp only [go_sem,biq,af,if_neg (show ¬ a<b by omega)]
    simp (disch:=first|assumption|omega|(simp;done)|(simp;omega)|(simp only [bt,and_true];first|done|omega|(simp;done))) [↓zmk,beq,ybc,ybd,ybe,ae,wk,wk2,wk1,wkM,wkL,al,ybf,hcl]
  ·have h3':dig a j=dig b j:=by simp at h3;omega
   simp only [go_sem,biq,af,e3]
   refine ⟨j,⟨by omega,vX hab h3'⟩,by omega,?_⟩
   simp only [bnq,enter,iP,ltF,ne_eq,Nat.reduceEqDiff,reduceCtorEq,true_or,and_true]
 ·have h2':k=0:=by simp at h2;omega
  subst h2'
  have he:a=b:=by simpa using hab
  simp only [go_sem,biq,af,if_pos he]
  simp (disch:=first|assumption|omega|(simp;done)|(simp;omega)|(simp only [bt,and_true];first|done|omega|(simp;done))) [↓zmk,beq,ybc,ybd,ybe,ae,wk,wk2,wk1,wkM,wkL,al,ybf,hcl]
/-- a number with its sign in memory -/
def rAV (m:Bool) (n:Nat):AV:=.agg [.bool (m&&n != 0),.slice .any 1 (bI (bE n))]
theorem tW {m mm:Bool} {x:List Nat} (h1:isD x) (h2:x.getLast?≠some 0) (h3:mm=(m&&x != [])):AV.agg [AV.bool mm,AV.slice .any 1 (bI x)]=rAV m (dv x):=by
 have e:=xO h1 h2
 unfold rAV
 rw [e,h3]
 have:(x != [])=(dv x != 0):=by
  cases x with
  |nil=>rfl
  |cons a x =>
   have:dv (a::x)≠0:=fun h0=>by rw [h0,aV] at e;cases e
   rw [bne_iff_ne.2 this];rfl
 rw [this]
def g7:List AV→AHeap→(AV→Prop)→Prop
 |[.bool m,.slice _ 1 l],_,K=>(uz l∧l.length≤100000)∧K (rAV m (dv (uni l)))
 |_,_,_=>False
theorem pB:EntOk Tryz.prog 133 (Ent.pure g7):=by
 refine EntOk.pure fun args H K h=>?_
 unfold g7 at h
 split at h
 rotate_left
 ·exact h.elim
 rename_i m mk l
 obtain ⟨⟨c1,l1⟩,hK⟩:=h
 refine ⟨_,hK,?_⟩
 obtain ⟨xs,rfl,hx⟩:=jK c1
 rw [du]
 rw [cm] at l1
 clear hK c1
 refine ACalls.fW aA TblOk.nil Tryz.func133 [.cell 4 158] (Nat.le_refl _) (T:=au []) (h:=fun hcl hlt=>?_)
 clear hlt
 simp only [go_sem,biq,af]
 refine av (A:=List Nat) (fun x=>[(1,.slice .any 1 (bI x)),(0,.bool m),(4,.ptr H.nx 0)])
  (fun x=>H.push (.cells [.bool false,.slice .nil 1 []])) (fun x=>isD x∧dv x=dv xs∧x.length≤100000) (fun x=>x.length) xs ⟨hx,rfl,l1⟩ ?_ fun x hI=>?_
 ·(simp only [bkq,enterW,aS,ltF,ne_eq,Nat.reduceEqDiff,reduceCtorEq];try simp (disch:=first|assumption|omega|(simp;done)|(simp;omega)|(simp only [bt,and_true];first|done|omega|(simp;done))) [↓zmk,beq,ybc,ybd,ybe,ae,wk,wk2,wk1,wkM,wkL,al,ybf,byq,biq,af,hcl];try (repeat' (first|assumption|omega|exact True.intro|refine And.intro ?_ ?_|refine ag ?_|refine aa ?_|refine ac ?_ ?_|refine ah ?_ ?_|refine ai ?_|exact AHeap.Le.refl _|refine AHeap.Le.push ?_ _|refine AHeap.Le.del ?_ ?_|(simp only [bt,and_true,true_and];first|done|omega|(simp;done)))))
 obtain ⟨hxd,hdv,hxl⟩:=hI
 rw [← hdv]
 rcases List.eq_nil_or_concat x with rfl|⟨y,d,rfl⟩
 ·have hd:decide (((0:Nat):Int) > 0)=false:=rfl
  have ff:AV.agg [AV.bool false,AV.slice .any 1 []]=rAV m (dv []):=tW hxd (by simp) (by cases m<;>rfl)
  simp only [go_sem,biq,af,zau,hd]
  refine bf (fun h1=>?_) (fun h1=>?_)
  all_goals
   try simp only [go_sem,biq,af,zau,hd]
   rw [← ff]
   simp (disch:=first|assumption|omega|(simp;done)|(simp;omega)|(simp only [bt,and_true];first|done|omega|(simp;done))) [↓zmk,beq,ybc,ybd,ybe,ae,wk,wk2,wk1,wkM,wkL,al,ybf,hcl]
 ·rw [List.concat_eq_append] at *
  rw [List.length_append,List.length_singleton] at hxl
  have e1:IntKind.i64.wrap (((y++[d]).length:Int) - 1)=((y.length:Nat):Int):=by simp;rw [wrap_i64]<;>omega
  have hlen:y.length<(y++[d]).length:=by simp
  have hd:decide (((y++[d]).length:Int) > 0)=true:=decide_eq_true (by simp)
  have eg:(y++[d]).getD y.length 0=d:=by simp [List.getD_eq_getElem?_getD]
  have et:(y++[d]).take y.length=y:=by simp
  simp only [go_sem,biq,af,hd,e1,eS hlen,eg]
  refine ⟨by omega,aj (fun h1=>?_) (fun h1=>?_)⟩
  ·have h1':d=0:=by simp at h1;omega
   simp only [go_sem,biq,af,e1,et,yap]
   refine ⟨by omega,y,⟨fun x hx=>hxd x (by simp [hx]),?_,by omega⟩,by simp,?_⟩
   ·rw [iD,h1'];simp [dv]
   ·(simp only [bkq,enterW,aS,ltF,ne_eq,Nat.reduceEqDiff,reduceCtorEq];try simp (disch:=first|assumption|omega|(simp;done)|(simp;omega)|(simp only [bt,and_true];first|done|omega|(simp;done))) [↓zmk,beq,ybc,ybd,ybe,ae,wk,wk2,wk1,wkM,wkL,al,ybf,byq,biq,af,hcl];try (repeat' (first|assumption|omega|exact True.intro|refine And.intro ?_ ?_|refine ag ?_|refine aa ?_|refine ac ?_ ?_|refine ah ?_ ?_|refine ai ?_|exact AHeap.Le.refl _|refine AHeap.Le.push ?_ _|refine AHeap.Le.del ?_ ?_|(simp only [bt,and_true,true_and];first|done|omega|(simp;done)))))
  ·have h1':d≠0:=by simp at h1;omega
   have ff:AV.agg [AV.bool (m&&true),AV.slice .any 1 (bI (y++[d]))]=rAV m (dv (y++[d])):=tW hxd (by simp;exact h1') (by simp)
   simp only [go_sem,biq,af,hd,zau,h1]
   rw [← ff]
   refine bf (fun h1=>?_) (fun h1=>?_)
   all_goals
    subst h1
    try simp only [go_sem,biq,af]
    simp (disch:=first|assumption|omega|(simp;done)|(simp;omega)|(simp only [bt,and_true];first|done|omega|(simp;done))) [↓zmk,beq,ybc,ybd,ybe,ae,wk,wk2,wk1,wkM,wkL,al,ybf,hcl]
end Go.AL
open Go Go.AL Go.Proofs
namespace Go.AL
set_option linter.all false
set_option maxRecDepth 10000
/-- an integer in memory -/
def zAV (a:Int):AV:=.agg [.bool (decide (a<0)),.slice .any 1 (bI (bE a.natAbs))]
theorem ks (m:Bool) (n:Nat):rAV m n=zAV (if m=true then -(n:Int) else n):=by
 unfold rAV zAV
 cases m
 ·simp
 ·simp only [Bool.true_and,if_true,Int.natAbs_neg,Int.natAbs_natCast]
  congr 3
  rw [Bool.eq_iff_iff];simp;omega
/-- an integer of at most 200 digits -/
def cQ (a:Int):Prop:=a.natAbs<10^200
theorem mS {a:Int} (h:cQ a):(bE a.natAbs).length≤200:=tF h
theorem t5 {a b:Int} (h:cQ a) (hb:b.natAbs≤a.natAbs):cQ b:=Nat.lt_of_le_of_lt hb h
theorem i7 {k n:Nat} (h:n<10^k):dv (first k n)=n:=by rw [Bu,Nat.mod_eq_of_lt h]
theorem lB (n:Nat):n<10^(bE n).length:=by have:=AJ (f7 n);rwa [hZ] at this
theorem kC {n k:Nat} (h:(bE n).length≤k):n<10^k:=Nat.lt_of_lt_of_le (lB n) (Nat.pow_le_pow_right (by decide) h)
theorem Bf (a b:Nat):a+b<10^(max (bE a).length (bE b).length+1):=by
 have h1:=@kC a (max (bE a).length (bE b).length) (Nat.le_max_left _ _)
 have h2:=@kC b (max (bE a).length (bE b).length) (Nat.le_max_right _ _)
 rw [Nat.pow_succ];omega
def fq:List AV→AHeap→(AV→Prop)→Prop
 |[x,y],_,K=>∃ a b,(x=zAV a∧y=zAV b∧cQ a∧cQ b)∧K (zAV (a+b))
 |_,_,_=>False
theorem nV:EntOk Tryz.prog 107 (Ent.pure fq):=by
 refine EntOk.pure fun args H K h=>?_
 unfold fq at h
 split at h
 rotate_left
 ·exact h.elim
 obtain ⟨a,b,⟨rfl,rfl,ha,hb⟩,hK⟩:=h
 refine ⟨_,hK,?_⟩
 clear hK
 refine ACalls.fW aA (TblOk.cons AN (TblOk.cons y7 (TblOk.cons rS (TblOk.cons pB TblOk.nil)))) Tryz.func107 [.cell 4 158] (Nat.le_refl _) (T:=au [(2,[[],[],[],[],[],[],[3,5],[1,3,5,6],[1,3,5,6,7]]),(4,[[],[],[],[],[],[],[3,5],[1,3,5,6],[1,3,5,6,7]]),(5,[[],[],[],[],[],[],[3,5],[1,3,5,6],[1,3,5,6,7]])]) (h:=fun hcl hlt=>?_)
 clear hlt
 have la:=mS ha
 have lb:=mS hb
 have ia:=f7 a.natAbs
 have ib:=f7 b.natAbs
 have fi:∀ k n,isD (first k n):=xx
 simp only [go_sem,biq,af,zAV]
 refine aj (fun h1=>?_) (fun h1=>?_)
 ·have e1:rAV (decide (a<0)) (dv (first (max (bE a.natAbs).length (bE b.natAbs).length+1) (a.natAbs+b.natAbs)))=.agg [.bool (decide (a+b<0)),.slice .any 1 (bI (bE (a+b).natAbs))]:=by
   rw [i7 (Bf _ _),ks]
   show zAV _=zAV (a+b)
   congr 1
   have h1':decide (a<0)=decide (b<0):=by simpa using h1
   by_cases hn:a<0
   ·have:b<0:=by rw [decide_eq_true hn] at h1';simpa using h1'.symm
    rw [decide_eq_true hn,if_pos rfl];omega
   ·have:¬ b<0:=by rw [decide_eq_false hn] at h1';simpa using h1'.symm
    rw [decide_eq_false hn,if_neg (by simp)];omega
  simp only [go_sem,biq,af,sQ,g7,hZ,fG,ia,ib,fi,e1]
  refine ⟨by omega,by omega,?_⟩
  simp (disch:=first|assumption|omega|(simp;done)|(simp;omega)|(simp only [bt,and_true];first|done|omega|(simp;done))) [↓zmk,beq,ybc,ybd,ybe,ae,wk,wk2,wk1,wkM,wkL,al,ybf,hcl]
 ·simp only [go_sem,biq,af,jS]
  refine ⟨a.natAbs,b.natAbs,⟨rfl,rfl,by omega,by omega⟩,aj (fun h2=>?_) (fun h2=>?_)⟩
  ·have hab:b.natAbs≤a.natAbs:=by
    simp only [decide_eq_true_eq] at h2
    split at h2
    ·omega
    ·split at h2<;>omega
   have e1:rAV (decide (a<0)) (dv (first (bE a.natAbs).length (a.natAbs - b.natAbs)))=.agg [.bool (decide (a+b<0)),.slice .any 1 (bI (bE (a+b).natAbs))]:=by
    rw [i7 (Nat.lt_of_le_of_lt (Nat.sub_le _ _) (lB _)),ks]
    show zAV _=zAV (a+b)
    congr 1
    by_cases hn:a<0
    ·have:¬ b<0:=by rw [decide_eq_true hn] at h1;simpa using h1
     rw [decide_eq_true hn,if_pos rfl];omega
    ·have:b<0:=by rw [decide_eq_false hn] at h1;simpa using h1
     rw [decide_eq_false hn,if_neg (by simp)];omega
   simp only [go_sem,biq,af,lY,g7,hZ,fG,ia,ib,fi,e1]
   refine ⟨by omega,by omega,?_⟩
   simp (disch:=first|assumption|omega|(simp;done)|(simp;omega)|(simp only [bt,and_true];first|done|omega|(simp;done))) [↓zmk,beq,ybc,ybd,ybe,ae,wk,wk2,wk1,wkM,wkL,al,ybf,hcl]
  ·have hab:a.natAbs<b.natAbs:=by
    simp only [decide_eq_false_iff_not] at h2
    split at h2
    ·omega
    ·split at h2<;>omega
   have e1:rAV (decide (b<0)) (dv (first (bE b.natAbs).length (b.natAbs - a.natAbs)))=.agg [.bool (decide (a+b<0)),.slice .any 1 (bI (bE (a+b).natAbs))]:=by
    rw [i7 (Nat.lt_of_le_of_lt (Nat.sub_le _ _) (lB _)),ks]
    show zAV _=zAV (a+b)
    congr 1
    by_cases hn:b<0
    ·have:¬ a<0:=fun h=>by simp [h,hn] at h1
     rw [decide_eq_true hn,if_pos rfl];omega
    ·have:a<0:=by
      by_cases h:a<0
      ·exact h
      ·simp [h,hn] at h1
     rw [decide_eq_false hn,if_neg (by simp)];omega
   simp only [go_sem,biq,af,lY,g7,hZ,fG,ia,ib,fi,e1]
   refine ⟨by omega,by omega,?_⟩
   simp (disch:=first|assumption|omega|(simp;done)|(simp;omega)|(simp only [bt,and_true];first|done|omega|(simp;done))) [↓zmk,beq,ybc,ybd,ybe,ae,wk,wk2,wk1,wkM,wkL,al,ybf,hcl]
def ve:List AV→AHeap→(AV→Prop)→Prop
 |[x],_,K=>∃ a,(x=zAV a∧cQ a)∧K (zAV (-a))
 |_,_,_=>False
theorem xc:EntOk Tryz.prog 119 (Ent.pure ve):=by
 refine EntOk.pure fun args H K h=>?_
 unfold ve at h
 split at h
 rotate_left
 ·exact h.elim
 obtain ⟨a,⟨rfl,ha⟩,hK⟩:=h
 refine ⟨_,hK,?_⟩
 clear hK
 refine ACalls.fW aA (TblOk.cons pB TblOk.nil) Tryz.func119 [.cell 2 158] (Nat.le_refl _) (T:=au []) (h:=fun hcl hlt=>?_)
 clear hlt
 have la:=mS ha
 have ia:=f7 a.natAbs
 have e1:rAV (!decide (a<0)) a.natAbs=.agg [.bool (decide (-a<0)),.slice .any 1 (bI (bE (-a).natAbs))]:=by
  rw [ks]
  show zAV _=zAV (-a)
  congr 1
  by_cases hn:a<0
  ·simp [hn];omega
  ·simp [hn];omega
 simp only [go_sem,biq,af,zAV,g7,hZ,ia,e1]
 refine ⟨by omega,?_⟩
 simp (disch:=first|assumption|omega|(simp;done)|(simp;omega)|(simp only [bt,and_true];first|done|omega|(simp;done))) [↓zmk,beq,ybc,ybd,ybe,ae,wk,wk2,wk1,wkM,wkL,al,ybf,hcl]
def u4:List AV→AHeap→(AV→Prop)→Prop
 |[x,y],_,K=>∃ a b,(x=zAV a∧y=zAV b∧cQ a∧cQ b)∧K (zAV (a - b))
 |_,_,_=>False
theorem wB:EntOk Tryz.prog 117 (Ent.pure u4):=by
 refine EntOk.pure fun args H K h=>?_
 unfold u4 at h
 split at h
 rotate_left
 ·exact h.elim
 obtain ⟨a,b,⟨rfl,rfl,ha,hb⟩,hK⟩:=h
 refine ⟨_,hK,?_⟩
 clear hK
 refine ACalls.fW aA (TblOk.cons xc (TblOk.cons nV TblOk.nil)) Tryz.func117 [.cell 4 158] (Nat.le_refl _) (T:=au [(1,[[],[],[1],[0,1,2],[0,1,2,3]])]) (h:=fun hcl hlt=>?_)
 clear hlt
 simp only [go_sem,biq,af,zAV,ve]
 refine ⟨b,⟨rfl,hb⟩,?_⟩
 simp only [go_sem,biq,af,zAV,fq]
 refine ⟨a,-b,⟨rfl,rfl,ha,t5 hb (by omega)⟩,?_⟩
 have en:a + -b=a - b:=by omega
 simp only [go_sem,biq,af,zAV,en]
 simp (disch:=first|assumption|omega|(simp;done)|(simp;omega)|(simp only [bt,and_true];first|done|omega|(simp;done))) [↓zmk,beq,ybc,ybd,ybe,ae,wk,wk2,wk1,wkM,wkL,al,ybf,hcl]
def vZ:List AV→AHeap→(AV→Prop)→Prop
 |[x,y],_,K=>∃ a b,(x=zAV a∧y=zAV b∧cQ a∧cQ b)∧K (.int .i64 (if a=b then 0 else if a<b then -1 else 1))
 |_,_,_=>False
theorem wK:EntOk Tryz.prog 73 (Ent.pure vZ):=by
 refine EntOk.pure fun args H K h=>?_
 unfold vZ at h
 split at h
 rotate_left
 ·exact h.elim
 obtain ⟨a,b,⟨rfl,rfl,ha,hb⟩,hK⟩:=h
 refine ⟨_,hK,?_⟩
 clear hK
 refine ACalls.fW aA (TblOk.cons wB TblOk.nil) Tryz.func73 [.tmp 4] (Nat.le_refl _) (T:=au []) (h:=fun hcl hlt=>?_)
 clear hlt
 simp only [go_sem,biq,af,zAV,u4]
 refine ⟨a,b,⟨rfl,rfl,ha,hb⟩,?_⟩
 try simp only [go_sem,biq,af,zAV]
 refine aj (fun h1=>?_) (fun h1=>?_)
 ·have h1':a<b:=by simp at h1;omega
  simp only [go_sem,biq,af,if_neg (show ¬ a=b by omega),if_pos h1']
  simp (disch:=first|assumption|omega|(simp;done)|(simp;omega)|(simp only [bt,and_true];first|done|omega|(simp;done))) [↓zmk,beq,ybc,ybd,ybe,ae,wk,wk2,wk1,wkM,wkL,al,ybf,hcl]
 ·have h1':b≤a:=by simp at h1;omega
  simp only [go_sem,biq,af]
  refine aj (fun h2=>?_) (fun h2=>?_)
  ·have h2':a≠b:=fun h=>by subst h;simp [aV] at h2
   simp only [go_sem,biq,af,if_neg h2',if_neg (show ¬ a<b by omega)]
   simp (disch:=first|assumption|omega|(simp;done)|(simp;omega)|(simp only [bt,and_true];first|done|omega|(simp;done))) [↓zmk,beq,ybc,ybd,ybe,ae,wk,wk2,wk1,wkM,wkL,al,ybf,hcl]
  ·have h2':a=b:=by
    by_cases h:(a - b).natAbs=0
    ·omega
    ·rw [fT h] at h2;simp at h2
   simp only [go_sem,biq,af,if_pos h2']
   simp (disch:=first|assumption|omega|(simp;done)|(simp;omega)|(simp only [bt,and_true];first|done|omega|(simp;done))) [↓zmk,beq,ybc,ybd,ybe,ae,wk,wk2,wk1,wkM,wkL,al,ybf,hcl]
def db:List AV→AHeap→(AV→Prop)→Prop
 |[.int .i64 n],_,K=>(-9223372036854775808≤n∧n<9223372036854775808)∧K (zAV n)
 |_,_,_=>False
theorem vF:EntOk Tryz.prog 105 (Ent.pure db):=by
 refine EntOk.pure fun args H K h=>?_
 unfold db at h
 split at h
 rotate_left
 ·exact h.elim
 rename_i n
 obtain ⟨⟨h0,h1⟩,hK⟩:=h
 refine ⟨_,hK,?_⟩
 clear hK
 refine ACalls.fW aA (TblOk.cons pB TblOk.nil) Tryz.func105 [.cell 2 158] (Nat.le_refl _) (T:=au []) (h:=fun hcl hlt=>?_)
 clear hlt
 simp only [go_sem,biq,af]
 refine av (A:=Nat × List Nat) (fun x=>[(0,.int .i64 (if n<0 then -(x.1:Int) else x.1)),(2,.ptr H.nx 0),(3,.bool (decide (n<0))),(4,.slice (.own (H.nx+1)) 1 (bI x.2))])
  (fun x=>(H.push (.cells [.bool false,.slice .nil 1 []])).push (.buf 1 x.2.length)) (fun x=>n.natAbs=dv x.2+10^x.2.length*x.1∧isD x.2∧x.2.length≤20∧x.1<10^(20 - x.2.length)) (fun x=>x.1) (n.natAbs,[]) ⟨by simp [dv],fun d hd=>(by cases hd),by simp,by simp;omega⟩ ?_ fun x hI=>?_
 ·have e0:(if n<0 then -((n.natAbs:Nat):Int) else ((n.natAbs:Nat):Int))=n:=by split<;>omega
  (simp only [bkq,enterW,aS,ltF,ne_eq,Nat.reduceEqDiff,reduceCtorEq,e0];try simp (disch:=first|assumption|omega|(simp;done)|(simp;omega)|(simp only [bt,and_true];first|done|omega|(simp;done))) [↓zmk,beq,ybc,ybd,ybe,ae,wk,wk2,wk1,wkM,wkL,al,ybf,byq,biq,af,hcl,e0];try (repeat' (first|assumption|omega|exact True.intro|refine And.intro ?_ ?_|refine ag ?_|refine aa ?_|refine ac ?_ ?_|refine ah ?_ ?_|refine ai ?_|exact AHeap.Le.refl _|refine AHeap.Le.push ?_ _|refine AHeap.Le.del ?_ ?_|(simp only [bt,and_true,true_and,e0];first|done|omega|(simp;done)))))
 obtain ⟨m,l⟩:=x
 obtain ⟨hn,hl,hle,hm⟩:=hI
 dsimp only at *
 have hmb:m≤9223372036854775808:=by
  have:1≤10^l.length:=Nat.pow_pos (by decide)
  have:=Nat.mul_le_mul_right m this
  omega
 by_cases hs:n<0
 ·skip
  have er:(-(m:Int)).tmod 10 = -((m % 10:Nat):Int):=by rw [Int.neg_tmod,Int.tmod_eq_emod_of_nonneg (by omega)];omega
  have eq:IntKind.i64.wrap ((-(m:Int)).tdiv 10) = -((m/10:Nat):Int):=by rw [Int.neg_tdiv,Int.tdiv_eq_ediv_of_nonneg (by omega),wrap_i64]<;>omega
  simp only [go_sem,biq,af,if_pos hs,er,eq]
  refine aj (fun h2=>?_) (fun h2=>?_)
  ·have h2':m≠0:=by simp at h2;omega
   have hl20:l.length<20:=by
    by_cases hc:l.length<20
    ·exact hc
    ·rw [show 20 - l.length=0 by omega] at hm;omega
   have hq:m/10<10^(20 - (l.length+1)):=Nat.div_lt_of_lt_mul (by rw [Nat.mul_comm,← Nat.pow_succ,show (20 - (l.length+1)).succ=20 - l.length by omega];exact hm)
   simp only [go_sem,biq,af,if_pos hs,er,eq]
   refine ⟨by omega,aj (fun h3=>?_) (fun h3=>?_)⟩
   ·have en:IntKind.i64.wrap (0 - -((m % 10:Nat):Int))=((m % 10:Nat):Int):=by rw [wrap_i64]<;>omega
    simp only [go_sem,biq,af,if_pos hs,er,eq,en]
    refine ⟨⟨by omega,by omega⟩,by omega,(m/10,l++[m % 10]),⟨?_,?_,by simp;omega,by simpa using hq⟩,by omega,?_⟩
    ·rw [hn,iD,List.length_append,List.length_singleton,Nat.pow_succ,Nat.mul_assoc,Nat.add_assoc,← Nat.mul_add]
     congr 2;simp [dv];omega
    ·exact fun d hd=>by
      rcases List.mem_append.1 hd with hd|hd
      ·exact hl d hd
      ·rw [List.mem_singleton.1 hd];omega
    ·(simp only [bkq,enterW,aS,ltF,ne_eq,Nat.reduceEqDiff,reduceCtorEq,if_pos hs];try simp (disch:=first|assumption|omega|(simp;done)|(simp;omega)|(simp only [bt,and_true];first|done|omega|(simp;done))) [↓zmk,beq,ybc,ybd,ybe,ae,wk,wk2,wk1,wkM,wkL,al,ybf,byq,biq,af,hcl,if_pos hs];try (repeat' (first|assumption|omega|exact True.intro|refine And.intro ?_ ?_|refine ag ?_|refine aa ?_|refine ac ?_ ?_|refine ah ?_ ?_|refine ai ?_|exact AHeap.Le.refl _|refine AHeap.Le.push ?_ _|refine AHeap.Le.del ?_ ?_|(simp only [bt,and_true,true_and,if_pos hs];first|done|omega|(simp;done)))))
   ·have en : -((m % 10:Nat):Int)=((m % 10:Nat):Int):=by simp at h3;omega
    simp only [go_sem,biq,af,if_pos hs,er,eq,en]
    refine ⟨⟨by omega,by omega⟩,by omega,(m/10,l++[m % 10]),⟨?_,?_,by simp;omega,by simpa using hq⟩,by omega,?_⟩
    ·rw [hn,iD,List.length_append,List.length_singleton,Nat.pow_succ,Nat.mul_assoc,Nat.add_assoc,← Nat.mul_add]
     congr 2;simp [dv];omega
    ·exact fun d hd=>by
      rcases List.mem_append.1 hd with hd|hd
      ·exact hl d hd
      ·rw [List.mem_singleton.1 hd];omega
    ·(simp only [bkq,enterW,aS,ltF,ne_eq,Nat.reduceEqDiff,reduceCtorEq,if_pos hs];try simp (disch:=first|assumption|omega|(simp;done)|(simp;omega)|(simp only [bt,and_true];first|done|omega|(simp;done))) [↓zmk,beq,ybc,ybd,ybe,ae,wk,wk2,wk1,wkM,wkL,al,ybf,byq,biq,af,hcl,if_pos hs];try (repeat' (first|assumption|omega|exact True.intro|refine And.intro ?_ ?_|refine ag ?_|refine aa ?_|refine ac ?_ ?_|refine ah ?_ ?_|refine ai ?_|exact AHeap.Le.refl _|refine AHeap.Le.push ?_ _|refine AHeap.Le.del ?_ ?_|(simp only [bt,and_true,true_and,if_pos hs];first|done|omega|(simp;done)))))
  ·have h2':m=0:=by simp at h2;omega
   have ev:rAV (decide (n<0)) (dv l)=.agg [.bool (decide (n<0)),.slice .any 1 (bI (bE n.natAbs))]:=by
    have:n.natAbs=dv l:=by rw [hn,h2'];simp
    rw [← this,ks]
    show zAV _=zAV n
    congr 1
    simp [hs];omega
   simp only [go_sem,biq,af,if_pos hs,g7,hl,ev,zAV]
   refine ⟨by omega,?_⟩
   simp (disch:=first|assumption|omega|(simp;done)|(simp;omega)|(simp only [bt,and_true];first|done|omega|(simp;done))) [↓zmk,beq,ybc,ybd,ybe,ae,wk,wk2,wk1,wkM,wkL,al,ybf,hcl]
 ·skip
  have er:((m:Int)).tmod 10=((m % 10:Nat):Int):=by rw [Int.tmod_eq_emod_of_nonneg (by omega)];omega
  have eq:IntKind.i64.wrap (((m:Int)).tdiv 10)=((m/10:Nat):Int):=by rw [Int.tdiv_eq_ediv_of_nonneg (by omega),wrap_i64]<;>omega
  simp only [go_sem,biq,af,if_neg hs,er,eq]
  refine aj (fun h2=>?_) (fun h2=>?_)
  ·have h2':m≠0:=by simp at h2;omega
   have hl20:l.length<20:=by
    by_cases hc:l.length<20
    ·exact hc
    ·rw [show 20 - l.length=0 by omega] at hm;omega
   have hq:m/10<10^(20 - (l.length+1)):=Nat.div_lt_of_lt_mul (by rw [Nat.mul_comm,← Nat.pow_succ,show (20 - (l.length+1)).succ=20 - l.length by omega];exact hm)
   simp only [go_sem,biq,af,if_neg hs,er,eq]
   have hd3:decide (((m % 10:Nat):Int)<0)=false:=decide_eq_false (by omega)
   simp only [go_sem,biq,af,if_neg hs,er,eq,zau,hd3]
   refine ⟨by omega,?_⟩
   refine ⟨⟨by omega,by omega⟩,by omega,(m/10,l++[m % 10]),⟨?_,?_,by simp;omega,by simpa using hq⟩,by omega,?_⟩
   ·rw [hn,iD,List.length_append,List.length_singleton,Nat.pow_succ,Nat.mul_assoc,Nat.add_assoc,← Nat.mul_add]
    congr 2;simp [dv];omega
   ·exact fun d hd=>by
     rcases List.mem_append.1 hd with hd|hd
     ·exact hl d hd
     ·rw [List.mem_singleton.1 hd];omega
   ·(simp only [bkq,enterW,aS,ltF,ne_eq,Nat.reduceEqDiff,reduceCtorEq,if_neg hs];try simp (disch:=first|assumption|omega|(simp;done)|(simp;omega)|(simp only [bt,and_true];first|done|omega|(simp;done))) [↓zmk,beq,ybc,ybd,ybe,ae,wk,wk2,wk1,wkM,wkL,al,ybf,byq,biq,af,hcl,if_neg hs];try (repeat' (first|assumption|omega|exact True.intro|refine And.intro ?_ ?_|refine ag ?_|refine aa ?_|refine ac ?_ ?_|refine ah ?_ ?_|refine ai ?_|exact AHeap.Le.refl _|refine AHeap.Le.push ?_ _|refine AHeap.Le.del ?_ ?_|(simp only [bt,and_true,true_and,if_neg hs];first|done|omega|(simp;done)))))
  ·have h2':m=0:=by simp at h2;omega
   have ev:rAV (decide (n<0)) (dv l)=.agg [.bool (decide (n<0)),.slice .any 1 (bI (bE n.natAbs))]:=by
    have:n.natAbs=dv l:=by rw [hn,h2'];simp
    rw [← this,ks]
    show zAV _=zAV n
    congr 1
    simp [hs];omega
   simp only [go_sem,biq,af,if_neg hs,g7,hl,ev,zAV]
   refine ⟨by omega,?_⟩
   simp (disch:=first|assumption|omega|(simp;done)|(simp;omega)|(simp only [bt,and_true];first|done|omega|(simp;done))) [↓zmk,beq,ybc,ybd,ybe,ae,wk,wk2,wk1,wkM,wkL,al,ybf,hcl]
end Go.AL
open Go Go.AL Go.Proofs
namespace Go.AL
set_option linter.all false
set_option maxRecDepth 10000
theorem zY:ti Tryz.prog 230=some ⟨.int .u64,1,8,.int .u64 0⟩:=by kernel_rfl
theorem mR:ti Tryz.prog 22=some ⟨.slice 5,1,24,.slice .nil 1 []⟩:=by kernel_rfl
theorem rU:ti Tryz.prog 5=some ⟨.int .u8,1,1,.int .u8 0⟩:=by kernel_rfl
theorem lg:ti Tryz.prog 9=some ⟨.string,1,16,.str []⟩:=by kernel_rfl
attribute [go_sem] zY mR rU lg
theorem ya:Tryz.prog.eqGuardType Tryz.prog.depth 98=false:=by kernel_rfl
theorem C7:Tryz.prog.eqGuardType Tryz.prog.depth 100=false:=by kernel_rfl
theorem yr {a b c d e f:Int}:teq Tryz.prog 9 98 (.agg [.int .u64 a,.int .u64 b,.int .u64 c]) (.agg [.int .u64 d,.int .u64 e,.int .u64 f])=some ((a==d)&&((b==e)&&((c==f)&&true))):=by
 simp [oW,teq,teq.arr,teq.part,l5,ceq,TD.agg]
theorem CQ {a b c d e f:Int}:teq Tryz.prog 9 100 (.agg [.int .u64 a,.int .u64 b,.int .u64 c]) (.agg [.int .u64 d,.int .u64 e,.int .u64 f])=some (((a==d)&&((b==e)&&((c==f)&&true)))&&true):=by
 have g2:Tryz.prog.stoodInHeld 100=false:=by kernel_rfl
 simp [rk,oW,teq,teq.go,teq.arr,teq.part,l5,ceq,TD.agg,g2]
theorem E5 {a b:Int} (ha:isN a) (hb:isN b):((w0 a==w0 b)&&((w1 a==w1 b)&&(w2 a==w2 b)))=decide (a=b):=by
 by_cases h:a=b
 ·subst h;simp
 ·rw [decide_eq_false h]
  have:=fun h0 h1 h2=>h (EO ha hb h0 h1 h2)
  simp only [Bool.and_eq_false_iff,beq_eq_false_iff_ne,ne_eq]
  by_cases h0:w0 a=w0 b
  ·by_cases h1:w1 a=w1 b
   ·exact .inr (.inr (this h0 h1))
   ·exact .inr (.inl h1)
  ·exact .inl h0
def fS (a b:Int):Int:=if a=b then 0 else if a<b then -1 else 1
def fF:List AV→AHeap→(AV→Prop)→Prop
 |[x,y],_,K=>∃ a b,(x=nAV a∧y=nAV b∧isN a∧isN b∧isN (a - b))∧K (.int .i64 (fS a b))
 |_,_,_=>False
theorem tV:EntOk Tryz.prog 115 (Ent.pure fF):=by
 refine EntOk.pure fun args H K h=>?_
 unfold fF at h
 split at h
 rotate_left
 ·exact h.elim
 obtain ⟨a,b,⟨rfl,rfl,ha,hb,hc⟩,hK⟩:=h
 refine ⟨_,hK,?_⟩
 refine ACalls.fW aA (TblOk.cons w6 (TblOk.cons CP TblOk.nil)) Tryz.func115 [.tmp 4] (Nat.le_refl _) (T:=au []) (h:=fun hcl hlt=>?_)
 clear hlt hK
 simp only [go_sem,byq,nAV,yr,ya,Bool.bne_false,E5 ha hb]
 refine aj (fun h1=>?_) (fun h1=>?_)
 ·have h1':a=b:=by simpa using h1
  simp only [go_sem,byq,fS,if_pos h1']
  simp (disch:=first|assumption|omega|(simp;done)|(simp;omega)|(simp only [bt,and_true];first|done|omega|(simp;done))) [↓zmk,beq,ybc,ybd,ybe,ae,wk,wk2,wk1,wkM,wkL,al,ybf,hcl]
 ·have h1':¬ a=b:=by simpa using h1
  simp only [go_sem,byq,rE]
  refine ⟨a,b,⟨rfl,rfl⟩,?_⟩
  simp only [go_sem,byq,nAV,vq]
  refine ⟨a - b,⟨rfl,hc⟩,?_⟩
  refine aj (fun h2=>?_) (fun h2=>?_)
  ·have h2':a<b:=by simp at h2;omega
   simp only [go_sem,byq]
   simp (disch:=first|assumption|omega|(simp;done)|(simp;omega)|(simp only [bt,and_true];first|done|omega|(simp;done))) [↓zmk,beq,ybc,ybd,ybe,ae,wk,wk2,wk1,wkM,wkL,al,ybf,fS,h1',h2',hcl]
  ·have h2':¬ a<b:=by simp at h2;omega
   simp only [go_sem,byq]
   simp (disch:=first|assumption|omega|(simp;done)|(simp;omega)|(simp only [bt,and_true];first|done|omega|(simp;done))) [↓zmk,beq,ybc,ybd,ybe,ae,wk,wk2,wk1,wkM,wkL,al,ybf,fS,h1',h2',hcl]
/-- the value of a number, and whether it has one -/
def iG (a:Int):AV:=if 0≤a∧a<2^128 then .tup [.agg [.int .u64 (a/2^64),.int .u64 (a % 2^64)],.bool true] else .tup [.agg [.int .u64 0,.int .u64 0],.bool false]
def gR:List AV→AHeap→(AV→Prop)→Prop
 |[x],_,K=>∃ a,(x=nAV a∧isN a)∧K (iG a)
 |_,_,_=>False
theorem qh:EntOk Tryz.prog 97 (Ent.pure gR):=by
 refine EntOk.pure fun args H K h=>?_
 unfold gR at h
 split at h
 rotate_left
 ·exact h.elim
 obtain ⟨a,⟨rfl,ha⟩,hK⟩:=h
 refine ⟨_,hK,?_⟩
 refine ACalls.fW aA TblOk.nil Tryz.func97 [.cell 2 67,.tmp 3] (Nat.le_refl _) (T:=au []) (h:=fun hcl hlt=>?_)
 clear hlt hK
 have hf:=D2 ha
 simp only [go_sem,byq,nAV]
 refine ⟨by omega,aj (fun h1=>?_) (fun h1=>?_)⟩
 ·have h1':¬ (0≤a∧a<2^128):=fun h=>by rw [← hf] at h;simp [h] at h1
  simp only [go_sem,byq,iG,if_neg h1']
  simp (disch:=first|assumption|omega|(simp;done)|(simp;omega)|(simp only [bt,and_true];first|done|omega|(simp;done))) [↓zmk,beq,ybc,ybd,ybe,ae,wk,wk2,wk1,wkM,wkL,al,ybf,hcl]
 ·have h1':(0≤a∧a<2^128):=by rw [← hf];simpa using h1
  have e1:w1 a=a/2^64:=by unfold w1;omega
  have e0:w0 a=a % 2^64:=rfl
  simp only [go_sem,byq,iG,if_pos h1',e1,e0]
  refine ⟨by omega,by omega,?_⟩
  simp (disch:=first|assumption|omega|(simp;done)|(simp;omega)|(simp only [bt,and_true];first|done|omega|(simp;done))) [↓zmk,beq,ybc,ybd,ybe,ae,wk,wk2,wk1,wkM,wkL,al,ybf,hcl]
end Go.AL
open Go Go.AL Go.Proofs
namespace Go.AL
set_option linter.all false
set_option maxRecDepth 10000
theorem BI:ti Tryz.prog 239=some ⟨.array 128 4,128,128,.agg (List.replicate 128 (.bool false))⟩:=by kernel_rfl
attribute [go_sem] BI
def gU (hi lo:Int):Prop:=0≤hi∧hi<18446744073709551616∧0≤lo∧lo<18446744073709551616
def j5:List AV→AHeap→(AV→Prop)→Prop
 |[.agg [.int .u64 hi,.int .u64 lo]],_,K=>gU hi lo∧K (.agg (bits (vOf hi.toNat lo.toNat)))
 |_,_,_=>False
theorem mL:EntOk Tryz.prog 141 (Ent.pure j5):=by
 refine EntOk.pure fun args H K h=>?_
 unfold j5 at h
 split at h
 rotate_left
 ·exact h.elim
 rename_i hi lo
 obtain ⟨⟨h0,h1,h2,h3⟩,hK⟩:=h
 refine ⟨_,hK,?_⟩
 obtain ⟨x,rfl⟩:=bJ h0
 obtain ⟨y,rfl⟩:=bJ h2
 clear hK h0 h2
 rw [Int.toNat_natCast,Int.toNat_natCast]
 have hx:x<2^64:=by omega
 have hy:y<2^64:=by omega
 refine ACalls.fW aA TblOk.nil Tryz.func141 [.cell 2 239] (Nat.le_refl _) (T:=au []) (h:=fun hcl hlt=>?_)
 clear hlt
 have hv:=oG hx hy
 have blo:∀ i,i<64→y.testBit i=(vOf x y).testBit i:=fun i hi=>by rw [sH hy,if_pos hi]
 have bhi:∀ i,x.testBit i=(vOf x y).testBit (i+64):=fun i=>by rw [sH hy,if_neg (by omega),Nat.add_sub_cancel]
 generalize hvo:vOf x y=v at hv blo bhi ⊢
 simp only [go_sem,byq]
 refine gO (A:=Nat) (fun k=>[(4,.int .i64 (k:Int)),(3,.ptr (H.nx+1+1) 0),(1,.ptr H.nx 0),(2,.ptr (H.nx+1) 0)])
  (fun k=>((H.push (.cells [.int .u64 (x:Int),.int .u64 (y:Int)])).push (.cells (List.replicate 128 (.bool false)))).push (.cells (bQ v fun j=>decide (j % 64<k)))) (fun k=>k≤64) (fun k=>64 - k) 0 (by omega) ?_ fun k hk=>?_
 ·have e:bQ v (fun j=>decide (j % 64<0))=List.replicate 128 (.bool false):=j0 _ _ fun j _=>by simp
  simp only [bnq,enter,iP,ltF,ne_eq,Nat.reduceEqDiff,reduceCtorEq,e,true_or,and_true]
  all_goals rfl
 simp only [go_sem,byq]
 refine aj (fun hc=>?_) (fun hc=>?_)
 ·have hk:k<64:=by simp at hc;omega
  have e1:IntKind.i64.wrap ((k:Int)+64)=((k+64:Nat):Int):=by rw [wrap_i64]<;>omega
  have e2:IntKind.u64.wrap (k:Int)=(k:Int):=by rw [iN]<;>omega
  have e3:IntKind.i64.wrap ((k:Int)+1)=((k+1:Nat):Int):=by rw [wrap_i64]<;>omega
  have s1:y >>> k<2^64:=sf hy
  have s2:x >>> k<2^64:=sf hx
  simp only [go_sem,byq,e1,e2,e3,jz y k hy,jz x k hx,ud _ s1,ud _ s2,CY,Int.toNat_natCast,Nat.zero_add,je,kY,blo k hk,bhi k,List.length_set]
  have hst:((bQ v fun j=>decide (j % 64<k)).set k (.bool (v.testBit k))).set (k+64) (.bool (v.testBit (k+64)))=bQ v fun j=>decide (j % 64<k+1):=by
   rw [jd v _ (fun j=>decide (j % 64<k)||decide (j=k)) k (fun j hj=>by simp [hj]) (by simp),
    jd v _ (fun j=>decide (j % 64<k)||decide (j=k)||decide (j=k+64)) (k+64) (fun j hj=>by simp [hj]) (by simp)]
   unfold bQ
   refine List.map_congr_left fun j hj=>?_
   have:j<128:=List.mem_range.1 hj
   congr 2
   rw [Bool.eq_iff_iff];simp;omega
  refine ⟨by omega,by omega,by omega,by omega,by omega,by omega,k+1,by omega,by omega,?_⟩
  simp only [bnq,enter,iP,ltF,ne_eq,Nat.reduceEqDiff,reduceCtorEq,hst,true_or,and_self]
 ·have hk:k=64:=by simp at hc;omega
  subst hk
  have e:bQ v (fun j=>decide (j % 64<64))=bits v:=lq _ _ fun j _=>by simp;omega
  have et:List.take 128 (bits v)=bits v:=ybc (by rw [ca];omega)
  have es:splice (List.replicate 128 (.bool false)) 0 (bits v)=bits v:=eu (y:=.junk) (ca v)
  simp only [go_sem,byq,e,et,es,ca,gZ]
  refine ⟨by simp,?_⟩
  simp (disch:=first|assumption|omega|(simp;done)|(simp;omega)|(simp only [bt,and_true];first|done|omega|(simp;done))) [↓zmk,beq,ybc,ybd,ybe,ae,wk,wk2,wk1,wkM,wkL,al,ybf,hcl,cx]
theorem eZ:zAV 0=.agg [.bool false,.slice .any 1 []]:=by simp [zAV,aV,cN]
theorem cO {a:Int} (k:Nat) (h:a.natAbs<10^k) (hk:k≤200):cQ a:=Nat.lt_of_lt_of_le h (Nat.pow_le_pow_right (by decide) hk)
def nQ:List AV→AHeap→(AV→Prop)→Prop
 |[.agg [.int .u64 hi,.int .u64 lo]],_,K=>gU hi lo∧K (zAV (hi*2^64+lo))
 |_,_,_=>False
theorem zW:EntOk Tryz.prog 118 (Ent.pure nQ):=by
 refine EntOk.pure fun args H K h=>?_
 unfold nQ at h
 split at h
 rotate_left
 ·exact h.elim
 rename_i hi lo
 obtain ⟨⟨h0,h1,h2,h3⟩,hK⟩:=h
 refine ⟨_,hK,?_⟩
 clear hK
 obtain ⟨x,rfl⟩:=bJ h0
 obtain ⟨y,rfl⟩:=bJ h2
 refine ACalls.fW aA (TblOk.cons mL (TblOk.cons vF (TblOk.cons nV TblOk.nil))) Tryz.func118 [.cell 2 158] (Nat.le_refl _) (T:=au [(8,[[],[],[0,1],[0,1,2]])]) (h:=fun hcl hlt=>?_)
 clear hlt
 have hv:vOf x y<2^128:=oG (by omega) (by omega)
 have hvz:((x:Int)*2^64+y)=((vOf x y:Nat):Int):=by unfold vOf;omega
 rw [hvz]
 generalize hvo:vOf x y=v at *
 have et:List.take 128 (bits v)=bits v:=ybc (by rw [ca];omega)
 have es:splice (List.replicate 128 (.bool false)) 0 (bits v)=bits v:=eu (y:=.junk) (ca v)
 simp only [go_sem,byq,biq,af,j5,db,gU,Int.toNat_natCast,hvo,eZ,ca,gZ,es]
 refine ⟨by omega,by simp,by omega,?_⟩
 have hz:∀ n:Nat,AV.agg [.bool (decide (((n:Nat):Int)<0)),.slice .any 1 (bI (bE (((n:Nat):Int)).natAbs))]=zAV (n:Int):=fun n=>rfl
 have hsm:∀ k,cQ ((v >>> k:Nat):Int):=fun k=>cO 40 (by rw [Int.natAbs_natCast];exact Nat.lt_of_le_of_lt (Nat.shiftRight_le v k) (Nat.lt_trans hv (by decide))) (by decide)
 refine av (A:=Nat) (fun k=>[(5,.int .i64 ((k:Int) - 1)),(2,.ptr (H.nx+1) 0 ),(3,.ptr (H.nx+1+1) 0),(4,.ptr (H.nx+1+1+1) 0)])
  (fun k=>((((H.push (.cells [.int .u64 (x:Int),.int .u64 (y:Int)])).push (.cells [.bool false,.slice .nil 1 []])).push (.cells (bits v))).push (.cells [.bool (decide (((v >>> k:Nat):Int)<0)),.slice .any 1 (bI (bE (((v >>> k:Nat):Int)).natAbs))])))
  (fun k=>k≤128) (fun k=>k) 128 (by omega) ?_ fun k hk=>?_
 ·have e0:v >>> 128=0:=by rw [Nat.shiftRight_eq_div_pow,Nat.div_eq_of_lt hv]
  (simp only [bkq,enterW,aS,ltF,ne_eq,Nat.reduceEqDiff,reduceCtorEq,e0,aV,Int.natAbs_zero,cx];try simp (disch:=first|assumption|omega|(simp;done)|(simp;omega)|(simp only [bt,and_true];first|done|omega|(simp;done))) [↓zmk,beq,ybc,ybd,ybe,ae,wk,wk2,wk1,wkM,wkL,al,ybf,byq,biq,af,hcl,e0,aV,Int.natAbs_zero,cx];try (repeat' (first|assumption|omega|exact True.intro|refine And.intro ?_ ?_|refine ag ?_|refine aa ?_|refine ac ?_ ?_|refine ah ?_ ?_|refine ai ?_|exact AHeap.Le.refl _|refine AHeap.Le.push ?_ _|refine AHeap.Le.del ?_ ?_|(simp only [bt,and_true,true_and,e0,aV,Int.natAbs_zero,cx];first|done|omega|(simp;done)))))
 simp only [go_sem,byq,biq,af]
 refine aj (fun h4=>?_) (fun h4=>?_)
 ·obtain ⟨j,rfl⟩:∃ j,k=j+1:=⟨k - 1,by simp at h4;omega⟩
  have ej:(((j+1:Nat):Int) - 1)=(j:Int):=by omega
  have e3:IntKind.i64.wrap ((j:Int) - 1)=(j:Int) - 1:=by rw [wrap_i64]<;>omega
  have hbit:v >>> j=2*(v >>> (j+1))+(if v.testBit j then 1 else 0):=by
   rw [Nat.testBit_eq_decide_div_mod_eq,Nat.shiftRight_eq_div_pow,Nat.shiftRight_eq_div_pow,Nat.pow_succ,← Nat.div_div_eq_div_mul]
   by_cases hb:v/2^j % 2=1
   ·rw [if_pos (by simpa using hb)];omega
   ·rw [if_neg (by simpa using hb)];omega
  simp only [go_sem,byq,biq,af,ej,e3,fq,hz]
  refine ⟨((v >>> (j+1):Nat):Int),((v >>> (j+1):Nat):Int),⟨rfl,rfl,hsm _,hsm _⟩,?_⟩
  simp only [go_sem,byq,biq,af,ej,e3,zAV,ca,iO v j (by omega)]
  refine ⟨by omega,by omega,aj (fun h5=>?_) (fun h5=>?_)⟩
  ·have hb2:v >>> j=2*(v >>> (j+1))+1:=by rw [hbit,if_pos h5]
   have hz2:AV.agg [.bool (decide (((v >>> (j+1):Nat):Int)+((v >>> (j+1):Nat):Int)<0)),.slice .any 1 (bI (bE (((v >>> (j+1):Nat):Int)+((v >>> (j+1):Nat):Int)).natAbs))]=zAV (((v >>> (j+1):Nat):Int)+((v >>> (j+1):Nat):Int)):=rfl
   simp only [go_sem,byq,biq,af,db,fq,hz2,e3]
   refine ⟨by omega,((v >>> (j+1):Nat):Int)+((v >>> (j+1):Nat):Int),1,⟨rfl,rfl,t5 (hsm j) (by omega),cO 2 (by decide) (by decide)⟩,?_⟩
   have en:((v >>> (j+1):Nat):Int)+((v >>> (j+1):Nat):Int)+1=((v >>> j:Nat):Int):=by omega
   simp only [go_sem,byq,biq,af,zAV,en,e3]
   refine ⟨j,by omega,by omega,?_⟩
   (simp only [bkq,enterW,aS,ltF,ne_eq,Nat.reduceEqDiff,reduceCtorEq,cx];try simp (disch:=first|assumption|omega|(simp;done)|(simp;omega)|(simp only [bt,and_true];first|done|omega|(simp;done))) [↓zmk,beq,ybc,ybd,ybe,ae,wk,wk2,wk1,wkM,wkL,al,ybf,byq,biq,af,hcl,cx];try (repeat' (first|assumption|omega|exact True.intro|refine And.intro ?_ ?_|refine ag ?_|refine aa ?_|refine ac ?_ ?_|refine ah ?_ ?_|refine ai ?_|exact AHeap.Le.refl _|refine AHeap.Le.push ?_ _|refine AHeap.Le.del ?_ ?_|(simp only [bt,and_true,true_and,cx];first|done|omega|(simp;done)))))
  ·have hb2:v >>> j=2*(v >>> (j+1)):=by rw [hbit,h5];simp
   have en:((v >>> (j+1):Nat):Int)+((v >>> (j+1):Nat):Int)=((v >>> j:Nat):Int):=by omega
   simp only [go_sem,byq,biq,af,zAV,en,e3]
   refine ⟨j,by omega,by omega,?_⟩
   (simp only [bkq,enterW,aS,ltF,ne_eq,Nat.reduceEqDiff,reduceCtorEq,cx];try simp (disch:=first|assumption|omega|(simp;done)|(simp;omega)|(simp only [bt,and_true];first|done|omega|(simp;done))) [↓zmk,beq,ybc,ybd,ybe,ae,wk,wk2,wk1,wkM,wkL,al,ybf,byq,biq,af,hcl,cx];try (repeat' (first|assumption|omega|exact True.intro|refine And.intro ?_ ?_|refine ag ?_|refine aa ?_|refine ac ?_ ?_|refine ah ?_ ?_|refine ai ?_|exact AHeap.Le.refl _|refine AHeap.Le.push ?_ _|refine AHeap.Le.del ?_ ?_|(simp only [bt,and_true,true_and,cx];first|done|omega|(simp;done)))))
 ·have h4':k=0:=by simp at h4;omega
  subst h4'
  simp only [go_sem,byq,biq,af,zAV,Nat.shiftRight_zero]
  simp (disch:=first|assumption|omega|(simp;done)|(simp;omega)|(simp only [bt,and_true];first|done|omega|(simp;done))) [↓zmk,beq,ybc,ybd,ybe,ae,wk,wk2,wk1,wkM,wkL,al,ybf,hcl]
/-- 2^128 -/
def limDigs:List Nat:=[6,5,4,1,1,2,8,6,7,1,3,4,7,0,6,4,7,3,3,6,4,3,6,4,8,3,9,0,2,9,6,6,3,2,8,2,0,4,3]
theorem v4:bE (2^128)=limDigs:=by decide +kernel
def limText:List UInt8:=(limDigs.map fun d=>UInt8.ofNat (48+d)).reverse
theorem v6:[51,52,48,50,56,50,51,54,54,57,50,48,57,51,56,52,54,51,52,54,51,51,55,52,54,48,55,52,51,49,55,54,56,50,49,49,52,53,54]=limText:=by decide +kernel
theorem sU:∀ j,j<39→IntKind.i64.wrap (IntKind.u8.wrap (((limText.getD j 0).toNat:Int) - 48))=((limDigs.getD (38 - j) 0:Nat):Int):=by decide +kernel
theorem zD:∀ j,j<39→limDigs.take (38 - j)++[limDigs.getD (38 - j) 0]=limDigs.take (39 - j):=by decide +kernel
def og:List AV→AHeap→(AV→Prop)→Prop
 |[],_,K=>K (zAV (2^128))
 |_,_,_=>False
theorem yp:EntOk Tryz.prog 137 (Ent.pure og):=by
 refine EntOk.pure fun args H K h=>?_
 unfold og at h
 split at h
 rotate_left
 ·exact h.elim
 refine ⟨_,h,?_⟩
 clear h
 refine ACalls.fW aA TblOk.nil Tryz.func137 [.cell 0 158] (Nat.le_refl _) (T:=au []) (h:=fun hcl hlt=>?_)
 clear hlt
 have hl:limText.length=39:=by decide +kernel
 have ew:IntKind.i64.wrap (((39:Nat):Int) - 1)=((39:Nat):Int) - 1:=by decide
 simp only [go_sem,byq,biq,af,v6,hl,ew]
 refine av (A:=Nat) (fun k=>[(3,.int .i64 ((k:Int) - 1)),(2,.slice (.own (H.nx+1)) 1 (bI (limDigs.take (39 - k)))),(1,.str limText),(0,.ptr H.nx 0)])
  (fun k=>(H.push (.cells [.bool false,.slice .nil 1 []])).push (.buf 1 (39 - k))) (fun k=>k≤39) (fun k=>k) 39 (by omega) ?_ fun k hk=>?_
 ·(simp only [bkq,enterW,aS,ltF,ne_eq,Nat.reduceEqDiff,reduceCtorEq,cN,Nat.sub_self,yar];try simp (disch:=first|assumption|omega|(simp;done)|(simp;omega)|(simp only [bt,and_true];first|done|omega|(simp;done))) [↓zmk,beq,ybc,ybd,ybe,ae,wk,wk2,wk1,wkM,wkL,al,ybf,byq,biq,af,hcl,cN,Nat.sub_self,yar];try (repeat' (first|assumption|omega|exact True.intro|refine And.intro ?_ ?_|refine ag ?_|refine aa ?_|refine ac ?_ ?_|refine ah ?_ ?_|refine ai ?_|exact AHeap.Le.refl _|refine AHeap.Le.push ?_ _|refine AHeap.Le.del ?_ ?_|(simp only [bt,and_true,true_and,cN,Nat.sub_self,yar];first|done|omega|(simp;done)))))
 simp only [go_sem,byq,biq,af]
 refine aj (fun h4=>?_) (fun h4=>?_)
 ·obtain ⟨j,rfl⟩:∃ j,k=j+1:=⟨k - 1,by simp at h4;omega⟩
  have ej:(((j+1:Nat):Int) - 1)=(j:Int):=by omega
  have e3:IntKind.i64.wrap ((j:Int) - 1)=(j:Int) - 1:=by rw [wrap_i64]<;>omega
  have eg:=sU j (by omega)
  have es:=zD j (by omega)
  have el:(limDigs.take (38 - j)).length=38 - j:=by rw [List.length_take,show limDigs.length=39 from rfl];omega
  have e39:39 - (j+1)=38 - j:=by omega
  simp only [go_sem,byq,biq,af,ej,e3,eg,hl,e39,es,el]
  have e40:38 - j+1=39 - j:=by omega
  refine ⟨by omega,by omega,j,by omega,by omega,?_⟩
  rw [e40]
  (simp only [bkq,enterW,aS,ltF,ne_eq,Nat.reduceEqDiff,reduceCtorEq];try simp (disch:=first|assumption|omega|(simp;done)|(simp;omega)|(simp only [bt,and_true];first|done|omega|(simp;done))) [↓zmk,beq,ybc,ybd,ybe,ae,wk,wk2,wk1,wkM,wkL,al,ybf,byq,biq,af,hcl];try (repeat' (first|assumption|omega|exact True.intro|refine And.intro ?_ ?_|refine ag ?_|refine aa ?_|refine ac ?_ ?_|refine ah ?_ ?_|refine ai ?_|exact AHeap.Le.refl _|refine AHeap.Le.push ?_ _|refine AHeap.Le.del ?_ ?_|(simp only [bt,and_true,true_and];first|done|omega|(simp;done)))))
 ·have h4':k=0:=by simp at h4;omega
  subst h4'
  have ez:AV.agg [AV.bool false,AV.slice .any 1 (bI (List.take 39 limDigs))]=zAV (2^128):=by
   unfold zAV
   rw [show ((2:Int)^128).natAbs=2^128 by decide,v4];rfl
  simp only [go_sem,byq,biq,af]
  rw [← ez]
  simp (disch:=first|assumption|omega|(simp;done)|(simp;omega)|(simp only [bt,and_true];first|done|omega|(simp;done))) [↓zmk,beq,ybc,ybd,ybe,ae,wk,wk2,wk1,wkM,wkL,al,ybf,hcl]
def hJ:List AV→AHeap→(AV→Prop)→Prop
 |[x],_,K=>∃ a,(x=zAV a∧cQ a)∧K (.bool (decide (0≤a∧a<2^128)))
 |_,_,_=>False
theorem zy:EntOk Tryz.prog 108 (Ent.pure hJ):=by
 refine EntOk.pure fun args H K h=>?_
 unfold hJ at h
 split at h
 rotate_left
 ·exact h.elim
 obtain ⟨a,⟨rfl,ha⟩,hK⟩:=h
 refine ⟨_,hK,?_⟩
 clear hK
 refine ACalls.fW aA (TblOk.cons yp (TblOk.cons wK TblOk.nil)) Tryz.func108 [.tmp 2] (Nat.le_refl _) (T:=au [(1,[[],[],[],[],[],[1],[1,4,5]])]) (h:=fun hcl hlt=>?_)
 clear hlt
 simp only [go_sem,biq,af,zAV,og,vZ]
 refine bf (fun h1=>?_) (fun h1=>?_)
 ·have h1':0≤a:=by simpa using h1
  refine ⟨a,2^128,⟨rfl,rfl,ha,cO 40 (by decide) (by decide)⟩,?_⟩
  have e:decide ((if a=2^128 then (0:Int) else if a<2^128 then -1 else 1)<0)=decide (0≤a∧a<2^128):=by
   rw [Bool.eq_iff_iff];simp only [decide_eq_true_eq]
   split
   ·omega
   ·split<;>omega
  try simp only [go_sem,biq,af,e]
  simp (disch:=first|assumption|omega|(simp;done)|(simp;omega)|(simp only [bt,and_true];first|done|omega|(simp;done))) [↓zmk,beq,ybc,ybd,ybe,ae,wk,wk2,wk1,wkM,wkL,al,ybf,hcl]
 ·have h1':¬ (0≤a∧a<2^128):=by simp at h1;omega
  try simp only [go_sem,biq,af,decide_eq_false h1']
  simp (disch:=first|assumption|omega|(simp;done)|(simp;omega)|(simp only [bt,and_true];first|done|omega|(simp;done))) [↓zmk,beq,ybc,ybd,ybe,ae,wk,wk2,wk1,wkM,wkL,al,ybf,hcl]
end Go.AL
open Go Go.AL Go.Proofs
namespace Go.AL
set_option linter.all false
set_option maxRecDepth 10000
theorem BX:ti Tryz.prog 75=some ⟨.slice 9,1,24,.slice .nil 1 []⟩:=by kernel_rfl
attribute [go_sem] BX
def fx (s p:List UInt8):Bool:=s.take p.length==p
def gl:List AV→AHeap→(AV→Prop)→Prop
 |[.str s,.str p],_,K=>K (.bool (fx s p))
 |_,_,_=>False
theorem kO:EntOk Tryz.prog 91 (Ent.pure gl):=by
 refine EntOk.pure fun args H K h=>?_
 unfold gl at h
 split at h
 rotate_left
 ·exact h.elim
 rename_i s p
 refine ⟨_,h,?_⟩
 clear h
 refine ACalls.fW aA TblOk.nil Tryz.func91 [.tmp 4] (Nat.le_refl _) (T:=au []) (h:=fun hcl hlt=>?_)
 clear hlt
 simp only [go_sem,Int.toNat_natCast,yap]
 refine bf (fun h1=>?_) (fun h1=>?_)
 ·have h1':p.length≤s.length:=by simpa using h1
  refine ⟨by omega,?_⟩
  simp (disch:=first|assumption|omega|(simp;done)|(simp;omega)|(simp only [bt,and_true];first|done|omega|(simp;done))) [↓zmk,beq,ybc,ybd,ybe,ae,wk,wk2,wk1,wkM,wkL,al,ybf,hcl,fx]
 ·have h1':fx s p=false:=by
   have:¬ p.length≤s.length:=by simpa using h1
   unfold fx
   rw [ybc (by omega)]
   exact beq_eq_false_iff_ne.2 fun h=>this (by rw [h];exact Nat.le_refl _)
  simp only [go_sem,h1']
  simp (disch:=first|assumption|omega|(simp;done)|(simp;omega)|(simp only [bt,and_true];first|done|omega|(simp;done))) [↓zmk,beq,ybc,ybd,ybe,ae,wk,wk2,wk1,wkM,wkL,al,ybf,hcl]
def qf (s p:List UInt8):AV:=.tup [.str (if fx s p then s.drop p.length else s),.bool (fx s p)]
def iU:List AV→AHeap→(AV→Prop)→Prop
 |[.str s,.str p],_,K=>K (qf s p)
 |_,_,_=>False
theorem p7:EntOk Tryz.prog 127 (Ent.pure iU):=by
 refine EntOk.pure fun args H K h=>?_
 unfold iU at h
 split at h
 rotate_left
 ·exact h.elim
 rename_i s p
 refine ⟨_,h,?_⟩
 clear h
 refine ACalls.fW aA (TblOk.cons kO TblOk.nil) Tryz.func127 [.tmp 4,.tmp 5] (Nat.le_refl _) (T:=au []) (h:=fun hcl hlt=>?_)
 clear hlt
 simp only [go_sem,gl,Int.toNat_natCast,List.take_length]
 refine aj (fun h1=>?_) (fun h1=>?_)
 ·have h1':fx s p=false:=by simpa using h1
  simp only [go_sem,qf,h1']
  simp (disch:=first|assumption|omega|(simp;done)|(simp;omega)|(simp only [bt,and_true];first|done|omega|(simp;done))) [↓zmk,beq,ybc,ybd,ybe,ae,wk,wk2,wk1,wkM,wkL,al,ybf,hcl]
 ·have h1':fx s p=true:=by simpa using h1
  have hle:p.length≤s.length:=by
   have:=eq_of_beq h1'
   have h2:=congrArg List.length this
   rw [List.length_take] at h2;omega
  simp only [go_sem,qf,h1',Int.toNat_natCast,List.take_length]
  refine ⟨by omega,?_⟩
  simp (disch:=first|assumption|omega|(simp;done)|(simp;omega)|(simp only [bt,and_true];first|done|omega|(simp;done))) [↓zmk,beq,ybc,ybd,ybe,ae,wk,wk2,wk1,wkM,wkL,al,ybf,hcl]
def jA:List AV→AHeap→(AV→Prop)→Prop
 |[.str s,.str p],_,K=>K (qf s p)
 |_,_,_=>False
theorem sq:EntOk Tryz.prog 94 (Ent.pure jA):=by
 refine EntOk.pure fun args H K h=>?_
 unfold jA at h
 split at h
 rotate_left
 ·exact h.elim
 rename_i s p
 refine ⟨_,h,?_⟩
 clear h
 refine ACalls.fW aA (TblOk.cons p7 TblOk.nil) Tryz.func94 [.tmp 4,.tmp 5] (Nat.le_refl _) (T:=au []) (h:=fun hcl hlt=>?_)
 clear hlt
 simp only [go_sem,iU,qf]
 simp (disch:=first|assumption|omega|(simp;done)|(simp;omega)|(simp only [bt,and_true];first|done|omega|(simp;done))) [↓zmk,beq,ybc,ybd,ybe,ae,wk,wk2,wk1,wkM,wkL,al,ybf,hcl]
def lM:List AV→AHeap→(AV→Prop)→Prop
 |[.int .u64 x,.int .u64 y],_,K=>((0≤x∧x<18446744073709551616)∧(y=10∨y=16))∧K (.tup [.int .u64 (x*y/18446744073709551616),.int .u64 (x*y % 18446744073709551616)])
 |_,_,_=>False
theorem kb {x:Int} (h:0≤x∧x<18446744073709551616):vH .u64 x 4294967295=x % 4294967296:=by
 obtain ⟨n,rfl⟩:=Int.eq_ofNat_of_zero_le h.1
 have:=ug n 4294967295 (by omega) (by decide)
 rw [show ((4294967295:Nat):Int)=4294967295 from rfl] at this
 rw [this]
 have h2:n &&& 4294967295=n % 2^32:=Nat.and_two_pow_sub_one_eq_mod n 32
 rw [h2];omega
theorem z8 {x:Int}:kx .u64 x 32=x/4294967296:=by
 unfold kx
 rw [show min (32:Int).toNat IntKind.u64.bits=32 from rfl]
 exact Int.fdiv_eq_ediv_of_nonneg _ (by decide)
theorem zF {a b y:Int} (ha:0≤a∧a<4294967296) (hb:0≤b∧b<4294967296) (hy:y=10∨y=16) :
 ((0+(a*y+b*y/4294967296)/4294967296) % 18446744073709551616+((a*y+b*y/4294967296) % 4294967296+0) % 18446744073709551616/4294967296) % 18446744073709551616=(4294967296*a+b)*y/18446744073709551616:=by
 have key:∀ d r:Int,0≤d→d<4294967296*32→0≤r→r<4294967296→((0+d/4294967296) % 18446744073709551616+(d % 4294967296+0) % 18446744073709551616/4294967296) % 18446744073709551616=(4294967296*d+r)/18446744073709551616:=fun d r h1 h2 h3 h4=>by
  have e:d=4294967296*(d/4294967296)+d % 4294967296:=by omega
  have f1:0≤d % 4294967296∧d % 4294967296<4294967296:=by omega
  generalize d/4294967296=p at *
  generalize d % 4294967296=q at *
  omega
 have hr:b*y=4294967296*(b*y/4294967296)+b*y % 4294967296:=by omega
 have hr2:0≤b*y % 4294967296∧b*y % 4294967296<4294967296:=by omega
 have e:(4294967296*a+b)*y=4294967296*(a*y+b*y/4294967296)+b*y % 4294967296:=by rw [Int.add_mul,Int.mul_assoc];omega
 rw [e]
 refine key _ _ ?_ ?_ hr2.1 hr2.2
 ·rcases hy with rfl|rfl<;>omega
 ·rcases hy with rfl|rfl<;>omega
theorem Aa:EntOk Tryz.prog 128 (Ent.pure lM):=by
 refine EntOk.pure fun args H K h=>?_
 unfold lM at h
 split at h
 rotate_left
 ·exact h.elim
 rename_i x y
 obtain ⟨⟨hx,hy⟩,hK⟩:=h
 refine ⟨_,hK,?_⟩
 clear hK
 refine ACalls.fW aA TblOk.nil Tryz.func128 [.tmp 4,.tmp 5] (Nat.le_refl _) (T:=au []) (h:=fun hcl hlt=>?_)
 clear hlt
 have w:∀ x,IntKind.u64.wrap x=x % 18446744073709551616:=fun x=>by simp [IntKind.wrap,IntKind.signed,IntKind.bits]
 rcases hy with rfl|rfl
 ·have m1:=@kb x hx
  have m2:vH .u64 10 4294967295=10:=by decide +kernel
  have s2:kx .u64 10 32=0:=by decide +kernel
  have e1:IntKind.u64.wrap (x % 4294967296*10)=x % 4294967296*10:=by rw [w];omega
  have e2:IntKind.u64.wrap (x/4294967296*10)=x/4294967296*10:=by rw [w];omega
  have e3:IntKind.u64.wrap (x/4294967296*10+x % 4294967296*10/4294967296)=x/4294967296*10+x % 4294967296*10/4294967296:=by rw [w];omega
  have m3:=@kb (x/4294967296*10+x % 4294967296*10/4294967296) (by omega)
  have z1:IntKind.u64.wrap (x % 4294967296*0)=0:=by rw [Int.mul_zero];rfl
  have z2:IntKind.u64.wrap (x/4294967296*0)=0:=by rw [Int.mul_zero];rfl
  have e4:IntKind.u64.wrap (IntKind.u64.wrap (0+(x/4294967296*10+x % 4294967296*10/4294967296)/4294967296)+(IntKind.u64.wrap ((x/4294967296*10+x % 4294967296*10/4294967296) % 4294967296+0))/4294967296)=x*10/18446744073709551616:=by
   rw [w,w,w,zF (by omega) (by omega) (by omega)]
   congr 2;omega
  simp only [go_sem,z8,m1,m2,m3,e1,e2,e3,z1,z2,s2]
  refine ⟨by omega,by omega,by omega,by omega,by omega,?_⟩
  rw [e4,w]
  simp (disch:=first|assumption|omega|(simp;done)|(simp;omega)|(simp only [bt,and_true];first|done|omega|(simp;done))) [↓zmk,beq,ybc,ybd,ybe,ae,wk,wk2,wk1,wkM,wkL,al,ybf,hcl]
 ·have m1:=@kb x hx
  have m2:vH .u64 16 4294967295=16:=by decide +kernel
  have s2:kx .u64 16 32=0:=by decide +kernel
  have e1:IntKind.u64.wrap (x % 4294967296*16)=x % 4294967296*16:=by rw [w];omega
  have e2:IntKind.u64.wrap (x/4294967296*16)=x/4294967296*16:=by rw [w];omega
  have e3:IntKind.u64.wrap (x/4294967296*16+x % 4294967296*16/4294967296)=x/4294967296*16+x % 4294967296*16/4294967296:=by rw [w];omega
  have m3:=@kb (x/4294967296*16+x % 4294967296*16/4294967296) (by omega)
  have z1:IntKind.u64.wrap (x % 4294967296*0)=0:=by rw [Int.mul_zero];rfl
  have z2:IntKind.u64.wrap (x/4294967296*0)=0:=by rw [Int.mul_zero];rfl
  have e4:IntKind.u64.wrap (IntKind.u64.wrap (0+(x/4294967296*16+x % 4294967296*16/4294967296)/4294967296)+(IntKind.u64.wrap ((x/4294967296*16+x % 4294967296*16/4294967296) % 4294967296+0))/4294967296)=x*16/18446744073709551616:=by
   rw [w,w,w,zF (by omega) (by omega) (by omega)]
   congr 2;omega
  simp only [go_sem,z8,m1,m2,m3,e1,e2,e3,z1,z2,s2]
  refine ⟨by omega,by omega,by omega,by omega,by omega,?_⟩
  rw [e4,w]
  simp (disch:=first|assumption|omega|(simp;done)|(simp;omega)|(simp only [bt,and_true];first|done|omega|(simp;done))) [↓zmk,beq,ybc,ybd,ybe,ae,wk,wk2,wk1,wkM,wkL,al,ybf,hcl]
/-- the value of a digit or of a letter -/
def dg (c:UInt8):Nat:=if 48≤c.toNat∧c.toNat≤57 then c.toNat - 48 else if 97≤c.toNat∧c.toNat≤102 then c.toNat - 87 else 99
def lJ:List AV→AHeap→(AV→Prop)→Prop
 |[x,.int .u64 y],_,K=>∃ c,(x=bk c∧(y=10∨y=16))∧K (.int .u64 (if (dg c:Int)<y then (dg c:Int) else y))
 |_,_,_=>False
theorem yD:EntOk Tryz.prog 95 (Ent.pure lJ):=by
 refine EntOk.pure fun args H K h=>?_
 unfold lJ at h
 split at h
 rotate_left
 ·exact h.elim
 rename_i x y
 obtain ⟨c,⟨rfl,hy⟩,hK⟩:=h
 refine ⟨_,hK,?_⟩
 clear hK
 refine ACalls.fW aA TblOk.nil Tryz.func95 [.tmp 4] (Nat.le_refl _) (T:=au []) (h:=fun hcl hlt=>?_)
 clear hlt
 have hc:c.toNat<256:=UInt8.toNat_lt c
 have w8:∀ x,IntKind.u8.wrap x=x % 256:=fun x=>by simp [IntKind.wrap,IntKind.signed,IntKind.bits]
 have w:∀ x,IntKind.u64.wrap x=x % 18446744073709551616:=fun x=>by simp [IntKind.wrap,IntKind.signed,IntKind.bits]
 simp only [go_sem,bk]
 refine bf (fun h1=>?_) (fun h1=>?_)
 ·refine aj (fun h2=>?_) (fun h2=>?_)
  ·have hd:dg c=c.toNat - 48:=by unfold dg;rw [if_pos (by simp at h1 h2;omega)]
   have e:min (IntKind.u64.wrap (IntKind.u8.wrap ((c.toNat:Int) - 48))) y=if (dg c:Int)<y then (dg c:Int) else y:=by
    rw [w,w8,hd];simp at h1 h2;split<;>omega
   simp only [go_sem,e]
   simp (disch:=first|assumption|omega|(simp;done)|(simp;omega)|(simp only [bt,and_true];first|done|omega|(simp;done))) [↓zmk,beq,ybc,ybd,ybe,ae,wk,wk2,wk1,wkM,wkL,al,ybf,hcl]
  ·simp only [go_sem]
   refine bf (fun h3=>?_) (fun h3=>?_)
   ·refine aj (fun h4=>?_) (fun h4=>?_)
    ·have hd:dg c=c.toNat - 87:=by unfold dg;simp at h1 h2 h3 h4;rw [if_neg (by omega),if_pos (by omega)]
     have e:min (IntKind.u64.wrap (IntKind.u64.wrap (IntKind.u8.wrap ((c.toNat:Int) - 97))+10)) y=if (dg c:Int)<y then (dg c:Int) else y:=by
      rw [w,w,w8,hd];simp at h1 h2 h3 h4;split<;>omega
     simp only [go_sem,e]
     simp (disch:=first|assumption|omega|(simp;done)|(simp;omega)|(simp only [bt,and_true];first|done|omega|(simp;done))) [↓zmk,beq,ybc,ybd,ybe,ae,wk,wk2,wk1,wkM,wkL,al,ybf,hcl]
    ·have hd:dg c=99:=by unfold dg;simp at h1 h2 h3 h4;rw [if_neg (by omega),if_neg (by omega)]
     have e:min y y=if (dg c:Int)<y then (dg c:Int) else y:=by rw [hd];split<;>omega
     simp only [go_sem,e]
     simp (disch:=first|assumption|omega|(simp;done)|(simp;omega)|(simp only [bt,and_true];first|done|omega|(simp;done))) [↓zmk,beq,ybc,ybd,ybe,ae,wk,wk2,wk1,wkM,wkL,al,ybf,hcl]
   ·have hd:dg c=99:=by unfold dg;simp at h1 h2 h3;rw [if_neg (by omega),if_neg (by omega)]
    have e:min y y=if (dg c:Int)<y then (dg c:Int) else y:=by rw [hd];split<;>omega
    try simp only [go_sem,zau,e]
    simp (disch:=first|assumption|omega|(simp;done)|(simp;omega)|(simp only [bt,and_true];first|done|omega|(simp;done))) [↓zmk,beq,ybc,ybd,ybe,ae,wk,wk2,wk1,wkM,wkL,al,ybf,hcl]
 ·try simp only [go_sem,zau]
  refine bf (fun h3=>?_) (fun h3=>?_)
  ·refine aj (fun h4=>?_) (fun h4=>?_)
   ·simp at h1 h3;omega
   ·have hd:dg c=99:=by unfold dg;simp at h1 h3 h4;rw [if_neg (by omega),if_neg (by omega)]
    have e:min y y=if (dg c:Int)<y then (dg c:Int) else y:=by rw [hd];split<;>omega
    simp only [go_sem,e]
    simp (disch:=first|assumption|omega|(simp;done)|(simp;omega)|(simp only [bt,and_true];first|done|omega|(simp;done))) [↓zmk,beq,ybc,ybd,ybe,ae,wk,wk2,wk1,wkM,wkL,al,ybf,hcl]
  ·have hd:dg c=99:=by unfold dg;simp at h1 h3;rw [if_neg (by omega),if_neg (by omega)]
   have e:min y y=if (dg c:Int)<y then (dg c:Int) else y:=by rw [hd];split<;>omega
   simp only [go_sem,zau,e]
   simp (disch:=first|assumption|omega|(simp;done)|(simp;omega)|(simp only [bt,and_true];first|done|omega|(simp;done))) [↓zmk,beq,ybc,ybd,ybe,ae,wk,wk2,wk1,wkM,wkL,al,ybf,hcl]
/-- the words of a multiple as far as they are done -/
def ju (z:Int) (k:Nat):List AV:=[.int .u64 (if 0<k then w0 z else 0),.int .u64 (if 1<k then w1 z else 0),.int .u64 (if 2<k then w2 z else 0)]
/-- what is carried -/
def mck (a y m:Int) (k:Nat):Int:=match k with
 |0=>m
 |1=>(a % 2^64*y+m)/2^64
 |2=>(a % 2^128*y+m)/2^128
 |_=>(a*y+m)/2^192
theorem zw {a y m:Int} (h0:0≤a) (h1:a<2^128) (hy:y=10∨y=16) (hm:0≤m∧m<y) :
 ((w0 a*y+m) % 2^64=w0 (a*y+m)∧(w0 a*y+m)/2^64=mck a y m 1)∧((w1 a*y+mck a y m 1) % 2^64=w1 (a*y+m)∧(w1 a*y+mck a y m 1)/2^64=mck a y m 2) ∧
 ((w2 a*y+mck a y m 2) % 2^64=w2 (a*y+m)∧(w2 a*y+mck a y m 2)/2^64=0)∧(0≤mck a y m 1∧mck a y m 1<16)∧(0≤mck a y m 2∧mck a y m 2<16):=by
 have split:∀ z:Int,0≤z→z<2^192→z=w0 z+18446744073709551616*w1 z+340282366920938463463374607431768211456*w2 z:=fun z g0 g1=>by unfold w0 w1 w2;omega
 have a0:=nC a
 have a1:=nD a
 have a2:=nk a
 have ha:=split a h0 (by omega)
 have hp:0≤a*y+m∧a*y+m<2^192:=by rcases hy with rfl|rfl<;>omega
 have hz:=split (a*y+m) hp.1 hp.2
 have b0:=nC (a*y+m)
 have b1:=nD (a*y+m)
 have b2:=nk (a*y+m)
 have q2:w2 a=0:=by generalize w0 a=x0 at *;generalize w1 a=x1 at *;generalize w2 a=x2 at *;omega
 have e1:a % 2^64=w0 a:=rfl
 have e2:a % 2^128=a:=by omega
 simp only [mck,e1,e2,q2] at *
 generalize w0 (a*y+m)=z0 at *
 generalize w1 (a*y+m)=z1 at *
 generalize w2 (a*y+m)=z2 at *
 generalize w0 a=x0 at *
 generalize w1 a=x1 at *
 subst ha
 clear q2 e1 e2 split h0 h1 a2
 have k2:((x0+18446744073709551616*x1+340282366920938463463374607431768211456*0)*y+m)/2^128=z2:=by omega
 have k1:(x0*y+m)/2^64=z1+18446744073709551616*z2 - x1*y:=by rcases hy with rfl|rfl<;>omega
 have k0:(x0*y+m) % 2^64=z0:=by rcases hy with rfl|rfl<;>omega
 rw [k2,k1,k0]
 have k3:0≤x0*y+m∧x0*y+m<16*18446744073709551616:=by rcases hy with rfl|rfl<;>omega
 have k4:z1+18446744073709551616*z2 - x1*y<16∧0≤z1+18446744073709551616*z2 - x1*y:=by omega
 have k5:z2<16:=by rcases hy with rfl|rfl<;>omega
 refine ⟨⟨?_,?_⟩,⟨?_,?_⟩,⟨?_,?_⟩,⟨?_,?_⟩,?_,?_⟩<;>first|trivial|omega
def lL:List AV→AHeap→(AV→Prop)→Prop
 |[x,.int .u64 y,.int .u64 m],_,K=>∃ a,(x=nAV a∧(0≤a∧a<2^128)∧(y=10∨y=16)∧0≤m∧m<y)∧K (nAV (a*y+m))
 |_,_,_=>False
theorem yY:EntOk Tryz.prog 96 (Ent.pure lL):=by
 refine EntOk.pure fun args H K h=>?_
 unfold lL at h
 split at h
 rotate_left
 ·exact h.elim
 rename_i y m
 obtain ⟨a,⟨rfl,ha,hy,hm⟩,hK⟩:=h
 refine ⟨_,hK,?_⟩
 refine ACalls.fW aA (TblOk.cons Aa (TblOk.cons tE TblOk.nil)) Tryz.func96 [.cell 6 100] (Nat.le_refl _) (T:=au []) (h:=fun hcl hlt=>?_)
 clear hlt hK
 obtain ⟨⟨s1,s2⟩,⟨s3,s4⟩,⟨s5,s6⟩,r1,r2⟩:=zw ha.1 ha.2 hy hm
 have a0:=nC a
 have a1:=nD a
 have a2:=nk a
 have hml:0≤m∧m<18446744073709551616:=by omega
 have split:∀ x m':Int,(0≤x∧x<18446744073709551616)→(0≤m'∧m'<16)→(x*y % 18446744073709551616+m'+0) % 18446744073709551616=(x*y+m') % 2^64∧IntKind.u64.wrap (x*y/18446744073709551616+(x*y % 18446744073709551616+m'+0)/18446744073709551616)=(x*y+m')/2^64:=fun x m' hx hm'=>by
  have w:∀ x,IntKind.u64.wrap x=x % 18446744073709551616:=fun x=>by simp [IntKind.wrap,IntKind.signed,IntKind.bits]
  rw [w]
  have e:x*y=18446744073709551616*(x*y/18446744073709551616)+x*y % 18446744073709551616:=by omega
  have b:0≤x*y∧x*y<18446744073709551616*16:=by rcases hy with rfl|rfl<;>omega
  generalize x*y=z at *
  constructor<;>omega
 have m0:mck a y m 0=m:=rfl
 simp only [go_sem,nAV]
 refine av (A:=Nat) (fun k=>[(13,.int .i64 (k:Int)),(1,.int .u64 y),(2,.int .u64 (if k=3 then 0 else mck a y m k)),(3,.ptr H.nx 0),(6,.ptr (H.nx+1) 0),(7,.ptr (H.nx+1+1) 0)])
  (fun k=>((H.push (.cells [.int .u64 (w0 a),.int .u64 (w1 a),.int .u64 (w2 a)])).push (.cells [.int .u64 0,.int .u64 0,.int .u64 0])).push (.cells (ju (a*y+m) k)))
  (fun k=>k≤3) (fun k=>3 - k) 0 (by omega) ?_ fun k hk=>?_
 ·(simp only [bkq,enterW,aS,ltF,ne_eq,Nat.reduceEqDiff,reduceCtorEq,ju,Nat.lt_irrefl,if_false,Nat.not_lt_zero,m0];try simp (disch:=first|assumption|omega|(simp;done)|(simp;omega)|(simp only [bt,and_true];first|done|omega|(simp;done))) [↓zmk,beq,ybc,ybd,ybe,ae,wk,wk2,wk1,wkM,wkL,al,ybf,byq,biq,af,hcl,ju,Nat.lt_irrefl,if_false,Nat.not_lt_zero,m0];try (repeat' (first|assumption|omega|exact True.intro|refine And.intro ?_ ?_|refine ag ?_|refine aa ?_|refine ac ?_ ?_|refine ah ?_ ?_|refine ai ?_|exact AHeap.Le.refl _|refine AHeap.Le.push ?_ _|refine AHeap.Le.del ?_ ?_|(simp only [bt,and_true,true_and,ju,Nat.lt_irrefl,if_false,Nat.not_lt_zero,m0];first|done|omega|(simp;done)))))
 rcases (by omega:k=0∨k=1∨k=2∨k=3) with rfl|rfl|rfl|rfl
 ·have hd:decide (((0:Nat):Int)<3)=true:=rfl
  have e1:IntKind.i64.wrap (((0:Nat):Int)+1)=((1:Nat):Int):=by rw [wrap_i64]<;>omega
  have t1:((0:Nat):Int).toNat=0:=rfl
  obtain ⟨f1,f2⟩:=split (w0 a) m a0 (by omega)
  rw [s1] at f1
  rw [s2] at f2
  simp only [go_sem,zat,lM,g8,hd,ju,e1,t1,m0,f1,f2,Int.reduceLT,Nat.reduceEqDiff]
  refine ⟨by omega,by omega,by omega,by omega,1,by omega,by omega,?_⟩
  (simp only [bkq,enterW,aS,ltF,ne_eq,Nat.reduceEqDiff,reduceCtorEq,ju];try simp (disch:=first|assumption|omega|(simp;done)|(simp;omega)|(simp only [bt,and_true];first|done|omega|(simp;done))) [↓zmk,beq,ybc,ybd,ybe,ae,wk,wk2,wk1,wkM,wkL,al,ybf,byq,biq,af,hcl,ju];try (repeat' (first|assumption|omega|exact True.intro|refine And.intro ?_ ?_|refine ag ?_|refine aa ?_|refine ac ?_ ?_|refine ah ?_ ?_|refine ai ?_|exact AHeap.Le.refl _|refine AHeap.Le.push ?_ _|refine AHeap.Le.del ?_ ?_|(simp only [bt,and_true,true_and,ju];first|done|omega|(simp;done)))))
 ·have hd:decide (((1:Nat):Int)<3)=true:=rfl
  have e1:IntKind.i64.wrap (((1:Nat):Int)+1)=((2:Nat):Int):=by rw [wrap_i64]<;>omega
  have t1:((1:Nat):Int).toNat=1:=rfl
  obtain ⟨f1,f2⟩:=split (w1 a) (mck a y m 1) a1 (by omega)
  rw [s3] at f1
  rw [s4] at f2
  simp only [go_sem,zat,lM,g8,hd,ju,e1,t1,f1,f2,Nat.reduceEqDiff]
  refine ⟨by omega,by omega,by omega,by omega,2,by omega,by omega,?_⟩
  (simp only [bkq,enterW,aS,ltF,ne_eq,Nat.reduceEqDiff,reduceCtorEq,ju];try simp (disch:=first|assumption|omega|(simp;done)|(simp;omega)|(simp only [bt,and_true];first|done|omega|(simp;done))) [↓zmk,beq,ybc,ybd,ybe,ae,wk,wk2,wk1,wkM,wkL,al,ybf,byq,biq,af,hcl,ju];try (repeat' (first|assumption|omega|exact True.intro|refine And.intro ?_ ?_|refine ag ?_|refine aa ?_|refine ac ?_ ?_|refine ah ?_ ?_|refine ai ?_|exact AHeap.Le.refl _|refine AHeap.Le.push ?_ _|refine AHeap.Le.del ?_ ?_|(simp only [bt,and_true,true_and,ju];first|done|omega|(simp;done)))))
 ·have hd:decide (((2:Nat):Int)<3)=true:=rfl
  have e1:IntKind.i64.wrap (((2:Nat):Int)+1)=((3:Nat):Int):=by rw [wrap_i64]<;>omega
  have t1:((2:Nat):Int).toNat=2:=rfl
  obtain ⟨f1,f2⟩:=split (w2 a) (mck a y m 2) a2 (by omega)
  rw [s5] at f1
  rw [s6] at f2
  simp only [go_sem,zat,lM,g8,hd,ju,e1,t1,f1,f2,Nat.reduceEqDiff]
  refine ⟨by omega,by omega,by omega,by omega,3,by omega,by omega,?_⟩
  (simp only [bkq,enterW,aS,ltF,ne_eq,Nat.reduceEqDiff,reduceCtorEq,ju];try simp (disch:=first|assumption|omega|(simp;done)|(simp;omega)|(simp only [bt,and_true];first|done|omega|(simp;done))) [↓zmk,beq,ybc,ybd,ybe,ae,wk,wk2,wk1,wkM,wkL,al,ybf,byq,biq,af,hcl,ju];try (repeat' (first|assumption|omega|exact True.intro|refine And.intro ?_ ?_|refine ag ?_|refine aa ?_|refine ac ?_ ?_|refine ah ?_ ?_|refine ai ?_|exact AHeap.Le.refl _|refine AHeap.Le.push ?_ _|refine AHeap.Le.del ?_ ?_|(simp only [bt,and_true,true_and,ju];first|done|omega|(simp;done)))))
 ·have hd:decide (((3:Nat):Int)<3)=false:=rfl
  simp only [go_sem,zau,hd,ju]
  simp (disch:=first|assumption|omega|(simp;done)|(simp;omega)|(simp only [bt,and_true];first|done|omega|(simp;done))) [↓zmk,beq,ybc,ybd,ybe,ae,wk,wk2,wk1,wkM,wkL,al,ybf,hcl]
/-- the number of a row of digits, as long as it is less than 2^128 -/
def cW (base:Nat):Nat→List UInt8→Option Nat
 |n,[]=>some n
 |n,c::s=>if dg c<base then (if n*base+dg c<2^128 then cW base (n*base+dg c) s else none) else none
def lit (s:List UInt8):Option Nat:=if fx s [48,120] then (if s.drop 2=[] then none else cW 16 0 (s.drop 2)) else if s=[] then none else cW 10 0 s
/-- ik ways, for a fU -/
theorem gF {a b:Nat} {G:Prop} (h1:a<b→G) (h2:b≤a→G):G:=(Nat.lt_or_ge a b).elim h1 h2
def nG (o:Option Nat):AV:=match o with
 |some n=>.tup [nAV n,.bool true]
 |none=>.tup [nAV 0,.bool false]
def i9:List AV→AHeap→(AV→Prop)→Prop
 |[.str s],_,K=>(s.length≤140737488355328)∧K (nG (lit s))
 |_,_,_=>False
theorem nl:EntOk Tryz.prog 56 (Ent.pure i9):=by
 refine EntOk.pure fun args H K h=>?_
 unfold i9 at h
 split at h
 rotate_left
 ·exact h.elim
 rename_i s
 obtain ⟨hl,hK⟩:=h
 refine ⟨_,hK,?_⟩
 refine ACalls.fW aA (TblOk.cons sq (TblOk.cons yD (TblOk.cons yY (TblOk.cons qh TblOk.nil)))) Tryz.func56 [.cell 2 100,.tmp 3] (Nat.le_refl _) (T:=au []) (h:=fun hcl hlt=>?_)
 clear hlt hK
 have z0:nAV 0=.agg [.int .u64 0,.int .u64 0,.int .u64 0]:=rfl
 simp only [go_sem,jA,qf]
 refine aj (fun h1=>?_) (fun h1=>?_)
 ·simp only [go_sem,h1]
  have hl':(s.drop 2).length≤140737488355328:=by rw [List.length_drop];omega
  have hr:lit s=if s.drop 2=[] then none else cW 16 0 (s.drop 2):=by unfold lit;rw [h1];simp
  rw [hr]
  clear hr h1 hl
  generalize s.drop 2=b at *
  refine ⟨by omega,?_⟩
  refine av (A:=Nat × Nat) (fun x=>[(0,.str b),(2,.ptr H.nx 0),(4,.int .u64 16),(7,.ptr (H.nx+1) 0),(21,.slice .any 1 (bys b)),(22,.int .i64 (b.length:Int)),(23,.int .i64 (x.1:Int))])
   (fun x=>(H.push (.cells [.int .u64 0,.int .u64 0,.int .u64 0])).push (.cells [.int .u64 (w0 (x.2:Int)),.int .u64 (w1 (x.2:Int)),.int .u64 (w2 (x.2:Int))]))
   (fun x=>x.1≤b.length∧x.2<2^128∧cW 16 0 b=cW 16 x.2 (b.drop x.1)) (fun x=>b.length - x.1) (0,0) ⟨by omega,by decide,rfl⟩ ?_ fun x hI=>?_
  ·have z1:w0 0=0:=rfl
   have z2:w1 0=0:=rfl
   have z3:w2 0=0:=rfl
   (simp only [bkq,enterW,aS,ltF,ne_eq,Nat.reduceEqDiff,reduceCtorEq,z1,z2,z3];try simp (disch:=first|assumption|omega|(simp;done)|(simp;omega)|(simp only [bt,and_true];first|done|omega|(simp;done))) [↓zmk,beq,ybc,ybd,ybe,ae,wk,wk2,wk1,wkM,wkL,al,ybf,byq,biq,af,hcl,z1,z2,z3];try (repeat' (first|assumption|omega|exact True.intro|refine And.intro ?_ ?_|refine ag ?_|refine aa ?_|refine ac ?_ ?_|refine ah ?_ ?_|refine ai ?_|exact AHeap.Le.refl _|refine AHeap.Le.push ?_ _|refine AHeap.Le.del ?_ ?_|(simp only [bt,and_true,true_and,z1,z2,z3];first|done|omega|(simp;done)))))
  obtain ⟨k,n⟩:=x
  obtain ⟨hk,hn,hl2⟩:=hI
  dsimp only at *
  simp only [go_sem,byq]
  refine aj (fun h2=>?_) (fun h2=>?_)
  ·have h2':k<b.length:=by simpa using h2
   rw [List.drop_eq_getElem_cons h2'] at hl2
   have hg:(bys b).getD k .junk=bk b[k]:=by rw [sP h2'];simp [List.getD_eq_getElem?_getD,h2']
   have e5:IntKind.i64.wrap ((k:Int)+1)=((k+1:Nat):Int):=by rw [wrap_i64]<;>omega
   simp only [cW] at hl2
   generalize b[k]=c at *
   simp only [go_sem,byq,hg,lJ]
   refine ⟨by omega,c,rfl,?_⟩
   by_cases hd:dg c<16
   ·have hdi:((dg c:Nat):Int)<16:=by omega
    rw [if_pos hdi]
    rw [if_pos hd] at hl2
    have hne:(((dg c:Nat):Int)==16)=false:=by simp;omega
    have hz:AV.agg [.int .u64 (w0 (n:Int)),.int .u64 (w1 (n:Int)),.int .u64 (w2 (n:Int))]=nAV (n:Int):=rfl
    simp only [go_sem,byq,zau,hne,lL]
    refine ⟨(n:Int),⟨rfl,by omega,by omega,by omega⟩,?_⟩
    obtain ⟨z,hz2⟩:∃ z:Int,z=((n*16+dg c:Nat):Int):=⟨_,rfl⟩
    have en:((n:Int)*16+(dg c:Nat))=z:=by omega
    have hN:isN z:=⟨by omega,by omega⟩
    refine gF (a:=n*16+dg c) (b:=2^128) (fun hf=>?_) (fun hf=>?_)
    ·rw [if_pos hf] at hl2
     have hv:iG z=.tup [.agg [.int .u64 (z/2^64),.int .u64 (z % 2^64)],.bool true]:=by unfold iG;rw [if_pos (by omega)]
     simp only [go_sem,byq,en,nAV,gR]
     refine ⟨z,⟨rfl,hN⟩,?_⟩
     simp only [go_sem,byq,zau,hv,e5]
     refine ⟨(k+1,n*16+dg c),⟨by omega,hf,hl2⟩,by omega,?_⟩
     (simp only [bkq,enterW,aS,ltF,ne_eq,Nat.reduceEqDiff,reduceCtorEq,hz2];try simp (disch:=first|assumption|omega|(simp;done)|(simp;omega)|(simp only [bt,and_true];first|done|omega|(simp;done))) [↓zmk,beq,ybc,ybd,ybe,ae,wk,wk2,wk1,wkM,wkL,al,ybf,byq,biq,af,hcl,hz2];try (repeat' (first|assumption|omega|exact True.intro|refine And.intro ?_ ?_|refine ag ?_|refine aa ?_|refine ac ?_ ?_|refine ah ?_ ?_|refine ai ?_|exact AHeap.Le.refl _|refine AHeap.Le.push ?_ _|refine AHeap.Le.del ?_ ?_|(simp only [bt,and_true,true_and,hz2];first|done|omega|(simp;done)))))
    ·rw [if_neg (Nat.not_lt.2 hf)] at hl2
     have hv:iG z=.tup [.agg [.int .u64 0,.int .u64 0],.bool false]:=by unfold iG;rw [if_neg (by omega)]
     simp only [go_sem,byq,en,nAV,gR]
     refine ⟨z,⟨rfl,hN⟩,?_⟩
     have hbn:b≠[]:=by intro h;subst h;simp at h2'
     simp only [go_sem,byq,zat,hv,hl2,if_neg hbn,nG,z0]
     simp (disch:=first|assumption|omega|(simp;done)|(simp;omega)|(simp only [bt,and_true];first|done|omega|(simp;done))) [↓zmk,beq,ybc,ybd,ybe,ae,wk,wk2,wk1,wkM,wkL,al,ybf,hcl]
   ·rw [if_neg (by omega)]
    rw [if_neg hd] at hl2
    have hbn:b≠[]:=by intro h;subst h;simp at h2'
    have he:((16:Int)==16)=true:=rfl
    simp only [go_sem,byq,zat,hl2,if_neg hbn,nG,z0,he]
    simp (disch:=first|assumption|omega|(simp;done)|(simp;omega)|(simp only [bt,and_true];first|done|omega|(simp;done))) [↓zmk,beq,ybc,ybd,ybe,ae,wk,wk2,wk1,wkM,wkL,al,ybf,hcl]
  ·have h2':k=b.length:=by simp at h2;omega
   subst h2'
   rw [List.drop_length] at hl2
   simp only [cW] at hl2
   simp only [go_sem,byq]
   refine aj (fun h3=>?_) (fun h3=>?_)
   ·have hbn:b=[]:=by simpa using h3
    simp only [go_sem,byq,if_pos hbn,nG,z0]
    simp (disch:=first|assumption|omega|(simp;done)|(simp;omega)|(simp only [bt,and_true];first|done|omega|(simp;done))) [↓zmk,beq,ybc,ybd,ybe,ae,wk,wk2,wk1,wkM,wkL,al,ybf,hcl]
   ·have hbn:b≠[]:=by simpa using h3
    simp only [go_sem,byq,if_neg hbn,nG,hl2,nAV]
    simp (disch:=first|assumption|omega|(simp;done)|(simp;omega)|(simp only [bt,and_true];first|done|omega|(simp;done))) [↓zmk,beq,ybc,ybd,ybe,ae,wk,wk2,wk1,wkM,wkL,al,ybf,hcl]
 ·simp only [go_sem,h1]
  have hl':(s).length≤140737488355328:=by exact hl
  have hr:lit s=if s=[] then none else cW 10 0 (s):=by unfold lit;rw [h1];simp
  rw [hr]
  clear hr h1 hl
  generalize s=b at *
  refine ⟨by omega,?_⟩
  refine av (A:=Nat × Nat) (fun x=>[(0,.str b),(2,.ptr H.nx 0),(4,.int .u64 10),(7,.ptr (H.nx+1) 0),(21,.slice .any 1 (bys b)),(22,.int .i64 (b.length:Int)),(23,.int .i64 (x.1:Int))])
   (fun x=>(H.push (.cells [.int .u64 0,.int .u64 0,.int .u64 0])).push (.cells [.int .u64 (w0 (x.2:Int)),.int .u64 (w1 (x.2:Int)),.int .u64 (w2 (x.2:Int))]))
   (fun x=>x.1≤b.length∧x.2<2^128∧cW 10 0 b=cW 10 x.2 (b.drop x.1)) (fun x=>b.length - x.1) (0,0) ⟨by omega,by decide,rfl⟩ ?_ fun x hI=>?_
  ·have z1:w0 0=0:=rfl
   have z2:w1 0=0:=rfl
   have z3:w2 0=0:=rfl
   (simp only [bkq,enterW,aS,ltF,ne_eq,Nat.reduceEqDiff,reduceCtorEq,z1,z2,z3];try simp (disch:=first|assumption|omega|(simp;done)|(simp;omega)|(simp only [bt,and_true];first|done|omega|(simp;done))) [↓zmk,beq,ybc,ybd,ybe,ae,wk,wk2,wk1,wkM,wkL,al,ybf,byq,biq,af,hcl,z1,z2,z3];try (repeat' (first|assumption|omega|exact True.intro|refine And.intro ?_ ?_|refine ag ?_|refine aa ?_|refine ac ?_ ?_|refine ah ?_ ?_|refine ai ?_|exact AHeap.Le.refl _|refine AHeap.Le.push ?_ _|refine AHeap.Le.del ?_ ?_|(simp only [bt,and_true,true_and,z1,z2,z3];first|done|omega|(simp;done)))))
  obtain ⟨k,n⟩:=x
  obtain ⟨hk,hn,hl2⟩:=hI
  dsimp only at *
  simp only [go_sem,byq]
  refine aj (fun h2=>?_) (fun h2=>?_)
  ·have h2':k<b.length:=by simpa using h2
   rw [List.drop_eq_getElem_cons h2'] at hl2
   have hg:(bys b).getD k .junk=bk b[k]:=by rw [sP h2'];simp [List.getD_eq_getElem?_getD,h2']
   have e5:IntKind.i64.wrap ((k:Int)+1)=((k+1:Nat):Int):=by rw [wrap_i64]<;>omega
   simp only [cW] at hl2
   generalize b[k]=c at *
   simp only [go_sem,byq,hg,lJ]
   refine ⟨by omega,c,rfl,?_⟩
   by_cases hd:dg c<10
   ·have hdi:((dg c:Nat):Int)<10:=by omega
    rw [if_pos hdi]
    rw [if_pos hd] at hl2
    have hne:(((dg c:Nat):Int)==10)=false:=by simp;omega
    have hz:AV.agg [.int .u64 (w0 (n:Int)),.int .u64 (w1 (n:Int)),.int .u64 (w2 (n:Int))]=nAV (n:Int):=rfl
    simp only [go_sem,byq,zau,hne,lL]
    refine ⟨(n:Int),⟨rfl,by omega,by omega,by omega⟩,?_⟩
    obtain ⟨z,hz2⟩:∃ z:Int,z=((n*10+dg c:Nat):Int):=⟨_,rfl⟩
    have en:((n:Int)*10+(dg c:Nat))=z:=by omega
    have hN:isN z:=⟨by omega,by omega⟩
    refine gF (a:=n*10+dg c) (b:=2^128) (fun hf=>?_) (fun hf=>?_)
    ·rw [if_pos hf] at hl2
     have hv:iG z=.tup [.agg [.int .u64 (z/2^64),.int .u64 (z % 2^64)],.bool true]:=by unfold iG;rw [if_pos (by omega)]
     simp only [go_sem,byq,en,nAV,gR]
     refine ⟨z,⟨rfl,hN⟩,?_⟩
     simp only [go_sem,byq,zau,hv,e5]
     refine ⟨(k+1,n*10+dg c),⟨by omega,hf,hl2⟩,by omega,?_⟩
     (simp only [bkq,enterW,aS,ltF,ne_eq,Nat.reduceEqDiff,reduceCtorEq,hz2];try simp (disch:=first|assumption|omega|(simp;done)|(simp;omega)|(simp only [bt,and_true];first|done|omega|(simp;done))) [↓zmk,beq,ybc,ybd,ybe,ae,wk,wk2,wk1,wkM,wkL,al,ybf,byq,biq,af,hcl,hz2];try (repeat' (first|assumption|omega|exact True.intro|refine And.intro ?_ ?_|refine ag ?_|refine aa ?_|refine ac ?_ ?_|refine ah ?_ ?_|refine ai ?_|exact AHeap.Le.refl _|refine AHeap.Le.push ?_ _|refine AHeap.Le.del ?_ ?_|(simp only [bt,and_true,true_and,hz2];first|done|omega|(simp;done)))))
    ·rw [if_neg (Nat.not_lt.2 hf)] at hl2
     have hv:iG z=.tup [.agg [.int .u64 0,.int .u64 0],.bool false]:=by unfold iG;rw [if_neg (by omega)]
     simp only [go_sem,byq,en,nAV,gR]
     refine ⟨z,⟨rfl,hN⟩,?_⟩
     have hbn:b≠[]:=by intro h;subst h;simp at h2'
     simp only [go_sem,byq,zat,hv,hl2,if_neg hbn,nG,z0]
     simp (disch:=first|assumption|omega|(simp;done)|(simp;omega)|(simp only [bt,and_true];first|done|omega|(simp;done))) [↓zmk,beq,ybc,ybd,ybe,ae,wk,wk2,wk1,wkM,wkL,al,ybf,hcl]
   ·rw [if_neg (by omega)]
    rw [if_neg hd] at hl2
    have hbn:b≠[]:=by intro h;subst h;simp at h2'
    have he:((10:Int)==10)=true:=rfl
    simp only [go_sem,byq,zat,hl2,if_neg hbn,nG,z0,he]
    simp (disch:=first|assumption|omega|(simp;done)|(simp;omega)|(simp only [bt,and_true];first|done|omega|(simp;done))) [↓zmk,beq,ybc,ybd,ybe,ae,wk,wk2,wk1,wkM,wkL,al,ybf,hcl]
  ·have h2':k=b.length:=by simp at h2;omega
   subst h2'
   rw [List.drop_length] at hl2
   simp only [cW] at hl2
   simp only [go_sem,byq]
   refine aj (fun h3=>?_) (fun h3=>?_)
   ·have hbn:b=[]:=by simpa using h3
    simp only [go_sem,byq,if_pos hbn,nG,z0]
    simp (disch:=first|assumption|omega|(simp;done)|(simp;omega)|(simp only [bt,and_true];first|done|omega|(simp;done))) [↓zmk,beq,ybc,ybd,ybe,ae,wk,wk2,wk1,wkM,wkL,al,ybf,hcl]
   ·have hbn:b≠[]:=by simpa using h3
    simp only [go_sem,byq,if_neg hbn,nG,hl2,nAV]
    simp (disch:=first|assumption|omega|(simp;done)|(simp;omega)|(simp only [bt,and_true];first|done|omega|(simp;done))) [↓zmk,beq,ybc,ybd,ybe,ae,wk,wk2,wk1,wkM,wkL,al,ybf,hcl]
end Go.AL
