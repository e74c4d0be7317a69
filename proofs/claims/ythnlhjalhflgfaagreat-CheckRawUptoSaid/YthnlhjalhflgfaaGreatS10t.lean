/- Lemmas of the proof; no condition. -/
import Derived.Test.YthnlhjalhflgfaaGreatS12a
import Derived.Test.YthnlhjalhflgfaaGreatS10p
set_option linter.all false
set_option maxRecDepth 10000
open Go Go.AL Go.Proofs
namespace Go.AL
theorem fC:∀ (z l:List AV),z.length=l.length→splice z 0 l=l
 |[],[],_=>rfl
 |a::z,b::l,h=>by
  unfold splice
  rw [fC z l (by simpa using h)]
 |[],_::_,h=>by simp at h
 |_::_,[],h=>by simp at h
def Br (S:Sch) (n:Int):Prop:=0≤ixP (fun f:SField=>f.id==n) S.fields 0
theorem A9 {S:Sch} {n:Int} (h:Br S n):∃ (i:Nat) (x:SField),i<S.fields.length∧ixP (fun f:SField=>f.id==n) S.fields 0=(i:Int)∧S.fields[i]?=some x∧zS S n=x.bits:=by
 unfold Br at h
 obtain ⟨i,hi⟩:∃ i:Nat,ixP (fun f:SField=>f.id==n) S.fields 0=((0+i:Nat):Int):=⟨(ixP (fun f:SField=>f.id==n) S.fields 0).toNat,by omega⟩
 obtain ⟨x,h1,h2,h3⟩:=yH hi
 rw [nzq] at hi
 refine ⟨i,x,?_,hi,h1,?_⟩
 ·rcases Nat.lt_or_ge i S.fields.length with h|h
  ·exact h
  ·rw [gNq h] at h1;cases h1
 ·unfold zS
  rw [GK,h3]
def cB:PCt
 |[.agg l,.int .i64 n],_,K=>∃ S:Sch,(l=aS S∧SLen S∧Br S n)∧K (.int .i64 (zS S n))
 |_,_,_=>False
theorem ux:EPp 182 cB:=by
 refine Ype fun _ H K h=>?_
 unfold cB at h
 split at h<;>try exact h.elim
 rename_i l n
 obtain ⟨S,⟨rfl,hS,hf⟩,hK⟩:=h
 refine ⟨_,hK,?_⟩
 clear hK
 obtain ⟨i,x,hil,hi,hx,hb⟩:=A9 hf
 rw [hb]
 have hg':=aV (f:=aH) (l:=S.fields) (k:=i) (x:=x) hx
 refine Yfw aC (tCq pD tNq) Tryz.func182 [.tmp 4] (nrq _) (T:=aA [(1,[[],[],[],[],[2],[],[],[4]])]) (h:=fun hcl=>?_)
 simp only [go_sem,aS,aL]
 refine Tq3 ?_
 refine ⟨S,⟨rfl,hS⟩,?_⟩
 rw [hi]
 simp only [bo,aF,bhq,Nat.reduceMod,Nat.reduceDiv,aZ,ba,bf,bD,bc,bC,bz,bB,bA,List.take_succ_cons,List.take_zero,List.drop_succ_cons,List.drop_zero,go_sem,aS,iNq,hg',aH,List.length_map]
 refine Tq3 ?_
 exact Y52
def dw:PCt
 |[.agg l,.agg lt,.int .i64 n],_,K=>∃ (S:Sch) (t:STable) (k:Nat) (x:SKey),(l=aS S∧ax t=.agg lt∧n=(k:Int)∧t.keys[k]?=some x∧SLen S∧Br S x.field)∧K (.int .i64 (zS S x.field))
 |_,_,_=>False
theorem Be:EPp 186 dw:=by
 refine Ype fun _ H K h=>?_
 unfold dw at h
 split at h<;>try exact h.elim
 rename_i l lt n
 obtain ⟨S,t,k,x,⟨rfl,ht,rfl,hx,hS,hf⟩,hK⟩:=h
 refine ⟨_,hK,?_⟩
 clear hK
 unfold ax at ht
 cases ht
 have hg':=aV (f:=aY) (l:=t.keys) (k:=k) (x:=x) hx
 have hkl:k<t.keys.length:=by
  rcases Nat.lt_or_ge k t.keys.length with h|h
  ·exact h
  ·rw [gNq h] at hx;cases hx
 refine Yfw aC (tCq ux tNq) Tryz.func186 [.tmp 6] (nrq _) (T:=aA [(1,[[],[],[],[],[],[],[],[0,2,6]])]) (h:=fun hcl=>?_)
 simp only [go_sem,aS,cB,iNq,hg',aY,List.length_map]
 refine Tq3 ?_
 refine ⟨S,⟨rfl,hS,hf⟩,?_⟩
 try simp only [bo,aF,bhq,Nat.reduceMod,Nat.reduceDiv,aZ,ba,bf,bD,bc,bC,bz,bB,bA,List.take_succ_cons,List.take_zero,List.drop_succ_cons,List.drop_zero,go_sem]
 exact Y52
end Go.AL
