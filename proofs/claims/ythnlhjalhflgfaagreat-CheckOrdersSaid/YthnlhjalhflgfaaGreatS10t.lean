/- Lemmas of the proof; no condition. -/
import Derived.Test.YthnlhjalhflgfaaGreatS12a
import Derived.Test.YthnlhjalhflgfaaGreatS10p
set_option linter.all false
set_option maxRecDepth 10000
open Go Go.AL Go.Proofs
namespace Go.AL
theorem fx:∀ (z l:List AV),z.length=l.length→splice z 0 l=l
 |[],[],_=>rfl
 |a::z,b::l,h=>by
  unfold splice
  rw [fx z l (by simpa using h)]
 |[],_::_,h=>by simp at h
 |_::_,[],h=>by simp at h
def Bm (S:Sch) (n:Int):Prop:=0≤ixP (fun f:SField=>f.id==n) S.fields 0
theorem zD {S:Sch} {n:Int} (h:Bm S n):∃ (i:Nat) (x:SField),i<S.fields.length∧ixP (fun f:SField=>f.id==n) S.fields 0=(i:Int)∧S.fields[i]?=some x∧yJ S n=x.bits:=by
 unfold Bm at h
 obtain ⟨i,hi⟩:∃ i:Nat,ixP (fun f:SField=>f.id==n) S.fields 0=((0+i:Nat):Int):=⟨(ixP (fun f:SField=>f.id==n) S.fields 0).toNat,by omega⟩
 obtain ⟨x,h1,h2,h3⟩:=yj hi
 rw [nzq] at hi
 refine ⟨i,x,?_,hi,h1,?_⟩
 ·rcases Nat.lt_or_ge i S.fields.length with h|h
  ·exact h
  ·rw [gNq h] at h1;cases h1
 ·unfold yJ
  rw [ID,h3]
def cz:PCt
 |[.agg l,.int .i64 n],_,K=>∃ S:Sch,(l=aR S∧SLen S∧Bm S n)∧K (.int .i64 (yJ S n))
 |_,_,_=>False
theorem uA:EPp 182 cz:=by
 refine Ype fun _ H K h=>?_
 unfold cz at h
 split at h<;>try exact h.elim
 rename_i l n
 obtain ⟨S,⟨rfl,hS,hf⟩,hK⟩:=h
 refine ⟨_,hK,?_⟩
 clear hK
 obtain ⟨i,x,hil,hi,hx,hb⟩:=zD hf
 rw [hb]
 have hg':=aV (f:=aG) (l:=S.fields) (k:=i) (x:=x) hx
 refine Yfw aE (tCq oL tNq) Tryz.func182 [.tmp 4] (nrq _) (T:=aB [(1,[[],[],[],[],[2],[],[],[4]])]) (h:=fun hcl=>?_)
 simp only [go_sem,aR,aK]
 refine Tq3 ?_
 refine ⟨S,⟨rfl,hS⟩,?_⟩
 rw [hi]
 simp only [bm,aD,bhq,Nat.reduceMod,Nat.reduceDiv,aW,aX,aZ,bx,aY,bw,bo,bp,bv,List.take_succ_cons,List.take_zero,List.drop_succ_cons,List.drop_zero,go_sem,aR,iNq,hg',aG,List.length_map]
 refine Tq3 ?_
 exact Y52
def dq:PCt
 |[.agg l,.agg lt,.int .i64 n],_,K=>∃ (S:Sch) (t:STable) (k:Nat) (x:SKey),(l=aR S∧ax t=.agg lt∧n=(k:Int)∧t.keys[k]?=some x∧SLen S∧Bm S x.field)∧K (.int .i64 (yJ S x.field))
 |_,_,_=>False
theorem yK:EPp 186 dq:=by
 refine Ype fun _ H K h=>?_
 unfold dq at h
 split at h<;>try exact h.elim
 rename_i l lt n
 obtain ⟨S,t,k,x,⟨rfl,ht,rfl,hx,hS,hf⟩,hK⟩:=h
 refine ⟨_,hK,?_⟩
 clear hK
 unfold ax at ht
 cases ht
 have hg':=aV (f:=ba) (l:=t.keys) (k:=k) (x:=x) hx
 have hkl:k<t.keys.length:=by
  rcases Nat.lt_or_ge k t.keys.length with h|h
  ·exact h
  ·rw [gNq h] at hx;cases hx
 refine Yfw aE (tCq uA tNq) Tryz.func186 [.tmp 6] (nrq _) (T:=aB [(1,[[],[],[],[],[],[],[],[0,2,6]])]) (h:=fun hcl=>?_)
 simp only [go_sem,aR,cz,iNq,hg',ba,List.length_map]
 refine Tq3 ?_
 refine ⟨S,⟨rfl,hS,hf⟩,?_⟩
 try simp only [bm,aD,bhq,Nat.reduceMod,Nat.reduceDiv,aW,aX,aZ,bx,aY,bw,bo,bp,bv,List.take_succ_cons,List.take_zero,List.drop_succ_cons,List.drop_zero,go_sem]
 exact Y52
end Go.AL
