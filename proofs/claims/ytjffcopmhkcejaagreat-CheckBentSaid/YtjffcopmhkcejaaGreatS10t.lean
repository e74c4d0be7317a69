/- Lemmas of the proof; no condition. -/
import Derived.Test.YtjffcopmhkcejaaGreatS12a
import Derived.Test.YtjffcopmhkcejaaGreatS10p
set_option linter.all false
set_option maxRecDepth 10000
open Go Go.AL Go.Proofs
namespace Go.AL
theorem fUx:∀(z l:Wz),z.length=l.length→splice z 0 l=l
 |[],[],_=>rfl
 |a::z,b::l,h=>by
  unfold splice
  rw[fUx z l (by simpa using h)]
 |[],_::_,h=>by simp at h
 |_::_,[],h=>by simp at h
def Ce(S:Sch)(n:Int):Prop:=0≤ixP (fun f:SField=>f.id==n) S.fields 0
def Ax{S:Sch}{n:Int}(h:Ce S n):∃ (i:Nat) (x:SField),i<S.fields.length∧ixP (fun f:SField=>f.id==n) S.fields 0=(i:Int)∧S.fields[i]?=some x∧A4 S n=x.bits:=by
 unfold Ce at h
 obtain⟨i,hi⟩:∃ i:Nat,ixP (fun f:SField=>f.id==n) S.fields 0=((0+i:Nat):Int):=⟨(ixP (fun f:SField=>f.id==n) S.fields 0).toNat,Xa⟩
 obtain⟨x,h1,h2,h3⟩:=zx hi
 rw[nzq]at hi
 refine⟨i,x,?_,hi,h1,?_⟩
 ·rcases Nat.lt_or_ge i S.fields.length with h|h
  ·exact h
  ·rw[gNq h]at h1;cases h1
 ·unfold A4
  rw[Li,h3]
def cE:PCt
 |[.agg l,.int .i64 n],_,K=>∃ S:Sch,(l=aR S∧SLen S∧Ce S n)∧K (.int .i64 (A4 S n))
 |_,_,_=>False
def wY:EPp 174 cE:=by
 refine Ype fun _ H K h=>?_
 unfold cE at h
 split at h<;>try exact h.elim
 rename_i l n
 obtain⟨S,⟨rfl,hS,hf⟩,hK⟩:=h
 refine⟨_,hK,?_⟩
 clear hK
 obtain⟨i,x,hil,hi,hx,hb⟩:=Ax hf
 rw[hb]
 have hg':=a9 (f:=aJ) (l:=S.fields) (k:=i) (x:=x) hx
 refine Yfw aD (tCq pW tNq) Tryz.func174 [.tmp 4] (nrq _) (T:=aC [(1,[[],[],[],[],[2],[],[],[4]])]) (h:=fun hcl=>?_)
 simp only[go_sem,aR,aM]
 refine Tq7 ?_
 refine⟨S,⟨rfl,hS⟩,?_⟩
 rw[hi]
 simp only[aX,aA,bhq,List.take_succ_cons,List.take_zero,List.drop_succ_cons,List.drop_zero,go_sem,aR,iNq,hg',aJ,List.length_map]
 refine Tq7 ?_
 exact Y53
def dK:PCt
 |[.agg l,.agg lt,.int .i64 n],_,K=>∃ (S:Sch) (t:STable) (k:Nat) (x:SKey),(l=aR S∧au t=.agg lt∧n=(k:Int)∧t.keys[k]?=some x∧SLen S∧Ce S x.field)∧K (.int .i64 (A4 S x.field))
 |_,_,_=>False
def BD:EPp 178 dK:=by
 refine Ype fun _ H K h=>?_
 unfold dK at h
 split at h<;>try exact h.elim
 rename_i l lt n
 obtain⟨S,t,k,x,⟨rfl,ht,rfl,hx,hS,hf⟩,hK⟩:=h
 refine⟨_,hK,?_⟩
 clear hK
 unfold au at ht
 cases ht
 have hg':=a9 (f:=aZ) (l:=t.keys) (k:=k) (x:=x) hx
 have hkl:k<t.keys.length:=by
  rcases Nat.lt_or_ge k t.keys.length with h|h
  ·exact h
  ·rw[gNq h]at hx;cases hx
 refine Yfw aD (tCq wY tNq) Tryz.func178 [.tmp 6] (nrq _) (T:=aC [(1,[[],[],[],[],[],[],[],[0,2,6]])]) (h:=fun hcl=>?_)
 simp only[go_sem,aR,cE,iNq,hg',aZ,List.length_map]
 refine Tq7 ?_
 refine⟨S,⟨rfl,hS,hf⟩,?_⟩
 try simp only[aX,aA,bhq,List.take_succ_cons,List.take_zero,List.drop_succ_cons,List.drop_zero,go_sem]
 exact Y53
end Go.AL
