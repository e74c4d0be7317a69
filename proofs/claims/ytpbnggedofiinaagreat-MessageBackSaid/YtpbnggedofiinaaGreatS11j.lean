/- Lemmas of the proof; no condition. -/
import Derived.Test.YtpbnggedofiinaaGreatS11h
set_option linter.all false
set_option maxRecDepth 10000
open Go Go.AL Go.Proofs
namespace Go.AL
def oa:List AV→AHeap→(AV→Prop)→Prop
 |[.agg l,.agg k],_,K=>∃ e f:SEntry,(l=aN e∧k=aN f∧COk e∧COk f)∧K (.bool (xg e f==0))
 |_,_,_=>False
theorem ej:EntOk Tryz.prog 51 (Ent.pure oa):=by
 refine Ype fun _ H K h=>?_
 unfold oa at h
 split at h
 rotate_left
 ·exact h.elim
 rename_i l k
 obtain ⟨e,f,⟨rfl,rfl,he,hf⟩,hK⟩:=h
 refine ⟨_,hK,?_⟩
 clear hK
 refine ACalls.fW ah (tCq wi tNq) Tryz.func51 [.tmp 4] (nrq _) (T:=ae []) (h:=fun hcl hlt=>?_)
 clear hlt
 simp only [go_sem,aN,mZ]
 refine ⟨e,f,⟨rfl,rfl,he,hf⟩,?_⟩
 try simp only [go_sem]
 simp (disch:=first|exact Zd|omega) [↓zmo,beq,List.take_of_length_le,List.drop_append,List.take_append,ag,wk,wk2,wk1,wkM,wkL,ak,List.drop_eq_nil_of_le,hcl]
 first|done|repeat first|exact .refl _|refine .push ?_ _
end Go.AL
