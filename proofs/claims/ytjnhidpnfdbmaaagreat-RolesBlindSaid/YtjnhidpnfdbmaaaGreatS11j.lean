/- Lemmas of the proof; no condition. -/
import Derived.Test.YtjnhidpnfdbmaaaGreatS11g
set_option linter.all false
set_option maxRecDepth 10000
open Go Go.AL Go.Proofs
namespace Go.AL
def kN:List AV→AHeap→(AV→Prop)→Prop
 |[.agg l,.agg k],_,K=>∃ e f:SEntry,(l=aK e∧k=aK f∧COk e∧COk f)∧K (.bool (zX e f==0))
 |_,_,_=>False
theorem AF:EntOk Tryz.prog 17 (Ent.pure kN):=by
 refine Ype fun _ H K h=>?_
 unfold kN at h
 split at h
 rotate_left
 ·exact h.elim
 rename_i l k
 obtain ⟨e,f,⟨rfl,rfl,he,hf⟩,hK⟩:=h
 refine ⟨_,hK,?_⟩
 clear hK
 refine ACalls.fW au (tCq xL tNq) Tryz.func17 [.tmp 4] (nrq _) (T:=aq []) (h:=fun hcl hlt=>?_)
 clear hlt
 simp only [go_sem,aK,mN]
 refine ⟨e,f,⟨rfl,rfl,he,hf⟩,?_⟩
 try simp only [go_sem]
 simp (disch:=first|exact Zd|omega) [↓zmo,beq,List.take_of_length_le,List.drop_append,List.take_append,ae,wk,wk2,wk1,wkM,wkL,ah,List.drop_eq_nil_of_le,hcl]
 first|done|repeat first|exact .refl _|refine .push ?_ _
end Go.AL
