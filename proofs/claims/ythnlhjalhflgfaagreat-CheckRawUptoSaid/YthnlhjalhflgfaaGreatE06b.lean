/- Lemmas of the proof; no condition. -/
import Derived.Test.YthnlhjalhflgfaaGreatE05s
import Derived.Test.YthnlhjalhflgfaaGreatE05e
set_option linter.all false
set_option maxRecDepth 10000
open List renaming length_cons → yaz, length_nil → yba, length_map → ybb, take_of_length_le → ybc, drop_append → ybd, take_append → ybe, drop_eq_nil_of_le → ybf
open Go Go.AL Go.Proofs
namespace Go.AL
def CH (x:Sch):Prop:=x.fields.length≤40∧x.headers.length≤20∧x.states.length≤20∧x.actions.length≤20∧x.tables.length≤20∧x.roles.length≤20
def v8:PCt
 |[.agg l],_,K=>∃ raw:Sch,(l=aS raw∧(CH raw→OkSch raw∧(jf raw).b.length≤dB))∧K (.bool true)
 |_,_,_=>False
set_option maxHeartbeats 8000000 in
theorem ok_CheckRaw:EPp 4 v8:=by
 refine Ype fun _ H K h=>?_
 unfold v8 at h
 split at h<;>try exact h.elim
 rename_i l
 obtain ⟨S,⟨rfl,hS⟩,hK⟩:=h
 refine ⟨_,hK,?_⟩
 clear hK
 refine Yfw aC (tCq DB (tCq MX (tCq CD tNq))) Tryz.func4 [.tmp 2] (nrq _) (T:=aA [(3,[[],[0],[],[0,1,2],[],[],[0,1,2,3]])]) (h:=fun hcl=>?_)
 unfold aS
 cases c0:decide ((S.fields.length:Int) > 40) with
 |true =>
  simp only [go_sem,ybb,jl,jq,fF,c0]
  exact Y82
 |false =>
  cases c1:decide ((S.headers.length:Int) > 20) with
  |true =>
   simp only [go_sem,ybb,jl,jq,fF,c0,c1]
   exact Y82
  |false =>
   cases c2:decide ((S.states.length:Int) > 20) with
   |true =>
    simp only [go_sem,ybb,jl,jq,fF,c0,c1,c2]
    exact Y82
   |false =>
    cases c3:decide ((S.actions.length:Int) > 20) with
    |true =>
     simp only [go_sem,ybb,jl,jq,fF,c0,c1,c2,c3]
     exact Y82
    |false =>
     cases c4:decide ((S.tables.length:Int) > 20) with
     |true =>
      simp only [go_sem,ybb,jl,jq,fF,c0,c1,c2,c3,c4]
      exact Y82
     |false =>
      cases c5:decide ((S.roles.length:Int) > 20) with
      |true =>
       simp only [go_sem,ybb,jl,jq,fF,c0,c1,c2,c3,c4,c5]
       exact Y82
      |false =>
       obtain ⟨hk,hl⟩:=hS ⟨by have:=of_decide_eq_false c0;omega,by have:=of_decide_eq_false c1;omega,by have:=of_decide_eq_false c2;omega,by have:=of_decide_eq_false c3;omega,by have:=of_decide_eq_false c4;omega,by have:=of_decide_eq_false c5;omega⟩
       simp only [go_sem,ybb,jl,jq,fF,c0,c1,c2,c3,c4,c5]
       refine ⟨S,⟨rfl,hk,hl⟩,?_⟩
       try simp only [go_sem,ybb,jl,jq,fF]
       refine ⟨S,⟨rfl,hk,hl⟩,?_⟩
       have d1:(yv S==yv S)=true:=by simp
       try simp only [go_sem,ybb,jl,jq,fF,d1]
       exact Z1
end Go.AL
