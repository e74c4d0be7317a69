/- Contracts and plain laws, a part of the proof; no condition of its own. -/
import Derived.Test.YtcnkffeikmkeiaaGreatRows
import Derived.Test.YtcnkffeikmkeiaaGreatS09i
import Derived.Test.YtcnkffeikmkeiaaGreatTY9
/- Whatever the codes and the values: Holds returns the documented meaning of the drawn restriction: EvalMeans returns true. No condition. -/
open Go Go.AL Go.Proofs
namespace Go.AL
set_option linter.all false
set_option maxRecDepth 10000
theorem evalMeans_calls (avs:List AV) (h:tyA Tryz.prog 6 [22,23] avs):ACalls Tryz.prog 3 avs H0 (.ret (.bool true)) H0:=by
  match avs,h with
  | [x0,x1],h =>
    obtain ⟨h0,h1,_⟩:=h
    obtain ⟨l,rfl,hl⟩:=BW (d:=3) h0
    obtain ⟨w,rfl,hw⟩:=Ce (d:=3) h1
    obtain ⟨v,hv,hc⟩:=ok_EvalMeans.1 rfl [.slice .any 1 l,.slice .any 2 (gd w)] H0 (fun v=>v=.bool true) ⟨⟨hl,w,rfl,hw⟩,rfl⟩
    subst hv
    exact hc
  | [],h=>exact h.elim
  | [_],h=>exact h.2.elim
  | _::_::_::_,h=>exact h.2.2.elim
end Go.AL
namespace Go.Proofs.YtcnkffeikmkeiaaGreat
open Go.AL
theorem Tryz.own:ownKnob Tryz.prog.godebug=none:=by kernel_rfl
theorem Tryz.laidOut:laidOutB Tryz.prog=true:=by kernel_rfl
set_option maxRecDepth 100000 in
theorem evalMeans_lifted (os:Os) (started:os.Started) (H:Type) (enc:TypeId × Value→H) :
    ReturnsInHanded {} Tryz.checked os 3 .any (Rows.evalMeansSpec.pre6 enc Tryz.prog Tryz.f3 Rows.evalMeansRow.domain false) (Rows.evalMeansSpec.post enc Tryz.prog Tryz.f3 false true false false) :=
  qe (C:=Tryz.checked) (d:=6) Tryz.own started (by kernel_rfl) Tryz.func3 (by rfl) (by rfl) Tryz.laidOut (by kernel_rfl) (by kernel_rfl) rfl (by kernel_rfl) rfl
    (fun ds h=>match ds,h with | [_,_],_=>⟨rfl,rfl,rfl⟩)
    (ChangeSpec.witness6 (enc:=enc) (C:=Tryz.checked) false ⟨#[],#[.slice none 0 0,.slice none 0 0],[]⟩ 8 (by kernel_rfl) (by kernel_rfl) (by kernel_rfl) (by kernel_rfl))
    (fun avs h=>evalMeans_calls avs h)
theorem and_t {a b:Bool} (h:a=true) (k:b=true):(a&&b)=true:=by rw [h,k];rfl
set_option maxHeartbeats 8000000 in
set_option maxRecDepth 100000 in
theorem evalMeans_closed:joinedFacts Tryz.pinned.checked.prog 3 Tryz.f3 Rows.evalMeansSpec Rows.evalMeansRow=true:=by
  unfold joinedFacts
  iterate 31 refine and_t ?_ ?_
  all_goals as_aux_lemma=>kernel_rfl
theorem evalMeans_holds:Rows.EvalMeansSaid :=
  OpenClaim.holds_of_wide 3 Tryz.f3 rfl rfl rfl rfl rfl rfl rfl ⟨rfl,rfl,rfl,rfl,rfl⟩ rfl rfl rfl rfl rfl (by kernel_rfl) Tryz.func3 evalMeans_closed
    (of_decide_eq_true (by kernel_rfl)) (by unfold Func.isWrapper;first | (rw [if_pos (by decide +kernel)];kernel_rfl) | (rw [if_neg (by decide +kernel)];exact ⟨rfl,rfl⟩))
    (fun os started H enc _=>evalMeans_lifted os started H enc)
#print axioms evalMeans_holds
end Go.Proofs.YtcnkffeikmkeiaaGreat

