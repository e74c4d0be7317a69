/- Contracts and plain laws, a part of the proof; no condition of its own. -/
import Derived.Test.YtokjjhidigoodaaRows
import Derived.Test.YtokjjhidigoodaaS09r
import Derived.Test.YtokjjhidigoodaaTY9
/- Whatever the codes and the values: the laws of Ab hold for any two drawn restrictions: EvalLogic returns true. No condition. -/
open Go Go.AL Go.Proofs
namespace Go.AL
set_option linter.all false
set_option maxRecDepth 10000
theorem evalLogic_calls (avs:List AV) (h:tyA Try.prog 6 [22,22,23] avs):ACalls Try.prog 3 avs H0 (.ret (.bool true)) H0:=by
  match avs,h with
  | [x0,x1,x2],h =>
    obtain ⟨h0,h1,h2,_⟩:=h
    obtain ⟨l1,rfl,hl1⟩:=tj (d:=3) h0
    obtain ⟨l2,rfl,hl2⟩:=tj (d:=3) h1
    obtain ⟨w,rfl,hw⟩:=zI (d:=3) h2
    obtain ⟨v,hv,hc⟩:=ok_EvalLogic.1 rfl [.slice .any 1 l1,.slice .any 1 l2,.slice .any 2 (dj w)] H0 (fun v=>v=.bool true) ⟨⟨hl1,hl2,w,rfl,hw⟩,rfl⟩
    subst hv
    exact hc
  | [],h=>exact h.elim
  | [_],h=>exact h.2.elim
  | [_,_],h=>exact h.2.2.elim
  | _::_::_::_::_,h=>exact h.2.2.2.elim
end Go.AL
namespace Go.Proofs.Ytokjjhidigoodaa
open Go.AL
theorem Try.own:ownKnob Try.prog.godebug=none:=by kernel_rfl
theorem Try.laidOut:laidOutB Try.prog=true:=by kernel_rfl
set_option maxRecDepth 100000 in
theorem evalLogic_lifted (os:Os) (started:os.Started) (H:Type) (enc:TypeId × Value→H) :
    ReturnsInHanded {} Try.checked os 3 .any (Rows.evalLogicSpec.pre6 enc Try.prog Try.f3 Rows.evalLogicRow.domain false) (Rows.evalLogicSpec.post enc Try.prog Try.f3 false true false false) :=
  nh (C:=Try.checked) (d:=6) Try.own started (by kernel_rfl) Try.func3 (by rfl) (by rfl) Try.laidOut (by kernel_rfl) (by kernel_rfl) rfl (by kernel_rfl) rfl
    (fun ds h=>match ds,h with | [_,_,_],_=>⟨rfl,rfl,rfl⟩)
    (ChangeSpec.witness6 (enc:=enc) (C:=Try.checked) false ⟨#[],#[.slice none 0 0,.slice none 0 0,.slice none 0 0],[]⟩ 8 (by kernel_rfl) (by kernel_rfl) (by kernel_rfl) (by kernel_rfl))
    (fun avs h=>evalLogic_calls avs h)
theorem and_t {a b:Bool} (h:a=true) (k:b=true):(a&&b)=true:=by rw [h,k];rfl
set_option maxHeartbeats 8000000 in
set_option maxRecDepth 100000 in
theorem evalLogic_closed:joinedFacts Try.pinned.checked.prog 3 Try.f3 Rows.evalLogicSpec Rows.evalLogicRow=true:=by
  unfold joinedFacts
  iterate 31 refine and_t ?_ ?_
  all_goals as_aux_lemma=>kernel_rfl
theorem evalLogic_holds:Rows.EvalLogicSaid :=
  OpenClaim.holds_of_wide 3 Try.f3 rfl rfl rfl rfl rfl rfl rfl ⟨rfl,rfl,rfl,rfl,rfl⟩ rfl rfl rfl rfl rfl (by kernel_rfl) Try.func3 evalLogic_closed
    (of_decide_eq_true (by kernel_rfl)) (by unfold Func.isWrapper;first | (rw [if_pos (by decide +kernel)];kernel_rfl) | (rw [if_neg (by decide +kernel)];exact ⟨rfl,rfl⟩))
    (fun os started H enc _=>evalLogic_lifted os started H enc)
#print axioms evalLogic_holds
end Go.Proofs.Ytokjjhidigoodaa

