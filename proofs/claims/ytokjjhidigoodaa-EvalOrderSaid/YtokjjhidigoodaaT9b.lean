/- Contracts and plain laws, a part of the proof; no condition of its own. -/
import Derived.Test.YtokjjhidigoodaaRows
import Derived.Test.YtokjjhidigoodaaS09q
import Derived.Test.YtokjjhidigoodaaTY9
/- Whatever the values and the operator: comparisons are complementary, and a sum may be moved to the other side: EvalOrder returns true. No condition. -/
open Go Go.AL Go.Proofs
namespace Go.AL
set_option linter.all false
set_option maxRecDepth 10000
theorem evalOrder_calls (avs:List AV) (h:tyA Try.prog 6 [23,5] avs):ACalls Try.prog 4 avs H0 (.ret (.bool true)) H0:=by
  match avs,h with
  | [x0,x1],h =>
    obtain ⟨h0,h1,_⟩:=h
    obtain ⟨w,rfl,hw⟩:=xz (d:=3) h0
    obtain ⟨op,rfl,hop0,hop1⟩:=Au (d:=5) h1
    obtain ⟨v,hv,hc⟩:=ok_EvalOrder.1 rfl [.slice .any 2 (cO w),.int .u8 op] H0 (fun v=>v=.bool true) ⟨⟨hop0,by omega,w,rfl,hw⟩,rfl⟩
    subst hv
    exact hc
  | [],h=>exact h.elim
  | [_],h=>exact h.2.elim
  | _::_::_::_,h=>exact h.2.2.elim
end Go.AL
namespace Go.Proofs.Ytokjjhidigoodaa
open Go.AL
theorem Try.own:ownKnob Try.prog.godebug=none:=by kernel_rfl
theorem Try.laidOut:laidOutB Try.prog=true:=by kernel_rfl
set_option maxRecDepth 100000 in
theorem evalOrder_lifted (os:Os) (started:os.Started) (H:Type) (enc:TypeId × Value→H) :
    ReturnsInHanded {} Try.checked os 4 .any (Rows.evalOrderSpec.pre6 enc Try.prog Try.f4 Rows.evalOrderRow.domain false) (Rows.evalOrderSpec.post enc Try.prog Try.f4 false true false false) :=
  md (C:=Try.checked) (d:=6) Try.own started (by kernel_rfl) Try.func4 (by rfl) (by rfl) Try.laidOut (by kernel_rfl) (by kernel_rfl) rfl (by kernel_rfl) rfl
    (fun ds h=>match ds,h with | [_,_],_=>⟨rfl,rfl,rfl⟩)
    (ChangeSpec.witness6 (enc:=enc) (C:=Try.checked) false ⟨#[],#[.slice none 0 0,.int .u8 0],[]⟩ 8 (by kernel_rfl) (by kernel_rfl) (by kernel_rfl) (by kernel_rfl))
    (fun avs h=>evalOrder_calls avs h)
theorem and_t {a b:Bool} (h:a=true) (k:b=true):(a&&b)=true:=by rw [h,k];rfl
set_option maxHeartbeats 8000000 in
set_option maxRecDepth 100000 in
theorem evalOrder_closed:joinedFacts Try.pinned.checked.prog 4 Try.f4 Rows.evalOrderSpec Rows.evalOrderRow=true:=by
  unfold joinedFacts
  iterate 31 refine and_t ?_ ?_
  all_goals as_aux_lemma=>kernel_rfl
theorem evalOrder_holds:Rows.EvalOrderSaid :=
  OpenClaim.holds_of_wide 4 Try.f4 rfl rfl rfl rfl rfl rfl rfl ⟨rfl,rfl,rfl,rfl,rfl⟩ rfl rfl rfl rfl rfl (by kernel_rfl) Try.func4 evalOrder_closed
    (of_decide_eq_true (by kernel_rfl)) (by unfold Func.isWrapper;first | (rw [if_pos (by decide +kernel)];kernel_rfl) | (rw [if_neg (by decide +kernel)];exact ⟨rfl,rfl⟩))
    (fun os started H enc _=>evalOrder_lifted os started H enc)
#print axioms evalOrder_holds
end Go.Proofs.Ytokjjhidigoodaa

