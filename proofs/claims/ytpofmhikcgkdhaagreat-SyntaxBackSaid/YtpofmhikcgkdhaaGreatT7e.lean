/- Contracts and plain laws, a part of the proof; no condition of its own. -/
import Derived.Test.YtpofmhikcgkdhaaGreatRows
import Derived.Test.YtpofmhikcgkdhaaGreatS16h
import Derived.Test.YtpofmhikcgkdhaaGreatTY7
/- Whatever the codes: the text of the tree of a sentence is parsed into the same tree, Depth and Format give the documented results: SyntaxBack returns true. No condition. -/
open Go Go.AL Go.Proofs
namespace Go.AL
set_option linter.all false
set_option maxRecDepth 10000
theorem syntaxBack_calls (avs:List AV) (h:tyA Tryz.prog 6 [22] avs):ACalls Tryz.prog 3 avs H0 (.ret (.bool true)) H0:=by
  match avs,h with
  | [x0],h =>
    obtain ⟨h0,_⟩:=h
    obtain ⟨l,rfl,hl⟩:=AP (d:=3) h0
    obtain ⟨v,hv,hc⟩:=ok_SyntaxBack.1 rfl [.slice .any 1 l] H0 (fun v=>v=.bool true) ⟨hl,rfl⟩
    subst hv
    exact hc
  | [],h=>exact h.elim
  | _::_::_,h=>exact h.2.elim
end Go.AL
namespace Go.Proofs.YtpofmhikcgkdhaaGreat
open Go.AL
theorem Tryz.own:ownKnob Tryz.prog.godebug=none:=by kernel_rfl
theorem Tryz.laidOut:laidOutB Tryz.prog=true:=by kernel_rfl
set_option maxRecDepth 100000 in
theorem syntaxBack_lifted (os:Os) (started:os.Started) (H:Type) (enc:TypeId × Value→H) :
    ReturnsInHanded {} Tryz.checked os 3 .any (Rows.syntaxBackSpec.pre6 enc Tryz.prog Tryz.f3 Rows.syntaxBackRow.domain false) (Rows.syntaxBackSpec.post enc Tryz.prog Tryz.f3 false true false false) :=
  pO (C:=Tryz.checked) (d:=6) Tryz.own started (by kernel_rfl) Tryz.func3 (by rfl) (by rfl) Tryz.laidOut (by kernel_rfl) (by kernel_rfl) rfl (by kernel_rfl) rfl
    (fun ds h=>match ds,h with | [_],_=>⟨rfl,rfl,rfl⟩)
    (ChangeSpec.witness6 (enc:=enc) (C:=Tryz.checked) false ⟨#[],#[.slice none 0 0],[]⟩ 8 (by kernel_rfl) (by kernel_rfl) (by kernel_rfl) (by kernel_rfl))
    (fun avs h=>syntaxBack_calls avs h)
theorem and_t {a b:Bool} (h:a=true) (k:b=true):(a&&b)=true:=by rw [h,k];rfl
set_option maxHeartbeats 8000000 in
set_option maxRecDepth 100000 in
theorem syntaxBack_closed:joinedFacts Tryz.pinned.checked.prog 3 Tryz.f3 Rows.syntaxBackSpec Rows.syntaxBackRow=true:=by
  unfold joinedFacts
  iterate 31 refine and_t ?_ ?_
  all_goals as_aux_lemma=>kernel_rfl
theorem syntaxBack_holds:Rows.SyntaxBackSaid :=
  OpenClaim.holds_of_wide 3 Tryz.f3 rfl rfl rfl rfl rfl rfl rfl ⟨rfl,rfl,rfl,rfl,rfl⟩ rfl rfl rfl rfl rfl (by kernel_rfl) Tryz.func3 syntaxBack_closed
    (of_decide_eq_true (by kernel_rfl)) (by unfold Func.isWrapper;first | (rw [if_pos (by decide +kernel)];kernel_rfl) | (rw [if_neg (by decide +kernel)];exact ⟨rfl,rfl⟩))
    (fun os started H enc _=>syntaxBack_lifted os started H enc)
#print axioms syntaxBack_holds
end Go.Proofs.YtpofmhikcgkdhaaGreat

