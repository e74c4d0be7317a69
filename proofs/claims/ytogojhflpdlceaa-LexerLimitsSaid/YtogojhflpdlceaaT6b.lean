/- Whatever the number: a text of more than 400 bytes is refused, one of 400 bytes is read whole: LexerLimits returns true. No condition. -/
import Derived.Test.YtogojhflpdlceaaRows
import Derived.Test.YtogojhflpdlceaaG06
import Derived.Test.YtogojhflpdlceaaTY6
open Go Go.AL Go.Proofs
namespace Go.AL
set_option linter.all false
set_option maxRecDepth 10000
theorem lexerLimits_calls (avs : List AV) (h : tyA Try.prog 6 [3] avs) : ACalls Try.prog 5 avs H0 (.ret (.bool true)) H0 := by
  match avs, h with
  | [x0], h =>
    obtain ⟨h0, _⟩ := h
    obtain ⟨n, rfl, hn0, hn1⟩ := tyInt (d := 5) h0
    obtain ⟨v, hv, hc⟩ := ok_LexerLimits.1 rfl [.int .i64 n] H0 (fun v => v = .bool true) ⟨⟨hn0, hn1⟩, rfl⟩
    subst hv
    exact hc
  | [], h => exact h.elim
  | _ :: _ :: _, h => exact h.2.elim
end Go.AL
namespace Go.Proofs.Ytogojhflpdlceaa
open Go.AL
theorem Try.own : ownKnob Try.prog.godebug = none := by kernel_rfl
theorem Try.laidOut : laidOutB Try.prog = true := by kernel_rfl
set_option maxRecDepth 100000 in
theorem lexerLimits_lifted (os : Os) (started : os.Started) (H : Type) (enc : TypeId × Value → H) :
    ReturnsInHanded {} Try.checked os 5 .any (Rows.lexerLimitsSpec.pre6 enc Try.prog Try.f5 Rows.lexerLimitsRow.domain false) (Rows.lexerLimitsSpec.post enc Try.prog Try.f5 false true false false) :=
  law_of_acalls (C := Try.checked) (d := 6) Try.own started (by kernel_rfl) Try.func5 (by rfl) (by rfl) Try.laidOut (by kernel_rfl) (by kernel_rfl) rfl (by kernel_rfl) rfl
    (fun ds h => match ds, h with | [_], _ => ⟨rfl, rfl, rfl⟩)
    (ChangeSpec.witness6 (enc := enc) (C := Try.checked) false ⟨#[], #[.int .i64 0], []⟩ 8 (by kernel_rfl) (by kernel_rfl) (by kernel_rfl) (by kernel_rfl))
    (fun avs h => lexerLimits_calls avs h)
theorem lexerLimits_holds : Rows.LexerLimitsSaid :=
  OpenClaim.holds_of_wide 5 Try.f5 rfl rfl rfl rfl rfl rfl rfl ⟨rfl, rfl, rfl, rfl, rfl⟩ rfl rfl rfl rfl rfl (by kernel_rfl) Try.func5 (by kernel_rfl)
    (of_decide_eq_true (by kernel_rfl)) (by unfold Func.isWrapper; first | (rw [if_pos (by decide +kernel)]; kernel_rfl) | (rw [if_neg (by decide +kernel)]; exact ⟨rfl, rfl⟩))
    (fun os started H enc _ => lexerLimits_lifted os started H enc)
#print axioms lexerLimits_holds
end Go.Proofs.Ytogojhflpdlceaa
