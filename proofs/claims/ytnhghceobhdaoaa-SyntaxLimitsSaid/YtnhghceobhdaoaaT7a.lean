/- Contracts and plain laws, a part of the proof; no condition of its own. -/
import Derived.Test.YtnhghceobhdaoaaRows
import Derived.Test.YtnhghceobhdaoaaS07m
import Derived.Test.YtnhghceobhdaoaaTY7
/- Whatever the number: a tree may have 120 nodes and the depth 12, and no more; both parsers agree on such texts: SyntaxLimits returns true. No condition. -/
open Go Go.AL Go.Proofs
namespace Go.AL
set_option linter.all false
set_option maxRecDepth 10000
theorem syntaxLimits_calls (avs : List AV) (h : tyA Try.prog 6 [3] avs) : ACalls Try.prog 9 avs H0 (.ret (.bool true)) H0 := by
  match avs, h with
  | [x0], h =>
    obtain ⟨h0, _⟩ := h
    obtain ⟨n, rfl, hn0, hn1⟩ := tyInt (d := 5) h0
    obtain ⟨v, hv, hc⟩ := ok_SyntaxLimits.1 rfl [.int .i64 n] H0 (fun v => v = .bool true) ⟨⟨hn0, hn1⟩, rfl⟩
    subst hv
    exact hc
  | [], h => exact h.elim
  | _ :: _ :: _, h => exact h.2.elim
end Go.AL
namespace Go.Proofs.Ytnhghceobhdaoaa
open Go.AL
theorem Try.own : ownKnob Try.prog.godebug = none := by kernel_rfl
theorem Try.laidOut : laidOutB Try.prog = true := by kernel_rfl
set_option maxRecDepth 100000 in
theorem syntaxLimits_lifted (os : Os) (started : os.Started) (H : Type) (enc : TypeId × Value → H) :
    ReturnsInHanded {} Try.checked os 9 .any (Rows.syntaxLimitsSpec.pre6 enc Try.prog Try.f9 Rows.syntaxLimitsRow.domain false) (Rows.syntaxLimitsSpec.post enc Try.prog Try.f9 false true false false) :=
  law_of_acalls (C := Try.checked) (d := 6) Try.own started (by kernel_rfl) Try.func9 (by rfl) (by rfl) Try.laidOut (by kernel_rfl) (by kernel_rfl) rfl (by kernel_rfl) rfl
    (fun ds h => match ds, h with | [_], _ => ⟨rfl, rfl, rfl⟩)
    (ChangeSpec.witness6 (enc := enc) (C := Try.checked) false ⟨#[], #[.int .i64 0], []⟩ 8 (by kernel_rfl) (by kernel_rfl) (by kernel_rfl) (by kernel_rfl))
    (fun avs h => syntaxLimits_calls avs h)
theorem syntaxLimits_holds : Rows.SyntaxLimitsSaid :=
  OpenClaim.holds_of_wide 9 Try.f9 rfl rfl rfl rfl rfl rfl rfl ⟨rfl, rfl, rfl, rfl, rfl⟩ rfl rfl rfl rfl rfl (by kernel_rfl) Try.func9 (by kernel_rfl)
    (of_decide_eq_true (by kernel_rfl)) (by unfold Func.isWrapper; first | (rw [if_pos (by decide +kernel)]; kernel_rfl) | (rw [if_neg (by decide +kernel)]; exact ⟨rfl, rfl⟩))
    (fun os started H enc _ => syntaxLimits_lifted os started H enc)
#print axioms syntaxLimits_holds
end Go.Proofs.Ytnhghceobhdaoaa

