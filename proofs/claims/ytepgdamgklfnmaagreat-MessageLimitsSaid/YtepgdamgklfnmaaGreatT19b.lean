/- Contracts and plain laws, a part of the proof; no condition of its own. -/
import Derived.Test.YtepgdamgklfnmaaGreatRows
import Derived.Test.YtepgdamgklfnmaaGreatM19v
import Derived.Test.YtepgdamgklfnmaaGreatTY10
/- Whatever the number and the value: the encoding of a request may have MaxMessage bytes and no more, decoding has the same limit: MessageLimits returns true. No condition. -/
open Go Go.AL Go.Proofs
namespace Go.AL
set_option linter.all false
set_option maxRecDepth 10000
theorem messageLimits_calls (avs : List AV) (h : tyA Tryz.prog 6 [3, 24] avs) : ACalls Tryz.prog 6 avs H0 (.ret (.bool true)) H0 := by
  match avs, h with
  | [x0, x1], h =>
    obtain ⟨h0, h1, _⟩ := h
    obtain ⟨n, rfl, hn0, hn1⟩ := tyInt (d := 5) h0
    obtain ⟨hi, lo, rfl, hv⟩ := tyVal (d := 4) h1
    obtain ⟨v, hv, hc⟩ := ok_MessageLimits.1 rfl [.int .i64 n, .agg [.int .u64 hi, .int .u64 lo]] H0 (fun v => v = .bool true) ⟨⟨hn0, hn1, hv⟩, rfl⟩
    subst hv
    exact hc
  | [], h => exact h.elim
  | [_], h => exact h.2.elim
  | _ :: _ :: _ :: _, h => exact h.2.2.elim
end Go.AL
namespace Go.Proofs.YtepgdamgklfnmaaGreat
open Go.AL
theorem Tryz.own : ownKnob Tryz.prog.godebug = none := by kernel_rfl
theorem Tryz.laidOut : laidOutB Tryz.prog = true := by kernel_rfl
set_option maxRecDepth 100000 in
theorem messageLimits_lifted (os : Os) (started : os.Started) (H : Type) (enc : TypeId × Value → H) :
    ReturnsInHanded {} Tryz.checked os 6 .any (Rows.messageLimitsSpec.pre6 enc Tryz.prog Tryz.f6 Rows.messageLimitsRow.domain false) (Rows.messageLimitsSpec.post enc Tryz.prog Tryz.f6 false true false false) :=
  law_of_acalls (C := Tryz.checked) (d := 6) Tryz.own started (by kernel_rfl) Tryz.func6 (by rfl) (by rfl) Tryz.laidOut (by kernel_rfl) (by kernel_rfl) rfl (by kernel_rfl) rfl
    (fun ds h => match ds, h with | [_, _], _ => ⟨rfl, rfl, rfl⟩)
    (ChangeSpec.witness6 (enc := enc) (C := Tryz.checked) false ⟨#[], #[.int .i64 0, .agg #[.int .u64 0, .int .u64 0]], []⟩ 8 (by kernel_rfl) (by kernel_rfl) (by kernel_rfl) (by kernel_rfl))
    (fun avs h => messageLimits_calls avs h)
theorem messageLimits_holds : Rows.MessageLimitsSaid :=
  OpenClaim.holds_of_wide 6 Tryz.f6 rfl rfl rfl rfl rfl rfl rfl ⟨rfl, rfl, rfl, rfl, rfl⟩ rfl rfl rfl rfl rfl (by kernel_rfl) Tryz.func6 (by kernel_rfl)
    (of_decide_eq_true (by kernel_rfl)) (by unfold Func.isWrapper; first | (rw [if_pos (by decide +kernel)]; kernel_rfl) | (rw [if_neg (by decide +kernel)]; exact ⟨rfl, rfl⟩))
    (fun os started H enc _ => messageLimits_lifted os started H enc)
#print axioms messageLimits_holds
end Go.Proofs.YtepgdamgklfnmaaGreat

