/- Whatever the elements and the change: a reader gives the documented elements and errors for elements that were written and then changed in one byte, cut off or continued: WireNear returns true. No condition. -/
import Derived.Test.YtnhghceobhdaoaaRows
import Derived.Test.YtnhghceobhdaoaaWN
import Derived.Test.YtnhghceobhdaoaaTY
open Go Go.AL Go.Proofs
namespace Go.AL
set_option linter.all false
set_option maxRecDepth 10000
theorem wireNear_calls (avs : List AV) (h : tyA Try.prog 6 [43, 3, 5, 3, 3] avs) : ACalls Try.prog 7 avs H0 (.ret (.bool true)) H0 := by
  match avs, h with
  | [x0, x1, x2, x3, x4], h =>
    obtain ⟨h0, h1, h2, h3, h4, _⟩ := h
    obtain ⟨l, rfl, hl⟩ := tyOps (d := 0) h0
    obtain ⟨a, rfl, ha0, ha1⟩ := tyInt (d := 5) h1
    obtain ⟨b, rfl, hb0, hb1⟩ := tyU8 (d := 5) h2
    obtain ⟨c, rfl, hc0, hc1⟩ := tyInt (d := 5) h3
    obtain ⟨m, rfl, hm0, hm1⟩ := tyInt (d := 5) h4
    obtain ⟨v, hv, hc⟩ := ok_WireNear.1 rfl [.slice .any 6 l, .int .i64 a, .int .u8 b, .int .i64 c, .int .i64 m] H0 (fun v => v = .bool true) ⟨⟨hl, hb0, hb1⟩, rfl⟩
    subst hv
    exact hc
  | [], h => exact h.elim
  | [_], h => exact h.2.elim
  | [_, _], h => exact h.2.2.elim
  | [_, _, _], h => exact h.2.2.2.elim
  | [_, _, _, _], h => exact h.2.2.2.2.elim
  | _ :: _ :: _ :: _ :: _ :: _ :: _, h => exact h.2.2.2.2.2.elim
end Go.AL
namespace Go.Proofs.Ytnhghceobhdaoaa
open Go.AL
theorem Try.own : ownKnob Try.prog.godebug = none := by kernel_rfl
theorem Try.laidOut : laidOutB Try.prog = true := by kernel_rfl
set_option maxRecDepth 100000 in
theorem wireNear_lifted (os : Os) (started : os.Started) (H : Type) (enc : TypeId × Value → H) :
    ReturnsInHanded {} Try.checked os 7 .any (Rows.wireNearSpec.pre6 enc Try.prog Try.f7 Rows.wireNearRow.domain false) (Rows.wireNearSpec.post enc Try.prog Try.f7 false true false false) :=
  law_of_acalls (C := Try.checked) (d := 6) Try.own started (by kernel_rfl) Try.func7 (by rfl) (by rfl) Try.laidOut (by kernel_rfl) (by kernel_rfl) rfl (by kernel_rfl) rfl
    (fun ds h => match ds, h with | [_, _, _, _, _], _ => ⟨rfl, rfl, rfl⟩)
    (ChangeSpec.witness6 (enc := enc) (C := Try.checked) false ⟨#[], #[.slice none 0 0, .int .i64 0, .int .u8 0, .int .i64 0, .int .i64 0], []⟩ 8 (by kernel_rfl) (by kernel_rfl) (by kernel_rfl) (by kernel_rfl))
    (fun avs h => wireNear_calls avs h)
theorem wireNear_holds : Rows.WireNearSaid :=
  OpenClaim.holds_of_wide 7 Try.f7 rfl rfl rfl rfl rfl rfl rfl ⟨rfl, rfl, rfl, rfl, rfl⟩ rfl rfl rfl rfl rfl (by kernel_rfl) Try.func7 (by kernel_rfl)
    (of_decide_eq_true (by kernel_rfl)) (by unfold Func.isWrapper; first | (rw [if_pos (by decide +kernel)]; kernel_rfl) | (rw [if_neg (by decide +kernel)]; exact ⟨rfl, rfl⟩))
    (fun os started H enc _ => wireNear_lifted os started H enc)
#print axioms wireNear_holds
end Go.Proofs.Ytnhghceobhdaoaa
