/- Whatever the elements: what was written is read back in the same order, and nothing is left: WireBack returns true. No condition. -/
import Derived.Test.YtnikhifkngaleaaRows
import Derived.Test.YtnikhifkngaleaaCM
import Derived.Test.YtnikhifkngaleaaTY
open Go Go.AL Go.Proofs
namespace Go.AL
set_option linter.all false
set_option maxRecDepth 10000
theorem wireBack_calls (avs : List AV) (h : tyA Try.prog 6 [22] avs) : ACalls Try.prog 4 avs H0 (.ret (.bool true)) H0 := by
  match avs, h with
  | [x], h =>
    obtain ⟨h2, _⟩ := h
    obtain ⟨l, rfl, hl⟩ := tyOps (d := 0) h2
    obtain ⟨v, hv, hc⟩ := ok_WireBack.1 rfl [.slice .any 6 l] H0 (fun v => v = .bool true) ⟨hl, rfl⟩
    subst hv
    exact hc
end Go.AL
namespace Go.Proofs.Ytnikhifkngaleaa
open Go.AL
theorem Try.own : ownKnob Try.prog.godebug = none := by kernel_rfl
theorem Try.laidOut : laidOutB Try.prog = true := by kernel_rfl
set_option maxRecDepth 100000 in
theorem wireBack_lifted (os : Os) (started : os.Started) (H : Type) (enc : TypeId × Value → H) :
    ReturnsInHanded {} Try.checked os 4 .any (Rows.wireBackSpec.pre6 enc Try.prog Try.f4 Rows.wireBackRow.domain false) (Rows.wireBackSpec.post enc Try.prog Try.f4 false true false false) :=
  law_of_acalls (C := Try.checked) (d := 6) Try.own started (by kernel_rfl) Try.func4 (by rfl) (by rfl) Try.laidOut (by kernel_rfl) (by kernel_rfl) rfl (by kernel_rfl) rfl
    (fun ds h => match ds, h with | [_], _ => ⟨rfl, rfl, rfl⟩)
    (ChangeSpec.witness6 (enc := enc) (C := Try.checked) false ⟨#[], #[.slice none 0 0], []⟩ 8 (by kernel_rfl) (by kernel_rfl) (by kernel_rfl) (by kernel_rfl))
    (fun avs h => wireBack_calls avs h)
theorem wireBack_holds : Rows.WireBackSaid :=
  OpenClaim.holds_of_wide 4 Try.f4 rfl rfl rfl rfl rfl rfl rfl ⟨rfl, rfl, rfl, rfl, rfl⟩ rfl rfl rfl rfl rfl (by kernel_rfl) Try.func4 (by kernel_rfl)
    (of_decide_eq_true (by kernel_rfl)) (by unfold Func.isWrapper; first | (rw [if_pos (by decide +kernel)]; kernel_rfl) | (rw [if_neg (by decide +kernel)]; exact ⟨rfl, rfl⟩))
    (fun os started H enc _ => wireBack_lifted os started H enc)
#print axioms wireBack_holds
end Go.Proofs.Ytnikhifkngaleaa
