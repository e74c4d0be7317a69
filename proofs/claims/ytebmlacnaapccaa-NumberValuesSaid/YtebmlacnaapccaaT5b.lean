/- Whatever the values and signs: Value returns the value of every integer from 0 to 2^128 - 1, and false for all others: NumberValues returns true. No condition. -/
import Derived.Test.YtebmlacnaapccaaRows
import Derived.Test.YtebmlacnaapccaaL05b
import Derived.Test.YtebmlacnaapccaaTY5
open Go Go.AL Go.Proofs
namespace Go.AL
set_option linter.all false
set_option maxRecDepth 10000
theorem numberValues_calls (avs : List AV) (h : tyA Try.prog 6 [22, 23, 44] avs) : ACalls Try.prog 4 avs H0 (.ret (.bool true)) H0 := by
  match avs, h with
  | [x0, x1, x2], h =>
    obtain ⟨h0, h1, h2, _⟩ := h
    obtain ⟨l, rfl, hl⟩ := tyVals (d := 3) h0
    obtain ⟨s, rfl, hs⟩ := tyBools (d := 4) h1
    obtain ⟨hi, lo, rfl, hv⟩ := tyVal (d := 4) h2
    obtain ⟨v, hv, hc⟩ := ok_NumberValues.1 rfl [.slice .any 2 l, .slice .any 1 s, .agg [.int .u64 hi, .int .u64 lo]] H0 (fun v => v = .bool true) ⟨⟨hl, hs, hv⟩, rfl⟩
    subst hv
    exact hc
end Go.AL
namespace Go.Proofs.Ytebmlacnaapccaa
open Go.AL
theorem Try.own : ownKnob Try.prog.godebug = none := by kernel_rfl
theorem Try.laidOut : laidOutB Try.prog = true := by kernel_rfl
set_option maxRecDepth 100000 in
theorem numberValues_lifted (os : Os) (started : os.Started) (H : Type) (enc : TypeId × Value → H) :
    ReturnsInHanded {} Try.checked os 4 .any (Rows.numberValuesSpec.pre6 enc Try.prog Try.f4 Rows.numberValuesRow.domain false) (Rows.numberValuesSpec.post enc Try.prog Try.f4 false true false false) :=
  law_of_acalls (C := Try.checked) (d := 6) Try.own started (by kernel_rfl) Try.func4 (by rfl) (by rfl) Try.laidOut (by kernel_rfl) (by kernel_rfl) rfl (by kernel_rfl) rfl
    (fun ds h => match ds, h with | [_, _, _], _ => ⟨rfl, rfl, rfl⟩)
    (ChangeSpec.witness6 (enc := enc) (C := Try.checked) false ⟨#[], #[.slice none 0 0, .slice none 0 0, .agg #[.int .u64 0, .int .u64 0]], []⟩ 8 (by kernel_rfl) (by kernel_rfl) (by kernel_rfl) (by kernel_rfl))
    (fun avs h => numberValues_calls avs h)
theorem numberValues_holds : Rows.NumberValuesSaid :=
  OpenClaim.holds_of_wide 4 Try.f4 rfl rfl rfl rfl rfl rfl rfl ⟨rfl, rfl, rfl, rfl, rfl⟩ rfl rfl rfl rfl rfl (by kernel_rfl) Try.func4 (by kernel_rfl)
    (of_decide_eq_true (by kernel_rfl)) (by unfold Func.isWrapper; first | (rw [if_pos (by decide +kernel)]; kernel_rfl) | (rw [if_neg (by decide +kernel)]; exact ⟨rfl, rfl⟩))
    (fun os started H enc _ => numberValues_lifted os started H enc)
#print axioms numberValues_holds
end Go.Proofs.Ytebmlacnaapccaa
