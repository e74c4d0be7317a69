/- Whatever the values and signs: the decimal text of a sum, of its negative and of a sum with a small integer is that of the integer: NumberSums returns true. No condition. -/
import Derived.Test.YtebmlacnaapccaaRows
import Derived.Test.YtebmlacnaapccaaL05b
import Derived.Test.YtebmlacnaapccaaTY5
open Go Go.AL Go.Proofs
namespace Go.AL
set_option linter.all false
set_option maxRecDepth 10000
theorem numberSums_calls (avs : List AV) (h : tyA Try.prog 6 [22, 23, 3] avs) : ACalls Try.prog 3 avs H0 (.ret (.bool true)) H0 := by
  match avs, h with
  | [x0, x1, x2], h =>
    obtain ⟨h0, h1, h2, _⟩ := h
    obtain ⟨l, rfl, hl⟩ := tyVals (d := 3) h0
    obtain ⟨s, rfl, hs⟩ := tyBools (d := 4) h1
    obtain ⟨n, rfl, hn0, hn1⟩ := tyInt (d := 5) h2
    obtain ⟨v, hv, hc⟩ := ok_NumberSums.1 rfl [.slice .any 2 l, .slice .any 1 s, .int .i64 n] H0 (fun v => v = .bool true) ⟨⟨hl, hs, hn0, hn1⟩, rfl⟩
    subst hv
    exact hc
  | [], h => exact h.elim
  | [_], h => exact h.2.elim
  | [_, _], h => exact h.2.2.elim
  | _ :: _ :: _ :: _ :: _, h => exact h.2.2.2.elim
end Go.AL
namespace Go.Proofs.Ytebmlacnaapccaa
open Go.AL
theorem Try.own : ownKnob Try.prog.godebug = none := by kernel_rfl
theorem Try.laidOut : laidOutB Try.prog = true := by kernel_rfl
set_option maxRecDepth 100000 in
theorem numberSums_lifted (os : Os) (started : os.Started) (H : Type) (enc : TypeId × Value → H) :
    ReturnsInHanded {} Try.checked os 3 .any (Rows.numberSumsSpec.pre6 enc Try.prog Try.f3 Rows.numberSumsRow.domain false) (Rows.numberSumsSpec.post enc Try.prog Try.f3 false true false false) :=
  law_of_acalls (C := Try.checked) (d := 6) Try.own started (by kernel_rfl) Try.func3 (by rfl) (by rfl) Try.laidOut (by kernel_rfl) (by kernel_rfl) rfl (by kernel_rfl) rfl
    (fun ds h => match ds, h with | [_, _, _], _ => ⟨rfl, rfl, rfl⟩)
    (ChangeSpec.witness6 (enc := enc) (C := Try.checked) false ⟨#[], #[.slice none 0 0, .slice none 0 0, .int .i64 0], []⟩ 8 (by kernel_rfl) (by kernel_rfl) (by kernel_rfl) (by kernel_rfl))
    (fun avs h => numberSums_calls avs h)
theorem numberSums_holds : Rows.NumberSumsSaid :=
  OpenClaim.holds_of_wide 3 Try.f3 rfl rfl rfl rfl rfl rfl rfl ⟨rfl, rfl, rfl, rfl, rfl⟩ rfl rfl rfl rfl rfl (by kernel_rfl) Try.func3 (by kernel_rfl)
    (of_decide_eq_true (by kernel_rfl)) (by unfold Func.isWrapper; first | (rw [if_pos (by decide +kernel)]; kernel_rfl) | (rw [if_neg (by decide +kernel)]; exact ⟨rfl, rfl⟩))
    (fun os started H enc _ => numberSums_lifted os started H enc)
#print axioms numberSums_holds
end Go.Proofs.Ytebmlacnaapccaa
