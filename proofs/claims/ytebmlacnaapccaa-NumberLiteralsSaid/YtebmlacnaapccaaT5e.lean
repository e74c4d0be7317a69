/- Whatever the text and the value: Literal returns the integer of every decimal and hexadecimal literal, and false for all other texts: NumberLiterals returns true. No condition. -/
import Derived.Test.YtebmlacnaapccaaRows
import Derived.Test.YtebmlacnaapccaaL05c
import Derived.Test.YtebmlacnaapccaaTY5
open Go Go.AL Go.Proofs
namespace Go.AL
set_option linter.all false
set_option maxRecDepth 10000
theorem numberLiterals_calls (avs : List AV) (h : tyA Try.prog 6 [9, 44, 5, 3, 5] avs) : ACalls Try.prog 7 avs H0 (.ret (.bool true)) H0 := by
  match avs, h with
  | [x0, x1, x2, x3, x4], h =>
    obtain ⟨h0, h1, h2, h3, h4, _⟩ := h
    obtain ⟨s, rfl, hs⟩ := tyStr (d := 5) h0
    obtain ⟨hi, lo, rfl, hv⟩ := tyVal (d := 4) h1
    obtain ⟨zs, rfl, hzs0, hzs1⟩ := tyU8 (d := 5) h2
    obtain ⟨pl, rfl, hpl0, hpl1⟩ := tyInt (d := 5) h3
    obtain ⟨bb, rfl, hbb0, hbb1⟩ := tyU8 (d := 5) h4
    obtain ⟨v, hv, hc⟩ := ok_NumberLiterals.1 rfl [.str s, .agg [.int .u64 hi, .int .u64 lo], .int .u8 zs, .int .i64 pl, .int .u8 bb] H0 (fun v => v = .bool true) ⟨⟨hs, hv, hzs0, hzs1⟩, rfl⟩
    subst hv
    exact hc
  | [], h => exact h.elim
  | [_], h => exact h.2.elim
  | [_, _], h => exact h.2.2.elim
  | [_, _, _], h => exact h.2.2.2.elim
  | [_, _, _, _], h => exact h.2.2.2.2.elim
  | _ :: _ :: _ :: _ :: _ :: _ :: _, h => exact h.2.2.2.2.2.elim
end Go.AL
namespace Go.Proofs.Ytebmlacnaapccaa
open Go.AL
theorem Try.own : ownKnob Try.prog.godebug = none := by kernel_rfl
theorem Try.laidOut : laidOutB Try.prog = true := by kernel_rfl
set_option maxRecDepth 100000 in
theorem numberLiterals_lifted (os : Os) (started : os.Started) (H : Type) (enc : TypeId × Value → H) :
    ReturnsInHanded {} Try.checked os 7 .any (Rows.numberLiteralsSpec.pre6 enc Try.prog Try.f7 Rows.numberLiteralsRow.domain false) (Rows.numberLiteralsSpec.post enc Try.prog Try.f7 false true false false) :=
  law_of_acalls (C := Try.checked) (d := 6) Try.own started (by kernel_rfl) Try.func7 (by rfl) (by rfl) Try.laidOut (by kernel_rfl) (by kernel_rfl) rfl (by kernel_rfl) rfl
    (fun ds h => match ds, h with | [_, _, _, _, _], _ => ⟨rfl, rfl, rfl⟩)
    (ChangeSpec.witness6 (enc := enc) (C := Try.checked) false ⟨#[], #[.string ⟨#[]⟩, .agg #[.int .u64 0, .int .u64 0], .int .u8 0, .int .i64 0, .int .u8 0], []⟩ 8 (by kernel_rfl) (by kernel_rfl) (by kernel_rfl) (by kernel_rfl))
    (fun avs h => numberLiterals_calls avs h)
theorem numberLiterals_holds : Rows.NumberLiteralsSaid :=
  OpenClaim.holds_of_wide 7 Try.f7 rfl rfl rfl rfl rfl rfl rfl ⟨rfl, rfl, rfl, rfl, rfl⟩ rfl rfl rfl rfl rfl (by kernel_rfl) Try.func7 (by kernel_rfl)
    (of_decide_eq_true (by kernel_rfl)) (by unfold Func.isWrapper; first | (rw [if_pos (by decide +kernel)]; kernel_rfl) | (rw [if_neg (by decide +kernel)]; exact ⟨rfl, rfl⟩))
    (fun os started H enc _ => numberLiterals_lifted os started H enc)
#print axioms numberLiterals_holds
end Go.Proofs.Ytebmlacnaapccaa
