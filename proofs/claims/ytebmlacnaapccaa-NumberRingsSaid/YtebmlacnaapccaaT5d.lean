/- Whatever the values and signs: addition is commutative and associative, the order agrees with it: NumberRings returns true. No condition. -/
import Derived.Test.YtebmlacnaapccaaRows
import Derived.Test.YtebmlacnaapccaaL05b
import Derived.Test.YtebmlacnaapccaaTY5
open Go Go.AL Go.Proofs
namespace Go.AL
set_option linter.all false
set_option maxRecDepth 10000
theorem numberRings_calls (avs : List AV) (h : tyA Try.prog 6 [22, 22, 22, 23] avs) : ACalls Try.prog 6 avs H0 (.ret (.bool true)) H0 := by
  match avs, h with
  | [x0, x1, x2, x3], h =>
    obtain ⟨h0, h1, h2, h3, _⟩ := h
    obtain ⟨l, rfl, hl⟩ := tyVals (d := 3) h0
    obtain ⟨m, rfl, hm⟩ := tyVals (d := 3) h1
    obtain ⟨k, rfl, hk⟩ := tyVals (d := 3) h2
    obtain ⟨s, rfl, hs⟩ := tyBools (d := 4) h3
    obtain ⟨v, hv, hc⟩ := ok_NumberRings.1 rfl [.slice .any 2 l, .slice .any 2 m, .slice .any 2 k, .slice .any 1 s] H0 (fun v => v = .bool true) ⟨⟨hl, hm, hk, hs⟩, rfl⟩
    subst hv
    exact hc
end Go.AL
namespace Go.Proofs.Ytebmlacnaapccaa
open Go.AL
theorem Try.own : ownKnob Try.prog.godebug = none := by kernel_rfl
theorem Try.laidOut : laidOutB Try.prog = true := by kernel_rfl
set_option maxRecDepth 100000 in
theorem numberRings_lifted (os : Os) (started : os.Started) (H : Type) (enc : TypeId × Value → H) :
    ReturnsInHanded {} Try.checked os 6 .any (Rows.numberRingsSpec.pre6 enc Try.prog Try.f6 Rows.numberRingsRow.domain false) (Rows.numberRingsSpec.post enc Try.prog Try.f6 false true false false) :=
  law_of_acalls (C := Try.checked) (d := 6) Try.own started (by kernel_rfl) Try.func6 (by rfl) (by rfl) Try.laidOut (by kernel_rfl) (by kernel_rfl) rfl (by kernel_rfl) rfl
    (fun ds h => match ds, h with | [_, _, _, _], _ => ⟨rfl, rfl, rfl⟩)
    (ChangeSpec.witness6 (enc := enc) (C := Try.checked) false ⟨#[], #[.slice none 0 0, .slice none 0 0, .slice none 0 0, .slice none 0 0], []⟩ 8 (by kernel_rfl) (by kernel_rfl) (by kernel_rfl) (by kernel_rfl))
    (fun avs h => numberRings_calls avs h)
theorem numberRings_holds : Rows.NumberRingsSaid :=
  OpenClaim.holds_of_wide 6 Try.f6 rfl rfl rfl rfl rfl rfl rfl ⟨rfl, rfl, rfl, rfl, rfl⟩ rfl rfl rfl rfl rfl (by kernel_rfl) Try.func6 (by kernel_rfl)
    (of_decide_eq_true (by kernel_rfl)) (by unfold Func.isWrapper; first | (rw [if_pos (by decide +kernel)]; kernel_rfl) | (rw [if_neg (by decide +kernel)]; exact ⟨rfl, rfl⟩))
    (fun os started H enc _ => numberRings_lifted os started H enc)
#print axioms numberRings_holds
end Go.Proofs.Ytebmlacnaapccaa
