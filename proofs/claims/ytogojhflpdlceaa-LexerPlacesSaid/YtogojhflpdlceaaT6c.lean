/- Whatever the text: every token stands at its place, and what stands between tokens is spaces: LexerPlaces returns true. No condition. -/
import Derived.Test.YtogojhflpdlceaaRows
import Derived.Test.YtogojhflpdlceaaH06
import Derived.Test.YtogojhflpdlceaaTY6
open Go Go.AL Go.Proofs
namespace Go.AL
set_option linter.all false
set_option maxRecDepth 10000
theorem lexerPlaces_calls (avs : List AV) (h : tyA Try.prog 6 [22] avs) : ACalls Try.prog 4 avs H0 (.ret (.bool true)) H0 := by
  match avs, h with
  | [x0], h =>
    obtain ⟨h0, _⟩ := h
    obtain ⟨b, rfl, hb⟩ := tyBytes (d := 3) h0
    obtain ⟨v, hv, hc⟩ := ok_LexerPlaces.1 rfl [.slice .any 1 b] H0 (fun v => v = .bool true) ⟨hb, rfl⟩
    subst hv
    exact hc
  | [], h => exact h.elim
  | _ :: _ :: _, h => exact h.2.elim
end Go.AL
namespace Go.Proofs.Ytogojhflpdlceaa
open Go.AL
theorem Try.own : ownKnob Try.prog.godebug = none := by kernel_rfl
theorem Try.laidOut : laidOutB Try.prog = true := by kernel_rfl
set_option maxRecDepth 100000 in
theorem lexerPlaces_lifted (os : Os) (started : os.Started) (H : Type) (enc : TypeId × Value → H) :
    ReturnsInHanded {} Try.checked os 4 .any (Rows.lexerPlacesSpec.pre6 enc Try.prog Try.f4 Rows.lexerPlacesRow.domain false) (Rows.lexerPlacesSpec.post enc Try.prog Try.f4 false true false false) :=
  law_of_acalls (C := Try.checked) (d := 6) Try.own started (by kernel_rfl) Try.func4 (by rfl) (by rfl) Try.laidOut (by kernel_rfl) (by kernel_rfl) rfl (by kernel_rfl) rfl
    (fun ds h => match ds, h with | [_], _ => ⟨rfl, rfl, rfl⟩)
    (ChangeSpec.witness6 (enc := enc) (C := Try.checked) false ⟨#[], #[.slice none 0 0], []⟩ 8 (by kernel_rfl) (by kernel_rfl) (by kernel_rfl) (by kernel_rfl))
    (fun avs h => lexerPlaces_calls avs h)
theorem lexerPlaces_holds : Rows.LexerPlacesSaid :=
  OpenClaim.holds_of_wide 4 Try.f4 rfl rfl rfl rfl rfl rfl rfl ⟨rfl, rfl, rfl, rfl, rfl⟩ rfl rfl rfl rfl rfl (by kernel_rfl) Try.func4 (by kernel_rfl)
    (of_decide_eq_true (by kernel_rfl)) (by unfold Func.isWrapper; first | (rw [if_pos (by decide +kernel)]; kernel_rfl) | (rw [if_neg (by decide +kernel)]; exact ⟨rfl, rfl⟩))
    (fun os started H enc _ => lexerPlaces_lifted os started H enc)
#print axioms lexerPlaces_holds
end Go.Proofs.Ytogojhflpdlceaa
