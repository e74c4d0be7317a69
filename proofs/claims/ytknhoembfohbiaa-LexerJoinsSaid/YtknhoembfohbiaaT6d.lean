/- Contracts and plain laws, a part of the proof; no condition of its own. -/
import Derived.Test.YtknhoembfohbiaaRows
import Derived.Test.YtknhoembfohbiaaKJ
import Derived.Test.YtknhoembfohbiaaTY6
/- Whatever the codes: the tokens of an accepted text, joined with single spaces, are the same tokens again, or the text is too long and refused: LexerJoins returns true. No condition. -/
open Go Go.AL Go.Proofs
namespace Go.AL
set_option linter.all false
set_option maxRecDepth 10000
theorem lexerJoins_calls (avs : List AV) (h : tyA Try.prog 6 [22] avs) : ACalls Try.prog 3 avs H0 (.ret (.bool true)) H0 := by
  match avs, h with
  | [x0], h =>
    obtain ⟨h0, _⟩ := h
    obtain ⟨l, rfl, hl⟩ := tyBytes (d := 3) h0
    obtain ⟨v, hv, hc⟩ := ok_LexerJoins.1 rfl [.slice .any 1 l] H0 (fun v => v = .bool true) ⟨hl, rfl⟩
    subst hv
    exact hc
  | [], h => exact h.elim
  | _ :: _ :: _, h => exact h.2.elim
end Go.AL
namespace Go.Proofs.Ytknhoembfohbiaa
open Go.AL
theorem Try.own : ownKnob Try.prog.godebug = none := by kernel_rfl
theorem Try.laidOut : laidOutB Try.prog = true := by kernel_rfl
set_option maxRecDepth 100000 in
theorem lexerJoins_lifted (os : Os) (started : os.Started) (H : Type) (enc : TypeId × Value → H) :
    ReturnsInHanded {} Try.checked os 3 .any (Rows.lexerJoinsSpec.pre6 enc Try.prog Try.f3 Rows.lexerJoinsRow.domain false) (Rows.lexerJoinsSpec.post enc Try.prog Try.f3 false true false false) :=
  law_of_acalls (C := Try.checked) (d := 6) Try.own started (by kernel_rfl) Try.func3 (by rfl) (by rfl) Try.laidOut (by kernel_rfl) (by kernel_rfl) rfl (by kernel_rfl) rfl
    (fun ds h => match ds, h with | [_], _ => ⟨rfl, rfl, rfl⟩)
    (ChangeSpec.witness6 (enc := enc) (C := Try.checked) false ⟨#[], #[.slice none 0 0], []⟩ 8 (by kernel_rfl) (by kernel_rfl) (by kernel_rfl) (by kernel_rfl))
    (fun avs h => lexerJoins_calls avs h)
theorem lexerJoins_holds : Rows.LexerJoinsSaid :=
  OpenClaim.holds_of_wide 3 Try.f3 rfl rfl rfl rfl rfl rfl rfl ⟨rfl, rfl, rfl, rfl, rfl⟩ rfl rfl rfl rfl rfl (by kernel_rfl) Try.func3 (by kernel_rfl)
    (of_decide_eq_true (by kernel_rfl)) (by unfold Func.isWrapper; first | (rw [if_pos (by decide +kernel)]; kernel_rfl) | (rw [if_neg (by decide +kernel)]; exact ⟨rfl, rfl⟩))
    (fun os started H enc _ => lexerJoins_lifted os started H enc)
#print axioms lexerJoins_holds
end Go.Proofs.Ytknhoembfohbiaa

