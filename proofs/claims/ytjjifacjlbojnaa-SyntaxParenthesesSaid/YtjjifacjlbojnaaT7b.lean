/- Contracts and plain laws, a part of the proof; no condition of its own. -/
import Derived.Test.YtjjifacjlbojnaaRows
import Derived.Test.YtjjifacjlbojnaaS07k
import Derived.Test.YtjjifacjlbojnaaTY7
/- Whatever the codes and the number: parentheses around a whole sentence change nothing, both parsers give the same tree: SyntaxParentheses returns true. No condition. -/
open Go Go.AL Go.Proofs
namespace Go.AL
set_option linter.all false
set_option maxRecDepth 10000
theorem syntaxParentheses_calls (avs : List AV) (h : tyA Try.prog 6 [22, 5] avs) : ACalls Try.prog 5 avs H0 (.ret (.bool true)) H0 := by
  match avs, h with
  | [x0, x1], h =>
    obtain ⟨h0, h1, _⟩ := h
    obtain ⟨l, rfl, hl⟩ := tyBytes (d := 3) h0
    obtain ⟨n, rfl, hn0, hn1⟩ := tyU8 (d := 5) h1
    obtain ⟨v, hv, hc⟩ := ok_SyntaxParentheses.1 rfl [.slice .any 1 l, .int .u8 n] H0 (fun v => v = .bool true) ⟨⟨hl, hn0, by omega⟩, rfl⟩
    subst hv
    exact hc
  | [], h => exact h.elim
  | [_], h => exact h.2.elim
  | _ :: _ :: _ :: _, h => exact h.2.2.elim
end Go.AL
namespace Go.Proofs.Ytjjifacjlbojnaa
open Go.AL
theorem Try.own : ownKnob Try.prog.godebug = none := by kernel_rfl
theorem Try.laidOut : laidOutB Try.prog = true := by kernel_rfl
set_option maxRecDepth 100000 in
theorem syntaxParentheses_lifted (os : Os) (started : os.Started) (H : Type) (enc : TypeId × Value → H) :
    ReturnsInHanded {} Try.checked os 5 .any (Rows.syntaxParenthesesSpec.pre6 enc Try.prog Try.f5 Rows.syntaxParenthesesRow.domain false) (Rows.syntaxParenthesesSpec.post enc Try.prog Try.f5 false true false false) :=
  law_of_acalls (C := Try.checked) (d := 6) Try.own started (by kernel_rfl) Try.func5 (by rfl) (by rfl) Try.laidOut (by kernel_rfl) (by kernel_rfl) rfl (by kernel_rfl) rfl
    (fun ds h => match ds, h with | [_, _], _ => ⟨rfl, rfl, rfl⟩)
    (ChangeSpec.witness6 (enc := enc) (C := Try.checked) false ⟨#[], #[.slice none 0 0, .int .u8 0], []⟩ 8 (by kernel_rfl) (by kernel_rfl) (by kernel_rfl) (by kernel_rfl))
    (fun avs h => syntaxParentheses_calls avs h)
theorem syntaxParentheses_holds : Rows.SyntaxParenthesesSaid :=
  OpenClaim.holds_of_wide 5 Try.f5 rfl rfl rfl rfl rfl rfl rfl ⟨rfl, rfl, rfl, rfl, rfl⟩ rfl rfl rfl rfl rfl (by kernel_rfl) Try.func5 (by kernel_rfl)
    (of_decide_eq_true (by kernel_rfl)) (by unfold Func.isWrapper; first | (rw [if_pos (by decide +kernel)]; kernel_rfl) | (rw [if_neg (by decide +kernel)]; exact ⟨rfl, rfl⟩))
    (fun os started H enc _ => syntaxParentheses_lifted os started H enc)
#print axioms syntaxParentheses_holds
end Go.Proofs.Ytjjifacjlbojnaa

