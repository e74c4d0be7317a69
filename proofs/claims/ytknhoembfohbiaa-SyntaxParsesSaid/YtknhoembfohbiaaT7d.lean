/- Contracts and plain laws, a part of the proof; no condition of its own. -/
import Derived.Test.YtknhoembfohbiaaRows
import Derived.Test.YtknhoembfohbiaaS07j
import Derived.Test.YtknhoembfohbiaaTY7
/- Whatever the text, the codes, the number and the byte: both parsers give the same tree, or the same error and index: SyntaxParses returns true. No condition. -/
open Go Go.AL Go.Proofs
namespace Go.AL
set_option linter.all false
set_option maxRecDepth 10000
theorem syntaxParses_calls (avs : List AV) (h : tyA Try.prog 6 [9, 22, 3, 5, 22] avs) : ACalls Try.prog 4 avs H0 (.ret (.bool true)) H0 := by
  match avs, h with
  | [x0, x1, x2, x3, x4], h =>
    obtain ⟨h0, h1, h2, h3, h4, _⟩ := h
    obtain ⟨s, rfl, hs⟩ := tyStr (d := 5) h0
    obtain ⟨l, rfl, hl⟩ := tyBytes (d := 3) h1
    obtain ⟨n, rfl, hn0, hn1⟩ := tyInt (d := 5) h2
    obtain ⟨x, rfl, hx0, hx1⟩ := tyU8 (d := 5) h3
    obtain ⟨d, rfl, hd⟩ := tyBytes (d := 3) h4
    obtain ⟨v, hv, hc⟩ := ok_SyntaxParses.1 rfl [.str s, .slice .any 1 l, .int .i64 n, .int .u8 x, .slice .any 1 d] H0 (fun v => v = .bool true) ⟨⟨hs, hl, hd, hn0, hn1⟩, rfl⟩
    subst hv
    exact hc
  | [], h => exact h.elim
  | [_], h => exact h.2.elim
  | [_, _], h => exact h.2.2.elim
  | [_, _, _], h => exact h.2.2.2.elim
  | [_, _, _, _], h => exact h.2.2.2.2.elim
  | _ :: _ :: _ :: _ :: _ :: _ :: _, h => exact h.2.2.2.2.2.elim
end Go.AL
namespace Go.Proofs.Ytknhoembfohbiaa
open Go.AL
theorem Try.own : ownKnob Try.prog.godebug = none := by kernel_rfl
theorem Try.laidOut : laidOutB Try.prog = true := by kernel_rfl
set_option maxRecDepth 100000 in
theorem syntaxParses_lifted (os : Os) (started : os.Started) (H : Type) (enc : TypeId × Value → H) :
    ReturnsInHanded {} Try.checked os 4 .any (Rows.syntaxParsesSpec.pre6 enc Try.prog Try.f4 Rows.syntaxParsesRow.domain false) (Rows.syntaxParsesSpec.post enc Try.prog Try.f4 false true false false) :=
  law_of_acalls (C := Try.checked) (d := 6) Try.own started (by kernel_rfl) Try.func4 (by rfl) (by rfl) Try.laidOut (by kernel_rfl) (by kernel_rfl) rfl (by kernel_rfl) rfl
    (fun ds h => match ds, h with | [_, _, _, _, _], _ => ⟨rfl, rfl, rfl⟩)
    (ChangeSpec.witness6 (enc := enc) (C := Try.checked) false ⟨#[], #[.string ⟨#[]⟩, .slice none 0 0, .int .i64 0, .int .u8 0, .slice none 0 0], []⟩ 8 (by kernel_rfl) (by kernel_rfl) (by kernel_rfl) (by kernel_rfl))
    (fun avs h => syntaxParses_calls avs h)
theorem syntaxParses_holds : Rows.SyntaxParsesSaid :=
  OpenClaim.holds_of_wide 4 Try.f4 rfl rfl rfl rfl rfl rfl rfl ⟨rfl, rfl, rfl, rfl, rfl⟩ rfl rfl rfl rfl rfl (by kernel_rfl) Try.func4 (by kernel_rfl)
    (of_decide_eq_true (by kernel_rfl)) (by unfold Func.isWrapper; first | (rw [if_pos (by decide +kernel)]; kernel_rfl) | (rw [if_neg (by decide +kernel)]; exact ⟨rfl, rfl⟩))
    (fun os started H enc _ => syntaxParses_lifted os started H enc)
#print axioms syntaxParses_holds
end Go.Proofs.Ytknhoembfohbiaa

