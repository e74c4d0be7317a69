/- Contracts and plain laws, a part of the proof; no condition of its own. -/
import Derived.Test.YtjjifacjlbojnaaRows
import Derived.Test.YtjjifacjlbojnaaS07i
import Derived.Test.YtjjifacjlbojnaaTY7
/- Whatever the codes and the numbers: Same compares all fields of all nodes: SyntaxSame returns true. No condition. -/
open Go Go.AL Go.Proofs
namespace Go.AL
set_option linter.all false
set_option maxRecDepth 10000
theorem syntaxSame_calls (avs : List AV) (h : tyA Try.prog 6 [22, 22, 3, 3] avs) : ACalls Try.prog 6 avs H0 (.ret (.bool true)) H0 := by
  match avs, h with
  | [x0, x1, x2, x3], h =>
    obtain ⟨h0, h1, h2, h3, _⟩ := h
    obtain ⟨l, rfl, hl⟩ := tyBytes (d := 3) h0
    obtain ⟨d, rfl, hd⟩ := tyBytes (d := 3) h1
    obtain ⟨n, rfl, hn0, hn1⟩ := tyInt (d := 5) h2
    obtain ⟨k, rfl, hk0, hk1⟩ := tyInt (d := 5) h3
    obtain ⟨v, hv, hc⟩ := ok_SyntaxSame.1 rfl [.slice .any 1 l, .slice .any 1 d, .int .i64 n, .int .i64 k] H0 (fun v => v = .bool true) ⟨⟨hl, hd, hn0, hn1⟩, rfl⟩
    subst hv
    exact hc
  | [], h => exact h.elim
  | [_], h => exact h.2.elim
  | [_, _], h => exact h.2.2.elim
  | [_, _, _], h => exact h.2.2.2.elim
  | _ :: _ :: _ :: _ :: _ :: _, h => exact h.2.2.2.2.elim
end Go.AL
namespace Go.Proofs.Ytjjifacjlbojnaa
open Go.AL
theorem Try.own : ownKnob Try.prog.godebug = none := by kernel_rfl
theorem Try.laidOut : laidOutB Try.prog = true := by kernel_rfl
set_option maxRecDepth 100000 in
theorem syntaxSame_lifted (os : Os) (started : os.Started) (H : Type) (enc : TypeId × Value → H) :
    ReturnsInHanded {} Try.checked os 6 .any (Rows.syntaxSameSpec.pre6 enc Try.prog Try.f6 Rows.syntaxSameRow.domain false) (Rows.syntaxSameSpec.post enc Try.prog Try.f6 false true false false) :=
  law_of_acalls (C := Try.checked) (d := 6) Try.own started (by kernel_rfl) Try.func6 (by rfl) (by rfl) Try.laidOut (by kernel_rfl) (by kernel_rfl) rfl (by kernel_rfl) rfl
    (fun ds h => match ds, h with | [_, _, _, _], _ => ⟨rfl, rfl, rfl⟩)
    (ChangeSpec.witness6 (enc := enc) (C := Try.checked) false ⟨#[], #[.slice none 0 0, .slice none 0 0, .int .i64 0, .int .i64 0], []⟩ 8 (by kernel_rfl) (by kernel_rfl) (by kernel_rfl) (by kernel_rfl))
    (fun avs h => syntaxSame_calls avs h)
theorem syntaxSame_holds : Rows.SyntaxSameSaid :=
  OpenClaim.holds_of_wide 6 Try.f6 rfl rfl rfl rfl rfl rfl rfl ⟨rfl, rfl, rfl, rfl, rfl⟩ rfl rfl rfl rfl rfl (by kernel_rfl) Try.func6 (by kernel_rfl)
    (of_decide_eq_true (by kernel_rfl)) (by unfold Func.isWrapper; first | (rw [if_pos (by decide +kernel)]; kernel_rfl) | (rw [if_neg (by decide +kernel)]; exact ⟨rfl, rfl⟩))
    (fun os started H enc _ => syntaxSame_lifted os started H enc)
#print axioms syntaxSame_holds
end Go.Proofs.Ytjjifacjlbojnaa

