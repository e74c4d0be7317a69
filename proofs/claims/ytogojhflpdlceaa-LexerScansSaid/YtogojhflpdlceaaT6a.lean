/- Whatever the text: Scan returns the tokens, the index and the error of the reference: LexerScans returns true. No condition. -/
import Derived.Test.YtogojhflpdlceaaRows
import Derived.Test.YtogojhflpdlceaaF06
import Derived.Test.YtogojhflpdlceaaTY6
open Go Go.AL Go.Proofs
namespace Go.AL
set_option linter.all false
set_option maxRecDepth 10000
theorem lexerScans_calls (avs : List AV) (h : tyA Try.prog 6 [9, 22, 3, 5] avs) : ACalls Try.prog 3 avs H0 (.ret (.bool true)) H0 := by
  match avs, h with
  | [x0, x1, x2, x3], h =>
    obtain ⟨h0, h1, h2, h3, _⟩ := h
    obtain ⟨s, rfl, hs⟩ := tyStr (d := 5) h0
    obtain ⟨b, rfl, hb⟩ := tyBytes (d := 3) h1
    obtain ⟨n, rfl, hn0, hn1⟩ := tyInt (d := 5) h2
    obtain ⟨x, rfl, hx0, hx1⟩ := tyU8 (d := 5) h3
    obtain ⟨v, hv, hc⟩ := ok_LexerScans.1 rfl [.str s, .slice .any 1 b, .int .i64 n, .int .u8 x] H0 (fun v => v = .bool true) ⟨⟨hs, hb, hn0, hn1⟩, rfl⟩
    subst hv
    exact hc
  | [], h => exact h.elim
  | [_], h => exact h.2.elim
  | [_, _], h => exact h.2.2.elim
  | [_, _, _], h => exact h.2.2.2.elim
  | _ :: _ :: _ :: _ :: _ :: _, h => exact h.2.2.2.2.elim
end Go.AL
namespace Go.Proofs.Ytogojhflpdlceaa
open Go.AL
theorem Try.own : ownKnob Try.prog.godebug = none := by kernel_rfl
theorem Try.laidOut : laidOutB Try.prog = true := by kernel_rfl
set_option maxRecDepth 100000 in
theorem lexerScans_lifted (os : Os) (started : os.Started) (H : Type) (enc : TypeId × Value → H) :
    ReturnsInHanded {} Try.checked os 3 .any (Rows.lexerScansSpec.pre6 enc Try.prog Try.f3 Rows.lexerScansRow.domain false) (Rows.lexerScansSpec.post enc Try.prog Try.f3 false true false false) :=
  law_of_acalls (C := Try.checked) (d := 6) Try.own started (by kernel_rfl) Try.func3 (by rfl) (by rfl) Try.laidOut (by kernel_rfl) (by kernel_rfl) rfl (by kernel_rfl) rfl
    (fun ds h => match ds, h with | [_, _, _, _], _ => ⟨rfl, rfl, rfl⟩)
    (ChangeSpec.witness6 (enc := enc) (C := Try.checked) false ⟨#[], #[.string ⟨#[]⟩, .slice none 0 0, .int .i64 0, .int .u8 0], []⟩ 8 (by kernel_rfl) (by kernel_rfl) (by kernel_rfl) (by kernel_rfl))
    (fun avs h => lexerScans_calls avs h)
theorem lexerScans_holds : Rows.LexerScansSaid :=
  OpenClaim.holds_of_wide 3 Try.f3 rfl rfl rfl rfl rfl rfl rfl ⟨rfl, rfl, rfl, rfl, rfl⟩ rfl rfl rfl rfl rfl (by kernel_rfl) Try.func3 (by kernel_rfl)
    (of_decide_eq_true (by kernel_rfl)) (by unfold Func.isWrapper; first | (rw [if_pos (by decide +kernel)]; kernel_rfl) | (rw [if_neg (by decide +kernel)]; exact ⟨rfl, rfl⟩))
    (fun os started H enc _ => lexerScans_lifted os started H enc)
#print axioms lexerScans_holds
end Go.Proofs.Ytogojhflpdlceaa
