/- Contracts and plain laws, a part of the proof; no condition of its own. -/
import Derived.Test.YtepgdamgklfnmaaRows
import Derived.Test.YtepgdamgklfnmaaS11s
import Derived.Test.YtepgdamgklfnmaaTY10
/- Whatever the codes, the bytes, the numbers and the byte: Append gives the documented bytes for valid entries, Read the documented entry and error for any bytes: EntryCodes returns true. No condition. -/
open Go Go.AL Go.Proofs
namespace Go.AL
set_option linter.all false
set_option maxRecDepth 10000
theorem entryCodes_calls (avs : List AV) (h : tyA Try.prog 6 [22, 22, 22, 3, 3, 5] avs) : ACalls Try.prog 4 avs H0 (.ret (.bool true)) H0 := by
  match avs, h with
  | [x0, x1, x2, x3, x4, x5], h =>
    obtain ⟨h0, h1, h2, h3, h4, h5, _⟩ := h
    obtain ⟨l1, rfl, hl1⟩ := tyBytes (d := 3) h0
    obtain ⟨l2, rfl, hl2⟩ := tyBytes (d := 3) h1
    obtain ⟨l3, rfl, hl3⟩ := tyBytes (d := 3) h2
    obtain ⟨n, rfl, hn0, hn1⟩ := tyInt (d := 5) h3
    obtain ⟨c, rfl, hc0, hc1⟩ := tyInt (d := 5) h4
    obtain ⟨b, rfl, hb0, hb1⟩ := tyU8 (d := 5) h5
    obtain ⟨v, hv, hc⟩ := ok_EntryCodes.1 rfl [.slice .any 1 l1, .slice .any 1 l2, .slice .any 1 l3, .int .i64 n, .int .i64 c, .int .u8 b] H0 (fun v => v = .bool true) ⟨⟨hl1, hl2, hl3, hn0, hn1, hc0, hc1, hb0, hb1⟩, rfl⟩
    subst hv
    exact hc
  | [], h => exact h.elim
  | [_], h => exact h.2.elim
  | [_, _], h => exact h.2.2.elim
  | [_, _, _], h => exact h.2.2.2.elim
  | [_, _, _, _], h => exact h.2.2.2.2.elim
  | [_, _, _, _, _], h => exact h.2.2.2.2.2.elim
  | _ :: _ :: _ :: _ :: _ :: _ :: _ :: _, h => exact h.2.2.2.2.2.2.elim
end Go.AL
namespace Go.Proofs.Ytepgdamgklfnmaa
open Go.AL
theorem Try.own : ownKnob Try.prog.godebug = none := by kernel_rfl
theorem Try.laidOut : laidOutB Try.prog = true := by kernel_rfl
set_option maxRecDepth 100000 in
theorem entryCodes_lifted (os : Os) (started : os.Started) (H : Type) (enc : TypeId × Value → H) :
    ReturnsInHanded {} Try.checked os 4 .any (Rows.entryCodesSpec.pre6 enc Try.prog Try.f4 Rows.entryCodesRow.domain false) (Rows.entryCodesSpec.post enc Try.prog Try.f4 false true false false) :=
  law_of_acalls (C := Try.checked) (d := 6) Try.own started (by kernel_rfl) Try.func4 (by rfl) (by rfl) Try.laidOut (by kernel_rfl) (by kernel_rfl) rfl (by kernel_rfl) rfl
    (fun ds h => match ds, h with | [_, _, _, _, _, _], _ => ⟨rfl, rfl, rfl⟩)
    (ChangeSpec.witness6 (enc := enc) (C := Try.checked) false ⟨#[], #[.slice none 0 0, .slice none 0 0, .slice none 0 0, .int .i64 0, .int .i64 0, .int .u8 0], []⟩ 8 (by kernel_rfl) (by kernel_rfl) (by kernel_rfl) (by kernel_rfl))
    (fun avs h => entryCodes_calls avs h)
theorem entryCodes_holds : Rows.EntryCodesSaid :=
  OpenClaim.holds_of_wide 4 Try.f4 rfl rfl rfl rfl rfl rfl rfl ⟨rfl, rfl, rfl, rfl, rfl⟩ rfl rfl rfl rfl rfl (by kernel_rfl) Try.func4 (by kernel_rfl)
    (of_decide_eq_true (by kernel_rfl)) (by unfold Func.isWrapper; first | (rw [if_pos (by decide +kernel)]; kernel_rfl) | (rw [if_neg (by decide +kernel)]; exact ⟨rfl, rfl⟩))
    (fun os started H enc _ => entryCodes_lifted os started H enc)
#print axioms entryCodes_holds
end Go.Proofs.Ytepgdamgklfnmaa

