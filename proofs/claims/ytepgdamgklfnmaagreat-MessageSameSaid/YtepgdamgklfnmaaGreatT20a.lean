/- Contracts and plain laws, a part of the proof; no condition of its own. -/
import Derived.Test.YtepgdamgklfnmaaGreatRows
import Derived.Test.YtepgdamgklfnmaaGreatM20a
import Derived.Test.YtepgdamgklfnmaaGreatTY20
/- Whatever the codes, the numbers, the value and the responses: the comparisons of requests and responses compare all fields, as the reference does: MessageSame returns true. No condition. -/
open Go Go.AL Go.Proofs
namespace Go.AL
set_option linter.all false
set_option maxRecDepth 10000
theorem messageSame_calls (avs : List AV) (h : tyA Tryz.prog 7 [26, 26, 3, 3, 24, 56, 56] avs) : ACalls Tryz.prog 4 avs H0 (.ret (.bool true)) H0 := by
  match avs, h with
  | [x0, x1, x2, x3, x4, x5, x6], h =>
    obtain ⟨h0, h1, h2, h3, h4, h5, h6, _⟩ := h
    obtain ⟨l1, rfl, hl1⟩ := tyBytes (d := 4) h0
    obtain ⟨l2, rfl, hl2⟩ := tyBytes (d := 4) h1
    obtain ⟨a, rfl, ha0, ha1⟩ := tyInt (d := 6) h2
    obtain ⟨n, rfl, hn0, hn1⟩ := tyInt (d := 6) h3
    obtain ⟨hi, lo, rfl, hv⟩ := tyVal (d := 5) h4
    obtain ⟨A, rfl, hA⟩ := tyResp (d := 0) h5
    obtain ⟨B, rfl, hB⟩ := tyResp (d := 0) h6
    obtain ⟨v, hv, hc⟩ := ok_MessageSame.1 rfl [.slice .any 1 l1, .slice .any 1 l2, .int .i64 a, .int .i64 n, .agg [.int .u64 hi, .int .u64 lo], .agg (respC A), .agg (respC B)] H0 (fun v => v = .bool true) ⟨A, B, ⟨rfl, rfl, hA, hB, hl1, hl2, ha0, by omega, hv⟩, rfl⟩
    subst hv
    exact hc
  | [], h => exact h.elim
  | [_], h => exact h.2.elim
  | [_, _], h => exact h.2.2.elim
  | [_, _, _], h => exact h.2.2.2.elim
  | [_, _, _, _], h => exact h.2.2.2.2.elim
  | [_, _, _, _, _], h => exact h.2.2.2.2.2.elim
  | [_, _, _, _, _, _], h => exact h.2.2.2.2.2.2.elim
  | _ :: _ :: _ :: _ :: _ :: _ :: _ :: _ :: _, h => exact h.2.2.2.2.2.2.2.elim
end Go.AL
namespace Go.Proofs.YtepgdamgklfnmaaGreat
open Go.AL
theorem Tryz.own : ownKnob Tryz.prog.godebug = none := by kernel_rfl
theorem Tryz.laidOut : laidOutB Tryz.prog = true := by kernel_rfl
set_option maxRecDepth 100000 in
theorem messageSame_lifted (os : Os) (started : os.Started) (H : Type) (enc : TypeId × Value → H) :
    ReturnsInHanded {} Tryz.checked os 4 .any (Rows.messageSameSpec.pre6 enc Tryz.prog Tryz.f4 Rows.messageSameRow.domain false) (Rows.messageSameSpec.post enc Tryz.prog Tryz.f4 false true false false) :=
  law_of_acalls (C := Tryz.checked) (d := 7) Tryz.own started (by kernel_rfl) Tryz.func4 (by rfl) (by rfl) Tryz.laidOut (by kernel_rfl) (by kernel_rfl) rfl (by kernel_rfl) rfl
    (fun ds h => match ds, h with | [_, _, _, _, _, _, _], _ => ⟨rfl, rfl, rfl⟩)
    (ChangeSpec.witness6 (enc := enc) (C := Tryz.checked) false ⟨#[], #[.slice none 0 0, .slice none 0 0, .int .i64 0, .int .i64 0, .agg #[.int .u64 0, .int .u64 0], .agg #[.int .i64 0, .int .i64 0, .bool false, .slice none 0 0, .slice none 0 0, .bool false, .int .i64 0, .int .i64 0, .slice none 0 0], .agg #[.int .i64 0, .int .i64 0, .bool false, .slice none 0 0, .slice none 0 0, .bool false, .int .i64 0, .int .i64 0, .slice none 0 0]], []⟩ 8 (by kernel_rfl) (by kernel_rfl) (by kernel_rfl) (by kernel_rfl))
    (fun avs h => messageSame_calls avs h)
theorem messageSame_holds : Rows.MessageSameSaid :=
  OpenClaim.holds_of_wide 4 Tryz.f4 rfl rfl rfl rfl rfl rfl rfl ⟨rfl, rfl, rfl, rfl, rfl⟩ rfl rfl rfl rfl rfl (by kernel_rfl) Tryz.func4 (by kernel_rfl)
    (of_decide_eq_true (by kernel_rfl)) (by unfold Func.isWrapper; first | (rw [if_pos (by decide +kernel)]; kernel_rfl) | (rw [if_neg (by decide +kernel)]; exact ⟨rfl, rfl⟩))
    (fun os started H enc _ => messageSame_lifted os started H enc)
#print axioms messageSame_holds
end Go.Proofs.YtepgdamgklfnmaaGreat

