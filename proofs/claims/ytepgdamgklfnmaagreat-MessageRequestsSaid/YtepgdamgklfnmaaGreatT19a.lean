/- Contracts and plain laws, a part of the proof; no condition of its own. -/
import Derived.Test.YtepgdamgklfnmaaGreatRows
import Derived.Test.YtepgdamgklfnmaaGreatM19r
import Derived.Test.YtepgdamgklfnmaaGreatTY19
/- Whatever the request, the codes, the numbers and the value: EncodeRequest returns the documented bytes, or the documented error: MessageRequests returns true. No condition. -/
open Go Go.AL Go.Proofs
namespace Go.AL
set_option linter.all false
set_option maxRecDepth 10000
theorem messageRequests_calls (avs : List AV) (h : tyA Tryz.prog 8 [28, 26, 26, 3, 3, 24, 3] avs) : ACalls Tryz.prog 3 avs H0 (.ret (.bool true)) H0 := by
  match avs, h with
  | [x0, x1, x2, x3, x4, x5, x6], h =>
    obtain ⟨h0, h1, h2, h3, h4, h5, h6, _⟩ := h
    obtain ⟨r0, rfl, hre, hru⟩ := tyReq (d := 0) h0
    obtain ⟨l1, rfl, hl1⟩ := tyBytes (d := 5) h1
    obtain ⟨l2, rfl, hl2⟩ := tyBytes (d := 5) h2
    obtain ⟨a, rfl, ha0, ha1⟩ := tyInt (d := 7) h3
    obtain ⟨n, rfl, hn0, hn1⟩ := tyInt (d := 7) h4
    obtain ⟨hi, lo, rfl, hv⟩ := tyVal (d := 6) h5
    obtain ⟨c, rfl, hc0, hc1⟩ := tyInt (d := 7) h6
    obtain ⟨v, hv, hc⟩ := ok_MessageRequests.1 rfl [.agg (reqC r0), .slice .any 1 l1, .slice .any 1 l2, .int .i64 a, .int .i64 n, .agg [.int .u64 hi, .int .u64 lo], .int .i64 c] H0 (fun v => v = .bool true) ⟨r0, ⟨rfl, hre, hru, hl1, hl2, ha0, by omega, hc0, by omega, hv⟩, rfl⟩
    subst hv
    exact hc
  | [], h => exact h.elim
  | [_], h => exact h.2.elim
  | [_, _], h => exact h.2.2.elim
  | [_, _, _], h => exact h.2.2.2.elim
  | [_, _, _, _], h => exact h.2.2.2.2.elim
  | [_, _, _, _, _], h => exact h.2.2.2.2.2.elim
  | [_, _, _, _, _, _], h => exact h.2.2.2.2.2.2.elim
  | _ :: _ :: _ :: _ :: _ :: _ :: _ :: _ :: _, h => exact h.2.2.2.2.2.2.2.elim
end Go.AL
namespace Go.Proofs.YtepgdamgklfnmaaGreat
open Go.AL
theorem Tryz.own : ownKnob Tryz.prog.godebug = none := by kernel_rfl
theorem Tryz.laidOut : laidOutB Tryz.prog = true := by kernel_rfl
set_option maxRecDepth 100000 in
theorem messageRequests_lifted (os : Os) (started : os.Started) (H : Type) (enc : TypeId × Value → H) :
    ReturnsInHanded {} Tryz.checked os 3 .any (Rows.messageRequestsSpec.pre6 enc Tryz.prog Tryz.f3 Rows.messageRequestsRow.domain false) (Rows.messageRequestsSpec.post enc Tryz.prog Tryz.f3 false true false false) :=
  law_of_acalls (C := Tryz.checked) (d := 8) Tryz.own started (by kernel_rfl) Tryz.func3 (by rfl) (by rfl) Tryz.laidOut (by kernel_rfl) (by kernel_rfl) rfl (by kernel_rfl) rfl
    (fun ds h => match ds, h with | [_, _, _, _, _, _, _], _ => ⟨rfl, rfl, rfl⟩)
    (ChangeSpec.witness6 (enc := enc) (C := Tryz.checked) false ⟨#[], #[.agg #[.int .i64 0, .int .i64 0, .int .u64 0, .int .u64 0, .slice none 0 0, .int .i64 0, .int .i64 0, .int .i64 0, .int .i64 0, .slice none 0 0], .slice none 0 0, .slice none 0 0, .int .i64 0, .int .i64 0, .agg #[.int .u64 0, .int .u64 0], .int .i64 0], []⟩ 8 (by kernel_rfl) (by kernel_rfl) (by kernel_rfl) (by kernel_rfl))
    (fun avs h => messageRequests_calls avs h)
theorem messageRequests_holds : Rows.MessageRequestsSaid :=
  OpenClaim.holds_of_wide 3 Tryz.f3 rfl rfl rfl rfl rfl rfl rfl ⟨rfl, rfl, rfl, rfl, rfl⟩ rfl rfl rfl rfl rfl (by kernel_rfl) Tryz.func3 (by kernel_rfl)
    (of_decide_eq_true (by kernel_rfl)) (by unfold Func.isWrapper; first | (rw [if_pos (by decide +kernel)]; kernel_rfl) | (rw [if_neg (by decide +kernel)]; exact ⟨rfl, rfl⟩))
    (fun os started H enc _ => messageRequests_lifted os started H enc)
#print axioms messageRequests_holds
end Go.Proofs.YtepgdamgklfnmaaGreat

