/- Contracts and plain laws, a part of the proof; no condition of its own. -/
import Derived.Test.YtgihhefckdgeoaaRows
import Derived.Test.YtgihhefckdgeoaaS10y
import Derived.Test.YtgihhefckdgeoaaTY11
/- Whatever the codes, the match, the numbers, the value and the point: Covers, Matches and the number of leading bits of an entry answer as the reference does: EntryCovers returns true. No condition. -/
open Go Go.AL Go.Proofs
namespace Go.AL
set_option linter.all false
set_option maxRecDepth 10000
theorem entryCovers_calls (avs : List AV) (h : tyA Try.prog 6 [22, 22, 55, 3, 3, 25, 45, 3] avs) : ACalls Try.prog 4 avs H0 (.ret (.bool true)) H0 := by
  match avs, h with
  | [x0, x1, x2, x3, x4, x5, x6, x7], h =>
    obtain ⟨h0, h1, h2, h3, h4, h5, h6, h7, _⟩ := h
    obtain ⟨l1, rfl, hl1⟩ := tyBytes (d := 3) h0
    obtain ⟨l2, rfl, hl2⟩ := tyBytes (d := 3) h1
    obtain ⟨m0, rfl, hm0, hm1, hm2⟩ := tyMatch (d := 3) h2
    obtain ⟨c, rfl, hc0, hc1⟩ := tyInt (d := 5) h3
    obtain ⟨d, rfl, hd0, hd1⟩ := tyInt (d := 5) h4
    obtain ⟨hi, lo, rfl, hv⟩ := tyVal (d := 4) h5
    obtain ⟨p0, rfl, hp0⟩ := tyPoint (d := 3) h6
    obtain ⟨n, rfl, hn0, hn1⟩ := tyInt (d := 5) h7
    obtain ⟨v, hv, hc⟩ := ok_EntryCovers.1 rfl [.slice .any 1 l1, .slice .any 1 l2, .agg (matchC m0), .int .i64 c, .int .i64 d, .agg [.int .u64 hi, .int .u64 lo], .agg (pointC p0), .int .i64 n] H0 (fun v => v = .bool true) ⟨m0, p0, ⟨hl1, hl2, rfl, hm0, hm1, hm2, hc0, by omega, hv, rfl, hp0, hn0, hn1⟩, rfl⟩
    subst hv
    exact hc
  | [], h => exact h.elim
  | [_], h => exact h.2.elim
  | [_, _], h => exact h.2.2.elim
  | [_, _, _], h => exact h.2.2.2.elim
  | [_, _, _, _], h => exact h.2.2.2.2.elim
  | [_, _, _, _, _], h => exact h.2.2.2.2.2.elim
  | [_, _, _, _, _, _], h => exact h.2.2.2.2.2.2.elim
  | [_, _, _, _, _, _, _], h => exact h.2.2.2.2.2.2.2.elim
  | _ :: _ :: _ :: _ :: _ :: _ :: _ :: _ :: _ :: _, h => exact h.2.2.2.2.2.2.2.2.elim
end Go.AL
namespace Go.Proofs.Ytgihhefckdgeoaa
open Go.AL
theorem Try.own : ownKnob Try.prog.godebug = none := by kernel_rfl
theorem Try.laidOut : laidOutB Try.prog = true := by kernel_rfl
set_option maxRecDepth 100000 in
theorem entryCovers_lifted (os : Os) (started : os.Started) (H : Type) (enc : TypeId × Value → H) :
    ReturnsInHanded {} Try.checked os 4 .any (Rows.entryCoversSpec.pre6 enc Try.prog Try.f4 Rows.entryCoversRow.domain false) (Rows.entryCoversSpec.post enc Try.prog Try.f4 false true false false) :=
  law_of_acalls (C := Try.checked) (d := 6) Try.own started (by kernel_rfl) Try.func4 (by rfl) (by rfl) Try.laidOut (by kernel_rfl) (by kernel_rfl) rfl (by kernel_rfl) rfl
    (fun ds h => match ds, h with | [_, _, _, _, _, _, _, _], _ => ⟨rfl, rfl, rfl⟩)
    (ChangeSpec.witness6 (enc := enc) (C := Try.checked) false ⟨#[], #[.slice none 0 0, .slice none 0 0, .agg #[.bool false, .int .u64 0, .int .u64 0, .int .u64 0, .int .u64 0, .int .i64 0, .int .u64 0, .int .u64 0], .int .i64 0, .int .i64 0, .agg #[.int .u64 0, .int .u64 0], .agg #[.int .u64 0, .int .u64 0, .int .u64 0, .int .u64 0, .int .u64 0, .int .u64 0, .int .u64 0, .int .u64 0], .int .i64 0], []⟩ 8 (by kernel_rfl) (by kernel_rfl) (by kernel_rfl) (by kernel_rfl))
    (fun avs h => entryCovers_calls avs h)
theorem entryCovers_holds : Rows.EntryCoversSaid :=
  OpenClaim.holds_of_wide 4 Try.f4 rfl rfl rfl rfl rfl rfl rfl ⟨rfl, rfl, rfl, rfl, rfl⟩ rfl rfl rfl rfl rfl (by kernel_rfl) Try.func4 (by kernel_rfl)
    (of_decide_eq_true (by kernel_rfl)) (by unfold Func.isWrapper; first | (rw [if_pos (by decide +kernel)]; kernel_rfl) | (rw [if_neg (by decide +kernel)]; exact ⟨rfl, rfl⟩))
    (fun os started H enc _ => entryCovers_lifted os started H enc)
#print axioms entryCovers_holds
end Go.Proofs.Ytgihhefckdgeoaa

