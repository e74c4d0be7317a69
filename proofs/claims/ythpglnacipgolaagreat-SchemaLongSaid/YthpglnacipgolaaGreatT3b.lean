/- Contracts and plain laws, a part of the proof; no condition of its own. -/
import Derived.Test.YthpglnacipgolaaGreatRows
import Derived.Test.YthpglnacipgolaaGreatW03q
import Derived.Test.YthpglnacipgolaaGreatTY3
/- Whatever the number: the encoding of a schema with long restrictions is the documented one, or too long: SchemaLong returns true. No condition. -/
open Go Go.AL Go.Proofs
namespace Go.AL
set_option linter.all false
set_option maxRecDepth 10000
theorem schemaLong_calls (avs : List AV) (h : tyA Tryz.prog 6 [3] avs) : ACalls Tryz.prog 4 avs H0 (.ret (.bool true)) H0 := by
  match avs, h with
  | [x0], h =>
    obtain ⟨h0, _⟩ := h
    obtain ⟨n, rfl, hn0, hn1⟩ := tyInt (d := 5) h0
    obtain ⟨v, hv, hc⟩ := ok_SchemaLong.1 rfl [.int .i64 n] H0 (fun v => v = .bool true) ⟨⟨hn0, by omega⟩, rfl⟩
    subst hv
    exact hc
  | [], h => exact h.elim
  | _ :: _ :: _, h => exact h.2.elim
end Go.AL
namespace Go.Proofs.YthpglnacipgolaaGreat
open Go.AL
theorem Tryz.own : ownKnob Tryz.prog.godebug = none := by kernel_rfl
theorem Tryz.laidOut : laidOutB Tryz.prog = true := by kernel_rfl
set_option maxRecDepth 100000 in
theorem schemaLong_lifted (os : Os) (started : os.Started) (H : Type) (enc : TypeId × Value → H) :
    ReturnsInHanded {} Tryz.checked os 4 .any (Rows.schemaLongSpec.pre6 enc Tryz.prog Tryz.f4 Rows.schemaLongRow.domain false) (Rows.schemaLongSpec.post enc Tryz.prog Tryz.f4 false true false false) :=
  law_of_acalls (C := Tryz.checked) (d := 6) Tryz.own started (by kernel_rfl) Tryz.func4 (by rfl) (by rfl) Tryz.laidOut (by kernel_rfl) (by kernel_rfl) rfl (by kernel_rfl) rfl
    (fun ds h => match ds, h with | [_], _ => ⟨rfl, rfl, rfl⟩)
    (ChangeSpec.witness6 (enc := enc) (C := Tryz.checked) false ⟨#[], #[.int .i64 0], []⟩ 8 (by kernel_rfl) (by kernel_rfl) (by kernel_rfl) (by kernel_rfl))
    (fun avs h => schemaLong_calls avs h)
theorem and_t {a b : Bool} (h : a = true) (k : b = true) : (a && b) = true := by rw [h, k]; rfl
set_option maxHeartbeats 8000000 in
set_option maxRecDepth 100000 in
theorem schemaLong_closed : joinedFacts Tryz.pinned.checked.prog 4 Tryz.f4 Rows.schemaLongSpec Rows.schemaLongRow = true := by
  unfold joinedFacts
  iterate 31 refine and_t ?_ ?_
  all_goals as_aux_lemma => kernel_rfl
theorem schemaLong_holds : Rows.SchemaLongSaid :=
  OpenClaim.holds_of_wide 4 Tryz.f4 rfl rfl rfl rfl rfl rfl rfl ⟨rfl, rfl, rfl, rfl, rfl⟩ rfl rfl rfl rfl rfl (by kernel_rfl) Tryz.func4 schemaLong_closed
    (of_decide_eq_true (by kernel_rfl)) (by unfold Func.isWrapper; first | (rw [if_pos (by decide +kernel)]; kernel_rfl) | (rw [if_neg (by decide +kernel)]; exact ⟨rfl, rfl⟩))
    (fun os started H enc _ => schemaLong_lifted os started H enc)
#print axioms schemaLong_holds
end Go.Proofs.YthpglnacipgolaaGreat

