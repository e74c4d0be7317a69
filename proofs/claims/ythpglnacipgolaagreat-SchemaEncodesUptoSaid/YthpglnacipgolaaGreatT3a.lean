/- Contracts and plain laws, a part of the proof; no condition of its own. -/
import Derived.Test.YthpglnacipgolaaGreatRows
import Derived.Test.YthpglnacipgolaaGreatW03p
import Derived.Test.YthpglnacipgolaaGreatTY3u
import Derived.JoinedCond
/- Whatever the schema, the codes, the numbers and the text, together of bulk at most 1048576: Encode returns the documented bytes, or the documented error: SchemaEncodes returns true. The bound is the statement's own. -/
open Go Go.AL Go.Proofs
namespace Go.AL
set_option linter.all false
set_option maxRecDepth 10000
theorem schemaEncodes_calls (avs : List AV) (h : tyA Tryz.prog 9 [31, 32, 3, 3, 9] avs) (hc : ∀ (j : Nat) (hj : j < avs.length), (avs[j]).cnt 1048576) : ACalls Tryz.prog 3 avs H0 (.ret (.bool true)) H0 := by
  match avs, h with
  | [x0, x1, x2, x3, x4], h =>
    obtain ⟨h0, h1, h2, h3, h4, _⟩ := h
    have hc0 := hc 0 (by simp)
    obtain ⟨raw, rfl, hv⟩ := tySch (d := 1) h0
    obtain ⟨l1, rfl, hl1⟩ := tyBytes (d := 6) h1
    obtain ⟨w, rfl, hw0, hw1⟩ := tyInt (d := 8) h2
    obtain ⟨n, rfl, hn0, hn1⟩ := tyInt (d := 8) h3
    obtain ⟨t, rfl, ht⟩ := tyStr (d := 8) h4
    obtain ⟨v, hv, hcc⟩ := ok_SchemaEncodes.1 rfl [.agg (schC raw), .slice .any 1 l1, .int .i64 w, .int .i64 n, .str t] H0 (fun v => v = .bool true) ⟨raw, ⟨rfl, raw_ok hv hc0, hl1, hw0, by omega⟩, rfl⟩
    subst hv
    exact hcc
  | [], h => exact h.elim
  | [_], h => exact h.2.elim
  | [_, _], h => exact h.2.2.elim
  | [_, _, _], h => exact h.2.2.2.elim
  | [_, _, _, _], h => exact h.2.2.2.2.elim
  | _ :: _ :: _ :: _ :: _ :: _ :: _, h => exact h.2.2.2.2.2.elim
end Go.AL
namespace Go.Proofs.YthpglnacipgolaaGreat
open Go.AL
theorem Tryz.own : ownKnob Tryz.prog.godebug = none := by kernel_rfl
theorem Tryz.laidOut : laidOutB Tryz.prog = true := by kernel_rfl
theorem bulk_one {H : Type} (d : DataW H) : 1 ≤ Rows.uptoBulk d := by
  cases d with
  | lit l => cases l <;> simp [Rows.uptoBulk]
  | nil => simp [Rows.uptoBulk]
  | ptr d => simp [Rows.uptoBulk]
  | slice elems spare => simp [Rows.uptoBulk]
  | agg parts => simp [Rows.uptoBulk]
  | iface t d => simp [Rows.uptoBulk]
  | map entries => simp [Rows.uptoBulk]
  | held h => simp [Rows.uptoBulk]
theorem bulk_part {H : Type} {d : DataW H} {l : List (DataW H)} (h : d ∈ l) : Rows.uptoBulk d ≤ Rows.uptoBulkAll l := by
  induction l with
  | nil => cases h
  | cons x r ih =>
    simp only [Rows.uptoBulkAll]
    cases List.mem_cons.1 h with
    | inl e => subst e; omega
    | inr e => have := ih e; omega
theorem bulk_len {H : Type} (l : List (DataW H)) : l.length ≤ Rows.uptoBulkAll l := by
  induction l with
  | nil => simp [Rows.uptoBulkAll]
  | cons x r ih => have := bulk_one x; simp only [Rows.uptoBulkAll, List.length_cons]; omega
theorem bulkOk {H : Type} : BulkOk (H := H) Rows.uptoBulk where
  str := fun s => by simp [Rows.uptoBulk]
  len := fun es sp => by have := bulk_len es; simp only [Rows.uptoBulk]; omega
  elem := fun es sp x hx => by have := bulk_part hx; simp only [Rows.uptoBulk]; omega
  agg := fun es x hx => by have := bulk_part hx; simp only [Rows.uptoBulk]; omega
theorem small_le {H : Type} (ds : List (DataW H)) (h : Rows.uptoSmall H ds = true) : ∀ x ∈ ds, Rows.uptoBulk x ≤ 1048576 := fun x hx => by
  have h1 : Rows.uptoBulkAll ds ≤ 1048576 := of_decide_eq_true h
  exact Nat.le_trans (bulk_part hx) h1
set_option maxRecDepth 100000 in
theorem schemaEncodes_lifted (os : Os) (started : os.Started) (H : Type) (enc : TypeId × Value → H) (F : Stop.Interp) :
    ReturnsInHanded {} Tryz.checked os 3 .any ((Rows.OpenSpec.upto Rows.schemaEncodesSpec).pre6 enc Tryz.prog Tryz.f3 Rows.schemaEncodesUptoRow.domain false) (((Rows.OpenSpec.upto Rows.schemaEncodesSpec).at F).post enc Tryz.prog Tryz.f3 false true false false) :=
  law_of_acallsU (C := Tryz.checked) (d := 9) (s := Rows.OpenSpec.upto Rows.schemaEncodesSpec) (k := Rows.uptoSmall) rfl Rows.uptoBulk bulkOk 1048576 small_le Tryz.own started (by kernel_rfl) Tryz.func3 (by rfl) (by rfl) Tryz.laidOut (by kernel_rfl) (by kernel_rfl) rfl (by kernel_rfl) rfl rfl
    (fun ds h => match ds, h with | [_, _, _, _, _], _ => ⟨rfl, rfl, rfl⟩)
    (OpenSpec.witness (enc := enc) (C := Tryz.checked) (s := Rows.OpenSpec.upto Rows.schemaEncodesSpec) (k := Rows.uptoSmall) rfl false ⟨#[], #[.agg #[.slice none 0 0, .slice none 0 0, .slice none 0 0, .slice none 0 0, .slice none 0 0, .slice none 0 0, .slice none 0 0, .slice none 0 0, .int .i64 0, .int .i64 0], .slice none 0 0, .int .i64 0, .int .i64 0, .string .empty], []⟩ 8 (by kernel_rfl) (by kernel_rfl) (by kernel_rfl)
      (x := ([.agg [.nil, .nil, .nil, .nil, .nil, .nil, .nil, .nil, .lit (.int .i64 0), .lit (.int .i64 0)], .nil, .lit (.int .i64 0), .lit (.int .i64 0), .lit (.string [])], [], [])) (by kernel_rfl) rfl (by kernel_rfl))
    (fun avs h hc => schemaEncodes_calls avs h hc)
theorem and_t {a b : Bool} (h : a = true) (k : b = true) : (a && b) = true := by rw [h, k]; rfl
set_option maxHeartbeats 8000000 in
set_option maxRecDepth 100000 in
theorem schemaEncodes_closed : joinedFacts Tryz.pinned.checked.prog 3 Tryz.f3 (Rows.OpenSpec.upto Rows.schemaEncodesSpec).bare Rows.schemaEncodesUptoRow = true := by
  unfold joinedFacts
  iterate 31 refine and_t ?_ ?_
  all_goals as_aux_lemma => kernel_rfl
theorem schemaEncodes_over : Rows.schemaEncodesUptoRow.holds Tryz.pinned (Rows.OpenSpec.upto Rows.schemaEncodesSpec) :=
  OpenClaim.holds_of_cond 3 Tryz.f3 rfl rfl rfl rfl rfl rfl rfl ⟨rfl, rfl, rfl, rfl, rfl⟩ rfl rfl rfl rfl rfl (by kernel_rfl) Tryz.func3 schemaEncodes_closed
    (of_decide_eq_true (by kernel_rfl)) (by unfold Func.isWrapper; first | (rw [if_pos (by decide +kernel)]; kernel_rfl) | (rw [if_neg (by decide +kernel)]; exact ⟨rfl, rfl⟩))
    (fun os started H enc _ F => schemaEncodes_lifted os started H enc F)
theorem schemaEncodes_holds : Rows.SchemaEncodesUptoSaid := schemaEncodes_over
#print axioms schemaEncodes_holds
end Go.Proofs.YthpglnacipgolaaGreat

