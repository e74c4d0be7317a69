/- Contracts and plain laws, a part of the proof; no condition of its own. -/
import Derived.Test.YtknhoembfohbiaaN05
import Derived.Test.YtknhoembfohbiaaLNum
open Go Go.AL Go.Proofs
namespace Go.AL
set_option linter.all false
set_option maxRecDepth 10000
theorem ti_uint : ti Try.prog 157 = some ⟨.int .u64, 1, 8, .int .u64 0⟩ := by kernel_rfl
theorem ti_bytes : ti Try.prog 22 = some ⟨.slice 5, 1, 24, .slice .nil 1 []⟩ := by kernel_rfl
theorem ti_u8 : ti Try.prog 5 = some ⟨.int .u8, 1, 1, .int .u8 0⟩ := by kernel_rfl
theorem ti_string : ti Try.prog 9 = some ⟨.string, 1, 16, .str []⟩ := by kernel_rfl
attribute [go_sem] ti_uint ti_bytes ti_u8 ti_string

/-- the value of a number, and whether it has one -/
def valAV (a : Int) : AV := if 0 ≤ a ∧ a < 2 ^ 128 then .tup [.agg [.int .u64 (a / 2 ^ 64), .int .u64 (a % 2 ^ 64)], .bool true] else .tup [.agg [.int .u64 0, .int .u64 0], .bool false]
def p_NValue : List AV → AHeap → (AV → Prop) → Prop
  | [x], _, K => ∃ a, (x = nAV a ∧ isN a) ∧ K (valAV a)
  | _, _, _ => False
theorem ok_NValue : EntOk Try.prog 141 (Ent.pure p_NValue) := by
  refine EntOk.pure fun args H K h => ?_
  unfold p_NValue at h
  split at h
  rotate_left
  · exact h.elim
  obtain ⟨a, ⟨rfl, ha⟩, hK⟩ := h
  refine ⟨_, hK, ?_⟩
  refine ACalls.of_aw (Ω := []) (T := assoc []) mixed TblOk.nil Try.func141 (by kernel_rfl) (by rfl) (rs := [.cell 2 64,.tmp 3]) (by rfl) (by kernel_rfl) (by simp only [Try.ntmps141, List.length_cons, List.length_nil]; decide) (Nat.le_refl _) fun hcl hlt => ?_
  change aw _ _ _ (KI Try.prog [] (aEnd Try.prog [.cell 2 64,.tmp 3] H.nx _ _) []) _ _
  clear hlt hK
  have hf := w_fits ha
  simp only [go_sem, reduceCtorEq, Nat.reduceEqDiff, Nat.reduceAdd, Nat.reduceMul, Nat.reduceSub, Nat.reduceLeDiff, Nat.reduceLT, Int.reduceMul, Int.reduceAdd, Int.reduceSub, Int.reduceToNat, byq, nAV]
  refine ⟨by omega, cond_split (fun h1 => ?_) (fun h1 => ?_)⟩
  · have h1' : ¬ (0 ≤ a ∧ a < 2 ^ 128) := fun h => by rw [← hf] at h; simp [h] at h1
    simp only [go_sem, reduceCtorEq, Nat.reduceEqDiff, Nat.reduceAdd, Nat.reduceMul, Nat.reduceSub, Nat.reduceLeDiff, Nat.reduceLT, Int.reduceMul, Int.reduceAdd, Int.reduceSub, Int.reduceToNat, byq, valAV, if_neg h1']
    simp (disch := first | assumption | omega | (simp; done) | (simp; omega) | (simp only [bt, and_true]; first | done | omega | (simp; done))) [↓zlf, beq, List.take_of_length_le, List.drop_append, List.take_append, endOk, wk, wk2, wk1, wkM, wkL, wkLL, List.drop_eq_nil_of_le, hcl]
  · have h1' : (0 ≤ a ∧ a < 2 ^ 128) := by rw [← hf]; simpa using h1
    have e1 : w1 a = a / 2 ^ 64 := by unfold w1; omega
    have e0 : w0 a = a % 2 ^ 64 := rfl
    simp only [go_sem, reduceCtorEq, Nat.reduceEqDiff, Nat.reduceAdd, Nat.reduceMul, Nat.reduceSub, Nat.reduceLeDiff, Nat.reduceLT, Int.reduceMul, Int.reduceAdd, Int.reduceSub, Int.reduceToNat, byq, valAV, if_pos h1', e1, e0]
    refine ⟨by omega, by omega, ?_⟩
    simp (disch := first | assumption | omega | (simp; done) | (simp; omega) | (simp only [bt, and_true]; first | done | omega | (simp; done))) [↓zlf, beq, List.take_of_length_le, List.drop_append, List.take_append, endOk, wk, wk2, wk1, wkM, wkL, wkLL, List.drop_eq_nil_of_le, hcl]

end Go.AL

