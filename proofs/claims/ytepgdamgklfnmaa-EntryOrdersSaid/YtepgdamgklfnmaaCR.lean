/- Contracts and plain laws, a part of the proof; no condition of its own. -/
import Derived.Test.YtepgdamgklfnmaaCV
open Go Go.AL Go.Proofs
namespace Go.AL
set_option linter.all false
set_option maxRecDepth 10000
theorem ti_bits : ti Try.prog 139 = some ⟨.array 128 4, 128, 128, .agg (List.replicate 128 (.bool false))⟩ := by kernel_rfl
attribute [go_sem] ti_bits

def p_rRead : List AV → AHeap → (AV → Prop) → Prop
  | [.agg [.int .u64 hi, .int .u64 lo]], _, K => isV hi lo ∧ K (.agg (bits (vOf hi.toNat lo.toNat)))
  | _, _, _ => False

theorem ok_rRead : EntOk Try.prog 92 (Ent.pure p_rRead) := by
  refine EntOk.pure fun args H K h => ?_
  unfold p_rRead at h
  split at h
  rotate_left
  · exact h.elim
  rename_i hi lo
  obtain ⟨⟨h0, h1, h2, h3⟩, hK⟩ := h
  refine ⟨_, hK, ?_⟩
  obtain ⟨x, rfl⟩ := u64_lift h0
  obtain ⟨y, rfl⟩ := u64_lift h2
  clear hK h0 h2
  rw [Int.toNat_natCast, Int.toNat_natCast]
  have hx : x < 2 ^ 64 := by omega
  have hy : y < 2 ^ 64 := by omega
  refine ACalls.of_aw (Ω := []) (T := assoc []) mixed TblOk.nil Try.func92 (by kernel_rfl) (by rfl) (rs := [.cell 2 139]) (by rfl) (by kernel_rfl) (by simp only [Try.ntmps92, List.length_cons, List.length_nil]; decide) (Nat.le_refl _) fun hcl hlt => ?_
  change aw _ _ _ (KI Try.prog [] (aEnd Try.prog [.cell 2 139] H.nx _ _) []) _ _
  clear hlt
  have hv := vOf_lt hx hy
  have blo : ∀ i, i < 64 → y.testBit i = (vOf x y).testBit i := fun i hi => by rw [vOf_bit hy, if_pos hi]
  have bhi : ∀ i, x.testBit i = (vOf x y).testBit (i + 64) := fun i => by rw [vOf_bit hy, if_neg (by omega), Nat.add_sub_cancel]
  generalize hvo : vOf x y = v at hv blo bhi ⊢
  simp only [go_sem, reduceCtorEq, Nat.reduceEqDiff, Nat.reduceAdd, Nat.reduceMul, Nat.reduceSub, Nat.reduceLeDiff, Nat.reduceLT, Int.reduceMul, Int.reduceAdd, Int.reduceSub, Int.reduceToNat, byq]
  refine loop_intro (A := Nat) (fun k => [(4, .int .i64 (k : Int)), (3, .ptr (H.nx + 1 + 1) 0), (1, .ptr H.nx 0), (2, .ptr (H.nx + 1) 0)])
    (fun k => ((H.push (.cells [.int .u64 (x : Int), .int .u64 (y : Int)])).push (.cells (List.replicate 128 (.bool false)))).push (.cells (bitsIf v fun j => decide (j % 64 < k)))) (fun k => k ≤ 64) (fun k => 64 - k) 0 (by omega) ?_ fun k hk => ?_
  · have e : bitsIf v (fun j => decide (j % 64 < 0)) = List.replicate 128 (.bool false) := bitsIf_none _ _ fun j _ => by simp
    simp only [bnq, enter, subF, ltF, ne_eq, Nat.reduceEqDiff, reduceCtorEq, e, true_or, and_true]
    all_goals rfl
  simp only [go_sem, reduceCtorEq, Nat.reduceEqDiff, Nat.reduceAdd, Nat.reduceMul, Nat.reduceSub, Nat.reduceLeDiff, Nat.reduceLT, Int.reduceMul, Int.reduceAdd, Int.reduceSub, Int.reduceToNat, byq]
  refine cond_split (fun hc => ?_) (fun hc => ?_)
  · have hk : k < 64 := by simp at hc; omega
    have e1 : IntKind.i64.wrap ((k : Int) + 64) = ((k + 64 : Nat) : Int) := by rw [wrap_i64] <;> omega
    have e2 : IntKind.u64.wrap (k : Int) = (k : Int) := by rw [wrap_u64] <;> omega
    have e3 : IntKind.i64.wrap ((k : Int) + 1) = ((k + 1 : Nat) : Int) := by rw [wrap_i64] <;> omega
    have s1 : y >>> k < 2 ^ 64 := shr_lt hy
    have s2 : x >>> k < 2 ^ 64 := shr_lt hx
    simp only [go_sem, reduceCtorEq, Nat.reduceEqDiff, Nat.reduceAdd, Nat.reduceMul, Nat.reduceSub, Nat.reduceLeDiff, Nat.reduceLT, Int.reduceMul, Int.reduceAdd, Int.reduceSub, Int.reduceToNat, byq, e1, e2, e3, ishr_u64 y k hy, ishr_u64 x k hx, iand_one _ s1, iand_one _ s2, bit_one, Int.toNat_natCast, Nat.zero_add, splice_one, bitsIf_len, blo k hk, bhi k, List.length_set]
    have hst : ((bitsIf v fun j => decide (j % 64 < k)).set k (.bool (v.testBit k))).set (k + 64) (.bool (v.testBit (k + 64))) = bitsIf v fun j => decide (j % 64 < k + 1) := by
      rw [bitsIf_set v _ (fun j => decide (j % 64 < k) || decide (j = k)) k (fun j hj => by simp [hj]) (by simp),
        bitsIf_set v _ (fun j => decide (j % 64 < k) || decide (j = k) || decide (j = k + 64)) (k + 64) (fun j hj => by simp [hj]) (by simp)]
      unfold bitsIf
      refine List.map_congr_left fun j hj => ?_
      have : j < 128 := List.mem_range.1 hj
      congr 2
      rw [Bool.eq_iff_iff]; simp; omega
    refine ⟨by omega, by omega, by omega, by omega, by omega, by omega, k + 1, by omega, by omega, ?_⟩
    simp only [bnq, enter, subF, ltF, ne_eq, Nat.reduceEqDiff, reduceCtorEq, hst, true_or, and_self]
  · have hk : k = 64 := by simp at hc; omega
    subst hk
    have e : bitsIf v (fun j => decide (j % 64 < 64)) = bits v := bitsIf_all _ _ fun j _ => by simp; omega
    have et : List.take 128 (bits v) = bits v := List.take_of_length_le (by rw [bits_len]; omega)
    have es : splice (List.replicate 128 (.bool false)) 0 (bits v) = bits v := replicate_splice (y := .junk) (bits_len v)
    simp only [go_sem, reduceCtorEq, Nat.reduceEqDiff, Nat.reduceAdd, Nat.reduceMul, Nat.reduceSub, Nat.reduceLeDiff, Nat.reduceLT, Int.reduceMul, Int.reduceAdd, Int.reduceSub, Int.reduceToNat, byq, e, et, es, bits_len, allOne_bits]
    refine ⟨by simp, ?_⟩
    simp (disch := first | assumption | omega | (simp; done) | (simp; omega) | (simp only [bt, and_true]; first | done | omega | (simp; done))) [↓zlu, beq, List.take_of_length_le, List.drop_append, List.take_append, endOk, wk, wk2, wk1, wkM, wkL, wkLL, List.drop_eq_nil_of_le, hcl, ltL_bits]

end Go.AL

