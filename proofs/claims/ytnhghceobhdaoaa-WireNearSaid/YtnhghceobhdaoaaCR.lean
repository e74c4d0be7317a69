/- Contracts and plain laws, a part of the proof; no condition of its own. -/
import Derived.Test.YtnhghceobhdaoaaCV
open Go Go.AL Go.Proofs
namespace Go.AL
set_option linter.all false
set_option maxRecDepth 10000
theorem ti_bits : ti Try.prog 142 = some ⟨.array 128 4, 128, 128, .agg (List.replicate 128 (.bool false))⟩ := by kernel_rfl

def p_rRead : List AV → AHeap → (AV → Prop) → Prop
  | [.agg [.int .u64 hi, .int .u64 lo]], _, K => isV hi lo ∧ K (.agg (bits (vOf hi.toNat lo.toNat)))
  | _, _, _ => False

theorem ok_rRead : EntOk Try.prog 120 (Ent.pure p_rRead) := by
  refine EntOk.pure fun args H K h => ?_
  unfold p_rRead at h
  split at h
  rotate_left
  · exact h.elim
  rename_i hi lo
  obtain ⟨⟨h0, h1, h2, h3⟩, hK⟩ := h
  refine ⟨_, hK, ?_⟩
  obtain ⟨x, rfl⟩ := u64_lift h0
  obtain ⟨y, rfl⟩ := u64_lift h2
  clear hK h0 h2
  rw [Int.toNat_natCast, Int.toNat_natCast]
  have hx : x < 2 ^ 64 := by omega
  have hy : y < 2 ^ 64 := by omega
  refine ACalls.of_aw (Ω := []) (T := assoc []) mixed TblOk.nil Try.func120 (by kernel_rfl) (by rfl) (rs := [.cell 2 142]) (by rfl) (by kernel_rfl) (by simp only [Try.ntmps120, List.length_cons, List.length_nil]; decide) (Nat.le_refl _) fun hcl hlt => ?_
  change aw _ _ _ (KI Try.prog [] (aEnd Try.prog [.cell 2 142] H.nx _ _) []) _ _
  clear hlt
  have hv := vOf_lt hx hy
  have blo : ∀ i, i < 64 → y.testBit i = (vOf x y).testBit i := fun i hi => by rw [vOf_bit hy, if_pos hi]
  have bhi : ∀ i, x.testBit i = (vOf x y).testBit (i + 64) := fun i => by rw [vOf_bit hy, if_neg (by omega), Nat.add_sub_cancel]
  generalize hvo : vOf x y = v at hv blo bhi ⊢
  simp only [↓bwp, bwq, List.tail_nil, List.tail_cons, List.headD_nil, List.headD_cons, ne_eq, reduceCtorEq, Nat.reduceEqDiff, Nat.reduceAdd, Nat.reduceMul, Nat.reduceSub, Nat.reduceLeDiff, Nat.reduceLT, Int.reduceMul, Int.reduceAdd, Int.reduceSub, List.map_cons, List.map_nil, Option.map_some, Option.map_none, Option.elim_some, if_true, if_false, List.append_nil, List.nil_append, bvq, rEq, List.cons_append, Int.reduceToNat, List.getElem?_cons_zero, List.getElem?_cons_succ, TD.agg, List.drop_succ_cons, List.drop_zero, List.take_succ_cons, List.take_zero, List.take_nil, List.drop_nil, List.getD_cons_zero, List.getD_cons_succ, splice, zhb, zhc, Option.isSome_some, Option.isSome_none, List.getElem?_nil, zhd, zhe, rLen, rBin, rInt, rStr, rUn, zhf, zhg, zhh, zhi, zhj, rBox, zhk, zhl, zhm, zhn, zho, zhp, zhq, zhr, zhs, zht, zhu, zhv, zhw, zhx, zhy, zhz, zia, zib, zic, bound, addL, addT, grow, room, List.length_cons, List.length_nil, List.length_map, frOf, byq, ti_bytes, ti_int, ti_uint, ti_u8, ti_bool, ti_string, ti_u64, ti_val, ti_a16, ti_bits, ↓blp, blq]
  refine loop_intro (A := Nat) (fun k => [(4, .int .i64 (k : Int)), (3, .ptr (H.nx + 1 + 1) 0), (1, .ptr H.nx 0), (2, .ptr (H.nx + 1) 0)])
    (fun k => ((H.push (.cells [.int .u64 (x : Int), .int .u64 (y : Int)])).push (.cells (List.replicate 128 (.bool false)))).push (.cells (bitsIf v fun j => decide (j % 64 < k)))) (fun k => k ≤ 64) (fun k => 64 - k) 0 (by omega) ?_ fun k hk => ?_
  · have e : bitsIf v (fun j => decide (j % 64 < 0)) = List.replicate 128 (.bool false) := bitsIf_none _ _ fun j _ => by simp
    simp only [bnq, enter, subF, ltF, ne_eq, Nat.reduceEqDiff, reduceCtorEq, e, true_or, and_true]
    all_goals rfl
  simp only [↓bwp, bwq, List.tail_nil, List.tail_cons, List.headD_nil, List.headD_cons, ne_eq, reduceCtorEq, Nat.reduceEqDiff, Nat.reduceAdd, Nat.reduceMul, Nat.reduceSub, Nat.reduceLeDiff, Nat.reduceLT, Int.reduceMul, Int.reduceAdd, Int.reduceSub, List.map_cons, List.map_nil, Option.map_some, Option.map_none, Option.elim_some, if_true, if_false, List.append_nil, List.nil_append, bvq, rEq, List.cons_append, Int.reduceToNat, List.getElem?_cons_zero, List.getElem?_cons_succ, TD.agg, List.drop_succ_cons, List.drop_zero, List.take_succ_cons, List.take_zero, List.take_nil, List.drop_nil, List.getD_cons_zero, List.getD_cons_succ, splice, zhb, zhc, Option.isSome_some, Option.isSome_none, List.getElem?_nil, zhd, zhe, rLen, rBin, rInt, rStr, rUn, zhf, zhg, zhh, zhi, zhj, rBox, zhk, zhl, zhm, zhn, zho, zhp, zhq, zhr, zhs, zht, zhu, zhv, zhw, zhx, zhy, zhz, zia, zib, zic, bound, addL, addT, grow, room, List.length_cons, List.length_nil, List.length_map, frOf, byq, ti_bytes, ti_int, ti_uint, ti_u8, ti_bool, ti_string, ti_u64, ti_val, ti_a16, ti_bits, ↓blp, blq]
  refine cond_split (fun hc => ?_) (fun hc => ?_)
  · have hk : k < 64 := by simp at hc; omega
    have e1 : IntKind.i64.wrap ((k : Int) + 64) = ((k + 64 : Nat) : Int) := by rw [wrap_i64] <;> omega
    have e2 : IntKind.u64.wrap (k : Int) = (k : Int) := by rw [wrap_u64] <;> omega
    have e3 : IntKind.i64.wrap ((k : Int) + 1) = ((k + 1 : Nat) : Int) := by rw [wrap_i64] <;> omega
    have s1 : y >>> k < 2 ^ 64 := shr_lt hy
    have s2 : x >>> k < 2 ^ 64 := shr_lt hx
    simp only [↓bwp, bwq, List.tail_nil, List.tail_cons, List.headD_nil, List.headD_cons, ne_eq, reduceCtorEq, Nat.reduceEqDiff, Nat.reduceAdd, Nat.reduceMul, Nat.reduceSub, Nat.reduceLeDiff, Nat.reduceLT, Int.reduceMul, Int.reduceAdd, Int.reduceSub, List.map_cons, List.map_nil, Option.map_some, Option.map_none, Option.elim_some, if_true, if_false, List.append_nil, List.nil_append, bvq, rEq, List.cons_append, Int.reduceToNat, List.getElem?_cons_zero, List.getElem?_cons_succ, TD.agg, List.drop_succ_cons, List.drop_zero, List.take_succ_cons, List.take_zero, List.take_nil, List.drop_nil, List.getD_cons_zero, List.getD_cons_succ, splice, zhb, zhc, Option.isSome_some, Option.isSome_none, List.getElem?_nil, zhd, zhe, rLen, rBin, rInt, rStr, rUn, zhf, zhg, zhh, zhi, zhj, rBox, zhk, zhl, zhm, zhn, zho, zhp, zhq, zhr, zhs, zht, zhu, zhv, zhw, zhx, zhy, zhz, zia, zib, zic, bound, addL, addT, grow, room, List.length_cons, List.length_nil, List.length_map, frOf, byq, ti_bytes, ti_int, ti_uint, ti_u8, ti_bool, ti_string, ti_u64, ti_val, ti_a16, ti_bits, ↓blp, blq, e1, e2, e3, ishr_u64 y k hy, ishr_u64 x k hx, iand_one _ s1, iand_one _ s2, bit_one, Int.toNat_natCast, Nat.zero_add, splice_one, bitsIf_len, blo k hk, bhi k, List.length_set]
    have hst : ((bitsIf v fun j => decide (j % 64 < k)).set k (.bool (v.testBit k))).set (k + 64) (.bool (v.testBit (k + 64))) = bitsIf v fun j => decide (j % 64 < k + 1) := by
      rw [bitsIf_set v _ (fun j => decide (j % 64 < k) || decide (j = k)) k (fun j hj => by simp [hj]) (by simp),
        bitsIf_set v _ (fun j => decide (j % 64 < k) || decide (j = k) || decide (j = k + 64)) (k + 64) (fun j hj => by simp [hj]) (by simp)]
      unfold bitsIf
      refine List.map_congr_left fun j hj => ?_
      have : j < 128 := List.mem_range.1 hj
      congr 2
      rw [Bool.eq_iff_iff]; simp; omega
    refine ⟨by omega, by omega, by omega, by omega, by omega, by omega, k + 1, by omega, by omega, ?_⟩
    simp only [bnq, enter, subF, ltF, ne_eq, Nat.reduceEqDiff, reduceCtorEq, hst, true_or, and_self]
  · have hk : k = 64 := by simp at hc; omega
    subst hk
    have e : bitsIf v (fun j => decide (j % 64 < 64)) = bits v := bitsIf_all _ _ fun j _ => by simp; omega
    have et : List.take 128 (bits v) = bits v := List.take_of_length_le (by rw [bits_len]; omega)
    have es : splice (List.replicate 128 (.bool false)) 0 (bits v) = bits v := replicate_splice (y := .junk) (bits_len v)
    simp only [↓bwp, bwq, List.tail_nil, List.tail_cons, List.headD_nil, List.headD_cons, ne_eq, reduceCtorEq, Nat.reduceEqDiff, Nat.reduceAdd, Nat.reduceMul, Nat.reduceSub, Nat.reduceLeDiff, Nat.reduceLT, Int.reduceMul, Int.reduceAdd, Int.reduceSub, List.map_cons, List.map_nil, Option.map_some, Option.map_none, Option.elim_some, if_true, if_false, List.append_nil, List.nil_append, bvq, rEq, List.cons_append, Int.reduceToNat, List.getElem?_cons_zero, List.getElem?_cons_succ, TD.agg, List.drop_succ_cons, List.drop_zero, List.take_succ_cons, List.take_zero, List.take_nil, List.drop_nil, List.getD_cons_zero, List.getD_cons_succ, splice, zhb, zhc, Option.isSome_some, Option.isSome_none, List.getElem?_nil, zhd, zhe, rLen, rBin, rInt, rStr, rUn, zhf, zhg, zhh, zhi, zhj, rBox, zhk, zhl, zhm, zhn, zho, zhp, zhq, zhr, zhs, zht, zhu, zhv, zhw, zhx, zhy, zhz, zia, zib, zic, bound, addL, addT, grow, room, List.length_cons, List.length_nil, List.length_map, frOf, byq, ti_bytes, ti_int, ti_uint, ti_u8, ti_bool, ti_string, ti_u64, ti_val, ti_a16, ti_bits, ↓blp, blq, e, et, es, bits_len, allOne_bits]
    refine ⟨by simp, ?_⟩
    simp (disch := first | assumption | omega | (simp; done) | (simp; omega) | (simp only [bt, and_true]; first | done | omega | (simp; done))) [↓zkt, beq, List.take_of_length_le, List.drop_append, List.take_append, endOk, wk, wk2, wk1, wkM, wkL, wkLL, List.drop_eq_nil_of_le, hcl, ltL_bits]

def p_rLen : List AV → AHeap → (AV → Prop) → Prop
  | [.agg [.int .u64 hi, .int .u64 lo]], _, K => isV hi lo ∧ K (.int .i64 (bl (vOf hi.toNat lo.toNat) : Nat))
  | _, _, _ => False

theorem ok_rLen : EntOk Try.prog 121 (Ent.pure p_rLen) := by
  refine EntOk.pure fun args H K h => ?_
  unfold p_rLen at h
  split at h
  rotate_left
  · exact h.elim
  rename_i hi lo
  obtain ⟨⟨h0, h1, h2, h3⟩, hK⟩ := h
  refine ⟨_, hK, ?_⟩
  obtain ⟨x, rfl⟩ := u64_lift h0
  obtain ⟨y, rfl⟩ := u64_lift h2
  clear hK h0 h2
  rw [Int.toNat_natCast, Int.toNat_natCast]
  have hx : x < 2 ^ 64 := by omega
  have hy : y < 2 ^ 64 := by omega
  refine ACalls.of_aw (Ω := [(120, Ent.pure p_rRead)]) (T := assoc []) mixed (TblOk.cons ok_rRead TblOk.nil) Try.func121 (by kernel_rfl) (by rfl) (rs := [.tmp 2]) (by rfl) (by kernel_rfl) (by simp only [Try.ntmps121, List.length_cons, List.length_nil]; decide) (Nat.le_refl _) fun hcl hlt => ?_
  change aw _ _ _ (KI Try.prog [(120, Ent.pure p_rRead)] (aEnd Try.prog [.tmp 2] H.nx _ _) []) _ _
  clear hlt
  have hv := vOf_lt hx hy
  generalize hvo : vOf x y = v at hv ⊢
  simp only [↓bwp, bwq, List.tail_nil, List.tail_cons, List.headD_nil, List.headD_cons, ne_eq, reduceCtorEq, Nat.reduceEqDiff, Nat.reduceAdd, Nat.reduceMul, Nat.reduceSub, Nat.reduceLeDiff, Nat.reduceLT, Int.reduceMul, Int.reduceAdd, Int.reduceSub, List.map_cons, List.map_nil, Option.map_some, Option.map_none, Option.elim_some, if_true, if_false, List.append_nil, List.nil_append, bvq, rEq, List.cons_append, Int.reduceToNat, List.getElem?_cons_zero, List.getElem?_cons_succ, TD.agg, List.drop_succ_cons, List.drop_zero, List.take_succ_cons, List.take_zero, List.take_nil, List.drop_nil, List.getD_cons_zero, List.getD_cons_succ, splice, zhb, zhc, Option.isSome_some, Option.isSome_none, List.getElem?_nil, zhd, zhe, rLen, rBin, rInt, rStr, rUn, zhf, zhg, zhh, zhi, zhj, rBox, zhk, zhl, zhm, zhn, zho, zhp, zhq, zhr, zhs, zht, zhu, zhv, zhw, zhx, zhy, zhz, zia, zib, zic, bound, addL, addT, grow, room, List.length_cons, List.length_nil, List.length_map, frOf, byq, ti_bytes, ti_int, ti_uint, ti_u8, ti_bool, ti_string, ti_u64, ti_val, ti_a16, ti_bits, ↓blp, blq]
  refine loop_intro (A := Nat) (fun k => [(3, .int .i64 ((k : Int) - 1)), (1, .ptr H.nx 0)])
    (fun k => (H.push (.cells [.int .u64 (x : Int), .int .u64 (y : Int)]))) (fun k => k ≤ 128 ∧ ∀ j, k ≤ j → v.testBit j = false) (fun k => k) 128 ⟨by omega, fun j hj => Nat.testBit_lt_two_pow (Nat.lt_of_lt_of_le hv (Nat.pow_le_pow_right (by decide) hj))⟩ ?_ fun k hk => ?_
  · simp only [bnq, enter, subF, ltF, ne_eq, Nat.reduceEqDiff, reduceCtorEq, true_or, and_true]
    all_goals rfl
  obtain ⟨hk, hz⟩ := hk
  simp only [↓bwp, bwq, List.tail_nil, List.tail_cons, List.headD_nil, List.headD_cons, ne_eq, reduceCtorEq, Nat.reduceEqDiff, Nat.reduceAdd, Nat.reduceMul, Nat.reduceSub, Nat.reduceLeDiff, Nat.reduceLT, Int.reduceMul, Int.reduceAdd, Int.reduceSub, List.map_cons, List.map_nil, Option.map_some, Option.map_none, Option.elim_some, if_true, if_false, List.append_nil, List.nil_append, bvq, rEq, List.cons_append, Int.reduceToNat, List.getElem?_cons_zero, List.getElem?_cons_succ, TD.agg, List.drop_succ_cons, List.drop_zero, List.take_succ_cons, List.take_zero, List.take_nil, List.drop_nil, List.getD_cons_zero, List.getD_cons_succ, splice, zhb, zhc, Option.isSome_some, Option.isSome_none, List.getElem?_nil, zhd, zhe, rLen, rBin, rInt, rStr, rUn, zhf, zhg, zhh, zhi, zhj, rBox, zhk, zhl, zhm, zhn, zho, zhp, zhq, zhr, zhs, zht, zhu, zhv, zhw, zhx, zhy, zhz, zia, zib, zic, bound, addL, addT, grow, room, List.length_cons, List.length_nil, List.length_map, frOf, byq, ti_bytes, ti_int, ti_uint, ti_u8, ti_bool, ti_string, ti_u64, ti_val, ti_a16, ti_bits, ↓blp, blq]
  refine cond_split (fun hc => ?_) (fun hc => ?_)
  · have hk0 : 1 ≤ k := by simp at hc; omega
    obtain ⟨j, rfl⟩ : ∃ j, k = j + 1 := ⟨k - 1, by omega⟩
    have e0 : ((j + 1 : Nat) : Int) - 1 = (j : Int) := by omega
    have e1 : IntKind.i64.wrap ((j : Int) - 1) = (j : Int) - 1 := by rw [wrap_i64] <;> omega
    have e2 : IntKind.i64.wrap ((j : Int) + 1) = ((j + 1 : Nat) : Int) := by rw [wrap_i64] <;> omega
    simp only [↓bwp, bwq, List.tail_nil, List.tail_cons, List.headD_nil, List.headD_cons, ne_eq, reduceCtorEq, Nat.reduceEqDiff, Nat.reduceAdd, Nat.reduceMul, Nat.reduceSub, Nat.reduceLeDiff, Nat.reduceLT, Int.reduceMul, Int.reduceAdd, Int.reduceSub, List.map_cons, List.map_nil, Option.map_some, Option.map_none, Option.elim_some, if_true, if_false, List.append_nil, List.nil_append, bvq, rEq, List.cons_append, Int.reduceToNat, List.getElem?_cons_zero, List.getElem?_cons_succ, TD.agg, List.drop_succ_cons, List.drop_zero, List.take_succ_cons, List.take_zero, List.take_nil, List.drop_nil, List.getD_cons_zero, List.getD_cons_succ, splice, zhb, zhc, Option.isSome_some, Option.isSome_none, List.getElem?_nil, zhd, zhe, rLen, rBin, rInt, rStr, rUn, zhf, zhg, zhh, zhi, zhj, rBox, zhk, zhl, zhm, zhn, zho, zhp, zhq, zhr, zhs, zht, zhu, zhv, zhw, zhx, zhy, zhz, zia, zib, zic, bound, addL, addT, grow, room, List.length_cons, List.length_nil, List.length_map, frOf, byq, ti_bytes, ti_int, ti_uint, ti_u8, ti_bool, ti_string, ti_u64, ti_val, ti_a16, ti_bits, ↓blp, blq, p_rRead, isV, Int.toNat_natCast, hvo, bits_len, e0, Nat.mul_one, bits_get v j (by omega)]
    refine ⟨by omega, by omega, cond_split (fun hb => ?_) (fun hb => ?_)⟩
    · simp only [↓bwp, bwq, zav, List.tail_nil, List.tail_cons, List.headD_nil, List.headD_cons, ne_eq, reduceCtorEq, Nat.reduceEqDiff, Nat.reduceAdd, Nat.reduceMul, Nat.reduceSub, Nat.reduceLeDiff, Nat.reduceLT, Int.reduceMul, Int.reduceAdd, Int.reduceSub, List.map_cons, List.map_nil, Option.map_some, Option.map_none, Option.elim_some, if_true, if_false, List.append_nil, List.nil_append, bvq, rEq, List.cons_append, Int.reduceToNat, List.getElem?_cons_zero, List.getElem?_cons_succ, TD.agg, List.drop_succ_cons, List.drop_zero, List.take_succ_cons, List.take_zero, List.take_nil, List.drop_nil, List.getD_cons_zero, List.getD_cons_succ, splice, zhb, zhc, Option.isSome_some, Option.isSome_none, List.getElem?_nil, zhd, zhe, rLen, rBin, rInt, rStr, rUn, zhf, zhg, zhh, zhi, zhj, rBox, zhk, zhl, zhm, zhn, zho, zhp, zhq, zhr, zhs, zht, zhu, zhv, zhw, zhx, zhy, zhz, zia, zib, zic, bound, addL, addT, grow, room, List.length_cons, List.length_nil, List.length_map, frOf, byq, ti_bytes, ti_int, ti_uint, ti_u8, ti_bool, ti_string, ti_u64, ti_val, ti_a16, ti_bits, ↓blp, blq, e2]
      rw [bl_top hb fun i hi => hz i (by omega)]
      simp (disch := first | assumption | omega | (simp; done) | (simp; omega) | (simp only [bt, and_true]; first | done | omega | (simp; done))) [↓zkt, beq, List.take_of_length_le, List.drop_append, List.take_append, endOk, wk, wk2, wk1, wkM, wkL, wkLL, List.drop_eq_nil_of_le, hcl]
    · simp only [↓bwp, bwq, List.tail_nil, List.tail_cons, List.headD_nil, List.headD_cons, ne_eq, reduceCtorEq, Nat.reduceEqDiff, Nat.reduceAdd, Nat.reduceMul, Nat.reduceSub, Nat.reduceLeDiff, Nat.reduceLT, Int.reduceMul, Int.reduceAdd, Int.reduceSub, List.map_cons, List.map_nil, Option.map_some, Option.map_none, Option.elim_some, if_true, if_false, List.append_nil, List.nil_append, bvq, rEq, List.cons_append, Int.reduceToNat, List.getElem?_cons_zero, List.getElem?_cons_succ, TD.agg, List.drop_succ_cons, List.drop_zero, List.take_succ_cons, List.take_zero, List.take_nil, List.drop_nil, List.getD_cons_zero, List.getD_cons_succ, splice, zhb, zhc, Option.isSome_some, Option.isSome_none, List.getElem?_nil, zhd, zhe, rLen, rBin, rInt, rStr, rUn, zhf, zhg, zhh, zhi, zhj, rBox, zhk, zhl, zhm, zhn, zho, zhp, zhq, zhr, zhs, zht, zhu, zhv, zhw, zhx, zhy, zhz, zia, zib, zic, bound, addL, addT, grow, room, List.length_cons, List.length_nil, List.length_map, frOf, byq, ti_bytes, ti_int, ti_uint, ti_u8, ti_bool, ti_string, ti_u64, ti_val, ti_a16, ti_bits, ↓blp, blq, e1]
      refine ⟨j, ⟨by omega, fun i hi => ?_⟩, by omega, ?_⟩
      · by_cases h : i = j
        · subst h; exact hb
        · exact hz i (by omega)
      · simp only [bnq, enter, subF, ltF, ne_eq, Nat.reduceEqDiff, reduceCtorEq, true_or, and_self]
  · have hk0 : k = 0 := by simp at hc; omega
    subst hk0
    have : v = 0 := bl_zero_of fun j => hz j (by omega)
    subst this
    simp only [↓bwp, bwq, List.tail_nil, List.tail_cons, List.headD_nil, List.headD_cons, ne_eq, reduceCtorEq, Nat.reduceEqDiff, Nat.reduceAdd, Nat.reduceMul, Nat.reduceSub, Nat.reduceLeDiff, Nat.reduceLT, Int.reduceMul, Int.reduceAdd, Int.reduceSub, List.map_cons, List.map_nil, Option.map_some, Option.map_none, Option.elim_some, if_true, if_false, List.append_nil, List.nil_append, bvq, rEq, List.cons_append, Int.reduceToNat, List.getElem?_cons_zero, List.getElem?_cons_succ, TD.agg, List.drop_succ_cons, List.drop_zero, List.take_succ_cons, List.take_zero, List.take_nil, List.drop_nil, List.getD_cons_zero, List.getD_cons_succ, splice, zhb, zhc, Option.isSome_some, Option.isSome_none, List.getElem?_nil, zhd, zhe, rLen, rBin, rInt, rStr, rUn, zhf, zhg, zhh, zhi, zhj, rBox, zhk, zhl, zhm, zhn, zho, zhp, zhq, zhr, zhs, zht, zhu, zhv, zhw, zhx, zhy, zhz, zia, zib, zic, bound, addL, addT, grow, room, List.length_cons, List.length_nil, List.length_map, frOf, byq, ti_bytes, ti_int, ti_uint, ti_u8, ti_bool, ti_string, ti_u64, ti_val, ti_a16, ti_bits, ↓blp, blq]
    simp (disch := first | assumption | omega | (simp; done) | (simp; omega) | (simp only [bt, and_true]; first | done | omega | (simp; done))) [↓zkt, beq, List.take_of_length_le, List.drop_append, List.take_append, endOk, wk, wk2, wk1, wkM, wkL, wkLL, List.drop_eq_nil_of_le, hcl, bl]

def p_rVBytes : List AV → AHeap → (AV → Prop) → Prop
  | [.agg [.int .u64 hi, .int .u64 lo]], _, K => isV hi lo ∧ K (.slice .any 1 (bys (vBytes (vOf hi.toNat lo.toNat))))
  | _, _, _ => False

theorem ok_rVBytes : EntOk Try.prog 96 (Ent.pure p_rVBytes) := by
  refine EntOk.pure fun args H K h => ?_
  unfold p_rVBytes at h
  split at h
  rotate_left
  · exact h.elim
  rename_i hi lo
  obtain ⟨⟨h0, h1, h2, h3⟩, hK⟩ := h
  refine ⟨_, hK, ?_⟩
  obtain ⟨x, rfl⟩ := u64_lift h0
  obtain ⟨y, rfl⟩ := u64_lift h2
  clear hK h0 h2
  rw [Int.toNat_natCast, Int.toNat_natCast]
  have hx : x < 2 ^ 64 := by omega
  have hy : y < 2 ^ 64 := by omega
  refine ACalls.of_aw (Ω := [(120, Ent.pure p_rRead), (121, Ent.pure p_rLen)]) (T := assoc []) mixed (TblOk.cons ok_rRead (TblOk.cons ok_rLen TblOk.nil)) Try.func96 (by kernel_rfl) (by rfl) (rs := [.tmp 2]) (by rfl) (by kernel_rfl) (by simp only [Try.ntmps96, List.length_cons, List.length_nil]; decide) (Nat.le_refl _) fun hcl hlt => ?_
  change aw _ _ _ (KI Try.prog [(120, Ent.pure p_rRead), (121, Ent.pure p_rLen)] (aEnd Try.prog [.tmp 2] H.nx _ _) []) _ _
  clear hlt
  have hv := vOf_lt hx hy
  generalize hvo : vOf x y = v at hv ⊢
  have b1 : bl v ≤ 128 := bl_le.2 hv
  have w1 : IntKind.i64.wrap (((bl v : Nat) : Int) + 7) = ((bl v + 7 : Nat) : Int) := by rw [wrap_i64] <;> omega
  have w2 : IntKind.i64.wrap (((bl v + 7 : Nat) : Int).tdiv 8) = (((bl v + 7) / 8 : Nat) : Int) := by
    rw [Int.tdiv_eq_ediv_of_nonneg (by omega), wrap_i64] <;> omega
  have w3 : max (1 : Int) (((bl v + 7) / 8 : Nat) : Int) = (vLen v : Nat) := by unfold vLen; omega
  have hle := vLen_le hv
  have hlen := bl_le.1 (show bl v ≤ 8 * vLen v by unfold vLen; omega)
  have hvb : vBytes v = beN v (vLen v) := rfl
  rw [hvb]
  generalize hn : vLen v = n at *
  have es : splice (List.replicate 128 (.bool false)) 0 (bits v) = bits v := replicate_splice (y := .junk) (bits_len v)
  simp only [↓bwp, bwq, List.tail_nil, List.tail_cons, List.headD_nil, List.headD_cons, ne_eq, reduceCtorEq, Nat.reduceEqDiff, Nat.reduceAdd, Nat.reduceMul, Nat.reduceSub, Nat.reduceLeDiff, Nat.reduceLT, Int.reduceMul, Int.reduceAdd, Int.reduceSub, List.map_cons, List.map_nil, Option.map_some, Option.map_none, Option.elim_some, if_true, if_false, List.append_nil, List.nil_append, bvq, rEq, List.cons_append, Int.reduceToNat, List.getElem?_cons_zero, List.getElem?_cons_succ, TD.agg, List.drop_succ_cons, List.drop_zero, List.take_succ_cons, List.take_zero, List.take_nil, List.drop_nil, List.getD_cons_zero, List.getD_cons_succ, splice, zhb, zhc, Option.isSome_some, Option.isSome_none, List.getElem?_nil, zhd, zhe, rLen, rBin, rInt, rStr, rUn, zhf, zhg, zhh, zhi, zhj, rBox, zhk, zhl, zhm, zhn, zho, zhp, zhq, zhr, zhs, zht, zhu, zhv, zhw, zhx, zhy, zhz, zia, zib, zic, bound, addL, addT, grow, room, List.length_cons, List.length_nil, List.length_map, frOf, byq, ti_bytes, ti_int, ti_uint, ti_u8, ti_bool, ti_string, ti_u64, ti_val, ti_a16, ti_bits, ↓blp, blq, p_rRead, p_rLen, isV, Int.toNat_natCast, hvo, w1, w2, w3, es, bits_len, allOne_bits, List.length_replicate]
  refine ⟨by omega, by omega, by decide, by omega, ?_⟩
  refine loop_intro (A := Nat) (fun k => [(6, .int .i64 (k : Int)), (5, .ms (H.nx + 1 + 1 + 1) 0 1 n), (4, .int .i64 (n : Int)), (3, .ptr (H.nx + 1 + 1) 0)])
    (fun k => (((H.push (.cells [.int .u64 (x : Int), .int .u64 (y : Int)])).push (.buf 1 0)).push (.cells (bits v))).push (.cells (bys (partB v n k)))) (fun k => k ≤ 8 * n) (fun k => 8 * n - k) 0 (by omega) ?_ fun k hk => ?_
  · simp only [bnq, enter, subF, ltF, ne_eq, Nat.reduceEqDiff, reduceCtorEq, partB_zero, true_or, and_true]
    all_goals rfl
  have w4 : IntKind.i64.wrap (8 * (n : Int)) = ((8 * n : Nat) : Int) := by rw [wrap_i64] <;> omega
  simp only [↓bwp, bwq, List.tail_nil, List.tail_cons, List.headD_nil, List.headD_cons, ne_eq, reduceCtorEq, Nat.reduceEqDiff, Nat.reduceAdd, Nat.reduceMul, Nat.reduceSub, Nat.reduceLeDiff, Nat.reduceLT, Int.reduceMul, Int.reduceAdd, Int.reduceSub, List.map_cons, List.map_nil, Option.map_some, Option.map_none, Option.elim_some, if_true, if_false, List.append_nil, List.nil_append, bvq, rEq, List.cons_append, Int.reduceToNat, List.getElem?_cons_zero, List.getElem?_cons_succ, TD.agg, List.drop_succ_cons, List.drop_zero, List.take_succ_cons, List.take_zero, List.take_nil, List.drop_nil, List.getD_cons_zero, List.getD_cons_succ, splice, zhb, zhc, Option.isSome_some, Option.isSome_none, List.getElem?_nil, zhd, zhe, rLen, rBin, rInt, rStr, rUn, zhf, zhg, zhh, zhi, zhj, rBox, zhk, zhl, zhm, zhn, zho, zhp, zhq, zhr, zhs, zht, zhu, zhv, zhw, zhx, zhy, zhz, zia, zib, zic, bound, addL, addT, grow, room, List.length_cons, List.length_nil, List.length_map, frOf, byq, ti_bytes, ti_int, ti_uint, ti_u8, ti_bool, ti_string, ti_u64, ti_val, ti_a16, ti_bits, ↓blp, blq, w4]
  refine cond_split (fun hc => ?_) (fun hc => ?_)
  · have hk : k < 8 * n := by simp at hc; omega
    have e1 : IntKind.i64.wrap ((k : Int) + 1) = ((k + 1 : Nat) : Int) := by rw [wrap_i64] <;> omega
    have e2 : IntKind.i64.wrap ((n : Int) - 1) = ((n - 1 : Nat) : Int) := by rw [wrap_i64] <;> omega
    have e3 : IntKind.i64.wrap ((k : Int).tdiv 8) = ((k / 8 : Nat) : Int) := by
      rw [Int.tdiv_eq_ediv_of_nonneg (by omega), wrap_i64] <;> omega
    have e4 : IntKind.i64.wrap (((n - 1 : Nat) : Int) - ((k / 8 : Nat) : Int)) = ((n - 1 - k / 8 : Nat) : Int) := by rw [wrap_i64] <;> omega
    have e5 : (k : Int).tmod 8 = ((k % 8 : Nat) : Int) := by rw [Int.tmod_eq_emod_of_nonneg (by omega)]; omega
    have e6 : IntKind.u64.wrap ((k % 8 : Nat) : Int) = ((k % 8 : Nat) : Int) := by rw [wrap_u64] <;> omega
    have e7 : ishl .u8 1 ((k % 8 : Nat) : Int) = ((1 <<< (k % 8) % 256 : Nat) : Int) := ishl_u8 1 _ (by omega)
    have hkb : k < 128 := by omega
    simp only [↓bwp, bwq, List.tail_nil, List.tail_cons, List.headD_nil, List.headD_cons, ne_eq, reduceCtorEq, Nat.reduceEqDiff, Nat.reduceAdd, Nat.reduceMul, Nat.reduceSub, Nat.reduceLeDiff, Nat.reduceLT, Int.reduceMul, Int.reduceAdd, Int.reduceSub, List.map_cons, List.map_nil, Option.map_some, Option.map_none, Option.elim_some, if_true, if_false, List.append_nil, List.nil_append, bvq, rEq, List.cons_append, Int.reduceToNat, List.getElem?_cons_zero, List.getElem?_cons_succ, TD.agg, List.drop_succ_cons, List.drop_zero, List.take_succ_cons, List.take_zero, List.take_nil, List.drop_nil, List.getD_cons_zero, List.getD_cons_succ, splice, zhb, zhc, Option.isSome_some, Option.isSome_none, List.getElem?_nil, zhd, zhe, rLen, rBin, rInt, rStr, rUn, zhf, zhg, zhh, zhi, zhj, rBox, zhk, zhl, zhm, zhn, zho, zhp, zhq, zhr, zhs, zht, zhu, zhv, zhw, zhx, zhy, zhz, zia, zib, zic, bound, addL, addT, grow, room, List.length_cons, List.length_nil, List.length_map, frOf, byq, ti_bytes, ti_int, ti_uint, ti_u8, ti_bool, ti_string, ti_u64, ti_val, ti_a16, ti_bits, ↓blp, blq, e1, Int.toNat_natCast, bits_len, Nat.mul_one, Nat.zero_add, bits_get v k hkb]
    refine ⟨by omega, by omega, cond_split (fun hb => ?_) (fun hb => ?_)⟩
    · have g1 : (bys (partB v n k)).getD (n - 1 - k / 8) .junk = ofByte ((partB v n k).getD (n - 1 - k / 8) 0) := bys_get (by rw [partB_len]; omega)
      have g2 : ior .u8 ((((partB v n k).getD (n - 1 - k / 8) 0).toNat : Nat) : Int) ((1 <<< (k % 8) % 256 : Nat) : Int) = _ := ior_u8 _ _ (UInt8.toNat_lt _) (by omega)
      have g3 : ((partB v n k).getD (n - 1 - k / 8) 0).toNat ||| 1 <<< (k % 8) % 256 < 256 := Nat.or_lt_two_pow (n := 8) (UInt8.toNat_lt _) (by omega)
      simp only [↓bwp, bwq, List.tail_nil, List.tail_cons, List.headD_nil, List.headD_cons, ne_eq, reduceCtorEq, Nat.reduceEqDiff, Nat.reduceAdd, Nat.reduceMul, Nat.reduceSub, Nat.reduceLeDiff, Nat.reduceLT, Int.reduceMul, Int.reduceAdd, Int.reduceSub, List.map_cons, List.map_nil, Option.map_some, Option.map_none, Option.elim_some, if_true, if_false, List.append_nil, List.nil_append, bvq, rEq, List.cons_append, Int.reduceToNat, List.getElem?_cons_zero, List.getElem?_cons_succ, TD.agg, List.drop_succ_cons, List.drop_zero, List.take_succ_cons, List.take_zero, List.take_nil, List.drop_nil, List.getD_cons_zero, List.getD_cons_succ, splice, zhb, zhc, Option.isSome_some, Option.isSome_none, List.getElem?_nil, zhd, zhe, rLen, rBin, rInt, rStr, rUn, zhf, zhg, zhh, zhi, zhj, rBox, zhk, zhl, zhm, zhn, zho, zhp, zhq, zhr, zhs, zht, zhu, zhv, zhw, zhx, zhy, zhz, zia, zib, zic, bound, addL, addT, grow, room, List.length_cons, List.length_nil, List.length_map, frOf, byq, ti_bytes, ti_int, ti_uint, ti_u8, ti_bool, ti_string, ti_u64, ti_val, ti_a16, ti_bits, ↓blp, blq, e1, e2, e3, e4, e5, e6, e7, Int.toNat_natCast, Nat.mul_one, Nat.zero_add, partB_len, g1, ofByte, g2]
      simp only [u8_ofByte g3, bys_splice1, partB_set v n k hb hk]
      refine ⟨by decide, by omega, by omega, by decide, by omega, by omega, by omega, k + 1, by omega, by omega, ?_⟩
      simp only [bnq, enter, subF, ltF, ne_eq, Nat.reduceEqDiff, reduceCtorEq, true_or, and_self]
    · simp only [↓bwp, bwq, List.tail_nil, List.tail_cons, List.headD_nil, List.headD_cons, ne_eq, reduceCtorEq, Nat.reduceEqDiff, Nat.reduceAdd, Nat.reduceMul, Nat.reduceSub, Nat.reduceLeDiff, Nat.reduceLT, Int.reduceMul, Int.reduceAdd, Int.reduceSub, List.map_cons, List.map_nil, Option.map_some, Option.map_none, Option.elim_some, if_true, if_false, List.append_nil, List.nil_append, bvq, rEq, List.cons_append, Int.reduceToNat, List.getElem?_cons_zero, List.getElem?_cons_succ, TD.agg, List.drop_succ_cons, List.drop_zero, List.take_succ_cons, List.take_zero, List.take_nil, List.drop_nil, List.getD_cons_zero, List.getD_cons_succ, splice, zhb, zhc, Option.isSome_some, Option.isSome_none, List.getElem?_nil, zhd, zhe, rLen, rBin, rInt, rStr, rUn, zhf, zhg, zhh, zhi, zhj, rBox, zhk, zhl, zhm, zhn, zho, zhp, zhq, zhr, zhs, zht, zhu, zhv, zhw, zhx, zhy, zhz, zia, zib, zic, bound, addL, addT, grow, room, List.length_cons, List.length_nil, List.length_map, frOf, byq, ti_bytes, ti_int, ti_uint, ti_u8, ti_bool, ti_string, ti_u64, ti_val, ti_a16, ti_bits, ↓blp, blq, e1]
      refine ⟨k + 1, by omega, by omega, ?_⟩
      simp only [bnq, enter, subF, ltF, ne_eq, Nat.reduceEqDiff, reduceCtorEq, partB_skip v n k hb, true_or, and_self]
  · have hk : k = 8 * n := by simp at hc; omega
    subst hk
    simp only [↓bwp, bwq, List.tail_nil, List.tail_cons, List.headD_nil, List.headD_cons, ne_eq, reduceCtorEq, Nat.reduceEqDiff, Nat.reduceAdd, Nat.reduceMul, Nat.reduceSub, Nat.reduceLeDiff, Nat.reduceLT, Int.reduceMul, Int.reduceAdd, Int.reduceSub, List.map_cons, List.map_nil, Option.map_some, Option.map_none, Option.elim_some, if_true, if_false, List.append_nil, List.nil_append, bvq, rEq, List.cons_append, Int.reduceToNat, List.getElem?_cons_zero, List.getElem?_cons_succ, TD.agg, List.drop_succ_cons, List.drop_zero, List.take_succ_cons, List.take_zero, List.take_nil, List.drop_nil, List.getD_cons_zero, List.getD_cons_succ, splice, zhb, zhc, Option.isSome_some, Option.isSome_none, List.getElem?_nil, zhd, zhe, rLen, rBin, rInt, rStr, rUn, zhf, zhg, zhh, zhi, zhj, rBox, zhk, zhl, zhm, zhn, zho, zhp, zhq, zhr, zhs, zht, zhu, zhv, zhw, zhx, zhy, zhz, zia, zib, zic, bound, addL, addT, grow, room, List.length_cons, List.length_nil, List.length_map, frOf, byq, ti_bytes, ti_int, ti_uint, ti_u8, ti_bool, ti_string, ti_u64, ti_val, ti_a16, ti_bits, ↓blp, blq, partB_all v n hlen]
    have hl : (beN v n).length = n := beN_len v n
    simp (disch := first | assumption | omega | (simp; done) | (simp; omega) | (simp only [bt, and_true]; first | done | omega | (simp; done))) [↓zkt, beq, List.take_of_length_le, List.drop_append, List.take_append, endOk, wk, wk2, wk1, wkM, wkL, wkLL, List.drop_eq_nil_of_le, hcl, hl]
end Go.AL
