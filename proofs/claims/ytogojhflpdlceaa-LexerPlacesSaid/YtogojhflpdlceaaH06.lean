/- Contracts and plain laws, a part of the proof; no condition of its own. -/
import Derived.Test.YtogojhflpdlceaaG06
import Derived.Test.YtogojhflpdlceaaLLex2
open Go Go.AL Go.Proofs
namespace Go.AL
set_option linter.all false
set_option maxRecDepth 10000
theorem scan_err {s : List UInt8} (h : (scanned s).2.2 ≠ 0) : (scanned s).1 = [] := by
  unfold scanned at h ⊢
  split
  · rfl
  · rename_i h2
    rw [if_neg h2] at h
    split
    · rename_i l e; rw [e] at h; exact absurd rfl h
    · rfl
theorem scan_ok {s : List UInt8} (h : (scanned s).2.2 = 0) : rest s 0 = ((scanned s).1, none) := by
  unfold scanned at h ⊢
  split
  · rename_i h2; rw [if_pos h2] at h; cases h
  · rename_i h2
    rw [if_neg h2] at h
    split
    · rename_i l e; exact e
    · rename_i l k e; rw [e] at h; cases h
theorem rows_bys {l : List UInt8} : rowsOf 1 l.length (bys l) = bys l := by
  have := rows_junk (l := l) (n := l.length) (k := 0) rfl
  simpa using this
theorem set_spaces {n k : Nat} (h : k < n) : splice (bys (List.replicate k 32 ++ List.replicate (n - k) 0)) k [AV.int .u8 32] = bys (List.replicate (k + 1) 32 ++ List.replicate (n - (k + 1)) 0) := by
  have e : (List.replicate k (32 : UInt8) ++ List.replicate (n - k) 0).set k 32 = List.replicate (k + 1) 32 ++ List.replicate (n - (k + 1)) 0 := by
    rw [List.set_append_right _ _ (by simp), List.length_replicate, Nat.sub_self, show n - k = n - (k + 1) + 1 by omega, List.replicate_succ, List.set_cons_zero, List.replicate_succ' (n := k), List.append_assoc]; rfl
  rw [splice_one, ← e]
  unfold bys; rw [List.map_set]; rfl
def p_LexerPlaces : List AV → AHeap → (AV → Prop) → Prop
  | [.slice _ 1 l], _, K => isB l ∧ K (.bool true)
  | _, _, _ => False
set_option maxHeartbeats 4000000 in
theorem ok_LexerPlaces : EntOk Try.prog 4 (Ent.pure p_LexerPlaces) := by
  refine EntOk.pure fun args H K h => ?_
  unfold p_LexerPlaces at h
  split at h
  rotate_left
  · exact h.elim
  rename_i m l
  obtain ⟨hB, hK⟩ := h
  obtain ⟨b, rfl⟩ := isB_out hB
  clear hB
  refine ⟨_, hK, ?_⟩
  clear hK
  refine ACalls.of_aw (Ω := [(12, Ent.effect e_CNew), (13, Ent.some s_CPieces), (15, Ent.pure p_xScan), (18, Ent.pure p_begun06)]) (T := assoc [(16, [[], [], [], [], [], [], [2, 3, 5]]), (18, [[1]])]) mixed (TblOk.cons ok_CNew (TblOk.cons ok_CPieces (TblOk.cons ok_xScan (TblOk.cons ok_begun06 TblOk.nil)))) Try.func4 (by kernel_rfl) (by rfl) (rs := [.tmp 2]) (by rfl) (by kernel_rfl) (by simp only [Try.ntmps4, List.length_cons, List.length_nil]; decide) (Nat.le_refl _) fun hcl hlt => ?_
  change aw _ _ _ (KI Try.prog [(12, Ent.effect e_CNew), (13, Ent.some s_CPieces), (15, Ent.pure p_xScan), (18, Ent.pure p_begun06)] (aEnd Try.prog [.tmp 2] H.nx _ _ (assoc [(16, [[], [], [], [], [], [], [2, 3, 5]]), (18, [[1]])])) []) _ _
  clear hlt
  simp only [↓bwp, bwq, List.tail_nil, List.tail_cons, List.headD_nil, List.headD_cons, ne_eq, reduceCtorEq, Nat.reduceEqDiff, Nat.reduceAdd, Nat.reduceMul, Nat.reduceSub, Nat.reduceLeDiff, Nat.reduceLT, Int.reduceMul, Int.reduceAdd, Int.reduceSub, List.map_cons, List.map_nil, Option.map_some, Option.map_none, Option.elim_some, if_true, if_false, List.append_nil, List.nil_append, bvq, rEq, List.cons_append, Int.reduceToNat, List.getElem?_cons_zero, List.getElem?_cons_succ, TD.agg, List.drop_succ_cons, List.drop_zero, List.take_succ_cons, List.take_zero, List.take_nil, List.drop_nil, List.getD_cons_zero, List.getD_cons_succ, splice, zgz, zha, Option.isSome_some, Option.isSome_none, List.getElem?_nil, zhb, zhc, rLen, rBin, rInt, rStr, rUn, zhd, zhe, zhf, zhg, zhh, rBox, zhi, zhj, zhk, zhl, zhm, zhn, zho, zhp, zhq, zhr, zhs, zht, zhu, zhv, zhw, zhx, zhy, zhz, zia, bound, addL, addT, grow, room, List.length_cons, List.length_nil, List.length_map, frOf, ti_int, ti_value, ti_u64, ti_Number, ti_words, ti_bool, ti_ints, ti_Int, ti_uint, ti_bytes, ti_u8, ti_string, ti_bits, ti_strs, ti_xTok, ti_fTok, ti_xToks, ti_fToks, ti_errno, ti_codes, ↓blp, blq, e_CNew]
  refine ⟨b, ⟨rfl, by omega⟩, ?_⟩
  have hbt : (b.take (min (b.length : Int) 60).toNat).length ≤ 60 := by rw [List.length_take]; omega
  generalize b.take (min (b.length : Int) 60).toNat = b1 at *
  simp only [s_CPieces]
  refine ⟨b1, 0, ⟨AHeap.get_push_new _ _, ⟨by omega, by omega⟩, by omega⟩, fun q a' hq _ _ => ?_⟩
  have hms : maxStr = 9223372036854775807 := rfl
  have hsl := @scan_len q
  simp only [blkS, cod, ↓bwp, bwq, List.tail_nil, List.tail_cons, List.headD_nil, List.headD_cons, ne_eq, reduceCtorEq, Nat.reduceEqDiff, Nat.reduceAdd, Nat.reduceMul, Nat.reduceSub, Nat.reduceLeDiff, Nat.reduceLT, Int.reduceMul, Int.reduceAdd, Int.reduceSub, List.map_cons, List.map_nil, Option.map_some, Option.map_none, Option.elim_some, if_true, if_false, List.append_nil, List.nil_append, bvq, rEq, List.cons_append, Int.reduceToNat, List.getElem?_cons_zero, List.getElem?_cons_succ, TD.agg, List.drop_succ_cons, List.drop_zero, List.take_succ_cons, List.take_zero, List.take_nil, List.drop_nil, List.getD_cons_zero, List.getD_cons_succ, splice, zgz, zha, Option.isSome_some, Option.isSome_none, List.getElem?_nil, zhb, zhc, rLen, rBin, rInt, rStr, rUn, zhd, zhe, zhf, zhg, zhh, rBox, zhi, zhj, zhk, zhl, zhm, zhn, zho, zhp, zhq, zhr, zhs, zht, zhu, zhv, zhw, zhx, zhy, zhz, zia, bound, addL, addT, grow, room, List.length_cons, List.length_nil, List.length_map, frOf, ti_int, ti_value, ti_u64, ti_Number, ti_words, ti_bool, ti_ints, ti_Int, ti_uint, ti_bytes, ti_u8, ti_string, ti_bits, ti_strs, ti_xTok, ti_fTok, ti_xToks, ti_fToks, ti_errno, ti_codes, ↓blp, blq, bhq, stepH, toMs, toMs0, strK, pubK, pubF, pubV, List.take_succ_cons, List.take_zero, List.drop_succ_cons, List.drop_zero, byq, p_xScan, scanAV]
  refine ⟨by omega, cond_split (fun h1 => ?_) (fun h1 => ?_)⟩
  · have he := scan_err (s := q) (by simp at h1; exact h1)
    simp only [blkS, cod, ↓bwp, bwq, List.tail_nil, List.tail_cons, List.headD_nil, List.headD_cons, ne_eq, reduceCtorEq, Nat.reduceEqDiff, Nat.reduceAdd, Nat.reduceMul, Nat.reduceSub, Nat.reduceLeDiff, Nat.reduceLT, Int.reduceMul, Int.reduceAdd, Int.reduceSub, List.map_cons, List.map_nil, Option.map_some, Option.map_none, Option.elim_some, if_true, if_false, List.append_nil, List.nil_append, bvq, rEq, List.cons_append, Int.reduceToNat, List.getElem?_cons_zero, List.getElem?_cons_succ, TD.agg, List.drop_succ_cons, List.drop_zero, List.take_succ_cons, List.take_zero, List.take_nil, List.drop_nil, List.getD_cons_zero, List.getD_cons_succ, splice, zgz, zha, Option.isSome_some, Option.isSome_none, List.getElem?_nil, zhb, zhc, rLen, rBin, rInt, rStr, rUn, zhd, zhe, zhf, zhg, zhh, rBox, zhi, zhj, zhk, zhl, zhm, zhn, zho, zhp, zhq, zhr, zhs, zht, zhu, zhv, zhw, zhx, zhy, zhz, zia, bound, addL, addT, grow, room, List.length_cons, List.length_nil, List.length_map, frOf, ti_int, ti_value, ti_u64, ti_Number, ti_words, ti_bool, ti_ints, ti_Int, ti_uint, ti_bytes, ti_u8, ti_string, ti_bits, ti_strs, ti_xTok, ti_fTok, ti_xToks, ti_fToks, ti_errno, ti_codes, ↓blp, blq, bhq, stepH, toMs, toMs0, strK, pubK, pubF, pubV, List.take_succ_cons, List.take_zero, List.drop_succ_cons, List.drop_zero, byq, he, toks_nil, p_begun06]
    refine both_tt rfl ?_
    simp (disch := first | assumption | omega | (simp; done) | (simp; omega) | (simp only [bt, and_true]; first | done | omega | (simp; done))) [↓zkr, beq, List.take_of_length_le, List.drop_append, List.take_append, endOk, wk, wk2, wk1, wkM, wkL, wkLL, List.drop_eq_nil_of_le, hcl]
  have hr0 := scan_ok (s := q) (by simp at h1; exact h1)
  generalize (scanned q).1 = l at *
  simp only [blkS, cod, ↓bwp, bwq, List.tail_nil, List.tail_cons, List.headD_nil, List.headD_cons, ne_eq, reduceCtorEq, Nat.reduceEqDiff, Nat.reduceAdd, Nat.reduceMul, Nat.reduceSub, Nat.reduceLeDiff, Nat.reduceLT, Int.reduceMul, Int.reduceAdd, Int.reduceSub, List.map_cons, List.map_nil, Option.map_some, Option.map_none, Option.elim_some, if_true, if_false, List.append_nil, List.nil_append, bvq, rEq, List.cons_append, Int.reduceToNat, List.getElem?_cons_zero, List.getElem?_cons_succ, TD.agg, List.drop_succ_cons, List.drop_zero, List.take_succ_cons, List.take_zero, List.take_nil, List.drop_nil, List.getD_cons_zero, List.getD_cons_succ, splice, zgz, zha, Option.isSome_some, Option.isSome_none, List.getElem?_nil, zhb, zhc, rLen, rBin, rInt, rStr, rUn, zhd, zhe, zhf, zhg, zhh, rBox, zhi, zhj, zhk, zhl, zhm, zhn, zho, zhp, zhq, zhr, zhs, zht, zhu, zhv, zhw, zhx, zhy, zhz, zia, bound, addL, addT, grow, room, List.length_cons, List.length_nil, List.length_map, frOf, ti_int, ti_value, ti_u64, ti_Number, ti_words, ti_bool, ti_ints, ti_Int, ti_uint, ti_bytes, ti_u8, ti_string, ti_bits, ti_strs, ti_xTok, ti_fTok, ti_xToks, ti_fToks, ti_errno, ti_codes, ↓blp, blq, bhq, stepH, toMs, toMs0, strK, pubK, pubF, pubV, List.take_succ_cons, List.take_zero, List.drop_succ_cons, List.drop_zero, byq]
  refine ⟨by omega, ?_⟩
  refine loop_introW (A := Nat) (fun k => [(3, .str q), (4, .slice .any 3 (toks l)), (7, .ms (H.nx + 1) 0 1 q.length), (32, .int .i64 (q.length : Int)), (33, .int .i64 (k : Int))])
    (fun k => (H.push (.cells [.slice .any 1 (bys b1), .int .i64 a'])).push (.cells (bys (List.replicate k 32 ++ List.replicate (q.length - k) 0)))) (fun k => k ≤ q.length) (fun k => q.length - k) 0 (by omega) ?_ fun k hk => ?_
  · simp only [List.replicate_zero, List.nil_append, Nat.sub_zero]
    (simp only [bkq, enterW, subW, ltF, ne_eq, Nat.reduceEqDiff, reduceCtorEq, toks_lt, zks]; try simp (disch := first | assumption | omega | (simp; done) | (simp; omega) | (simp only [bt, and_true]; first | done | omega | (simp; done))) [↓zkr, beq, List.take_of_length_le, List.drop_append, List.take_append, endOk, wk, wk2, wk1, wkM, wkL, wkLL, List.drop_eq_nil_of_le, byq, biq, isDs_ints, hcl, toks_lt, zks]; try (repeat' (first | assumption | omega | exact True.intro | refine And.intro ?_ ?_ | refine closed_buf ?_ | refine closed_set_buf ?_ | refine closed_cells ?_ ?_ | refine closed_set ?_ ?_ | refine closed_del ?_ | exact AHeap.Le.refl _ | refine AHeap.Le.push ?_ _ | refine AHeap.Le.del ?_ ?_ | (simp only [bt, and_true, true_and, toks_lt, zks]; first | done | omega | (simp; done)))))
  have e5 : k < q.length → IntKind.i64.wrap ((k : Int) + 1) = ((k + 1 : Nat) : Int) := fun h => by rw [wrap_i64] <;> omega
  simp only [blkS, cod, ↓bwp, bwq, List.tail_nil, List.tail_cons, List.headD_nil, List.headD_cons, ne_eq, reduceCtorEq, Nat.reduceEqDiff, Nat.reduceAdd, Nat.reduceMul, Nat.reduceSub, Nat.reduceLeDiff, Nat.reduceLT, Int.reduceMul, Int.reduceAdd, Int.reduceSub, List.map_cons, List.map_nil, Option.map_some, Option.map_none, Option.elim_some, if_true, if_false, List.append_nil, List.nil_append, bvq, rEq, List.cons_append, Int.reduceToNat, List.getElem?_cons_zero, List.getElem?_cons_succ, TD.agg, List.drop_succ_cons, List.drop_zero, List.take_succ_cons, List.take_zero, List.take_nil, List.drop_nil, List.getD_cons_zero, List.getD_cons_succ, splice, zgz, zha, Option.isSome_some, Option.isSome_none, List.getElem?_nil, zhb, zhc, rLen, rBin, rInt, rStr, rUn, zhd, zhe, zhf, zhg, zhh, rBox, zhi, zhj, zhk, zhl, zhm, zhn, zho, zhp, zhq, zhr, zhs, zht, zhu, zhv, zhw, zhx, zhy, zhz, zia, bound, addL, addT, grow, room, List.length_cons, List.length_nil, List.length_map, frOf, ti_int, ti_value, ti_u64, ti_Number, ti_words, ti_bool, ti_ints, ti_Int, ti_uint, ti_bytes, ti_u8, ti_string, ti_bits, ti_strs, ti_xTok, ti_fTok, ti_xToks, ti_fToks, ti_errno, ti_codes, ↓blp, blq, bhq, stepH, toMs, toMs0, strK, pubK, pubF, pubV, List.take_succ_cons, List.take_zero, List.drop_succ_cons, List.drop_zero, byq]
  refine cond_split (fun h2 => ?_) (fun h2 => ?_)
  · have hk1 : k < q.length := by simp at h2; omega
    simp only [blkS, cod, ↓bwp, bwq, List.tail_nil, List.tail_cons, List.headD_nil, List.headD_cons, ne_eq, reduceCtorEq, Nat.reduceEqDiff, Nat.reduceAdd, Nat.reduceMul, Nat.reduceSub, Nat.reduceLeDiff, Nat.reduceLT, Int.reduceMul, Int.reduceAdd, Int.reduceSub, List.map_cons, List.map_nil, Option.map_some, Option.map_none, Option.elim_some, if_true, if_false, List.append_nil, List.nil_append, bvq, rEq, List.cons_append, Int.reduceToNat, List.getElem?_cons_zero, List.getElem?_cons_succ, TD.agg, List.drop_succ_cons, List.drop_zero, List.take_succ_cons, List.take_zero, List.take_nil, List.drop_nil, List.getD_cons_zero, List.getD_cons_succ, splice, zgz, zha, Option.isSome_some, Option.isSome_none, List.getElem?_nil, zhb, zhc, rLen, rBin, rInt, rStr, rUn, zhd, zhe, zhf, zhg, zhh, rBox, zhi, zhj, zhk, zhl, zhm, zhn, zho, zhp, zhq, zhr, zhs, zht, zhu, zhv, zhw, zhx, zhy, zhz, zia, bound, addL, addT, grow, room, List.length_cons, List.length_nil, List.length_map, frOf, ti_int, ti_value, ti_u64, ti_Number, ti_words, ti_bool, ti_ints, ti_Int, ti_uint, ti_bytes, ti_u8, ti_string, ti_bits, ti_strs, ti_xTok, ti_fTok, ti_xToks, ti_fToks, ti_errno, ti_codes, ↓blp, blq, bhq, stepH, toMs, toMs0, strK, pubK, pubF, pubV, List.take_succ_cons, List.take_zero, List.drop_succ_cons, List.drop_zero, byq, Int.toNat_natCast, e5 hk1]
    refine ⟨by omega, by simp; omega, k + 1, by omega, by omega, ?_⟩
    rw [set_spaces hk1]
    generalize List.replicate (k + 1) (32 : UInt8) ++ List.replicate (q.length - (k + 1)) 0 = z
    (simp only [bkq, enterW, subW, ltF, ne_eq, Nat.reduceEqDiff, reduceCtorEq, toks_lt, zks]; try simp (disch := first | assumption | omega | (simp; done) | (simp; omega) | (simp only [bt, and_true]; first | done | omega | (simp; done))) [↓zkr, beq, List.take_of_length_le, List.drop_append, List.take_append, endOk, wk, wk2, wk1, wkM, wkL, wkLL, List.drop_eq_nil_of_le, byq, biq, isDs_ints, hcl, toks_lt, zks]; try (repeat' (first | assumption | omega | exact True.intro | refine And.intro ?_ ?_ | refine closed_buf ?_ | refine closed_set_buf ?_ | refine closed_cells ?_ ?_ | refine closed_set ?_ ?_ | refine closed_del ?_ | exact AHeap.Le.refl _ | refine AHeap.Le.push ?_ _ | refine AHeap.Le.del ?_ ?_ | (simp only [bt, and_true, true_and, toks_lt, zks]; first | done | omega | (simp; done)))))
  have hk1 : k = q.length := by simp at h2; omega
  subst hk1
  simp only [blkS, cod, ↓bwp, bwq, List.tail_nil, List.tail_cons, List.headD_nil, List.headD_cons, ne_eq, reduceCtorEq, Nat.reduceEqDiff, Nat.reduceAdd, Nat.reduceMul, Nat.reduceSub, Nat.reduceLeDiff, Nat.reduceLT, Int.reduceMul, Int.reduceAdd, Int.reduceSub, List.map_cons, List.map_nil, Option.map_some, Option.map_none, Option.elim_some, if_true, if_false, List.append_nil, List.nil_append, bvq, rEq, List.cons_append, Int.reduceToNat, List.getElem?_cons_zero, List.getElem?_cons_succ, TD.agg, List.drop_succ_cons, List.drop_zero, List.take_succ_cons, List.take_zero, List.take_nil, List.drop_nil, List.getD_cons_zero, List.getD_cons_succ, splice, zgz, zha, Option.isSome_some, Option.isSome_none, List.getElem?_nil, zhb, zhc, rLen, rBin, rInt, rStr, rUn, zhd, zhe, zhf, zhg, zhh, rBox, zhi, zhj, zhk, zhl, zhm, zhn, zho, zhp, zhq, zhr, zhs, zht, zhu, zhv, zhw, zhx, zhy, zhz, zia, bound, addL, addT, grow, room, List.length_cons, List.length_nil, List.length_map, frOf, ti_int, ti_value, ti_u64, ti_Number, ti_words, ti_bool, ti_ints, ti_Int, ti_uint, ti_bytes, ti_u8, ti_string, ti_bits, ti_strs, ti_xTok, ti_fTok, ti_xToks, ti_fToks, ti_errno, ti_codes, ↓blp, blq, bhq, stepH, toMs, toMs0, strK, pubK, pubF, pubV, List.take_succ_cons, List.take_zero, List.drop_succ_cons, List.drop_zero, byq, toks_length]
  refine loop_introW (A := Nat × Nat) (fun x => [(3, .str q), (7, .ms (H.nx + 1) 0 1 q.length), (40, .slice .any 3 (toks l)), (41, .int .i64 (l.length : Int)), (42, .int .i64 (x.1 : Int))])
    (fun x => (H.push (.cells [.slice .any 1 (bys b1), .int .i64 a'])).push (.cells (bys (q.take x.2 ++ List.replicate (q.length - x.2) 32)))) (fun x => x.1 ≤ l.length ∧ x.2 ≤ q.length ∧ rest q x.2 = (l.drop x.1, none)) (fun x => l.length - x.1) (0, 0) ⟨by omega, by omega, hr0⟩ ?_ fun x hx => ?_
  · simp only [Nat.sub_self, List.replicate_zero, List.append_nil, List.take_zero, List.nil_append, Nat.sub_zero]
    (simp only [bkq, enterW, subW, ltF, ne_eq, Nat.reduceEqDiff, reduceCtorEq, toks_lt, zks]; try simp (disch := first | assumption | omega | (simp; done) | (simp; omega) | (simp only [bt, and_true]; first | done | omega | (simp; done))) [↓zkr, beq, List.take_of_length_le, List.drop_append, List.take_append, endOk, wk, wk2, wk1, wkM, wkL, wkLL, List.drop_eq_nil_of_le, byq, biq, isDs_ints, hcl, toks_lt, zks]; try (repeat' (first | assumption | omega | exact True.intro | refine And.intro ?_ ?_ | refine closed_buf ?_ | refine closed_set_buf ?_ | refine closed_cells ?_ ?_ | refine closed_set ?_ ?_ | refine closed_del ?_ | exact AHeap.Le.refl _ | refine AHeap.Le.push ?_ _ | refine AHeap.Le.del ?_ ?_ | (simp only [bt, and_true, true_and, toks_lt, zks]; first | done | omega | (simp; done)))))
  obtain ⟨j, p⟩ := x
  obtain ⟨hj, hp, hr⟩ := hx
  dsimp only at hj hp hr ⊢
  simp only [blkS, cod, ↓bwp, bwq, List.tail_nil, List.tail_cons, List.headD_nil, List.headD_cons, ne_eq, reduceCtorEq, Nat.reduceEqDiff, Nat.reduceAdd, Nat.reduceMul, Nat.reduceSub, Nat.reduceLeDiff, Nat.reduceLT, Int.reduceMul, Int.reduceAdd, Int.reduceSub, List.map_cons, List.map_nil, Option.map_some, Option.map_none, Option.elim_some, if_true, if_false, List.append_nil, List.nil_append, bvq, rEq, List.cons_append, Int.reduceToNat, List.getElem?_cons_zero, List.getElem?_cons_succ, TD.agg, List.drop_succ_cons, List.drop_zero, List.take_succ_cons, List.take_zero, List.take_nil, List.drop_nil, List.getD_cons_zero, List.getD_cons_succ, splice, zgz, zha, Option.isSome_some, Option.isSome_none, List.getElem?_nil, zhb, zhc, rLen, rBin, rInt, rStr, rUn, zhd, zhe, zhf, zhg, zhh, rBox, zhi, zhj, zhk, zhl, zhm, zhn, zho, zhp, zhq, zhr, zhs, zht, zhu, zhv, zhw, zhx, zhy, zhz, zia, bound, addL, addT, grow, room, List.length_cons, List.length_nil, List.length_map, frOf, ti_int, ti_value, ti_u64, ti_Number, ti_words, ti_bool, ti_ints, ti_Int, ti_uint, ti_bytes, ti_u8, ti_string, ti_bits, ti_strs, ti_xTok, ti_fTok, ti_xToks, ti_fToks, ti_errno, ti_codes, ↓blp, blq, bhq, stepH, toMs, toMs0, strK, pubK, pubF, pubV, List.take_succ_cons, List.take_zero, List.drop_succ_cons, List.drop_zero, byq]
  refine cond_split (fun h3 => ?_) (fun h3 => ?_)
  · have hj1 : j < l.length := by simp at h3; omega
    have e6 : IntKind.i64.wrap ((j : Int) + 1) = ((j + 1 : Nat) : Int) := by rw [wrap_i64] <;> omega
    rcases rest_next _ p _ (show q.length = p + (q.length - p) by omega) hr with ⟨h4, _⟩ | ⟨pl, kd, x, l', h4, h5, h6, h7, h8, h9⟩
    · have := congrArg List.length h4; rw [List.length_drop] at this; simp at this; omega
    have hg := toks_get hj1
    rw [List.drop_eq_getElem_cons hj1] at h4
    injection h4 with h4 h4'
    rw [h4] at hg
    simp only [blkS, cod, ↓bwp, bwq, List.tail_nil, List.tail_cons, List.headD_nil, List.headD_cons, ne_eq, reduceCtorEq, Nat.reduceEqDiff, Nat.reduceAdd, Nat.reduceMul, Nat.reduceSub, Nat.reduceLeDiff, Nat.reduceLT, Int.reduceMul, Int.reduceAdd, Int.reduceSub, List.map_cons, List.map_nil, Option.map_some, Option.map_none, Option.elim_some, if_true, if_false, List.append_nil, List.nil_append, bvq, rEq, List.cons_append, Int.reduceToNat, List.getElem?_cons_zero, List.getElem?_cons_succ, TD.agg, List.drop_succ_cons, List.drop_zero, List.take_succ_cons, List.take_zero, List.take_nil, List.drop_nil, List.getD_cons_zero, List.getD_cons_succ, splice, zgz, zha, Option.isSome_some, Option.isSome_none, List.getElem?_nil, zhb, zhc, rLen, rBin, rInt, rStr, rUn, zhd, zhe, zhf, zhg, zhh, rBox, zhi, zhj, zhk, zhl, zhm, zhn, zho, zhp, zhq, zhr, zhs, zht, zhu, zhv, zhw, zhx, zhy, zhz, zia, bound, addL, addT, grow, room, List.length_cons, List.length_nil, List.length_map, frOf, ti_int, ti_value, ti_u64, ti_Number, ti_words, ti_bool, ti_ints, ti_Int, ti_uint, ti_bytes, ti_u8, ti_string, ti_bits, ti_strs, ti_xTok, ti_fTok, ti_xToks, ti_fToks, ti_errno, ti_codes, ↓blp, blq, bhq, stepH, toMs, toMs0, strK, pubK, pubF, pubV, List.take_succ_cons, List.take_zero, List.drop_succ_cons, List.drop_zero, byq, Int.toNat_natCast, toks_length, hg, tkAV, e6]
    have e7 : IntKind.i64.wrap ((pl : Int) + (x.length : Int)) = ((pl + x.length : Nat) : Int) := by rw [wrap_i64] <;> omega
    rw [e7]
    refine ⟨by omega, both_ff (by simp) (cond_ff (by simp; omega) ?_)⟩
    simp only [blkS, cod, ↓bwp, bwq, List.tail_nil, List.tail_cons, List.headD_nil, List.headD_cons, ne_eq, reduceCtorEq, Nat.reduceEqDiff, Nat.reduceAdd, Nat.reduceMul, Nat.reduceSub, Nat.reduceLeDiff, Nat.reduceLT, Int.reduceMul, Int.reduceAdd, Int.reduceSub, List.map_cons, List.map_nil, Option.map_some, Option.map_none, Option.elim_some, if_true, if_false, List.append_nil, List.nil_append, bvq, rEq, List.cons_append, Int.reduceToNat, List.getElem?_cons_zero, List.getElem?_cons_succ, TD.agg, List.drop_succ_cons, List.drop_zero, List.take_succ_cons, List.take_zero, List.take_nil, List.drop_nil, List.getD_cons_zero, List.getD_cons_succ, splice, zgz, zha, Option.isSome_some, Option.isSome_none, List.getElem?_nil, zhb, zhc, rLen, rBin, rInt, rStr, rUn, zhd, zhe, zhf, zhg, zhh, rBox, zhi, zhj, zhk, zhl, zhm, zhn, zho, zhp, zhq, zhr, zhs, zht, zhu, zhv, zhw, zhx, zhy, zhz, zia, bound, addL, addT, grow, room, List.length_cons, List.length_nil, List.length_map, frOf, ti_int, ti_value, ti_u64, ti_Number, ti_words, ti_bool, ti_ints, ti_Int, ti_uint, ti_bytes, ti_u8, ti_string, ti_bits, ti_strs, ti_xTok, ti_fTok, ti_xToks, ti_fToks, ti_errno, ti_codes, ↓blp, blq, bhq, stepH, toMs, toMs0, strK, pubK, pubF, pubV, List.take_succ_cons, List.take_zero, List.drop_succ_cons, List.drop_zero, byq, Int.toNat_natCast, e6]
    have hmx : x.take ((q.length : Int) - (pl : Int)).toNat = x := List.take_of_length_le (by omega)
    have hsp : splice (bys (q.take p ++ List.replicate (q.length - p) 32)) pl (bys x) = bys (q.take (pl + x.length) ++ List.replicate (q.length - (pl + x.length)) 32) := by
      have hl : (q.take p ++ List.replicate (q.length - p) (32 : UInt8)).length = q.length := by simp; omega
      rw [← put_tok h5 h6 h7 h8, splice_eq _ _ _ (by rw [zjn, zjn, hl]; exact h6)]
      simp only [bys, List.map_append, List.map_take, List.map_drop, List.length_map]
    rw [hmx, hsp]
    refine ⟨by omega, by simp; omega, (j + 1, pl + x.length), ⟨by dsimp only; omega, h6, by rw [h9, h4']⟩, by dsimp only; omega, ?_⟩
    dsimp only
    generalize q.take (pl + x.length) ++ List.replicate (q.length - (pl + x.length)) 32 = z
    (simp only [bkq, enterW, subW, ltF, ne_eq, Nat.reduceEqDiff, reduceCtorEq, toks_lt, zks]; try simp (disch := first | assumption | omega | (simp; done) | (simp; omega) | (simp only [bt, and_true]; first | done | omega | (simp; done))) [↓zkr, beq, List.take_of_length_le, List.drop_append, List.take_append, endOk, wk, wk2, wk1, wkM, wkL, wkLL, List.drop_eq_nil_of_le, byq, biq, isDs_ints, hcl, toks_lt, zks]; try (repeat' (first | assumption | omega | exact True.intro | refine And.intro ?_ ?_ | refine closed_buf ?_ | refine closed_set_buf ?_ | refine closed_cells ?_ ?_ | refine closed_set ?_ ?_ | refine closed_del ?_ | exact AHeap.Le.refl _ | refine AHeap.Le.push ?_ _ | refine AHeap.Le.del ?_ ?_ | (simp only [bt, and_true, true_and, toks_lt, zks]; first | done | omega | (simp; done)))))
  · have hj1 : j = l.length := by simp at h3; omega
    subst hj1
    rcases rest_next _ p _ (show q.length = p + (q.length - p) by omega) hr with ⟨_, h4⟩ | ⟨pl, kd, x, l', h4, _⟩
    · rw [← h4]
      simp only [blkS, cod, ↓bwp, bwq, List.tail_nil, List.tail_cons, List.headD_nil, List.headD_cons, ne_eq, reduceCtorEq, Nat.reduceEqDiff, Nat.reduceAdd, Nat.reduceMul, Nat.reduceSub, Nat.reduceLeDiff, Nat.reduceLT, Int.reduceMul, Int.reduceAdd, Int.reduceSub, List.map_cons, List.map_nil, Option.map_some, Option.map_none, Option.elim_some, if_true, if_false, List.append_nil, List.nil_append, bvq, rEq, List.cons_append, Int.reduceToNat, List.getElem?_cons_zero, List.getElem?_cons_succ, TD.agg, List.drop_succ_cons, List.drop_zero, List.take_succ_cons, List.take_zero, List.take_nil, List.drop_nil, List.getD_cons_zero, List.getD_cons_succ, splice, zgz, zha, Option.isSome_some, Option.isSome_none, List.getElem?_nil, zhb, zhc, rLen, rBin, rInt, rStr, rUn, zhd, zhe, zhf, zhg, zhh, rBox, zhi, zhj, zhk, zhl, zhm, zhn, zho, zhp, zhq, zhr, zhs, zht, zhu, zhv, zhw, zhx, zhy, zhz, zia, bound, addL, addT, grow, room, List.length_cons, List.length_nil, List.length_map, frOf, ti_int, ti_value, ti_u64, ti_Number, ti_words, ti_bool, ti_ints, ti_Int, ti_uint, ti_bytes, ti_u8, ti_string, ti_bits, ti_strs, ti_xTok, ti_fTok, ti_xToks, ti_fToks, ti_errno, ti_codes, ↓blp, blq, bhq, stepH, toMs, toMs0, strK, pubK, pubF, pubV, List.take_succ_cons, List.take_zero, List.drop_succ_cons, List.drop_zero, byq, p_begun06, rows_bys]
      refine both_tt (by simp) ?_
      simp (disch := first | assumption | omega | (simp; done) | (simp; omega) | (simp only [bt, and_true]; first | done | omega | (simp; done))) [↓zkr, beq, List.take_of_length_le, List.drop_append, List.take_append, endOk, wk, wk2, wk1, wkM, wkL, wkLL, List.drop_eq_nil_of_le, hcl]
    · simp at h4
end Go.AL
