/- Contracts and plain laws, a part of the proof; no condition of its own. -/
import Derived.Test.YtogojhflpdlceaaE06
open Go Go.AL Go.Proofs
namespace Go.AL
set_option linter.all false
set_option maxRecDepth 10000
theorem rows_junk {l : List UInt8} {n k : Nat} (h : n = l.length) : rowsOf 1 n (bys l ++ List.replicate k AV.junk) = bys l := by
  subst h
  induction l with
  | nil => rfl
  | cons a l ih =>
    show rowsOf 1 (l.length + 1) (ofByte a :: (bys l ++ List.replicate k AV.junk)) = ofByte a :: bys l
    simp only [rowsOf, if_true, List.drop_succ_cons, List.drop_zero, ih]
    rfl
theorem u8_byte (n : Int) : ∃ e : UInt8, AV.int .u8 (IntKind.u8.wrap n) = ofByte e := ⟨_, wrap_u8⟩
theorem scan_len {s : List UInt8} : (scanned s).1.length ≤ 400 := by
  unfold scanned
  split
  · simp
  · rename_i h
    split
    · rename_i l hl
      have : ∀ (f : Nat) (s : List UInt8) (k : Nat), (scanT f s k).1.length ≤ f := by
        intro f
        induction f with
        | zero => intro s k; exact Nat.le_refl _
        | succ f ih =>
          intro s k
          cases s with
          | nil => simp [scanT]
          | cons c r =>
            rw [scanT]
            split
            · exact Nat.le_succ_of_le (ih _ _)
            · split
              · simp
              · simp only [List.length_cons]
                exact Nat.succ_le_succ (ih _ _)
      have h2 := this s.length (s.drop 0) 0
      unfold rest at hl
      rw [hl] at h2
      simp only at h2 ⊢
      omega
    · simp
def p_LexerScans : List AV → AHeap → (AV → Prop) → Prop
  | [.str s, .slice _ 1 l, .int .i64 n, .int .u8 x], _, K => (s.length ≤ 140737488351232 ∧ isB l ∧ -9223372036854775808 ≤ n ∧ n < 9223372036854775808) ∧ K (.bool true)
  | _, _, _ => False
set_option maxHeartbeats 4000000 in
theorem ok_LexerScans : EntOk Try.prog 3 (Ent.pure p_LexerScans) := by
  refine EntOk.pure fun args H K h => ?_
  unfold p_LexerScans at h
  split at h
  rotate_left
  · exact h.elim
  rename_i s m l n x
  obtain ⟨⟨hs, hB, hn1, hn2⟩, hK⟩ := h
  obtain ⟨b, rfl⟩ := isB_out hB
  clear hB
  refine ⟨_, hK, ?_⟩
  clear hK
  refine ACalls.of_aw (Ω := [(12, Ent.effect e_CNew), (13, Ent.some s_CPieces), (14, Ent.pure p_Mod), (15, Ent.pure p_xScan), (16, Ent.pure p_fScan), (17, Ent.pure p_same), (18, Ent.pure p_begun06)]) (T := assoc [(3, [[1]]), (5, [[10]])]) mixed (TblOk.cons ok_CNew (TblOk.cons ok_CPieces (TblOk.cons ok_Mod (TblOk.cons ok_xScan (TblOk.cons ok_fScan (TblOk.cons ok_same (TblOk.cons ok_begun06 TblOk.nil))))))) Try.func3 (by kernel_rfl) (by rfl) (rs := [.tmp 8]) (by rfl) (by kernel_rfl) (by simp only [Try.ntmps3, List.length_cons, List.length_nil]; decide) (Nat.le_refl _) fun hcl hlt => ?_
  change aw _ _ _ (KI Try.prog [(12, Ent.effect e_CNew), (13, Ent.some s_CPieces), (14, Ent.pure p_Mod), (15, Ent.pure p_xScan), (16, Ent.pure p_fScan), (17, Ent.pure p_same), (18, Ent.pure p_begun06)] (aEnd Try.prog [.tmp 8] H.nx _ _ (assoc [(3, [[1]]), (5, [[10]])])) []) _ _
  clear hlt
  simp only [↓bwp, bwq, List.tail_nil, List.tail_cons, List.headD_nil, List.headD_cons, ne_eq, reduceCtorEq, Nat.reduceEqDiff, Nat.reduceAdd, Nat.reduceMul, Nat.reduceSub, Nat.reduceLeDiff, Nat.reduceLT, Int.reduceMul, Int.reduceAdd, Int.reduceSub, List.map_cons, List.map_nil, Option.map_some, Option.map_none, Option.elim_some, if_true, if_false, List.append_nil, List.nil_append, bvq, rEq, List.cons_append, Int.reduceToNat, List.getElem?_cons_zero, List.getElem?_cons_succ, TD.agg, List.drop_succ_cons, List.drop_zero, List.take_succ_cons, List.take_zero, List.take_nil, List.drop_nil, List.getD_cons_zero, List.getD_cons_succ, splice, zgz, zha, Option.isSome_some, Option.isSome_none, List.getElem?_nil, zhb, zhc, rLen, rBin, rInt, rStr, rUn, zhd, zhe, zhf, zhg, zhh, rBox, zhi, zhj, zhk, zhl, zhm, zhn, zho, zhp, zhq, zhr, zhs, zht, zhu, zhv, zhw, zhx, zhy, zhz, zia, bound, addL, addT, grow, room, List.length_cons, List.length_nil, List.length_map, frOf, ti_int, ti_value, ti_u64, ti_Number, ti_words, ti_bool, ti_ints, ti_Int, ti_uint, ti_bytes, ti_u8, ti_string, ti_bits, ti_strs, ti_xTok, ti_fTok, ti_xToks, ti_fToks, ti_errno, ti_codes, ↓blp, blq, e_CNew]
  refine ⟨by omega, b, ⟨rfl, by omega⟩, ?_⟩
  have hbt : (b.take (min (b.length : Int) 60).toNat).length ≤ 60 := by rw [List.length_take]; omega
  generalize b.take (min (b.length : Int) 60).toNat = b1 at *
  simp only [s_CPieces]
  refine ⟨b1, 0, ⟨AHeap.get_push_new _ _, ⟨by omega, by omega⟩, by omega⟩, fun q a' hq _ _ => ?_⟩
  generalize hs1 : (s.take (min (s.length : Int) 420).toNat).drop (0 : Int).toNat = s1
  have hs1l : s1.length ≤ 420 := by rw [← hs1, List.length_drop, List.length_take]; omega
  have hms : maxStr = 9223372036854775807 := rfl
  simp only [blkS, cod, ↓bwp, bwq, List.tail_nil, List.tail_cons, List.headD_nil, List.headD_cons, ne_eq, reduceCtorEq, Nat.reduceEqDiff, Nat.reduceAdd, Nat.reduceMul, Nat.reduceSub, Nat.reduceLeDiff, Nat.reduceLT, Int.reduceMul, Int.reduceAdd, Int.reduceSub, List.map_cons, List.map_nil, Option.map_some, Option.map_none, Option.elim_some, if_true, if_false, List.append_nil, List.nil_append, bvq, rEq, List.cons_append, Int.reduceToNat, List.getElem?_cons_zero, List.getElem?_cons_succ, TD.agg, List.drop_succ_cons, List.drop_zero, List.take_succ_cons, List.take_zero, List.take_nil, List.drop_nil, List.getD_cons_zero, List.getD_cons_succ, splice, zgz, zha, Option.isSome_some, Option.isSome_none, List.getElem?_nil, zhb, zhc, rLen, rBin, rInt, rStr, rUn, zhd, zhe, zhf, zhg, zhh, rBox, zhi, zhj, zhk, zhl, zhm, zhn, zho, zhp, zhq, zhr, zhs, zht, zhu, zhv, zhw, zhx, zhy, zhz, zia, bound, addL, addT, grow, room, List.length_cons, List.length_nil, List.length_map, frOf, ti_int, ti_value, ti_u64, ti_Number, ti_words, ti_bool, ti_ints, ti_Int, ti_uint, ti_bytes, ti_u8, ti_string, ti_bits, ti_strs, ti_xTok, ti_fTok, ti_xToks, ti_fToks, ti_errno, ti_codes, ↓blp, blq, bhq, stepH, toMs, toMs0, strK, pubK, pubF, pubV, List.take_succ_cons, List.take_zero, List.drop_succ_cons, List.drop_zero, byq]
  refine ⟨by omega, fun hq0 => ?_, fun hq0 kk => ?_⟩
  · have hq1 : q = [] := by rwa [zkw] at hq0
    subst hq1
    refine cond_ff rfl ?_
    simp only [blkS, cod, ↓bwp, bwq, List.tail_nil, List.tail_cons, List.headD_nil, List.headD_cons, ne_eq, reduceCtorEq, Nat.reduceEqDiff, Nat.reduceAdd, Nat.reduceMul, Nat.reduceSub, Nat.reduceLeDiff, Nat.reduceLT, Int.reduceMul, Int.reduceAdd, Int.reduceSub, List.map_cons, List.map_nil, Option.map_some, Option.map_none, Option.elim_some, if_true, if_false, List.append_nil, List.nil_append, bvq, rEq, List.cons_append, Int.reduceToNat, List.getElem?_cons_zero, List.getElem?_cons_succ, TD.agg, List.drop_succ_cons, List.drop_zero, List.take_succ_cons, List.take_zero, List.take_nil, List.drop_nil, List.getD_cons_zero, List.getD_cons_succ, splice, zgz, zha, Option.isSome_some, Option.isSome_none, List.getElem?_nil, zhb, zhc, rLen, rBin, rInt, rStr, rUn, zhd, zhe, zhf, zhg, zhh, rBox, zhi, zhj, zhk, zhl, zhm, zhn, zho, zhp, zhq, zhr, zhs, zht, zhu, zhv, zhw, zhx, zhy, zhz, zia, bound, addL, addT, grow, room, List.length_cons, List.length_nil, List.length_map, frOf, ti_int, ti_value, ti_u64, ti_Number, ti_words, ti_bool, ti_ints, ti_Int, ti_uint, ti_bytes, ti_u8, ti_string, ti_bits, ti_strs, ti_xTok, ti_fTok, ti_xToks, ti_fToks, ti_errno, ti_codes, ↓blp, blq, bhq, stepH, toMs, toMs0, strK, pubK, pubF, pubV, List.take_succ_cons, List.take_zero, List.drop_succ_cons, List.drop_zero, byq]
    refine ⟨fun x hx => (by cases hx), by rw [hms]; omega, ?_⟩
    generalize hL : [s1, [], [], s1] = L
    have hLl : L.length = 4 := by rw [← hL]; rfl
    have hLb : ∀ i, i < 4 → (L.getD i []).length ≤ 800 := by
      intro i hi
      rw [← hL]
      rcases (by omega : i = 0 ∨ i = 1 ∨ i = 2 ∨ i = 3) with rfl | rfl | rfl | rfl <;> simp <;> omega
    refine loop_introW (A := Nat) (fun k => [(49, .slice .any 1 (sAV L)), (50, .int .i64 4), (51, .int .i64 (k : Int))]) (fun k => H) (fun k => k ≤ 4) (fun k => 4 - k) 0 (by omega) ?_ fun k hk => ?_
    · rw [← hL]
      (simp only [bkq, enterW, subW, ltF, ne_eq, Nat.reduceEqDiff, reduceCtorEq, sAV, List.map_cons, List.map_nil, List.cons_append, List.nil_append]; try simp (disch := first | assumption | omega | (simp; done) | (simp; omega) | (simp only [bt, and_true]; first | done | omega | (simp; done))) [↓zkr, beq, List.take_of_length_le, List.drop_append, List.take_append, endOk, wk, wk2, wk1, wkM, wkL, wkLL, List.drop_eq_nil_of_le, byq, biq, isDs_ints, hcl, sAV, List.map_cons, List.map_nil, List.cons_append, List.nil_append]; try (repeat' (first | assumption | omega | exact True.intro | refine And.intro ?_ ?_ | refine closed_buf ?_ | refine closed_set_buf ?_ | refine closed_cells ?_ ?_ | refine closed_set ?_ ?_ | refine closed_del ?_ | exact AHeap.Le.refl _ | refine AHeap.Le.push ?_ _ | refine AHeap.Le.del ?_ ?_ | (simp only [bt, and_true, true_and, sAV, List.map_cons, List.map_nil, List.cons_append, List.nil_append]; first | done | omega | (simp; done)))))
      simp [lt_sliceL, zlx, zly, zlk]
    simp only [↓bwp, bwq, List.tail_nil, List.tail_cons, List.headD_nil, List.headD_cons, ne_eq, reduceCtorEq, Nat.reduceEqDiff, Nat.reduceAdd, Nat.reduceMul, Nat.reduceSub, Nat.reduceLeDiff, Nat.reduceLT, Int.reduceMul, Int.reduceAdd, Int.reduceSub, List.map_cons, List.map_nil, Option.map_some, Option.map_none, Option.elim_some, if_true, if_false, List.append_nil, List.nil_append, bvq, rEq, List.cons_append, Int.reduceToNat, List.getElem?_cons_zero, List.getElem?_cons_succ, TD.agg, List.drop_succ_cons, List.drop_zero, List.take_succ_cons, List.take_zero, List.take_nil, List.drop_nil, List.getD_cons_zero, List.getD_cons_succ, splice, zgz, zha, Option.isSome_some, Option.isSome_none, List.getElem?_nil, zhb, zhc, rLen, rBin, rInt, rStr, rUn, zhd, zhe, zhf, zhg, zhh, rBox, zhi, zhj, zhk, zhl, zhm, zhn, zho, zhp, zhq, zhr, zhs, zht, zhu, zhv, zhw, zhx, zhy, zhz, zia, bound, addL, addT, grow, room, List.length_cons, List.length_nil, List.length_map, frOf, ti_int, ti_value, ti_u64, ti_Number, ti_words, ti_bool, ti_ints, ti_Int, ti_uint, ti_bytes, ti_u8, ti_string, ti_bits, ti_strs, ti_xTok, ti_fTok, ti_xToks, ti_fToks, ti_errno, ti_codes, ↓blp, blq]
    refine cond_split (fun h5 => ?_) (fun h5 => ?_)
    · have hk5 : k < 4 := by simp at h5; omega
      have hg5 : (sAV L).getD k .junk = .str (L.getD k []) := sAV_get (by omega)
      have hb5 := hLb k hk5
      have e5 : IntKind.i64.wrap ((k : Int) + 1) = ((k + 1 : Nat) : Int) := by rw [wrap_i64] <;> omega
      generalize L.getD k [] = t at *
      have hsl := @scan_len t
      simp only [↓bwp, bwq, List.tail_nil, List.tail_cons, List.headD_nil, List.headD_cons, ne_eq, reduceCtorEq, Nat.reduceEqDiff, Nat.reduceAdd, Nat.reduceMul, Nat.reduceSub, Nat.reduceLeDiff, Nat.reduceLT, Int.reduceMul, Int.reduceAdd, Int.reduceSub, List.map_cons, List.map_nil, Option.map_some, Option.map_none, Option.elim_some, if_true, if_false, List.append_nil, List.nil_append, bvq, rEq, List.cons_append, Int.reduceToNat, List.getElem?_cons_zero, List.getElem?_cons_succ, TD.agg, List.drop_succ_cons, List.drop_zero, List.take_succ_cons, List.take_zero, List.take_nil, List.drop_nil, List.getD_cons_zero, List.getD_cons_succ, splice, zgz, zha, Option.isSome_some, Option.isSome_none, List.getElem?_nil, zhb, zhc, rLen, rBin, rInt, rStr, rUn, zhd, zhe, zhf, zhg, zhh, rBox, zhi, zhj, zhk, zhl, zhm, zhn, zho, zhp, zhq, zhr, zhs, zht, zhu, zhv, zhw, zhx, zhy, zhz, zia, bound, addL, addT, grow, room, List.length_cons, List.length_nil, List.length_map, frOf, ti_int, ti_value, ti_u64, ti_Number, ti_words, ti_bool, ti_ints, ti_Int, ti_uint, ti_bytes, ti_u8, ti_string, ti_bits, ti_strs, ti_xTok, ti_fTok, ti_xToks, ti_fToks, ti_errno, ti_codes, ↓blp, blq, Int.toNat_natCast, sAV_length, hLl, hg5, p_xScan, p_fScan, scanAV]
      generalize scanned t = sc at *
      simp only [↓bwp, bwq, List.tail_nil, List.tail_cons, List.headD_nil, List.headD_cons, ne_eq, reduceCtorEq, Nat.reduceEqDiff, Nat.reduceAdd, Nat.reduceMul, Nat.reduceSub, Nat.reduceLeDiff, Nat.reduceLT, Int.reduceMul, Int.reduceAdd, Int.reduceSub, List.map_cons, List.map_nil, Option.map_some, Option.map_none, Option.elim_some, if_true, if_false, List.append_nil, List.nil_append, bvq, rEq, List.cons_append, Int.reduceToNat, List.getElem?_cons_zero, List.getElem?_cons_succ, TD.agg, List.drop_succ_cons, List.drop_zero, List.take_succ_cons, List.take_zero, List.take_nil, List.drop_nil, List.getD_cons_zero, List.getD_cons_succ, splice, zgz, zha, Option.isSome_some, Option.isSome_none, List.getElem?_nil, zhb, zhc, rLen, rBin, rInt, rStr, rUn, zhd, zhe, zhf, zhg, zhh, rBox, zhi, zhj, zhk, zhl, zhm, zhn, zho, zhp, zhq, zhr, zhs, zht, zhu, zhv, zhw, zhx, zhy, zhz, zia, bound, addL, addT, grow, room, List.length_cons, List.length_nil, List.length_map, frOf, ti_int, ti_value, ti_u64, ti_Number, ti_words, ti_bool, ti_ints, ti_Int, ti_uint, ti_bytes, ti_u8, ti_string, ti_bits, ti_strs, ti_xTok, ti_fTok, ti_xToks, ti_fToks, ti_errno, ti_codes, ↓blp, blq, p_same]
      refine ⟨by omega, by omega, by omega, both_ff (by simp) (both_ff (by simp) ⟨sc.1, ⟨rfl, rfl, by omega⟩, k + 1, by omega, by omega, ?_⟩)⟩
      rw [e5]
      (simp only [bkq, enterW, subW, ltF, ne_eq, Nat.reduceEqDiff, reduceCtorEq, sAV_lt]; try simp (disch := first | assumption | omega | (simp; done) | (simp; omega) | (simp only [bt, and_true]; first | done | omega | (simp; done))) [↓zkr, beq, List.take_of_length_le, List.drop_append, List.take_append, endOk, wk, wk2, wk1, wkM, wkL, wkLL, List.drop_eq_nil_of_le, byq, biq, isDs_ints, hcl, sAV_lt]; try (repeat' (first | assumption | omega | exact True.intro | refine And.intro ?_ ?_ | refine closed_buf ?_ | refine closed_set_buf ?_ | refine closed_cells ?_ ?_ | refine closed_set ?_ ?_ | refine closed_del ?_ | exact AHeap.Le.refl _ | refine AHeap.Le.push ?_ _ | refine AHeap.Le.del ?_ ?_ | (simp only [bt, and_true, true_and, sAV_lt]; first | done | omega | (simp; done)))))
    · have hk5 : k = 4 := by simp at h5; omega
      simp only [↓bwp, bwq, List.tail_nil, List.tail_cons, List.headD_nil, List.headD_cons, ne_eq, reduceCtorEq, Nat.reduceEqDiff, Nat.reduceAdd, Nat.reduceMul, Nat.reduceSub, Nat.reduceLeDiff, Nat.reduceLT, Int.reduceMul, Int.reduceAdd, Int.reduceSub, List.map_cons, List.map_nil, Option.map_some, Option.map_none, Option.elim_some, if_true, if_false, List.append_nil, List.nil_append, bvq, rEq, List.cons_append, Int.reduceToNat, List.getElem?_cons_zero, List.getElem?_cons_succ, TD.agg, List.drop_succ_cons, List.drop_zero, List.take_succ_cons, List.take_zero, List.take_nil, List.drop_nil, List.getD_cons_zero, List.getD_cons_succ, splice, zgz, zha, Option.isSome_some, Option.isSome_none, List.getElem?_nil, zhb, zhc, rLen, rBin, rInt, rStr, rUn, zhd, zhe, zhf, zhg, zhh, rBox, zhi, zhj, zhk, zhl, zhm, zhn, zho, zhp, zhq, zhr, zhs, zht, zhu, zhv, zhw, zhx, zhy, zhz, zia, bound, addL, addT, grow, room, List.length_cons, List.length_nil, List.length_map, frOf, ti_int, ti_value, ti_u64, ti_Number, ti_words, ti_bool, ti_ints, ti_Int, ti_uint, ti_bytes, ti_u8, ti_string, ti_bits, ti_strs, ti_xTok, ti_fTok, ti_xToks, ti_fToks, ti_errno, ti_codes, ↓blp, blq, p_begun06]
      simp (disch := first | assumption | omega | (simp; done) | (simp; omega) | (simp only [bt, and_true]; first | done | omega | (simp; done))) [↓zkr, beq, List.take_of_length_le, List.drop_append, List.take_append, endOk, wk, wk2, wk1, wkM, wkL, wkLL, List.drop_eq_nil_of_le, hcl]
  · have hq1 : q ≠ [] := fun e => hq0 (by rw [e]; rfl)
    have hq2 : 0 < q.length := List.length_pos_iff.2 hq1
    refine cond_tt (by simp; omega) ?_
    obtain ⟨ix, hix, hixl⟩ : ∃ ix : Nat, (n.tmod (q.length : Int) + (q.length : Int)).tmod (q.length : Int) = (ix : Int) ∧ ix < q.length := by
      obtain ⟨h1, h2⟩ := @mod_lt n (q.length : Int) (by omega)
      exact ⟨((n.tmod (q.length : Int) + (q.length : Int)).tmod (q.length : Int)).toNat, by omega, by omega⟩
    have hgd : (bys q ++ List.replicate kk AV.junk).getD ix .junk = ofByte q[ix] := by
      rw [List.getD_eq_getElem?_getD, List.getElem?_append_left (by rw [zjn]; exact hixl), ← List.getD_eq_getElem?_getD, bys_get hixl]
      simp [List.getD_eq_getElem?_getD, hixl]
    obtain ⟨e, he⟩ : ∃ e : UInt8, AV.int .u8 (ixor .u8 ((q[ix].toNat : Nat) : Int) x) = ofByte e := by unfold ixor; exact u8_byte _
    have hsp : splice (bys q ++ List.replicate kk AV.junk) ix (bys [e]) = bys (q.set ix e) ++ List.replicate kk AV.junk := by
      show splice _ ix [ofByte e] = _
      rw [splice_one, List.set_append_left _ _ (by rw [zjn]; exact hixl)]
      congr 1
      unfold bys; rw [List.map_set]
    have hrw : rowsOf 1 q.length (bys (q.set ix e) ++ List.replicate kk AV.junk) = bys (q.set ix e) := rows_junk (by rw [List.length_set])
    generalize q[ix] = c at *
    have hgd' : (bys q ++ List.replicate kk AV.junk).getD ix .junk = .int .u8 ((c.toNat : Nat) : Int) := hgd
    have hlc : (bys q ++ List.replicate kk AV.junk).length = q.length + kk := by rw [List.length_append, zjn, List.length_replicate]
    simp only [blkS, cod, ↓bwp, bwq, List.tail_nil, List.tail_cons, List.headD_nil, List.headD_cons, ne_eq, reduceCtorEq, Nat.reduceEqDiff, Nat.reduceAdd, Nat.reduceMul, Nat.reduceSub, Nat.reduceLeDiff, Nat.reduceLT, Int.reduceMul, Int.reduceAdd, Int.reduceSub, List.map_cons, List.map_nil, Option.map_some, Option.map_none, Option.elim_some, if_true, if_false, List.append_nil, List.nil_append, bvq, rEq, List.cons_append, Int.reduceToNat, List.getElem?_cons_zero, List.getElem?_cons_succ, TD.agg, List.drop_succ_cons, List.drop_zero, List.take_succ_cons, List.take_zero, List.take_nil, List.drop_nil, List.getD_cons_zero, List.getD_cons_succ, splice, zgz, zha, Option.isSome_some, Option.isSome_none, List.getElem?_nil, zhb, zhc, rLen, rBin, rInt, rStr, rUn, zhd, zhe, zhf, zhg, zhh, rBox, zhi, zhj, zhk, zhl, zhm, zhn, zho, zhp, zhq, zhr, zhs, zht, zhu, zhv, zhw, zhx, zhy, zhz, zia, bound, addL, addT, grow, room, List.length_cons, List.length_nil, List.length_map, frOf, ti_int, ti_value, ti_u64, ti_Number, ti_words, ti_bool, ti_ints, ti_Int, ti_uint, ti_bytes, ti_u8, ti_string, ti_bits, ti_strs, ti_xTok, ti_fTok, ti_xToks, ti_fToks, ti_errno, ti_codes, ↓blp, blq, bhq, stepH, toMs, toMs0, strK, pubK, pubF, pubV, List.take_succ_cons, List.take_zero, List.drop_succ_cons, List.drop_zero, byq, p_Mod, hix, hgd', he, hsp, hlc]
    refine ⟨by omega, by omega, by omega, by omega, by omega, 1, q.length, ?_⟩
    have hle1 : (1 = 1 ∧ q.length ≤ q.length) = True := eq_true ⟨rfl, Nat.le_refl _⟩
    simp only [blkS, cod, ↓bwp, bwq, List.tail_nil, List.tail_cons, List.headD_nil, List.headD_cons, ne_eq, reduceCtorEq, Nat.reduceEqDiff, Nat.reduceAdd, Nat.reduceMul, Nat.reduceSub, Nat.reduceLeDiff, Nat.reduceLT, Int.reduceMul, Int.reduceAdd, Int.reduceSub, List.map_cons, List.map_nil, Option.map_some, Option.map_none, Option.elim_some, if_true, if_false, List.append_nil, List.nil_append, bvq, rEq, List.cons_append, Int.reduceToNat, List.getElem?_cons_zero, List.getElem?_cons_succ, TD.agg, List.drop_succ_cons, List.drop_zero, List.take_succ_cons, List.take_zero, List.take_nil, List.drop_nil, List.getD_cons_zero, List.getD_cons_succ, splice, zgz, zha, Option.isSome_some, Option.isSome_none, List.getElem?_nil, zhb, zhc, rLen, rBin, rInt, rStr, rUn, zhd, zhe, zhf, zhg, zhh, rBox, zhi, zhj, zhk, zhl, zhm, zhn, zho, zhp, zhq, zhr, zhs, zht, zhu, zhv, zhw, zhx, zhy, zhz, zia, bound, addL, addT, grow, room, List.length_cons, List.length_nil, List.length_map, frOf, ti_int, ti_value, ti_u64, ti_Number, ti_words, ti_bool, ti_ints, ti_Int, ti_uint, ti_bytes, ti_u8, ti_string, ti_bits, ti_strs, ti_xTok, ti_fTok, ti_xToks, ti_fToks, ti_errno, ti_codes, ↓blp, blq, bhq, stepH, toMs, toMs0, strK, pubK, pubF, pubV, List.take_succ_cons, List.take_zero, List.drop_succ_cons, List.drop_zero, byq, hle1, hrw, Nat.le_refl, eq_self]
    refine ⟨by rw [hms]; omega, ?_⟩
    generalize hL : [s1, q, q.set ix e, q ++ s1] = L
    have hLl : L.length = 4 := by rw [← hL]; rfl
    have hLb : ∀ i, i < 4 → (L.getD i []).length ≤ 800 := by
      intro i hi
      rw [← hL]
      rcases (by omega : i = 0 ∨ i = 1 ∨ i = 2 ∨ i = 3) with rfl | rfl | rfl | rfl <;> simp <;> omega
    refine loop_introW (A := Nat) (fun k => [(49, .slice .any 1 (sAV L)), (50, .int .i64 4), (51, .int .i64 (k : Int))]) (fun k => H) (fun k => k ≤ 4) (fun k => 4 - k) 0 (by omega) ?_ fun k hk => ?_
    · rw [← hL]
      (simp only [bkq, enterW, subW, ltF, ne_eq, Nat.reduceEqDiff, reduceCtorEq, sAV, List.map_cons, List.map_nil, List.cons_append, List.nil_append]; try simp (disch := first | assumption | omega | (simp; done) | (simp; omega) | (simp only [bt, and_true]; first | done | omega | (simp; done))) [↓zkr, beq, List.take_of_length_le, List.drop_append, List.take_append, endOk, wk, wk2, wk1, wkM, wkL, wkLL, List.drop_eq_nil_of_le, byq, biq, isDs_ints, hcl, sAV, List.map_cons, List.map_nil, List.cons_append, List.nil_append]; try (repeat' (first | assumption | omega | exact True.intro | refine And.intro ?_ ?_ | refine closed_buf ?_ | refine closed_set_buf ?_ | refine closed_cells ?_ ?_ | refine closed_set ?_ ?_ | refine closed_del ?_ | exact AHeap.Le.refl _ | refine AHeap.Le.push ?_ _ | refine AHeap.Le.del ?_ ?_ | (simp only [bt, and_true, true_and, sAV, List.map_cons, List.map_nil, List.cons_append, List.nil_append]; first | done | omega | (simp; done)))))
      simp [lt_sliceL, zlx, zly, zlk]
    simp only [↓bwp, bwq, List.tail_nil, List.tail_cons, List.headD_nil, List.headD_cons, ne_eq, reduceCtorEq, Nat.reduceEqDiff, Nat.reduceAdd, Nat.reduceMul, Nat.reduceSub, Nat.reduceLeDiff, Nat.reduceLT, Int.reduceMul, Int.reduceAdd, Int.reduceSub, List.map_cons, List.map_nil, Option.map_some, Option.map_none, Option.elim_some, if_true, if_false, List.append_nil, List.nil_append, bvq, rEq, List.cons_append, Int.reduceToNat, List.getElem?_cons_zero, List.getElem?_cons_succ, TD.agg, List.drop_succ_cons, List.drop_zero, List.take_succ_cons, List.take_zero, List.take_nil, List.drop_nil, List.getD_cons_zero, List.getD_cons_succ, splice, zgz, zha, Option.isSome_some, Option.isSome_none, List.getElem?_nil, zhb, zhc, rLen, rBin, rInt, rStr, rUn, zhd, zhe, zhf, zhg, zhh, rBox, zhi, zhj, zhk, zhl, zhm, zhn, zho, zhp, zhq, zhr, zhs, zht, zhu, zhv, zhw, zhx, zhy, zhz, zia, bound, addL, addT, grow, room, List.length_cons, List.length_nil, List.length_map, frOf, ti_int, ti_value, ti_u64, ti_Number, ti_words, ti_bool, ti_ints, ti_Int, ti_uint, ti_bytes, ti_u8, ti_string, ti_bits, ti_strs, ti_xTok, ti_fTok, ti_xToks, ti_fToks, ti_errno, ti_codes, ↓blp, blq]
    refine cond_split (fun h5 => ?_) (fun h5 => ?_)
    · have hk5 : k < 4 := by simp at h5; omega
      have hg5 : (sAV L).getD k .junk = .str (L.getD k []) := sAV_get (by omega)
      have hb5 := hLb k hk5
      have e5 : IntKind.i64.wrap ((k : Int) + 1) = ((k + 1 : Nat) : Int) := by rw [wrap_i64] <;> omega
      generalize L.getD k [] = t at *
      have hsl := @scan_len t
      simp only [↓bwp, bwq, List.tail_nil, List.tail_cons, List.headD_nil, List.headD_cons, ne_eq, reduceCtorEq, Nat.reduceEqDiff, Nat.reduceAdd, Nat.reduceMul, Nat.reduceSub, Nat.reduceLeDiff, Nat.reduceLT, Int.reduceMul, Int.reduceAdd, Int.reduceSub, List.map_cons, List.map_nil, Option.map_some, Option.map_none, Option.elim_some, if_true, if_false, List.append_nil, List.nil_append, bvq, rEq, List.cons_append, Int.reduceToNat, List.getElem?_cons_zero, List.getElem?_cons_succ, TD.agg, List.drop_succ_cons, List.drop_zero, List.take_succ_cons, List.take_zero, List.take_nil, List.drop_nil, List.getD_cons_zero, List.getD_cons_succ, splice, zgz, zha, Option.isSome_some, Option.isSome_none, List.getElem?_nil, zhb, zhc, rLen, rBin, rInt, rStr, rUn, zhd, zhe, zhf, zhg, zhh, rBox, zhi, zhj, zhk, zhl, zhm, zhn, zho, zhp, zhq, zhr, zhs, zht, zhu, zhv, zhw, zhx, zhy, zhz, zia, bound, addL, addT, grow, room, List.length_cons, List.length_nil, List.length_map, frOf, ti_int, ti_value, ti_u64, ti_Number, ti_words, ti_bool, ti_ints, ti_Int, ti_uint, ti_bytes, ti_u8, ti_string, ti_bits, ti_strs, ti_xTok, ti_fTok, ti_xToks, ti_fToks, ti_errno, ti_codes, ↓blp, blq, Int.toNat_natCast, sAV_length, hLl, hg5, p_xScan, p_fScan, scanAV]
      generalize scanned t = sc at *
      simp only [↓bwp, bwq, List.tail_nil, List.tail_cons, List.headD_nil, List.headD_cons, ne_eq, reduceCtorEq, Nat.reduceEqDiff, Nat.reduceAdd, Nat.reduceMul, Nat.reduceSub, Nat.reduceLeDiff, Nat.reduceLT, Int.reduceMul, Int.reduceAdd, Int.reduceSub, List.map_cons, List.map_nil, Option.map_some, Option.map_none, Option.elim_some, if_true, if_false, List.append_nil, List.nil_append, bvq, rEq, List.cons_append, Int.reduceToNat, List.getElem?_cons_zero, List.getElem?_cons_succ, TD.agg, List.drop_succ_cons, List.drop_zero, List.take_succ_cons, List.take_zero, List.take_nil, List.drop_nil, List.getD_cons_zero, List.getD_cons_succ, splice, zgz, zha, Option.isSome_some, Option.isSome_none, List.getElem?_nil, zhb, zhc, rLen, rBin, rInt, rStr, rUn, zhd, zhe, zhf, zhg, zhh, rBox, zhi, zhj, zhk, zhl, zhm, zhn, zho, zhp, zhq, zhr, zhs, zht, zhu, zhv, zhw, zhx, zhy, zhz, zia, bound, addL, addT, grow, room, List.length_cons, List.length_nil, List.length_map, frOf, ti_int, ti_value, ti_u64, ti_Number, ti_words, ti_bool, ti_ints, ti_Int, ti_uint, ti_bytes, ti_u8, ti_string, ti_bits, ti_strs, ti_xTok, ti_fTok, ti_xToks, ti_fToks, ti_errno, ti_codes, ↓blp, blq, p_same]
      refine ⟨by omega, by omega, by omega, both_ff (by simp) (both_ff (by simp) ⟨sc.1, ⟨rfl, rfl, by omega⟩, k + 1, by omega, by omega, ?_⟩)⟩
      rw [e5]
      (simp only [bkq, enterW, subW, ltF, ne_eq, Nat.reduceEqDiff, reduceCtorEq, sAV_lt]; try simp (disch := first | assumption | omega | (simp; done) | (simp; omega) | (simp only [bt, and_true]; first | done | omega | (simp; done))) [↓zkr, beq, List.take_of_length_le, List.drop_append, List.take_append, endOk, wk, wk2, wk1, wkM, wkL, wkLL, List.drop_eq_nil_of_le, byq, biq, isDs_ints, hcl, sAV_lt]; try (repeat' (first | assumption | omega | exact True.intro | refine And.intro ?_ ?_ | refine closed_buf ?_ | refine closed_set_buf ?_ | refine closed_cells ?_ ?_ | refine closed_set ?_ ?_ | refine closed_del ?_ | exact AHeap.Le.refl _ | refine AHeap.Le.push ?_ _ | refine AHeap.Le.del ?_ ?_ | (simp only [bt, and_true, true_and, sAV_lt]; first | done | omega | (simp; done)))))
    · have hk5 : k = 4 := by simp at h5; omega
      simp only [↓bwp, bwq, List.tail_nil, List.tail_cons, List.headD_nil, List.headD_cons, ne_eq, reduceCtorEq, Nat.reduceEqDiff, Nat.reduceAdd, Nat.reduceMul, Nat.reduceSub, Nat.reduceLeDiff, Nat.reduceLT, Int.reduceMul, Int.reduceAdd, Int.reduceSub, List.map_cons, List.map_nil, Option.map_some, Option.map_none, Option.elim_some, if_true, if_false, List.append_nil, List.nil_append, bvq, rEq, List.cons_append, Int.reduceToNat, List.getElem?_cons_zero, List.getElem?_cons_succ, TD.agg, List.drop_succ_cons, List.drop_zero, List.take_succ_cons, List.take_zero, List.take_nil, List.drop_nil, List.getD_cons_zero, List.getD_cons_succ, splice, zgz, zha, Option.isSome_some, Option.isSome_none, List.getElem?_nil, zhb, zhc, rLen, rBin, rInt, rStr, rUn, zhd, zhe, zhf, zhg, zhh, rBox, zhi, zhj, zhk, zhl, zhm, zhn, zho, zhp, zhq, zhr, zhs, zht, zhu, zhv, zhw, zhx, zhy, zhz, zia, bound, addL, addT, grow, room, List.length_cons, List.length_nil, List.length_map, frOf, ti_int, ti_value, ti_u64, ti_Number, ti_words, ti_bool, ti_ints, ti_Int, ti_uint, ti_bytes, ti_u8, ti_string, ti_bits, ti_strs, ti_xTok, ti_fTok, ti_xToks, ti_fToks, ti_errno, ti_codes, ↓blp, blq, p_begun06]
      simp (disch := first | assumption | omega | (simp; done) | (simp; omega) | (simp only [bt, and_true]; first | done | omega | (simp; done))) [↓zkr, beq, List.take_of_length_le, List.drop_append, List.take_append, endOk, wk, wk2, wk1, wkM, wkL, wkLL, List.drop_eq_nil_of_le, hcl]
end Go.AL
