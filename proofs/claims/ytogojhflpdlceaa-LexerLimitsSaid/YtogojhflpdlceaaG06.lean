/- Contracts and plain laws, a part of the proof; no condition of its own. -/
import Derived.Test.YtogojhflpdlceaaF06
open Go Go.AL Go.Proofs
namespace Go.AL
set_option linter.all false
set_option maxRecDepth 10000
theorem sym_par (r : List UInt8) : symOf (40 :: r) = [40] := by
  simp [symOf, symL, syms, hasP]
theorem tok_par (r : List UInt8) : tok1 (40 :: r) = some (3, [40]) :=
  tok1_sym (by unfold wordOf; rw [List.takeWhile_cons_of_neg (by decide)]) (sym_par r) (by simp)
theorem rest_par (n : Nat) : ∀ (d k : Nat), n = k + d → (rest (List.replicate n 40) k).1.length = d ∧ (rest (List.replicate n 40) k).2 = none
  | 0, k, h => by rw [rest_end (by simp; omega)]; exact ⟨rfl, rfl⟩
  | d + 1, k, h => by
    have hk : k < (List.replicate n (40 : UInt8)).length := by simp; omega
    have hd : (List.replicate n (40 : UInt8)).drop k = 40 :: List.replicate d 40 := by
      rw [List.drop_replicate, show n - k = d + 1 by omega, List.replicate_succ]
    obtain ⟨h1, h2⟩ := rest_par n d (k + 1) (by omega)
    rw [rest_tok hk (by simp) (by rw [hd]; exact tok_par _)]
    exact ⟨by simp only [List.length_cons, List.length_nil]; rw [h1], h2⟩
theorem scan_par {n : Nat} (h : n ≤ 400) : ∃ l, scanned (List.replicate n 40) = (l, 0, 0) ∧ l.length = n := by
  obtain ⟨h1, h2⟩ := rest_par n n 0 (by omega)
  exact ⟨_, scan_none (by simp; omega) (Prod.ext rfl h2), h1⟩
def p_LexerLimits : List AV → AHeap → (AV → Prop) → Prop
  | [.int .i64 n], _, K => (-9223372036854775808 ≤ n ∧ n < 9223372036854775808) ∧ K (.bool true)
  | _, _, _ => False
set_option maxHeartbeats 4000000 in
theorem ok_LexerLimits : EntOk Try.prog 5 (Ent.pure p_LexerLimits) := by
  refine EntOk.pure fun args H K h => ?_
  unfold p_LexerLimits at h
  split at h
  rotate_left
  · exact h.elim
  rename_i n
  obtain ⟨⟨hn1, hn2⟩, hK⟩ := h
  refine ⟨_, hK, ?_⟩
  clear hK
  refine ACalls.of_aw (Ω := [(14, Ent.pure p_Mod), (15, Ent.pure p_xScan), (18, Ent.pure p_begun06)]) (T := assoc []) mixed (TblOk.cons ok_Mod (TblOk.cons ok_xScan (TblOk.cons ok_begun06 TblOk.nil))) Try.func5 (by kernel_rfl) (by rfl) (rs := [.tmp 2]) (by rfl) (by kernel_rfl) (by simp only [Try.ntmps5, List.length_cons, List.length_nil]; decide) (Nat.le_refl _) fun hcl hlt => ?_
  change aw _ _ _ (KI Try.prog [(14, Ent.pure p_Mod), (15, Ent.pure p_xScan), (18, Ent.pure p_begun06)] (aEnd Try.prog [.tmp 2] H.nx _ _) []) _ _
  clear hlt
  simp only [↓bwp, bwq, List.tail_nil, List.tail_cons, List.headD_nil, List.headD_cons, ne_eq, reduceCtorEq, Nat.reduceEqDiff, Nat.reduceAdd, Nat.reduceMul, Nat.reduceSub, Nat.reduceLeDiff, Nat.reduceLT, Int.reduceMul, Int.reduceAdd, Int.reduceSub, List.map_cons, List.map_nil, Option.map_some, Option.map_none, Option.elim_some, if_true, if_false, List.append_nil, List.nil_append, bvq, rEq, List.cons_append, Int.reduceToNat, List.getElem?_cons_zero, List.getElem?_cons_succ, TD.agg, List.drop_succ_cons, List.drop_zero, List.take_succ_cons, List.take_zero, List.take_nil, List.drop_nil, List.getD_cons_zero, List.getD_cons_succ, splice, zgz, zha, Option.isSome_some, Option.isSome_none, List.getElem?_nil, zhb, zhc, rLen, rBin, rInt, rStr, rUn, zhd, zhe, zhf, zhg, zhh, rBox, zhi, zhj, zhk, zhl, zhm, zhn, zho, zhp, zhq, zhr, zhs, zht, zhu, zhv, zhw, zhx, zhy, zhz, zia, bound, addL, addT, grow, room, List.length_cons, List.length_nil, List.length_map, frOf, ti_int, ti_value, ti_u64, ti_Number, ti_words, ti_bool, ti_ints, ti_Int, ti_uint, ti_bytes, ti_u8, ti_string, ti_bits, ti_strs, ti_xTok, ti_fTok, ti_xToks, ti_fToks, ti_errno, ti_codes, ↓blp, blq]
  obtain ⟨r, hr, hr3⟩ : ∃ r : Nat, (n.tmod 3 + 3).tmod 3 = (r : Int) ∧ r < 3 := by
    obtain ⟨h1, h2⟩ := @mod_lt n 3 (by omega)
    exact ⟨((n.tmod 3 + 3).tmod 3).toNat, by omega, by omega⟩
  refine loop_introW (A := Nat) (fun k => [(0, .int .i64 n), (3, .str (List.replicate k 40)), (4, .int .i64 (k : Int))]) (fun k => H) (fun k => k ≤ 399 + r) (fun k => 399 + r - k) 0 (by omega) ?_ fun k hk => ?_
  · (simp only [bkq, enterW, subW, ltF, ne_eq, Nat.reduceEqDiff, reduceCtorEq, List.replicate_zero]; try simp (disch := first | assumption | omega | (simp; done) | (simp; omega) | (simp only [bt, and_true]; first | done | omega | (simp; done))) [↓zkr, beq, List.take_of_length_le, List.drop_append, List.take_append, endOk, wk, wk2, wk1, wkM, wkL, wkLL, List.drop_eq_nil_of_le, byq, biq, isDs_ints, hcl, List.replicate_zero]; try (repeat' (first | assumption | omega | exact True.intro | refine And.intro ?_ ?_ | refine closed_buf ?_ | refine closed_set_buf ?_ | refine closed_cells ?_ ?_ | refine closed_set ?_ ?_ | refine closed_del ?_ | exact AHeap.Le.refl _ | refine AHeap.Le.push ?_ _ | refine AHeap.Le.del ?_ ?_ | (simp only [bt, and_true, true_and, List.replicate_zero]; first | done | omega | (simp; done)))))
  have e1 : IntKind.i64.wrap (399 + (r : Int)) = ((399 + r : Nat) : Int) := by rw [wrap_i64] <;> omega
  simp only [↓bwp, bwq, List.tail_nil, List.tail_cons, List.headD_nil, List.headD_cons, ne_eq, reduceCtorEq, Nat.reduceEqDiff, Nat.reduceAdd, Nat.reduceMul, Nat.reduceSub, Nat.reduceLeDiff, Nat.reduceLT, Int.reduceMul, Int.reduceAdd, Int.reduceSub, List.map_cons, List.map_nil, Option.map_some, Option.map_none, Option.elim_some, if_true, if_false, List.append_nil, List.nil_append, bvq, rEq, List.cons_append, Int.reduceToNat, List.getElem?_cons_zero, List.getElem?_cons_succ, TD.agg, List.drop_succ_cons, List.drop_zero, List.take_succ_cons, List.take_zero, List.take_nil, List.drop_nil, List.getD_cons_zero, List.getD_cons_succ, splice, zgz, zha, Option.isSome_some, Option.isSome_none, List.getElem?_nil, zhb, zhc, rLen, rBin, rInt, rStr, rUn, zhd, zhe, zhf, zhg, zhh, rBox, zhi, zhj, zhk, zhl, zhm, zhn, zho, zhp, zhq, zhr, zhs, zht, zhu, zhv, zhw, zhx, zhy, zhz, zia, bound, addL, addT, grow, room, List.length_cons, List.length_nil, List.length_map, frOf, ti_int, ti_value, ti_u64, ti_Number, ti_words, ti_bool, ti_ints, ti_Int, ti_uint, ti_bytes, ti_u8, ti_string, ti_bits, ti_strs, ti_xTok, ti_fTok, ti_xToks, ti_fToks, ti_errno, ti_codes, ↓blp, blq, p_Mod, hr, e1]
  refine ⟨by omega, cond_split (fun h1 => ?_) (fun h1 => ?_)⟩
  · have hk1 : k < 399 + r := by simp at h1; omega
    have e5 : IntKind.i64.wrap ((k : Int) + 1) = ((k + 1 : Nat) : Int) := by rw [wrap_i64] <;> omega
    have hms : maxStr = 9223372036854775807 := rfl
    have er : List.replicate k (40 : UInt8) ++ [40] = List.replicate (k + 1) 40 := by rw [List.replicate_succ']
    simp only [↓bwp, bwq, List.tail_nil, List.tail_cons, List.headD_nil, List.headD_cons, ne_eq, reduceCtorEq, Nat.reduceEqDiff, Nat.reduceAdd, Nat.reduceMul, Nat.reduceSub, Nat.reduceLeDiff, Nat.reduceLT, Int.reduceMul, Int.reduceAdd, Int.reduceSub, List.map_cons, List.map_nil, Option.map_some, Option.map_none, Option.elim_some, if_true, if_false, List.append_nil, List.nil_append, bvq, rEq, List.cons_append, Int.reduceToNat, List.getElem?_cons_zero, List.getElem?_cons_succ, TD.agg, List.drop_succ_cons, List.drop_zero, List.take_succ_cons, List.take_zero, List.take_nil, List.drop_nil, List.getD_cons_zero, List.getD_cons_succ, splice, zgz, zha, Option.isSome_some, Option.isSome_none, List.getElem?_nil, zhb, zhc, rLen, rBin, rInt, rStr, rUn, zhd, zhe, zhf, zhg, zhh, rBox, zhi, zhj, zhk, zhl, zhm, zhn, zho, zhp, zhq, zhr, zhs, zht, zhu, zhv, zhw, zhx, zhy, zhz, zia, bound, addL, addT, grow, room, List.length_cons, List.length_nil, List.length_map, frOf, ti_int, ti_value, ti_u64, ti_Number, ti_words, ti_bool, ti_ints, ti_Int, ti_uint, ti_bytes, ti_u8, ti_string, ti_bits, ti_strs, ti_xTok, ti_fTok, ti_xToks, ti_fToks, ti_errno, ti_codes, ↓blp, blq, e5, er, List.length_replicate]
    refine ⟨by rw [hms]; omega, k + 1, by omega, by omega, ?_⟩
    (simp only [bkq, enterW, subW, ltF, ne_eq, Nat.reduceEqDiff, reduceCtorEq]; try simp (disch := first | assumption | omega | (simp; done) | (simp; omega) | (simp only [bt, and_true]; first | done | omega | (simp; done))) [↓zkr, beq, List.take_of_length_le, List.drop_append, List.take_append, endOk, wk, wk2, wk1, wkM, wkL, wkLL, List.drop_eq_nil_of_le, byq, biq, isDs_ints, hcl]; try (repeat' (first | assumption | omega | exact True.intro | refine And.intro ?_ ?_ | refine closed_buf ?_ | refine closed_set_buf ?_ | refine closed_cells ?_ ?_ | refine closed_set ?_ ?_ | refine closed_del ?_ | exact AHeap.Le.refl _ | refine AHeap.Le.push ?_ _ | refine AHeap.Le.del ?_ ?_ | (simp only [bt, and_true, true_and]; first | done | omega | (simp; done)))))
  have hk1 : k = 399 + r := by simp at h1; omega
  simp only [↓bwp, bwq, List.tail_nil, List.tail_cons, List.headD_nil, List.headD_cons, ne_eq, reduceCtorEq, Nat.reduceEqDiff, Nat.reduceAdd, Nat.reduceMul, Nat.reduceSub, Nat.reduceLeDiff, Nat.reduceLT, Int.reduceMul, Int.reduceAdd, Int.reduceSub, List.map_cons, List.map_nil, Option.map_some, Option.map_none, Option.elim_some, if_true, if_false, List.append_nil, List.nil_append, bvq, rEq, List.cons_append, Int.reduceToNat, List.getElem?_cons_zero, List.getElem?_cons_succ, TD.agg, List.drop_succ_cons, List.drop_zero, List.take_succ_cons, List.take_zero, List.take_nil, List.drop_nil, List.getD_cons_zero, List.getD_cons_succ, splice, zgz, zha, Option.isSome_some, Option.isSome_none, List.getElem?_nil, zhb, zhc, rLen, rBin, rInt, rStr, rUn, zhd, zhe, zhf, zhg, zhh, rBox, zhi, zhj, zhk, zhl, zhm, zhn, zho, zhp, zhq, zhr, zhs, zht, zhu, zhv, zhw, zhx, zhy, zhz, zia, bound, addL, addT, grow, room, List.length_cons, List.length_nil, List.length_map, frOf, ti_int, ti_value, ti_u64, ti_Number, ti_words, ti_bool, ti_ints, ti_Int, ti_uint, ti_bytes, ti_u8, ti_string, ti_bits, ti_strs, ti_xTok, ti_fTok, ti_xToks, ti_fToks, ti_errno, ti_codes, ↓blp, blq, p_xScan, scanAV, List.length_replicate]
  refine ⟨by omega, cond_split (fun h2 => ?_) (fun h2 => ?_)⟩
  · have hs : scanned (List.replicate k 40) = ([], 0, 3) := by unfold scanned; rw [if_pos (by simp at h2 ⊢; omega)]
    simp only [↓bwp, bwq, List.tail_nil, List.tail_cons, List.headD_nil, List.headD_cons, ne_eq, reduceCtorEq, Nat.reduceEqDiff, Nat.reduceAdd, Nat.reduceMul, Nat.reduceSub, Nat.reduceLeDiff, Nat.reduceLT, Int.reduceMul, Int.reduceAdd, Int.reduceSub, List.map_cons, List.map_nil, Option.map_some, Option.map_none, Option.elim_some, if_true, if_false, List.append_nil, List.nil_append, bvq, rEq, List.cons_append, Int.reduceToNat, List.getElem?_cons_zero, List.getElem?_cons_succ, TD.agg, List.drop_succ_cons, List.drop_zero, List.take_succ_cons, List.take_zero, List.take_nil, List.drop_nil, List.getD_cons_zero, List.getD_cons_succ, splice, zgz, zha, Option.isSome_some, Option.isSome_none, List.getElem?_nil, zhb, zhc, rLen, rBin, rInt, rStr, rUn, zhd, zhe, zhf, zhg, zhh, rBox, zhi, zhj, zhk, zhl, zhm, zhn, zho, zhp, zhq, zhr, zhs, zht, zhu, zhv, zhw, zhx, zhy, zhz, zia, bound, addL, addT, grow, room, List.length_cons, List.length_nil, List.length_map, frOf, ti_int, ti_value, ti_u64, ti_Number, ti_words, ti_bool, ti_ints, ti_Int, ti_uint, ti_bytes, ti_u8, ti_string, ti_bits, ti_strs, ti_xTok, ti_fTok, ti_xToks, ti_fToks, ti_errno, ti_codes, ↓blp, blq, hs, p_begun06, toks_nil]
    refine both_tt rfl (both_tt rfl ?_)
    simp (disch := first | assumption | omega | (simp; done) | (simp; omega) | (simp only [bt, and_true]; first | done | omega | (simp; done))) [↓zkr, beq, List.take_of_length_le, List.drop_append, List.take_append, endOk, wk, wk2, wk1, wkM, wkL, wkLL, List.drop_eq_nil_of_le, hcl]
  · obtain ⟨l, hs, hl⟩ := scan_par (n := k) (by simp at h2; omega)
    simp only [↓bwp, bwq, List.tail_nil, List.tail_cons, List.headD_nil, List.headD_cons, ne_eq, reduceCtorEq, Nat.reduceEqDiff, Nat.reduceAdd, Nat.reduceMul, Nat.reduceSub, Nat.reduceLeDiff, Nat.reduceLT, Int.reduceMul, Int.reduceAdd, Int.reduceSub, List.map_cons, List.map_nil, Option.map_some, Option.map_none, Option.elim_some, if_true, if_false, List.append_nil, List.nil_append, bvq, rEq, List.cons_append, Int.reduceToNat, List.getElem?_cons_zero, List.getElem?_cons_succ, TD.agg, List.drop_succ_cons, List.drop_zero, List.take_succ_cons, List.take_zero, List.take_nil, List.drop_nil, List.getD_cons_zero, List.getD_cons_succ, splice, zgz, zha, Option.isSome_some, Option.isSome_none, List.getElem?_nil, zhb, zhc, rLen, rBin, rInt, rStr, rUn, zhd, zhe, zhf, zhg, zhh, rBox, zhi, zhj, zhk, zhl, zhm, zhn, zho, zhp, zhq, zhr, zhs, zht, zhu, zhv, zhw, zhx, zhy, zhz, zia, bound, addL, addT, grow, room, List.length_cons, List.length_nil, List.length_map, frOf, ti_int, ti_value, ti_u64, ti_Number, ti_words, ti_bool, ti_ints, ti_Int, ti_uint, ti_bytes, ti_u8, ti_string, ti_bits, ti_strs, ti_xTok, ti_fTok, ti_xToks, ti_fToks, ti_errno, ti_codes, ↓blp, blq, hs, p_begun06, toks_length, hl]
    refine both_tt rfl (both_tt (by simp) ?_)
    simp (disch := first | assumption | omega | (simp; done) | (simp; omega) | (simp only [bt, and_true]; first | done | omega | (simp; done))) [↓zkr, beq, List.take_of_length_le, List.drop_append, List.take_append, endOk, wk, wk2, wk1, wkM, wkL, wkLL, List.drop_eq_nil_of_le, hcl]
end Go.AL
