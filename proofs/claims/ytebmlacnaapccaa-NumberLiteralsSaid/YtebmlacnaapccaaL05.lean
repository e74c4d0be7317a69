/- Contracts and plain laws, a part of the proof; no condition of its own. -/
import Derived.Test.YtebmlacnaapccaaR05c
open Go Go.AL Go.Proofs
namespace Go.AL
set_option linter.all false
set_option maxRecDepth 10000
theorem ti_vals : ti Try.prog 22 = some ⟨.slice 44, 1, 24, .slice .nil 1 []⟩ := by kernel_rfl
theorem ti_bools : ti Try.prog 23 = some ⟨.slice 4, 1, 24, .slice .nil 1 []⟩ := by kernel_rfl
def isVal (x : AV) : Prop := ∃ hi lo, x = .agg [.int .u64 hi, .int .u64 lo] ∧ isV hi lo
def valZ : AV → Int
  | .agg [.int _ hi, .int _ lo] => hi * 2 ^ 64 + lo
  | _ => 0
def isBool (x : AV) : Prop := ∃ b, x = .bool b
def sgnB : AV → Bool
  | .bool b => b
  | _ => false
/-- the sum of the first k values with their signs -/
def sumZ (l s : List AV) : Nat → Int
  | 0 => 0
  | k + 1 => if sgnB (s.getD k .junk) then sumZ l s k - valZ (l.getD k .junk) else sumZ l s k + valZ (l.getD k .junk)
theorem valZ_le {x : AV} (h : isVal x) : 0 ≤ valZ x ∧ valZ x < 2 ^ 128 := by
  obtain ⟨hi, lo, rfl, h1, h2, h3, h4⟩ := h
  simp only [valZ]; omega
theorem sumZ_le {l s : List AV} (hl : ∀ x ∈ l, isVal x) : ∀ k, k ≤ l.length → -(k * 2 ^ 128) ≤ sumZ l s k ∧ sumZ l s k ≤ k * 2 ^ 128
  | 0, _ => by simp [sumZ]
  | k + 1, h => by
    have ih := sumZ_le hl (s := s) k (by omega)
    have hv := valZ_le (hl (l.getD k .junk) (by rw [List.getD_eq_getElem?_getD, List.getElem?_eq_getElem (by omega)]; exact List.getElem_mem _))
    simp only [sumZ]
    split <;> omega
def isVals (l : List AV) : Prop := ∀ x ∈ l, isVal x
def isBools (l : List AV) : Prop := ∀ x ∈ l, isBool x
theorem lt_slice {n sz : Nat} {l : List AV} (h : ∀ x ∈ l, AV.lt n x) : AV.lt n (.slice .any sz l) := by
  rw [AV.lt]
  exact ⟨fun id e => (by cases e), fun j hj => h _ (List.getElem_mem hj)⟩
theorem lt_vals {n : Nat} {l : List AV} (h : isVals l) : AV.lt n (.slice .any 2 l) := lt_slice fun x hx => by
  obtain ⟨hi, lo, rfl, _⟩ := h x hx
  simp only [zli, zll, zlm, zkw, and_true]
theorem lt_bools {n : Nat} {l : List AV} (h : isBools l) : AV.lt n (.slice .any 1 l) := lt_slice fun x hx => by
  obtain ⟨b, rfl⟩ := h x hx
  simp only [zkx]
def p_sum : List AV → AHeap → (AV → Prop) → Prop
  | [.slice _ 2 l, .slice _ 1 s], _, K => (isVals l ∧ isBools s) ∧ K (.tup [nAV (sumZ l s (min l.length 20)), zAV (sumZ l s (min l.length 20))])
  | _, _, _ => False
set_option maxHeartbeats 2000000 in
theorem ok_sum : EntOk Try.prog 8 (Ent.pure p_sum) := by
  refine EntOk.pure fun args H K h => ?_
  unfold p_sum at h
  split at h
  rotate_left
  · exact h.elim
  rename_i m1 l m2 s
  obtain ⟨⟨hl, hs⟩, hK⟩ := h
  refine ⟨_, hK, ?_⟩
  clear hK
  refine ACalls.of_aw (Ω := [(13, Ent.pure p_NOf), (14, Ent.pure p_rOf), (21, Ent.pure p_NFrom), (22, Ent.pure p_NSub), (15, Ent.pure p_NAdd), (20, Ent.pure p_rFrom), (27, Ent.pure p_rSub), (16, Ent.pure p_rAdd)]) (T := assoc [(6, [[], [], [1], [0, 1, 2], [], [], [0, 1, 2, 3, 5], [0, 1, 2, 3, 4, 5, 6], [0, 1, 2, 3, 4, 5, 6, 7], [0, 1, 2, 3, 4, 5, 6, 7]]), (7, [[], [], [1], [0, 1, 2], [], [], [0, 1, 2, 3, 5], [0, 1, 2, 3, 4, 5, 6], [0, 1, 2, 3, 4, 5, 6, 7], [0, 1, 2, 3, 4, 5, 6, 7]]), (9, [[], [], [0], [0, 1]])]) mixed (TblOk.cons ok_NOf (TblOk.cons ok_rOf (TblOk.cons ok_NFrom (TblOk.cons ok_NSub (TblOk.cons ok_NAdd (TblOk.cons ok_rFrom (TblOk.cons ok_rSub (TblOk.cons ok_rAdd TblOk.nil)))))))) Try.func8 (by kernel_rfl) (by rfl) (rs := [.cell 4 27,.cell 5 30]) (by rfl) (by kernel_rfl) (by simp only [Try.ntmps8, List.length_cons, List.length_nil]; decide) (Nat.le_refl _) fun hcl hlt => ?_
  change aw _ _ _ (KI Try.prog [(13, Ent.pure p_NOf), (14, Ent.pure p_rOf), (21, Ent.pure p_NFrom), (22, Ent.pure p_NSub), (15, Ent.pure p_NAdd), (20, Ent.pure p_rFrom), (27, Ent.pure p_rSub), (16, Ent.pure p_rAdd)] (aEnd Try.prog [.cell 4 27,.cell 5 30] H.nx _ _ (assoc [(6, [[], [], [1], [0, 1, 2], [], [], [0, 1, 2, 3, 5], [0, 1, 2, 3, 4, 5, 6], [0, 1, 2, 3, 4, 5, 6, 7], [0, 1, 2, 3, 4, 5, 6, 7]]), (7, [[], [], [1], [0, 1, 2], [], [], [0, 1, 2, 3, 5], [0, 1, 2, 3, 4, 5, 6], [0, 1, 2, 3, 4, 5, 6, 7], [0, 1, 2, 3, 4, 5, 6, 7]]), (9, [[], [], [0], [0, 1]])])) []) _ _
  clear hlt
  have e20 : min (l.length : Int) 20 = ((min l.length 20 : Nat) : Int) := by omega
  generalize hn : min l.length 20 = n at *
  have hn2 : n ≤ l.length ∧ n ≤ 20 := by omega
  have hlt : (List.take n l).length = n := by rw [List.length_take]; omega
  simp only [↓bwp, bwq, List.tail_nil, List.tail_cons, List.headD_nil, List.headD_cons, ne_eq, reduceCtorEq, Nat.reduceEqDiff, Nat.reduceAdd, Nat.reduceMul, Nat.reduceSub, Nat.reduceLeDiff, Nat.reduceLT, Int.reduceMul, Int.reduceAdd, Int.reduceSub, List.map_cons, List.map_nil, Option.map_some, Option.map_none, Option.elim_some, if_true, if_false, List.append_nil, List.nil_append, bvq, rEq, List.cons_append, Int.reduceToNat, List.getElem?_cons_zero, List.getElem?_cons_succ, TD.agg, List.drop_succ_cons, List.drop_zero, List.take_succ_cons, List.take_zero, List.take_nil, List.drop_nil, List.getD_cons_zero, List.getD_cons_succ, splice, zgu, zgv, Option.isSome_some, Option.isSome_none, List.getElem?_nil, zgw, zgx, rLen, rBin, rInt, rStr, rUn, zgy, zgz, zha, zhb, zhc, rBox, zhd, zhe, zhf, zhg, zhh, zhi, zhj, zhk, zhl, zhm, zhn, zho, zhp, zhq, zhr, zhs, zht, zhu, zhv, bound, addL, addT, grow, room, List.length_cons, List.length_nil, List.length_map, frOf, ti_int, ti_value, ti_u64, ti_Number, ti_words, ti_bool, ti_ints, ti_Int, ti_uint, ti_bytes, ti_u8, ti_string, ti_bits, ti_vals, ti_bools, ↓blp, blq, biq, isDs_ints, p_NOf, p_rOf, zAV_0, nAV, e20, List.drop_zero, hlt]
  refine ⟨by omega, by omega, by omega, ?_⟩
  have lv : ∀ m, AV.lt m (.slice .any 2 (l.take n)) := fun m => lt_vals fun x hx => hl x (List.mem_of_mem_take hx)
  have ls : ∀ m, AV.lt m (.slice .any 1 s) := fun m => lt_bools hs
  refine loop_introW (A := Nat) (fun k => [(18, .int .i64 (k : Int)), (17, .int .i64 (n : Int)), (16, .slice .any 2 (l.take n)), (7, .ptr (H.nx + 1 + 1 + 1) 0), (6, .ptr (H.nx + 1 + 1) 0), (5, .ptr (H.nx + 1) 0), (4, .ptr H.nx 0), (1, .slice .any 1 s)])
    (fun k => ((((H.push (.cells [.int .u64 0, .int .u64 0, .int .u64 0])).push (.cells [.bool false, .slice .nil 1 []])).push (.cells [.int .u64 (w0 (sumZ l s k)), .int .u64 (w1 (sumZ l s k)), .int .u64 (w2 (sumZ l s k))])).push (.cells [.bool (decide (sumZ l s k < 0)), .slice .any 1 (ints (digs (sumZ l s k).natAbs))])))
    (fun k => k ≤ n) (fun k => n - k) 0 (by omega) ?_ fun k hk => ?_
  · (simp only [bkq, enterW, subW, ltF, ne_eq, Nat.reduceEqDiff, reduceCtorEq, sumZ, digs_zero, Int.natAbs_zero, lv, ls]; try simp (disch := first | assumption | omega | (simp; done) | (simp; omega) | (simp only [bt, and_true]; first | done | omega | (simp; done))) [↓zkf, beq, List.take_of_length_le, List.drop_append, List.take_append, endOk, wk, wk2, wk1, wkM, wkL, wkLL, List.drop_eq_nil_of_le, byq, biq, isDs_ints, hcl, sumZ, digs_zero, Int.natAbs_zero, lv, ls]; try (repeat' (first | assumption | omega | exact True.intro | refine And.intro ?_ ?_ | refine closed_buf ?_ | refine closed_set_buf ?_ | refine closed_cells ?_ ?_ | refine closed_set ?_ ?_ | refine closed_del ?_ | exact AHeap.Le.refl _ | refine AHeap.Le.push ?_ _ | refine AHeap.Le.del ?_ ?_ | (simp only [bt, and_true, true_and, sumZ, digs_zero, Int.natAbs_zero, lv, ls]; first | done | omega | (simp; done)))))
  have hb := sumZ_le hl (s := s) k (by omega)
  have hsm : small (sumZ l s k) := small_of 45 (by omega) (by decide)
  have hzf : AV.agg [.bool (decide (sumZ l s k < 0)), .slice .any 1 (ints (digs (sumZ l s k).natAbs))] = zAV (sumZ l s k) := rfl
  have hnf : AV.agg [.int .u64 (w0 (sumZ l s k)), .int .u64 (w1 (sumZ l s k)), .int .u64 (w2 (sumZ l s k))] = nAV (sumZ l s k) := rfl
  simp only [↓bwp, bwq, List.tail_nil, List.tail_cons, List.headD_nil, List.headD_cons, ne_eq, reduceCtorEq, Nat.reduceEqDiff, Nat.reduceAdd, Nat.reduceMul, Nat.reduceSub, Nat.reduceLeDiff, Nat.reduceLT, Int.reduceMul, Int.reduceAdd, Int.reduceSub, List.map_cons, List.map_nil, Option.map_some, Option.map_none, Option.elim_some, if_true, if_false, List.append_nil, List.nil_append, bvq, rEq, List.cons_append, Int.reduceToNat, List.getElem?_cons_zero, List.getElem?_cons_succ, TD.agg, List.drop_succ_cons, List.drop_zero, List.take_succ_cons, List.take_zero, List.take_nil, List.drop_nil, List.getD_cons_zero, List.getD_cons_succ, splice, zgu, zgv, Option.isSome_some, Option.isSome_none, List.getElem?_nil, zgw, zgx, rLen, rBin, rInt, rStr, rUn, zgy, zgz, zha, zhb, zhc, rBox, zhd, zhe, zhf, zhg, zhh, zhi, zhj, zhk, zhl, zhm, zhn, zho, zhp, zhq, zhr, zhs, zht, zhu, zhv, bound, addL, addT, grow, room, List.length_cons, List.length_nil, List.length_map, frOf, ti_int, ti_value, ti_u64, ti_Number, ti_words, ti_bool, ti_ints, ti_Int, ti_uint, ti_bytes, ti_u8, ti_string, ti_bits, ti_vals, ti_bools, ↓blp, blq, biq, isDs_ints]
  refine cond_split (fun h2 => ?_) (fun h2 => ?_)
  · have h2' : k < n := by simpa using h2
    have hx : isVal (l.getD k .junk) := hl _ (by rw [List.getD_eq_getElem?_getD, List.getElem?_eq_getElem (by omega)]; exact List.getElem_mem _)
    have hvb := valZ_le hx
    have hgt : (l.take n).getD k .junk = l.getD k .junk := by simp [List.getD_eq_getElem?_getD, h2']
    obtain ⟨hi, lo, ex, hv⟩ := hx
    have ev : valZ (l.getD k .junk) = hi * 2 ^ 64 + lo := by rw [ex]; rfl
    have e5 : IntKind.i64.wrap ((k : Int) + 1) = ((k + 1 : Nat) : Int) := by rw [wrap_i64] <;> omega
    obtain ⟨v0, v1, v2, v3⟩ := hv
    have hsv : small (hi * 2 ^ 64 + lo) := small_of 45 (by omega) (by decide)
    simp only [↓bwp, bwq, List.tail_nil, List.tail_cons, List.headD_nil, List.headD_cons, ne_eq, reduceCtorEq, Nat.reduceEqDiff, Nat.reduceAdd, Nat.reduceMul, Nat.reduceSub, Nat.reduceLeDiff, Nat.reduceLT, Int.reduceMul, Int.reduceAdd, Int.reduceSub, List.map_cons, List.map_nil, Option.map_some, Option.map_none, Option.elim_some, if_true, if_false, List.append_nil, List.nil_append, bvq, rEq, List.cons_append, Int.reduceToNat, List.getElem?_cons_zero, List.getElem?_cons_succ, TD.agg, List.drop_succ_cons, List.drop_zero, List.take_succ_cons, List.take_zero, List.take_nil, List.drop_nil, List.getD_cons_zero, List.getD_cons_succ, splice, zgu, zgv, Option.isSome_some, Option.isSome_none, List.getElem?_nil, zgw, zgx, rLen, rBin, rInt, rStr, rUn, zgy, zgz, zha, zhb, zhc, rBox, zhd, zhe, zhf, zhg, zhh, zhi, zhj, zhk, zhl, zhm, zhn, zho, zhp, zhq, zhr, zhs, zht, zhu, zhv, bound, addL, addT, grow, room, List.length_cons, List.length_nil, List.length_map, frOf, ti_int, ti_value, ti_u64, ti_Number, ti_words, ti_bool, ti_ints, ti_Int, ti_uint, ti_bytes, ti_u8, ti_string, ti_bits, ti_vals, ti_bools, ↓blp, blq, biq, isDs_ints, hgt, ex]
    refine ⟨by omega, both_split (fun h3 => ?_) (fun h3 => ?_)⟩
    · have h3' : k < s.length := by simpa using h3
      have hb : isBool (s.getD k .junk) := hs _ (by rw [List.getD_eq_getElem?_getD, List.getElem?_eq_getElem (by omega)]; exact List.getElem_mem _)
      obtain ⟨b, eb⟩ := hb
      simp only [↓bwp, bwq, List.tail_nil, List.tail_cons, List.headD_nil, List.headD_cons, ne_eq, reduceCtorEq, Nat.reduceEqDiff, Nat.reduceAdd, Nat.reduceMul, Nat.reduceSub, Nat.reduceLeDiff, Nat.reduceLT, Int.reduceMul, Int.reduceAdd, Int.reduceSub, List.map_cons, List.map_nil, Option.map_some, Option.map_none, Option.elim_some, if_true, if_false, List.append_nil, List.nil_append, bvq, rEq, List.cons_append, Int.reduceToNat, List.getElem?_cons_zero, List.getElem?_cons_succ, TD.agg, List.drop_succ_cons, List.drop_zero, List.take_succ_cons, List.take_zero, List.take_nil, List.drop_nil, List.getD_cons_zero, List.getD_cons_succ, splice, zgu, zgv, Option.isSome_some, Option.isSome_none, List.getElem?_nil, zgw, zgx, rLen, rBin, rInt, rStr, rUn, zgy, zgz, zha, zhb, zhc, rBox, zhd, zhe, zhf, zhg, zhh, zhi, zhj, zhk, zhl, zhm, zhn, zho, zhp, zhq, zhr, zhs, zht, zhu, zhv, bound, addL, addT, grow, room, List.length_cons, List.length_nil, List.length_map, frOf, ti_int, ti_value, ti_u64, ti_Number, ti_words, ti_bool, ti_ints, ti_Int, ti_uint, ti_bytes, ti_u8, ti_string, ti_bits, ti_vals, ti_bools, ↓blp, blq, biq, isDs_ints, eb]
      refine ⟨by omega, cond_split (fun h4 => ?_) (fun h4 => ?_)⟩
      · subst h4
        have es : sumZ l s k - (hi * 2 ^ 64 + lo) = sumZ l s (k + 1) := by rw [sumZ, if_pos (by rw [eb]; rfl), ev]
        simp only [↓bwp, bwq, List.tail_nil, List.tail_cons, List.headD_nil, List.headD_cons, ne_eq, reduceCtorEq, Nat.reduceEqDiff, Nat.reduceAdd, Nat.reduceMul, Nat.reduceSub, Nat.reduceLeDiff, Nat.reduceLT, Int.reduceMul, Int.reduceAdd, Int.reduceSub, List.map_cons, List.map_nil, Option.map_some, Option.map_none, Option.elim_some, if_true, if_false, List.append_nil, List.nil_append, bvq, rEq, List.cons_append, Int.reduceToNat, List.getElem?_cons_zero, List.getElem?_cons_succ, TD.agg, List.drop_succ_cons, List.drop_zero, List.take_succ_cons, List.take_zero, List.take_nil, List.drop_nil, List.getD_cons_zero, List.getD_cons_succ, splice, zgu, zgv, Option.isSome_some, Option.isSome_none, List.getElem?_nil, zgw, zgx, rLen, rBin, rInt, rStr, rUn, zgy, zgz, zha, zhb, zhc, rBox, zhd, zhe, zhf, zhg, zhh, zhi, zhj, zhk, zhl, zhm, zhn, zho, zhp, zhq, zhr, zhs, zht, zhu, zhv, bound, addL, addT, grow, room, List.length_cons, List.length_nil, List.length_map, frOf, ti_int, ti_value, ti_u64, ti_Number, ti_words, ti_bool, ti_ints, ti_Int, ti_uint, ti_bytes, ti_u8, ti_string, ti_bits, ti_vals, ti_bools, ↓blp, blq, biq, isDs_ints, hzf, hnf, p_NFrom, p_NSub, p_rFrom, p_rSub, isV]
        refine ⟨by omega, sumZ l s k, hi * 2 ^ 64 + lo, ⟨rfl, rfl⟩, by omega, sumZ l s k, hi * 2 ^ 64 + lo, ⟨rfl, rfl, hsm, hsv⟩, ?_⟩
        simp only [↓bwp, bwq, List.tail_nil, List.tail_cons, List.headD_nil, List.headD_cons, ne_eq, reduceCtorEq, Nat.reduceEqDiff, Nat.reduceAdd, Nat.reduceMul, Nat.reduceSub, Nat.reduceLeDiff, Nat.reduceLT, Int.reduceMul, Int.reduceAdd, Int.reduceSub, List.map_cons, List.map_nil, Option.map_some, Option.map_none, Option.elim_some, if_true, if_false, List.append_nil, List.nil_append, bvq, rEq, List.cons_append, Int.reduceToNat, List.getElem?_cons_zero, List.getElem?_cons_succ, TD.agg, List.drop_succ_cons, List.drop_zero, List.take_succ_cons, List.take_zero, List.take_nil, List.drop_nil, List.getD_cons_zero, List.getD_cons_succ, splice, zgu, zgv, Option.isSome_some, Option.isSome_none, List.getElem?_nil, zgw, zgx, rLen, rBin, rInt, rStr, rUn, zgy, zgz, zha, zhb, zhc, rBox, zhd, zhe, zhf, zhg, zhh, zhi, zhj, zhk, zhl, zhm, zhn, zho, zhp, zhq, zhr, zhs, zht, zhu, zhv, bound, addL, addT, grow, room, List.length_cons, List.length_nil, List.length_map, frOf, ti_int, ti_value, ti_u64, ti_Number, ti_words, ti_bool, ti_ints, ti_Int, ti_uint, ti_bytes, ti_u8, ti_string, ti_bits, ti_vals, ti_bools, ↓blp, blq, biq, isDs_ints, nAV, zAV, es, e5]
        refine ⟨k + 1, by omega, by omega, ?_⟩
        (simp only [bkq, enterW, subW, ltF, ne_eq, Nat.reduceEqDiff, reduceCtorEq, lv, ls]; try simp (disch := first | assumption | omega | (simp; done) | (simp; omega) | (simp only [bt, and_true]; first | done | omega | (simp; done))) [↓zkf, beq, List.take_of_length_le, List.drop_append, List.take_append, endOk, wk, wk2, wk1, wkM, wkL, wkLL, List.drop_eq_nil_of_le, byq, biq, isDs_ints, hcl, lv, ls]; try (repeat' (first | assumption | omega | exact True.intro | refine And.intro ?_ ?_ | refine closed_buf ?_ | refine closed_set_buf ?_ | refine closed_cells ?_ ?_ | refine closed_set ?_ ?_ | refine closed_del ?_ | exact AHeap.Le.refl _ | refine AHeap.Le.push ?_ _ | refine AHeap.Le.del ?_ ?_ | (simp only [bt, and_true, true_and, lv, ls]; first | done | omega | (simp; done)))))
      · subst h4
        have es : sumZ l s k + (hi * 2 ^ 64 + lo) = sumZ l s (k + 1) := by rw [sumZ, if_neg (by rw [eb]; simp [sgnB]), ev]
        simp only [↓bwp, bwq, List.tail_nil, List.tail_cons, List.headD_nil, List.headD_cons, ne_eq, reduceCtorEq, Nat.reduceEqDiff, Nat.reduceAdd, Nat.reduceMul, Nat.reduceSub, Nat.reduceLeDiff, Nat.reduceLT, Int.reduceMul, Int.reduceAdd, Int.reduceSub, List.map_cons, List.map_nil, Option.map_some, Option.map_none, Option.elim_some, if_true, if_false, List.append_nil, List.nil_append, bvq, rEq, List.cons_append, Int.reduceToNat, List.getElem?_cons_zero, List.getElem?_cons_succ, TD.agg, List.drop_succ_cons, List.drop_zero, List.take_succ_cons, List.take_zero, List.take_nil, List.drop_nil, List.getD_cons_zero, List.getD_cons_succ, splice, zgu, zgv, Option.isSome_some, Option.isSome_none, List.getElem?_nil, zgw, zgx, rLen, rBin, rInt, rStr, rUn, zgy, zgz, zha, zhb, zhc, rBox, zhd, zhe, zhf, zhg, zhh, zhi, zhj, zhk, zhl, zhm, zhn, zho, zhp, zhq, zhr, zhs, zht, zhu, zhv, bound, addL, addT, grow, room, List.length_cons, List.length_nil, List.length_map, frOf, ti_int, ti_value, ti_u64, ti_Number, ti_words, ti_bool, ti_ints, ti_Int, ti_uint, ti_bytes, ti_u8, ti_string, ti_bits, ti_vals, ti_bools, ↓blp, blq, biq, isDs_ints, hzf, hnf, p_NFrom, p_NAdd, p_rFrom, p_rAdd, isV]
        refine ⟨by omega, sumZ l s k, hi * 2 ^ 64 + lo, ⟨rfl, rfl⟩, by omega, sumZ l s k, hi * 2 ^ 64 + lo, ⟨rfl, rfl, hsm, hsv⟩, ?_⟩
        simp only [↓bwp, bwq, List.tail_nil, List.tail_cons, List.headD_nil, List.headD_cons, ne_eq, reduceCtorEq, Nat.reduceEqDiff, Nat.reduceAdd, Nat.reduceMul, Nat.reduceSub, Nat.reduceLeDiff, Nat.reduceLT, Int.reduceMul, Int.reduceAdd, Int.reduceSub, List.map_cons, List.map_nil, Option.map_some, Option.map_none, Option.elim_some, if_true, if_false, List.append_nil, List.nil_append, bvq, rEq, List.cons_append, Int.reduceToNat, List.getElem?_cons_zero, List.getElem?_cons_succ, TD.agg, List.drop_succ_cons, List.drop_zero, List.take_succ_cons, List.take_zero, List.take_nil, List.drop_nil, List.getD_cons_zero, List.getD_cons_succ, splice, zgu, zgv, Option.isSome_some, Option.isSome_none, List.getElem?_nil, zgw, zgx, rLen, rBin, rInt, rStr, rUn, zgy, zgz, zha, zhb, zhc, rBox, zhd, zhe, zhf, zhg, zhh, zhi, zhj, zhk, zhl, zhm, zhn, zho, zhp, zhq, zhr, zhs, zht, zhu, zhv, bound, addL, addT, grow, room, List.length_cons, List.length_nil, List.length_map, frOf, ti_int, ti_value, ti_u64, ti_Number, ti_words, ti_bool, ti_ints, ti_Int, ti_uint, ti_bytes, ti_u8, ti_string, ti_bits, ti_vals, ti_bools, ↓blp, blq, biq, isDs_ints, nAV, zAV, es, e5]
        refine ⟨k + 1, by omega, by omega, ?_⟩
        (simp only [bkq, enterW, subW, ltF, ne_eq, Nat.reduceEqDiff, reduceCtorEq, lv, ls]; try simp (disch := first | assumption | omega | (simp; done) | (simp; omega) | (simp only [bt, and_true]; first | done | omega | (simp; done))) [↓zkf, beq, List.take_of_length_le, List.drop_append, List.take_append, endOk, wk, wk2, wk1, wkM, wkL, wkLL, List.drop_eq_nil_of_le, byq, biq, isDs_ints, hcl, lv, ls]; try (repeat' (first | assumption | omega | exact True.intro | refine And.intro ?_ ?_ | refine closed_buf ?_ | refine closed_set_buf ?_ | refine closed_cells ?_ ?_ | refine closed_set ?_ ?_ | refine closed_del ?_ | exact AHeap.Le.refl _ | refine AHeap.Le.push ?_ _ | refine AHeap.Le.del ?_ ?_ | (simp only [bt, and_true, true_and, lv, ls]; first | done | omega | (simp; done)))))
    · have eb : s.getD k .junk = .junk := by
        have : s.length ≤ k := by simpa using h3
        simp [List.getD_eq_getElem?_getD, this]
      have es : sumZ l s k + (hi * 2 ^ 64 + lo) = sumZ l s (k + 1) := by rw [sumZ, if_neg (by rw [eb]; simp [sgnB]), ev]
      simp only [↓bwp, bwq, List.tail_nil, List.tail_cons, List.headD_nil, List.headD_cons, ne_eq, reduceCtorEq, Nat.reduceEqDiff, Nat.reduceAdd, Nat.reduceMul, Nat.reduceSub, Nat.reduceLeDiff, Nat.reduceLT, Int.reduceMul, Int.reduceAdd, Int.reduceSub, List.map_cons, List.map_nil, Option.map_some, Option.map_none, Option.elim_some, if_true, if_false, List.append_nil, List.nil_append, bvq, rEq, List.cons_append, Int.reduceToNat, List.getElem?_cons_zero, List.getElem?_cons_succ, TD.agg, List.drop_succ_cons, List.drop_zero, List.take_succ_cons, List.take_zero, List.take_nil, List.drop_nil, List.getD_cons_zero, List.getD_cons_succ, splice, zgu, zgv, Option.isSome_some, Option.isSome_none, List.getElem?_nil, zgw, zgx, rLen, rBin, rInt, rStr, rUn, zgy, zgz, zha, zhb, zhc, rBox, zhd, zhe, zhf, zhg, zhh, zhi, zhj, zhk, zhl, zhm, zhn, zho, zhp, zhq, zhr, zhs, zht, zhu, zhv, bound, addL, addT, grow, room, List.length_cons, List.length_nil, List.length_map, frOf, ti_int, ti_value, ti_u64, ti_Number, ti_words, ti_bool, ti_ints, ti_Int, ti_uint, ti_bytes, ti_u8, ti_string, ti_bits, ti_vals, ti_bools, ↓blp, blq, biq, isDs_ints, zas, hzf, hnf, p_NFrom, p_NAdd, p_rFrom, p_rAdd, isV]
      refine ⟨by omega, sumZ l s k, hi * 2 ^ 64 + lo, ⟨rfl, rfl⟩, by omega, sumZ l s k, hi * 2 ^ 64 + lo, ⟨rfl, rfl, hsm, hsv⟩, ?_⟩
      simp only [↓bwp, bwq, List.tail_nil, List.tail_cons, List.headD_nil, List.headD_cons, ne_eq, reduceCtorEq, Nat.reduceEqDiff, Nat.reduceAdd, Nat.reduceMul, Nat.reduceSub, Nat.reduceLeDiff, Nat.reduceLT, Int.reduceMul, Int.reduceAdd, Int.reduceSub, List.map_cons, List.map_nil, Option.map_some, Option.map_none, Option.elim_some, if_true, if_false, List.append_nil, List.nil_append, bvq, rEq, List.cons_append, Int.reduceToNat, List.getElem?_cons_zero, List.getElem?_cons_succ, TD.agg, List.drop_succ_cons, List.drop_zero, List.take_succ_cons, List.take_zero, List.take_nil, List.drop_nil, List.getD_cons_zero, List.getD_cons_succ, splice, zgu, zgv, Option.isSome_some, Option.isSome_none, List.getElem?_nil, zgw, zgx, rLen, rBin, rInt, rStr, rUn, zgy, zgz, zha, zhb, zhc, rBox, zhd, zhe, zhf, zhg, zhh, zhi, zhj, zhk, zhl, zhm, zhn, zho, zhp, zhq, zhr, zhs, zht, zhu, zhv, bound, addL, addT, grow, room, List.length_cons, List.length_nil, List.length_map, frOf, ti_int, ti_value, ti_u64, ti_Number, ti_words, ti_bool, ti_ints, ti_Int, ti_uint, ti_bytes, ti_u8, ti_string, ti_bits, ti_vals, ti_bools, ↓blp, blq, biq, isDs_ints, nAV, zAV, es, e5]
      refine ⟨k + 1, by omega, by omega, ?_⟩
      (simp only [bkq, enterW, subW, ltF, ne_eq, Nat.reduceEqDiff, reduceCtorEq, lv, ls]; try simp (disch := first | assumption | omega | (simp; done) | (simp; omega) | (simp only [bt, and_true]; first | done | omega | (simp; done))) [↓zkf, beq, List.take_of_length_le, List.drop_append, List.take_append, endOk, wk, wk2, wk1, wkM, wkL, wkLL, List.drop_eq_nil_of_le, byq, biq, isDs_ints, hcl, lv, ls]; try (repeat' (first | assumption | omega | exact True.intro | refine And.intro ?_ ?_ | refine closed_buf ?_ | refine closed_set_buf ?_ | refine closed_cells ?_ ?_ | refine closed_set ?_ ?_ | refine closed_del ?_ | exact AHeap.Le.refl _ | refine AHeap.Le.push ?_ _ | refine AHeap.Le.del ?_ ?_ | (simp only [bt, and_true, true_and, lv, ls]; first | done | omega | (simp; done)))))
  · have h2' : k = n := by simp at h2; omega
    subst h2'
    simp only [↓bwp, bwq, List.tail_nil, List.tail_cons, List.headD_nil, List.headD_cons, ne_eq, reduceCtorEq, Nat.reduceEqDiff, Nat.reduceAdd, Nat.reduceMul, Nat.reduceSub, Nat.reduceLeDiff, Nat.reduceLT, Int.reduceMul, Int.reduceAdd, Int.reduceSub, List.map_cons, List.map_nil, Option.map_some, Option.map_none, Option.elim_some, if_true, if_false, List.append_nil, List.nil_append, bvq, rEq, List.cons_append, Int.reduceToNat, List.getElem?_cons_zero, List.getElem?_cons_succ, TD.agg, List.drop_succ_cons, List.drop_zero, List.take_succ_cons, List.take_zero, List.take_nil, List.drop_nil, List.getD_cons_zero, List.getD_cons_succ, splice, zgu, zgv, Option.isSome_some, Option.isSome_none, List.getElem?_nil, zgw, zgx, rLen, rBin, rInt, rStr, rUn, zgy, zgz, zha, zhb, zhc, rBox, zhd, zhe, zhf, zhg, zhh, zhi, zhj, zhk, zhl, zhm, zhn, zho, zhp, zhq, zhr, zhs, zht, zhu, zhv, bound, addL, addT, grow, room, List.length_cons, List.length_nil, List.length_map, frOf, ti_int, ti_value, ti_u64, ti_Number, ti_words, ti_bool, ti_ints, ti_Int, ti_uint, ti_bytes, ti_u8, ti_string, ti_bits, ti_vals, ti_bools, ↓blp, blq, biq, isDs_ints]
    simp only [↓bwp, bwq, List.tail_nil, List.tail_cons, List.headD_nil, List.headD_cons, ne_eq, reduceCtorEq, Nat.reduceEqDiff, Nat.reduceAdd, Nat.reduceMul, Nat.reduceSub, Nat.reduceLeDiff, Nat.reduceLT, Int.reduceMul, Int.reduceAdd, Int.reduceSub, List.map_cons, List.map_nil, Option.map_some, Option.map_none, Option.elim_some, if_true, if_false, List.append_nil, List.nil_append, bvq, rEq, List.cons_append, Int.reduceToNat, List.getElem?_cons_zero, List.getElem?_cons_succ, TD.agg, List.drop_succ_cons, List.drop_zero, List.take_succ_cons, List.take_zero, List.take_nil, List.drop_nil, List.getD_cons_zero, List.getD_cons_succ, splice, zgu, zgv, Option.isSome_some, Option.isSome_none, List.getElem?_nil, zgw, zgx, rLen, rBin, rInt, rStr, rUn, zgy, zgz, zha, zhb, zhc, rBox, zhd, zhe, zhf, zhg, zhh, zhi, zhj, zhk, zhl, zhm, zhn, zho, zhp, zhq, zhr, zhs, zht, zhu, zhv, bound, addL, addT, grow, room, List.length_cons, List.length_nil, List.length_map, frOf, ti_int, ti_value, ti_u64, ti_Number, ti_words, ti_bool, ti_ints, ti_Int, ti_uint, ti_bytes, ti_u8, ti_string, ti_bits, ti_vals, ti_bools, ↓blp, blq, biq, isDs_ints, finish, resL, resA, one]
    simp only [zAV]
    simp (disch := first | assumption | omega | (simp; done) | (simp; omega) | (simp only [bt, and_true]; first | done | omega | (simp; done))) [↓zkf, beq, List.take_of_length_le, List.drop_append, List.take_append, endOk, wk, wk2, wk1, wkM, wkL, wkLL, List.drop_eq_nil_of_le, hcl]

def p_begun : List AV → AHeap → (AV → Prop) → Prop
  | [], _, K => K (.bool true)
  | _, _, _ => False
theorem ok_begun : EntOk Try.prog 17 (Ent.pure p_begun) := by
  refine EntOk.pure fun args H K h => ?_
  unfold p_begun at h
  split at h
  rotate_left
  · exact h.elim
  refine ⟨_, h, ?_⟩
  clear h
  refine ACalls.of_aw (Ω := [(13, Ent.pure p_NOf), (21, Ent.pure p_NFrom), (22, Ent.pure p_NSub), (9, Ent.pure p_NText)]) (T := assoc []) mixed (TblOk.cons ok_NOf (TblOk.cons ok_NFrom (TblOk.cons ok_NSub (TblOk.cons ok_NText TblOk.nil)))) Try.func17 (by kernel_rfl) (by rfl) (rs := [.tmp 0]) (by rfl) (by kernel_rfl) (by simp only [Try.ntmps17, List.length_cons, List.length_nil]; decide) (Nat.le_refl _) fun hcl hlt => ?_
  change aw _ _ _ (KI Try.prog [(13, Ent.pure p_NOf), (21, Ent.pure p_NFrom), (22, Ent.pure p_NSub), (9, Ent.pure p_NText)] (aEnd Try.prog [.tmp 0] H.nx _ _ (assoc [])) []) _ _
  clear hlt
  have et : (txt (3 - (1 * 2 ^ 64 + 0)) == [45, 49, 56, 52, 52, 54, 55, 52, 52, 48, 55, 51, 55, 48, 57, 53, 53, 49, 54, 49, 51]) = true := by decide +kernel
  simp only [↓bwp, bwq, List.tail_nil, List.tail_cons, List.headD_nil, List.headD_cons, ne_eq, reduceCtorEq, Nat.reduceEqDiff, Nat.reduceAdd, Nat.reduceMul, Nat.reduceSub, Nat.reduceLeDiff, Nat.reduceLT, Int.reduceMul, Int.reduceAdd, Int.reduceSub, List.map_cons, List.map_nil, Option.map_some, Option.map_none, Option.elim_some, if_true, if_false, List.append_nil, List.nil_append, bvq, rEq, List.cons_append, Int.reduceToNat, List.getElem?_cons_zero, List.getElem?_cons_succ, TD.agg, List.drop_succ_cons, List.drop_zero, List.take_succ_cons, List.take_zero, List.take_nil, List.drop_nil, List.getD_cons_zero, List.getD_cons_succ, splice, zgu, zgv, Option.isSome_some, Option.isSome_none, List.getElem?_nil, zgw, zgx, rLen, rBin, rInt, rStr, rUn, zgy, zgz, zha, zhb, zhc, rBox, zhd, zhe, zhf, zhg, zhh, zhi, zhj, zhk, zhl, zhm, zhn, zho, zhp, zhq, zhr, zhs, zht, zhu, zhv, bound, addL, addT, grow, room, List.length_cons, List.length_nil, List.length_map, frOf, ti_int, ti_value, ti_u64, ti_Number, ti_words, ti_bool, ti_ints, ti_Int, ti_uint, ti_bytes, ti_u8, ti_string, ti_bits, ti_vals, ti_bools, ↓blp, blq, biq, isDs_ints, p_NOf, p_NFrom, p_NSub, p_NText]
  refine ⟨by omega, by omega, 3, 1 * 2 ^ 64 + 0, ⟨rfl, rfl⟩, _, ⟨rfl, by decide, by decide⟩, ?_⟩
  rw [et]
  simp (disch := first | assumption | omega | (simp; done) | (simp; omega) | (simp only [bt, and_true]; first | done | omega | (simp; done))) [↓zkf, beq, List.take_of_length_le, List.drop_append, List.take_append, endOk, wk, wk2, wk1, wkM, wkL, wkLL, List.drop_eq_nil_of_le, hcl]
theorem sumZ_n {l s : List AV} (hl : isVals l) : -(20 * 2 ^ 128) ≤ sumZ l s (min l.length 20) ∧ sumZ l s (min l.length 20) ≤ 20 * 2 ^ 128 := by
  have := sumZ_le hl (s := s) (min l.length 20) (Nat.min_le_left _ _)
  omega
end Go.AL
