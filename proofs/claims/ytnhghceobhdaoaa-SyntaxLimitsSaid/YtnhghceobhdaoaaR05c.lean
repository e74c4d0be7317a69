/- Contracts and plain laws, a part of the proof; no condition of its own. -/
import Derived.Test.YtnhghceobhdaoaaR05b
import Derived.Test.YtnhghceobhdaoaaN05c
open List renaming length_cons → yaz, length_nil → yba, tail_nil → yaa, tail_cons → yab, headD_nil → yac, headD_cons → yad, map_cons → yae, map_nil → yaf, append_nil → yaj, nil_append → yak, cons_append → yal, getElem?_cons_zero → yam, getElem?_cons_succ → yan, drop_succ_cons → yao, drop_zero → yap, take_succ_cons → yaq, take_zero → yar, take_nil → yas, drop_nil → yat, getD_cons_zero → yau, getD_cons_succ → yav, getElem?_nil → yay, length_map → ybb, take_of_length_le → ybc, drop_append → ybd, take_append → ybe, drop_eq_nil_of_le → ybf
open Option renaming map_some → yag, map_none → yah, elim_some → yai, isSome_some → yaw, isSome_none → yax
open Go Go.AL Go.Proofs
namespace Go.AL
set_option linter.all false
set_option maxRecDepth 10000
theorem ti_bits : ti Try.prog 142 = some ⟨.array 128 4, 128, 128, .agg (List.replicate 128 (.bool false))⟩ := by kernel_rfl
def isV (hi lo : Int) : Prop := 0 ≤ hi ∧ hi < 18446744073709551616 ∧ 0 ≤ lo ∧ lo < 18446744073709551616

theorem zAV_0 : zAV 0 = .agg [.bool false, .slice .any 1 []] := by simp [zAV, digs_zero, ints_nil]
theorem small_of {a : Int} (k : Nat) (h : a.natAbs < 10 ^ k) (hk : k ≤ 200) : small a := Nat.lt_of_lt_of_le h (Nat.pow_le_pow_right (by decide) hk)
/-- 2^128 -/
def limDigs : List Nat := [6, 5, 4, 1, 1, 2, 8, 6, 7, 1, 3, 4, 7, 0, 6, 4, 7, 3, 3, 6, 4, 3, 6, 4, 8, 3, 9, 0, 2, 9, 6, 6, 3, 2, 8, 2, 0, 4, 3]
theorem limDigs_ok : digs (2 ^ 128) = limDigs := by decide +kernel
def limText : List UInt8 := (limDigs.map fun d => UInt8.ofNat (48 + d)).reverse
theorem limText_ok : [51, 52, 48, 50, 56, 50, 51, 54, 54, 57, 50, 48, 57, 51, 56, 52, 54, 51, 52, 54, 51, 51, 55, 52, 54, 48, 55, 52, 51, 49, 55, 54, 56, 50, 49, 49, 52, 53, 54] = limText := by decide +kernel
theorem limText_get : ∀ j, j < 39 → IntKind.i64.wrap (IntKind.u8.wrap (((limText.getD j 0).toNat : Int) - 48)) = ((limDigs.getD (38 - j) 0 : Nat) : Int) := by decide +kernel
theorem lim_step : ∀ j, j < 39 → limDigs.take (38 - j) ++ [limDigs.getD (38 - j) 0] = limDigs.take (39 - j) := by decide +kernel
def p_rLimit : List AV → AHeap → (AV → Prop) → Prop
  | [], _, K => K (zAV (2 ^ 128))
  | _, _, _ => False
theorem ytb2 : (type_of% @ti_int) ∧ (type_of% @ti_value) ∧ (type_of% @ti_u64) ∧ (type_of% @ti_Number) ∧ (type_of% @ti_words) ∧ (type_of% @ti_bool) ∧ (type_of% @ti_ints) ∧ (type_of% @ti_Int) ∧ (type_of% @ti_uint) ∧ (type_of% @ti_bytes) ∧ (type_of% @ti_u8) ∧ (type_of% @ti_string) ∧ (type_of% @ti_bits) :=
  ⟨@ti_int, @ti_value, @ti_u64, @ti_Number, @ti_words, @ti_bool, @ti_ints, @ti_Int, @ti_uint, @ti_bytes, @ti_u8, @ti_string, @ti_bits⟩
theorem ok_rLimit : EntOk Try.prog 115 (Ent.pure p_rLimit) := by
  refine EntOk.pure fun args H K h => ?_
  unfold p_rLimit at h
  split at h
  rotate_left
  · exact h.elim
  refine ⟨_, h, ?_⟩
  clear h
  refine ACalls.of_aw (Ω := []) (T := assoc []) mixed TblOk.nil Try.func115 (by kernel_rfl) (by rfl) (rs := [.cell 0 89]) (by rfl) (by kernel_rfl) (by simp only [Try.ntmps115, yaz, yba]; decide) (Nat.le_refl _) fun hcl hlt => ?_
  change aw _ _ _ (KI Try.prog [] (aEnd Try.prog [.cell 0 89] H.nx _ _) []) _ _
  clear hlt
  have hl : limText.length = 39 := by decide +kernel
  have ew : IntKind.i64.wrap (((39 : Nat) : Int) - 1) = ((39 : Nat) : Int) - 1 := by decide
  simp only [↓bwp, bwq, yaa, yab, yac, yad, ne_eq, reduceCtorEq, Nat.reduceEqDiff, Nat.reduceAdd, Nat.reduceMul, Nat.reduceSub, Nat.reduceLeDiff, Nat.reduceLT, Int.reduceMul, Int.reduceAdd, Int.reduceSub, yae, yaf, yag, yah, yai, if_true, if_false, yaj, yak, bvq, rEq, yal, Int.reduceToNat, yam, yan, TD.agg, yao, yap, yaq, yar, yas, yat, yau, yav, splice, zhb, zhc, yaw, yax, yay, zhd, zhe, rLen, rBin, rInt, rStr, rUn, zhf, zhg, zhh, zhi, zhj, rBox, zhk, zhl, zhm, zhn, zho, zhp, zhq, zhr, zhs, zht, zhu, zhv, zhw, zhx, zhy, zhz, zia, zib, zic, bound, addL, addT, grow, room, yaz, yba, ybb, frOf, byq, ytb2, ↓blp, blq, biq, isDs_ints, limText_ok, hl, ew]
  refine loop_introW (A := Nat) (fun k => [(3, .int .i64 ((k : Int) - 1)), (2, .slice (.own (H.nx + 1)) 1 (ints (limDigs.take (39 - k)))), (1, .str limText), (0, .ptr H.nx 0)])
    (fun k => (H.push (.cells [.bool false, .slice .nil 1 []])).push (.buf 1 (39 - k))) (fun k => k ≤ 39) (fun k => k) 39 (by omega) ?_ fun k hk => ?_
  · (simp only [bkq, enterW, subW, ltF, ne_eq, Nat.reduceEqDiff, reduceCtorEq, ints_nil, Nat.sub_self, yar]; try simp (disch := first | assumption | omega | (simp; done) | (simp; omega) | (simp only [bt, and_true]; first | done | omega | (simp; done))) [↓zkt, beq, ybc, ybd, ybe, endOk, wk, wk2, wk1, wkM, wkL, wkLL, ybf, byq, biq, isDs_ints, hcl, ints_nil, Nat.sub_self, yar]; try (repeat' (first | assumption | omega | exact True.intro | refine And.intro ?_ ?_ | refine closed_buf ?_ | refine closed_set_buf ?_ | refine closed_cells ?_ ?_ | refine closed_set ?_ ?_ | refine closed_del ?_ | exact AHeap.Le.refl _ | refine AHeap.Le.push ?_ _ | refine AHeap.Le.del ?_ ?_ | (simp only [bt, and_true, true_and, ints_nil, Nat.sub_self, yar]; first | done | omega | (simp; done)))))
  simp only [↓bwp, bwq, yaa, yab, yac, yad, ne_eq, reduceCtorEq, Nat.reduceEqDiff, Nat.reduceAdd, Nat.reduceMul, Nat.reduceSub, Nat.reduceLeDiff, Nat.reduceLT, Int.reduceMul, Int.reduceAdd, Int.reduceSub, yae, yaf, yag, yah, yai, if_true, if_false, yaj, yak, bvq, rEq, yal, Int.reduceToNat, yam, yan, TD.agg, yao, yap, yaq, yar, yas, yat, yau, yav, splice, zhb, zhc, yaw, yax, yay, zhd, zhe, rLen, rBin, rInt, rStr, rUn, zhf, zhg, zhh, zhi, zhj, rBox, zhk, zhl, zhm, zhn, zho, zhp, zhq, zhr, zhs, zht, zhu, zhv, zhw, zhx, zhy, zhz, zia, zib, zic, bound, addL, addT, grow, room, yaz, yba, ybb, frOf, byq, ytb2, ↓blp, blq, biq, isDs_ints]
  refine cond_split (fun h4 => ?_) (fun h4 => ?_)
  · obtain ⟨j, rfl⟩ : ∃ j, k = j + 1 := ⟨k - 1, by simp at h4; omega⟩
    have ej : (((j + 1 : Nat) : Int) - 1) = (j : Int) := by omega
    have e3 : IntKind.i64.wrap ((j : Int) - 1) = (j : Int) - 1 := by rw [wrap_i64] <;> omega
    have eg := limText_get j (by omega)
    have es := lim_step j (by omega)
    have el : (limDigs.take (38 - j)).length = 38 - j := by rw [List.length_take, show limDigs.length = 39 from rfl]; omega
    have e39 : 39 - (j + 1) = 38 - j := by omega
    simp only [↓bwp, bwq, yaa, yab, yac, yad, ne_eq, reduceCtorEq, Nat.reduceEqDiff, Nat.reduceAdd, Nat.reduceMul, Nat.reduceSub, Nat.reduceLeDiff, Nat.reduceLT, Int.reduceMul, Int.reduceAdd, Int.reduceSub, yae, yaf, yag, yah, yai, if_true, if_false, yaj, yak, bvq, rEq, yal, Int.reduceToNat, yam, yan, TD.agg, yao, yap, yaq, yar, yas, yat, yau, yav, splice, zhb, zhc, yaw, yax, yay, zhd, zhe, rLen, rBin, rInt, rStr, rUn, zhf, zhg, zhh, zhi, zhj, rBox, zhk, zhl, zhm, zhn, zho, zhp, zhq, zhr, zhs, zht, zhu, zhv, zhw, zhx, zhy, zhz, zia, zib, zic, bound, addL, addT, grow, room, yaz, yba, ybb, frOf, byq, ytb2, ↓blp, blq, biq, isDs_ints, ej, e3, eg, hl, e39, es, el]
    have e40 : 38 - j + 1 = 39 - j := by omega
    refine ⟨by omega, by omega, j, by omega, by omega, ?_⟩
    rw [e40]
    (simp only [bkq, enterW, subW, ltF, ne_eq, Nat.reduceEqDiff, reduceCtorEq]; try simp (disch := first | assumption | omega | (simp; done) | (simp; omega) | (simp only [bt, and_true]; first | done | omega | (simp; done))) [↓zkt, beq, ybc, ybd, ybe, endOk, wk, wk2, wk1, wkM, wkL, wkLL, ybf, byq, biq, isDs_ints, hcl]; try (repeat' (first | assumption | omega | exact True.intro | refine And.intro ?_ ?_ | refine closed_buf ?_ | refine closed_set_buf ?_ | refine closed_cells ?_ ?_ | refine closed_set ?_ ?_ | refine closed_del ?_ | exact AHeap.Le.refl _ | refine AHeap.Le.push ?_ _ | refine AHeap.Le.del ?_ ?_ | (simp only [bt, and_true, true_and]; first | done | omega | (simp; done)))))
  · have h4' : k = 0 := by simp at h4; omega
    subst h4'
    have ez : AV.agg [AV.bool false, AV.slice .any 1 (ints (List.take 39 limDigs))] = zAV (2 ^ 128) := by
      unfold zAV
      rw [show ((2 : Int) ^ 128).natAbs = 2 ^ 128 by decide, limDigs_ok]; rfl
    simp only [↓bwp, bwq, yaa, yab, yac, yad, ne_eq, reduceCtorEq, Nat.reduceEqDiff, Nat.reduceAdd, Nat.reduceMul, Nat.reduceSub, Nat.reduceLeDiff, Nat.reduceLT, Int.reduceMul, Int.reduceAdd, Int.reduceSub, yae, yaf, yag, yah, yai, if_true, if_false, yaj, yak, bvq, rEq, yal, Int.reduceToNat, yam, yan, TD.agg, yao, yap, yaq, yar, yas, yat, yau, yav, splice, zhb, zhc, yaw, yax, yay, zhd, zhe, rLen, rBin, rInt, rStr, rUn, zhf, zhg, zhh, zhi, zhj, rBox, zhk, zhl, zhm, zhn, zho, zhp, zhq, zhr, zhs, zht, zhu, zhv, zhw, zhx, zhy, zhz, zia, zib, zic, bound, addL, addT, grow, room, yaz, yba, ybb, frOf, byq, ytb2, ↓blp, blq, biq, isDs_ints]
    rw [← ez]
    simp (disch := first | assumption | omega | (simp; done) | (simp; omega) | (simp only [bt, and_true]; first | done | omega | (simp; done))) [↓zkt, beq, ybc, ybd, ybe, endOk, wk, wk2, wk1, wkM, wkL, wkLL, ybf, hcl]

def p_rFits : List AV → AHeap → (AV → Prop) → Prop
  | [x], _, K => ∃ a, (x = zAV a ∧ small a) ∧ K (.bool (decide (0 ≤ a ∧ a < 2 ^ 128)))
  | _, _, _ => False
theorem ok_rFits : EntOk Try.prog 89 (Ent.pure p_rFits) := by
  refine EntOk.pure fun args H K h => ?_
  unfold p_rFits at h
  split at h
  rotate_left
  · exact h.elim
  obtain ⟨a, ⟨rfl, ha⟩, hK⟩ := h
  refine ⟨_, hK, ?_⟩
  clear hK
  refine ACalls.of_aw (Ω := [(115, Ent.pure p_rLimit), (114, Ent.pure p_rCmp)]) (T := assoc [(1, [[], [], [], [], [], [1], [1, 4, 5]])]) mixed (TblOk.cons ok_rLimit (TblOk.cons ok_rCmp TblOk.nil)) Try.func89 (by kernel_rfl) (by rfl) (rs := [.tmp 2]) (by rfl) (by kernel_rfl) (by simp only [Try.ntmps89, yaz, yba]; decide) (Nat.le_refl _) fun hcl hlt => ?_
  change aw _ _ _ (KI Try.prog [(115, Ent.pure p_rLimit), (114, Ent.pure p_rCmp)] (aEnd Try.prog [.tmp 2] H.nx _ _ (assoc [(1, [[], [], [], [], [], [1], [1, 4, 5]])])) []) _ _
  clear hlt
  simp only [↓bwp, bwq, yaa, yab, yac, yad, ne_eq, reduceCtorEq, Nat.reduceEqDiff, Nat.reduceAdd, Nat.reduceMul, Nat.reduceSub, Nat.reduceLeDiff, Nat.reduceLT, Int.reduceMul, Int.reduceAdd, Int.reduceSub, yae, yaf, yag, yah, yai, if_true, if_false, yaj, yak, bvq, rEq, yal, Int.reduceToNat, yam, yan, TD.agg, yao, yap, yaq, yar, yas, yat, yau, yav, splice, zhb, zhc, yaw, yax, yay, zhd, zhe, rLen, rBin, rInt, rStr, rUn, zhf, zhg, zhh, zhi, zhj, rBox, zhk, zhl, zhm, zhn, zho, zhp, zhq, zhr, zhs, zht, zhu, zhv, zhw, zhx, zhy, zhz, zia, zib, zic, bound, addL, addT, grow, room, yaz, yba, ybb, frOf, ytb2, ↓blp, blq, biq, isDs_ints, zAV, p_rLimit, p_rCmp]
  refine both_split (fun h1 => ?_) (fun h1 => ?_)
  · have h1' : 0 ≤ a := by simpa using h1
    refine ⟨a, 2 ^ 128, ⟨rfl, rfl, ha, small_of 40 (by decide) (by decide)⟩, ?_⟩
    have e : decide ((if a = 2 ^ 128 then (0 : Int) else if a < 2 ^ 128 then -1 else 1) < 0) = decide (0 ≤ a ∧ a < 2 ^ 128) := by
      rw [Bool.eq_iff_iff]; simp only [decide_eq_true_eq]
      split
      · omega
      · split <;> omega
    try simp only [↓bwp, bwq, yaa, yab, yac, yad, ne_eq, reduceCtorEq, Nat.reduceEqDiff, Nat.reduceAdd, Nat.reduceMul, Nat.reduceSub, Nat.reduceLeDiff, Nat.reduceLT, Int.reduceMul, Int.reduceAdd, Int.reduceSub, yae, yaf, yag, yah, yai, if_true, if_false, yaj, yak, bvq, rEq, yal, Int.reduceToNat, yam, yan, TD.agg, yao, yap, yaq, yar, yas, yat, yau, yav, splice, zhb, zhc, yaw, yax, yay, zhd, zhe, rLen, rBin, rInt, rStr, rUn, zhf, zhg, zhh, zhi, zhj, rBox, zhk, zhl, zhm, zhn, zho, zhp, zhq, zhr, zhs, zht, zhu, zhv, zhw, zhx, zhy, zhz, zia, zib, zic, bound, addL, addT, grow, room, yaz, yba, ybb, frOf, ytb2, ↓blp, blq, biq, isDs_ints, e]
    simp (disch := first | assumption | omega | (simp; done) | (simp; omega) | (simp only [bt, and_true]; first | done | omega | (simp; done))) [↓zkt, beq, ybc, ybd, ybe, endOk, wk, wk2, wk1, wkM, wkL, wkLL, ybf, hcl]
  · have h1' : ¬ (0 ≤ a ∧ a < 2 ^ 128) := by simp at h1; omega
    try simp only [↓bwp, bwq, yaa, yab, yac, yad, ne_eq, reduceCtorEq, Nat.reduceEqDiff, Nat.reduceAdd, Nat.reduceMul, Nat.reduceSub, Nat.reduceLeDiff, Nat.reduceLT, Int.reduceMul, Int.reduceAdd, Int.reduceSub, yae, yaf, yag, yah, yai, if_true, if_false, yaj, yak, bvq, rEq, yal, Int.reduceToNat, yam, yan, TD.agg, yao, yap, yaq, yar, yas, yat, yau, yav, splice, zhb, zhc, yaw, yax, yay, zhd, zhe, rLen, rBin, rInt, rStr, rUn, zhf, zhg, zhh, zhi, zhj, rBox, zhk, zhl, zhm, zhn, zho, zhp, zhq, zhr, zhs, zht, zhu, zhv, zhw, zhx, zhy, zhz, zia, zib, zic, bound, addL, addT, grow, room, yaz, yba, ybb, frOf, ytb2, ↓blp, blq, biq, isDs_ints, decide_eq_false h1']
    simp (disch := first | assumption | omega | (simp; done) | (simp; omega) | (simp only [bt, and_true]; first | done | omega | (simp; done))) [↓zkt, beq, ybc, ybd, ybe, endOk, wk, wk2, wk1, wkM, wkL, wkLL, ybf, hcl]

end Go.AL

