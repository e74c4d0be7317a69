/- Contracts and plain laws, a part of the proof; no condition of its own. -/
import Derived.Test.YtnhghceobhdaoaaCG
open Go Go.AL Go.Proofs
namespace Go.AL
set_option linter.all false
set_option maxRecDepth 10000

def e_RValue : List AV → AHeap → (AEnd → AHeap → Prop) → Prop
  | [.ptr id 0], H, K => onR H id fun m l e => True ∧ K (.ret (vv (valueR (m, l, e)).1)) (H.set id (.cells (cellR (valueR (m, l, e)).2)))
  | _, _, _ => False
theorem ok_RValue : EntOk Try.prog 30 (Ent.effect e_RValue) := by
  refine EntOk.effect fun args H K h => ?_
  unfold e_RValue at h
  split at h
  rotate_left
  · exact h.elim
  rename_i id
  obtain ⟨m, l, e, hid, hle, h⟩ := onR_out h
  obtain ⟨hpre, hK⟩ := h
  refine ⟨_, _, hK, ?_⟩
  clear hK
  have hl0 := AHeap.get_lt hid
  have hne := far_of hl0
  have hss := set_same hid
  have hcs := cells_some hid
  have hcm := fun cs => @cells_set_same H id cs hl0
  have hgm := fun o => @get_set_same' H id o hl0
  have v0 : vv 0 = .agg [.int .u64 0, .int .u64 0] := rfl
  by_cases h0 : e = 0
  case neg =>
    have d0 : (e != 0) = true := by simpa using h0
    rw [show valueR (m, l, e) = (0, m, l, e) by simp [valueR, h0]]
    dsimp only [cellR]
    try rw [hss]
    refine ACalls.of_aw (Ω := [(63, Ent.pure p_done), (65, Ent.effect e_peek), (64, Ent.effect e_fail), (71, Ent.pure p_vParse)]) (T := assoc []) mixed (TblOk.cons ok_done (TblOk.cons ok_peek (TblOk.cons ok_fail (TblOk.cons ok_vParse TblOk.nil)))) Try.func30 (by kernel_rfl) (by rfl) (rs := [.cell 2 46]) (by rfl) (by kernel_rfl) (by simp only [Try.ntmps30, List.length_cons, List.length_nil]; decide) (by simp [zjk]) fun hcl hlt => ?_
    change aw _ _ _ (KI Try.prog [(63, Ent.pure p_done), (65, Ent.effect e_peek), (64, Ent.effect e_fail), (71, Ent.pure p_vParse)] (aEnd Try.prog [.cell 2 46] H.nx _ _) []) _ _
    clear hlt
    have hcl1 := fun l' e' => closedR hid hcl m (.inl rfl) l' e'
    have hcl2 := fun l' e' => closedR hid hcl .any (.inr rfl) l' e' 
    simp only [↓bwp, bwq, zav, List.tail_nil, List.tail_cons, List.headD_nil, List.headD_cons, ne_eq, reduceCtorEq, Nat.reduceEqDiff, Nat.reduceAdd, Nat.reduceMul, Nat.reduceSub, Nat.reduceLeDiff, Nat.reduceLT, Int.reduceMul, Int.reduceAdd, Int.reduceSub, List.map_cons, List.map_nil, Option.map_some, Option.map_none, Option.elim_some, if_true, if_false, List.append_nil, List.nil_append, bvq, rEq, List.cons_append, Int.reduceToNat, List.getElem?_cons_zero, List.getElem?_cons_succ, TD.agg, List.drop_succ_cons, List.drop_zero, List.take_succ_cons, List.take_zero, List.take_nil, List.drop_nil, List.getD_cons_zero, List.getD_cons_succ, splice, zhb, zhc, Option.isSome_some, Option.isSome_none, List.getElem?_nil, zhd, zhe, rLen, rBin, rInt, rStr, rUn, zhf, zhg, zhh, zhi, zhj, rBox, zhk, zhl, zhm, zhn, zho, zhp, zhq, zhr, zhs, zht, zhu, zhv, zhw, zhx, zhy, zhz, zia, zib, zic, bound, addL, addT, grow, room, List.length_cons, List.length_nil, List.length_map, frOf, byq, ti_bytes, ti_int, ti_uint, ti_u8, ti_bool, ti_string, ti_u64, ti_val, ti_a16, ti_bits, ti_op, ti_ops, ti_reader, ti_errno, ti_preader, ti_rreader, ti_prreader, ↓blp, blq, hne, hid, hcs, hcm, hgm, onR, onRo_some, onRo_nil, zkg, zke, zjp, and_true, true_and, hid, p_done, d0, v0]
    simp (disch := first | assumption | omega | (simp; done) | (simp; omega) | (simp only [bt, and_true]; first | done | omega | (simp; done))) [↓zkt, beq, List.take_of_length_le, List.drop_append, List.take_append, endOk, wk, wk2, wk1, wkM, wkL, wkLL, List.drop_eq_nil_of_le, hss, hl0, hcl, hcl1, hcl2, hle]
    try omega
  subst h0
  have d0 : ((0 : Int) != 0) = false := rfl
  by_cases h1 : l.length < 1
  · have d1 : (l.length : Int) < 1 := by omega
    rw [show valueR (m, l, 0) = (0, m, l, 1) by simp [valueR, h1]]
    dsimp only [cellR]
    try rw [hss]
    refine ACalls.of_aw (Ω := [(63, Ent.pure p_done), (65, Ent.effect e_peek), (64, Ent.effect e_fail), (71, Ent.pure p_vParse)]) (T := assoc []) mixed (TblOk.cons ok_done (TblOk.cons ok_peek (TblOk.cons ok_fail (TblOk.cons ok_vParse TblOk.nil)))) Try.func30 (by kernel_rfl) (by rfl) (rs := [.cell 2 46]) (by rfl) (by kernel_rfl) (by simp only [Try.ntmps30, List.length_cons, List.length_nil]; decide) (by simp [zjk]) fun hcl hlt => ?_
    change aw _ _ _ (KI Try.prog [(63, Ent.pure p_done), (65, Ent.effect e_peek), (64, Ent.effect e_fail), (71, Ent.pure p_vParse)] (aEnd Try.prog [.cell 2 46] H.nx _ _) []) _ _
    clear hlt
    have hcl1 := fun l' e' => closedR hid hcl m (.inl rfl) l' e'
    have hcl2 := fun l' e' => closedR hid hcl .any (.inr rfl) l' e' 
    simp only [↓bwp, bwq, zav, List.tail_nil, List.tail_cons, List.headD_nil, List.headD_cons, ne_eq, reduceCtorEq, Nat.reduceEqDiff, Nat.reduceAdd, Nat.reduceMul, Nat.reduceSub, Nat.reduceLeDiff, Nat.reduceLT, Int.reduceMul, Int.reduceAdd, Int.reduceSub, List.map_cons, List.map_nil, Option.map_some, Option.map_none, Option.elim_some, if_true, if_false, List.append_nil, List.nil_append, bvq, rEq, List.cons_append, Int.reduceToNat, List.getElem?_cons_zero, List.getElem?_cons_succ, TD.agg, List.drop_succ_cons, List.drop_zero, List.take_succ_cons, List.take_zero, List.take_nil, List.drop_nil, List.getD_cons_zero, List.getD_cons_succ, splice, zhb, zhc, Option.isSome_some, Option.isSome_none, List.getElem?_nil, zhd, zhe, rLen, rBin, rInt, rStr, rUn, zhf, zhg, zhh, zhi, zhj, rBox, zhk, zhl, zhm, zhn, zho, zhp, zhq, zhr, zhs, zht, zhu, zhv, zhw, zhx, zhy, zhz, zia, zib, zic, bound, addL, addT, grow, room, List.length_cons, List.length_nil, List.length_map, frOf, byq, ti_bytes, ti_int, ti_uint, ti_u8, ti_bool, ti_string, ti_u64, ti_val, ti_a16, ti_bits, ti_op, ti_ops, ti_reader, ti_errno, ti_preader, ti_rreader, ti_prreader, ↓blp, blq, hne, hid, hcs, hcm, hgm, onR, onRo_some, onRo_nil, zkg, zke, zjp, and_true, true_and, hid, p_done, e_peek, d0, if_pos d1, v0]
    simp (disch := first | assumption | omega | (simp; done) | (simp; omega) | (simp only [bt, and_true]; first | done | omega | (simp; done))) [↓zkt, beq, List.take_of_length_le, List.drop_append, List.take_append, endOk, wk, wk2, wk1, wkM, wkL, wkLL, List.drop_eq_nil_of_le, hss, hl0, hcl, hcl1, hcl2, hle]
    try omega
  have d1 : ¬ (l.length : Int) < 1 := by omega
  have d6 : (l.take 1).length = 1 := by rw [List.length_take]; omega
  have d7 : List.take (l.length : Int).toNat l = l := by simp
  have d8 : (bys (l.take 1)).getD 0 .junk = ofByte (b0 l) := b0_get l 1 (by omega) (by omega)
  have hbl := UInt8.toNat_lt (b0 l)
  have d9 : IntKind.i64.wrap (((b0 l).toNat : Nat) : Int) = (((b0 l).toNat : Nat) : Int) := wrap_i64_nat _ (by omega)
  by_cases h2 : (b0 l).toNat < 1
  · have d2 : decide (((b0 l).toNat : Int) < 1) = true := by simp; omega
    rw [show valueR (m, l, 0) = (0, m, l, 2) by simp [valueR, h1, h2]]
    dsimp only [cellR]
    try rw [hss]
    refine ACalls.of_aw (Ω := [(63, Ent.pure p_done), (65, Ent.effect e_peek), (64, Ent.effect e_fail), (71, Ent.pure p_vParse)]) (T := assoc []) mixed (TblOk.cons ok_done (TblOk.cons ok_peek (TblOk.cons ok_fail (TblOk.cons ok_vParse TblOk.nil)))) Try.func30 (by kernel_rfl) (by rfl) (rs := [.cell 2 46]) (by rfl) (by kernel_rfl) (by simp only [Try.ntmps30, List.length_cons, List.length_nil]; decide) (by simp [zjk]) fun hcl hlt => ?_
    change aw _ _ _ (KI Try.prog [(63, Ent.pure p_done), (65, Ent.effect e_peek), (64, Ent.effect e_fail), (71, Ent.pure p_vParse)] (aEnd Try.prog [.cell 2 46] H.nx _ _) []) _ _
    clear hlt
    have hcl1 := fun l' e' => closedR hid hcl m (.inl rfl) l' e'
    have hcl2 := fun l' e' => closedR hid hcl .any (.inr rfl) l' e' 
    simp only [↓bwp, bwq, zav, List.tail_nil, List.tail_cons, List.headD_nil, List.headD_cons, ne_eq, reduceCtorEq, Nat.reduceEqDiff, Nat.reduceAdd, Nat.reduceMul, Nat.reduceSub, Nat.reduceLeDiff, Nat.reduceLT, Int.reduceMul, Int.reduceAdd, Int.reduceSub, List.map_cons, List.map_nil, Option.map_some, Option.map_none, Option.elim_some, if_true, if_false, List.append_nil, List.nil_append, bvq, rEq, List.cons_append, Int.reduceToNat, List.getElem?_cons_zero, List.getElem?_cons_succ, TD.agg, List.drop_succ_cons, List.drop_zero, List.take_succ_cons, List.take_zero, List.take_nil, List.drop_nil, List.getD_cons_zero, List.getD_cons_succ, splice, zhb, zhc, Option.isSome_some, Option.isSome_none, List.getElem?_nil, zhd, zhe, rLen, rBin, rInt, rStr, rUn, zhf, zhg, zhh, zhi, zhj, rBox, zhk, zhl, zhm, zhn, zho, zhp, zhq, zhr, zhs, zht, zhu, zhv, zhw, zhx, zhy, zhz, zia, zib, zic, bound, addL, addT, grow, room, List.length_cons, List.length_nil, List.length_map, frOf, byq, ti_bytes, ti_int, ti_uint, ti_u8, ti_bool, ti_string, ti_u64, ti_val, ti_a16, ti_bits, ti_op, ti_ops, ti_reader, ti_errno, ti_preader, ti_rreader, ti_prreader, ↓blp, blq, hne, hid, hcs, hcm, hgm, onR, onRo_some, onRo_nil, zkg, zke, zjp, and_true, true_and, hid, p_done, e_peek, e_fail, d0, if_neg d1, d2, d6, d7, d8, d9, List.drop_zero, ofByte, v0]
    simp (disch := first | assumption | omega | (simp; done) | (simp; omega) | (simp only [bt, and_true]; first | done | omega | (simp; done))) [↓zkt, beq, List.take_of_length_le, List.drop_append, List.take_append, endOk, wk, wk2, wk1, wkM, wkL, wkLL, List.drop_eq_nil_of_le, hss, hl0, hcl, hcl1, hcl2, hle]
    try omega
  have d2 : decide (((b0 l).toNat : Int) < 1) = false := by simp; omega
  by_cases h3 : 16 < (b0 l).toNat
  · have d3 : decide (((b0 l).toNat : Int) > 16) = true := by simp; omega
    rw [show valueR (m, l, 0) = (0, m, l, 2) by simp [valueR, h1, h2, h3]]
    dsimp only [cellR]
    try rw [hss]
    refine ACalls.of_aw (Ω := [(63, Ent.pure p_done), (65, Ent.effect e_peek), (64, Ent.effect e_fail), (71, Ent.pure p_vParse)]) (T := assoc []) mixed (TblOk.cons ok_done (TblOk.cons ok_peek (TblOk.cons ok_fail (TblOk.cons ok_vParse TblOk.nil)))) Try.func30 (by kernel_rfl) (by rfl) (rs := [.cell 2 46]) (by rfl) (by kernel_rfl) (by simp only [Try.ntmps30, List.length_cons, List.length_nil]; decide) (by simp [zjk]) fun hcl hlt => ?_
    change aw _ _ _ (KI Try.prog [(63, Ent.pure p_done), (65, Ent.effect e_peek), (64, Ent.effect e_fail), (71, Ent.pure p_vParse)] (aEnd Try.prog [.cell 2 46] H.nx _ _) []) _ _
    clear hlt
    have hcl1 := fun l' e' => closedR hid hcl m (.inl rfl) l' e'
    have hcl2 := fun l' e' => closedR hid hcl .any (.inr rfl) l' e' 
    simp only [↓bwp, bwq, zav, List.tail_nil, List.tail_cons, List.headD_nil, List.headD_cons, ne_eq, reduceCtorEq, Nat.reduceEqDiff, Nat.reduceAdd, Nat.reduceMul, Nat.reduceSub, Nat.reduceLeDiff, Nat.reduceLT, Int.reduceMul, Int.reduceAdd, Int.reduceSub, List.map_cons, List.map_nil, Option.map_some, Option.map_none, Option.elim_some, if_true, if_false, List.append_nil, List.nil_append, bvq, rEq, List.cons_append, Int.reduceToNat, List.getElem?_cons_zero, List.getElem?_cons_succ, TD.agg, List.drop_succ_cons, List.drop_zero, List.take_succ_cons, List.take_zero, List.take_nil, List.drop_nil, List.getD_cons_zero, List.getD_cons_succ, splice, zhb, zhc, Option.isSome_some, Option.isSome_none, List.getElem?_nil, zhd, zhe, rLen, rBin, rInt, rStr, rUn, zhf, zhg, zhh, zhi, zhj, rBox, zhk, zhl, zhm, zhn, zho, zhp, zhq, zhr, zhs, zht, zhu, zhv, zhw, zhx, zhy, zhz, zia, zib, zic, bound, addL, addT, grow, room, List.length_cons, List.length_nil, List.length_map, frOf, byq, ti_bytes, ti_int, ti_uint, ti_u8, ti_bool, ti_string, ti_u64, ti_val, ti_a16, ti_bits, ti_op, ti_ops, ti_reader, ti_errno, ti_preader, ti_rreader, ti_prreader, ↓blp, blq, hne, hid, hcs, hcm, hgm, onR, onRo_some, onRo_nil, zkg, zke, zjp, and_true, true_and, hid, p_done, e_peek, e_fail, d0, if_neg d1, d2, d3, d6, d7, d8, d9, List.drop_zero, ofByte, v0]
    simp (disch := first | assumption | omega | (simp; done) | (simp; omega) | (simp only [bt, and_true]; first | done | omega | (simp; done))) [↓zkt, beq, List.take_of_length_le, List.drop_append, List.take_append, endOk, wk, wk2, wk1, wkM, wkL, wkLL, List.drop_eq_nil_of_le, hss, hl0, hcl, hcl1, hcl2, hle]
    try omega
  have d3 : decide (((b0 l).toNat : Int) > 16) = false := by simp; omega
  by_cases h4 : l.length < 1 + (b0 l).toNat
  · have d4 : (l.length : Int) < 1 + (((b0 l).toNat : Nat) : Int) := by omega
    rw [show valueR (m, l, 0) = (0, m, l, 1) by simp [valueR, h1, h2, h3, h4]]
    dsimp only [cellR]
    try rw [hss]
    refine ACalls.of_aw (Ω := [(63, Ent.pure p_done), (65, Ent.effect e_peek), (64, Ent.effect e_fail), (71, Ent.pure p_vParse)]) (T := assoc []) mixed (TblOk.cons ok_done (TblOk.cons ok_peek (TblOk.cons ok_fail (TblOk.cons ok_vParse TblOk.nil)))) Try.func30 (by kernel_rfl) (by rfl) (rs := [.cell 2 46]) (by rfl) (by kernel_rfl) (by simp only [Try.ntmps30, List.length_cons, List.length_nil]; decide) (by simp [zjk]) fun hcl hlt => ?_
    change aw _ _ _ (KI Try.prog [(63, Ent.pure p_done), (65, Ent.effect e_peek), (64, Ent.effect e_fail), (71, Ent.pure p_vParse)] (aEnd Try.prog [.cell 2 46] H.nx _ _) []) _ _
    clear hlt
    have hcl1 := fun l' e' => closedR hid hcl m (.inl rfl) l' e'
    have hcl2 := fun l' e' => closedR hid hcl .any (.inr rfl) l' e' 
    simp only [↓bwp, bwq, zav, List.tail_nil, List.tail_cons, List.headD_nil, List.headD_cons, ne_eq, reduceCtorEq, Nat.reduceEqDiff, Nat.reduceAdd, Nat.reduceMul, Nat.reduceSub, Nat.reduceLeDiff, Nat.reduceLT, Int.reduceMul, Int.reduceAdd, Int.reduceSub, List.map_cons, List.map_nil, Option.map_some, Option.map_none, Option.elim_some, if_true, if_false, List.append_nil, List.nil_append, bvq, rEq, List.cons_append, Int.reduceToNat, List.getElem?_cons_zero, List.getElem?_cons_succ, TD.agg, List.drop_succ_cons, List.drop_zero, List.take_succ_cons, List.take_zero, List.take_nil, List.drop_nil, List.getD_cons_zero, List.getD_cons_succ, splice, zhb, zhc, Option.isSome_some, Option.isSome_none, List.getElem?_nil, zhd, zhe, rLen, rBin, rInt, rStr, rUn, zhf, zhg, zhh, zhi, zhj, rBox, zhk, zhl, zhm, zhn, zho, zhp, zhq, zhr, zhs, zht, zhu, zhv, zhw, zhx, zhy, zhz, zia, zib, zic, bound, addL, addT, grow, room, List.length_cons, List.length_nil, List.length_map, frOf, byq, ti_bytes, ti_int, ti_uint, ti_u8, ti_bool, ti_string, ti_u64, ti_val, ti_a16, ti_bits, ti_op, ti_ops, ti_reader, ti_errno, ti_preader, ti_rreader, ti_prreader, ↓blp, blq, hne, hid, hcs, hcm, hgm, onR, onRo_some, onRo_nil, zkg, zke, zjp, and_true, true_and, hid, p_done, e_peek, e_fail, d0, if_neg d1, if_pos d4, d2, d3, d6, d7, d8, d9, List.drop_zero, ofByte, v0]
    simp (disch := first | assumption | omega | (simp; done) | (simp; omega) | (simp only [bt, and_true]; first | done | omega | (simp; done))) [↓zkt, beq, List.take_of_length_le, List.drop_append, List.take_append, endOk, wk, wk2, wk1, wkM, wkL, wkLL, List.drop_eq_nil_of_le, hss, hl0, hcl, hcl1, hcl2, hle]
    try omega
  have d4 : ¬ (l.length : Int) < 1 + (((b0 l).toNat : Nat) : Int) := by omega
  have d5 : (1 + (((b0 l).toNat : Nat) : Int)).toNat = 1 + (b0 l).toNat := by omega
  have w1 : IntKind.i64.wrap (1 + (((b0 l).toNat : Nat) : Int)) = ((1 + (b0 l).toNat : Nat) : Int) := by rw [wrap_i64] <;> omega
  have hpl : ((l.take (1 + (b0 l).toNat)).drop 1).length ≤ 140737488355328 := by simp; omega
  have v1 : ∀ v, vv v = .agg [.int .u64 ((v / 2 ^ 64 : Nat) : Int), .int .u64 ((v % 2 ^ 64 : Nat) : Int)] := fun _ => rfl
  by_cases h5 : (parseV ((l.take (1 + (b0 l).toNat)).drop 1)).2 = 0
  · have dp : parseV ((l.take (1 + (b0 l).toNat)).drop 1) = ((parseV ((l.take (1 + (b0 l).toNat)).drop 1)).1, 0) := by rw [← h5]
    generalize (parseV ((l.take (1 + (b0 l).toNat)).drop 1)).1 = q at *
    rw [show valueR (m, l, 0) = (q, Mark.any, l.drop (1 + (b0 l).toNat), (0 : Int)) by simp only [valueR]; rw [if_neg (by simp), if_neg h1, if_neg (by omega), if_neg h4, dp, if_neg (by simp)]]
    dsimp only [cellR]
    refine ACalls.of_aw (Ω := [(63, Ent.pure p_done), (65, Ent.effect e_peek), (64, Ent.effect e_fail), (71, Ent.pure p_vParse)]) (T := assoc []) mixed (TblOk.cons ok_done (TblOk.cons ok_peek (TblOk.cons ok_fail (TblOk.cons ok_vParse TblOk.nil)))) Try.func30 (by kernel_rfl) (by rfl) (rs := [.cell 2 46]) (by rfl) (by kernel_rfl) (by simp only [Try.ntmps30, List.length_cons, List.length_nil]; decide) (by simp [zjk]) fun hcl hlt => ?_
    change aw _ _ _ (KI Try.prog [(63, Ent.pure p_done), (65, Ent.effect e_peek), (64, Ent.effect e_fail), (71, Ent.pure p_vParse)] (aEnd Try.prog [.cell 2 46] H.nx _ _) []) _ _
    clear hlt
    have hcl1 := fun l' e' => closedR hid hcl m (.inl rfl) l' e'
    have hcl2 := fun l' e' => closedR hid hcl .any (.inr rfl) l' e' 
    simp only [↓bwp, bwq, zav, List.tail_nil, List.tail_cons, List.headD_nil, List.headD_cons, ne_eq, reduceCtorEq, Nat.reduceEqDiff, Nat.reduceAdd, Nat.reduceMul, Nat.reduceSub, Nat.reduceLeDiff, Nat.reduceLT, Int.reduceMul, Int.reduceAdd, Int.reduceSub, List.map_cons, List.map_nil, Option.map_some, Option.map_none, Option.elim_some, if_true, if_false, List.append_nil, List.nil_append, bvq, rEq, List.cons_append, Int.reduceToNat, List.getElem?_cons_zero, List.getElem?_cons_succ, TD.agg, List.drop_succ_cons, List.drop_zero, List.take_succ_cons, List.take_zero, List.take_nil, List.drop_nil, List.getD_cons_zero, List.getD_cons_succ, splice, zhb, zhc, Option.isSome_some, Option.isSome_none, List.getElem?_nil, zhd, zhe, rLen, rBin, rInt, rStr, rUn, zhf, zhg, zhh, zhi, zhj, rBox, zhk, zhl, zhm, zhn, zho, zhp, zhq, zhr, zhs, zht, zhu, zhv, zhw, zhx, zhy, zhz, zia, zib, zic, bound, addL, addT, grow, room, List.length_cons, List.length_nil, List.length_map, frOf, byq, ti_bytes, ti_int, ti_uint, ti_u8, ti_bool, ti_string, ti_u64, ti_val, ti_a16, ti_bits, ti_op, ti_ops, ti_reader, ti_errno, ti_preader, ti_rreader, ti_prreader, ↓blp, blq, hne, hid, hcs, hcm, hgm, onR, onRo_some, onRo_nil, zkg, zke, zjp, and_true, true_and, hid, p_done, e_peek, e_fail, p_vParse, d0, if_neg d1, if_neg d4, d2, d3, d5, d6, d7, d8, d9, w1, dp, hpl, Int.toNat_natCast, List.drop_zero, ofByte, v1]
    simp (disch := first | assumption | omega | (simp; done) | (simp; omega) | (simp only [bt, and_true]; first | done | omega | (simp; done))) [↓zkt, beq, List.take_of_length_le, List.drop_append, List.take_append, endOk, wk, wk2, wk1, wkM, wkL, wkLL, List.drop_eq_nil_of_le, hss, hl0, hcl, hcl1, hcl2, hle]
    try omega
  · have d10 : ((parseV ((l.take (1 + (b0 l).toNat)).drop 1)).2 != 0) = true := by simpa using h5
    rw [show valueR (m, l, 0) = (0, m, l, 5) by simp only [valueR]; rw [if_neg (by simp), if_neg h1, if_neg (by omega), if_neg h4, if_pos h5]]
    generalize hq : parseV ((l.take (1 + (b0 l).toNat)).drop 1) = q at *
    dsimp only [cellR]
    refine ACalls.of_aw (Ω := [(63, Ent.pure p_done), (65, Ent.effect e_peek), (64, Ent.effect e_fail), (71, Ent.pure p_vParse)]) (T := assoc []) mixed (TblOk.cons ok_done (TblOk.cons ok_peek (TblOk.cons ok_fail (TblOk.cons ok_vParse TblOk.nil)))) Try.func30 (by kernel_rfl) (by rfl) (rs := [.cell 2 46]) (by rfl) (by kernel_rfl) (by simp only [Try.ntmps30, List.length_cons, List.length_nil]; decide) (by simp [zjk]) fun hcl hlt => ?_
    change aw _ _ _ (KI Try.prog [(63, Ent.pure p_done), (65, Ent.effect e_peek), (64, Ent.effect e_fail), (71, Ent.pure p_vParse)] (aEnd Try.prog [.cell 2 46] H.nx _ _) []) _ _
    clear hlt
    have hcl1 := fun l' e' => closedR hid hcl m (.inl rfl) l' e'
    have hcl2 := fun l' e' => closedR hid hcl .any (.inr rfl) l' e' 
    simp only [↓bwp, bwq, zav, List.tail_nil, List.tail_cons, List.headD_nil, List.headD_cons, ne_eq, reduceCtorEq, Nat.reduceEqDiff, Nat.reduceAdd, Nat.reduceMul, Nat.reduceSub, Nat.reduceLeDiff, Nat.reduceLT, Int.reduceMul, Int.reduceAdd, Int.reduceSub, List.map_cons, List.map_nil, Option.map_some, Option.map_none, Option.elim_some, if_true, if_false, List.append_nil, List.nil_append, bvq, rEq, List.cons_append, Int.reduceToNat, List.getElem?_cons_zero, List.getElem?_cons_succ, TD.agg, List.drop_succ_cons, List.drop_zero, List.take_succ_cons, List.take_zero, List.take_nil, List.drop_nil, List.getD_cons_zero, List.getD_cons_succ, splice, zhb, zhc, Option.isSome_some, Option.isSome_none, List.getElem?_nil, zhd, zhe, rLen, rBin, rInt, rStr, rUn, zhf, zhg, zhh, zhi, zhj, rBox, zhk, zhl, zhm, zhn, zho, zhp, zhq, zhr, zhs, zht, zhu, zhv, zhw, zhx, zhy, zhz, zia, zib, zic, bound, addL, addT, grow, room, List.length_cons, List.length_nil, List.length_map, frOf, byq, ti_bytes, ti_int, ti_uint, ti_u8, ti_bool, ti_string, ti_u64, ti_val, ti_a16, ti_bits, ti_op, ti_ops, ti_reader, ti_errno, ti_preader, ti_rreader, ti_prreader, ↓blp, blq, hne, hid, hcs, hcm, hgm, onR, onRo_some, onRo_nil, zkg, zke, zjp, and_true, true_and, hid, p_done, e_peek, e_fail, p_vParse, d0, if_neg d1, if_neg d4, d2, d3, d5, d6, d7, d8, d9, d10, w1, hq, hpl, Int.toNat_natCast, List.drop_zero, ofByte, v1]
    simp (disch := first | assumption | omega | (simp; done) | (simp; omega) | (simp only [bt, and_true]; first | done | omega | (simp; done))) [↓zkt, beq, List.take_of_length_le, List.drop_append, List.take_append, endOk, wk, wk2, wk1, wkM, wkL, wkLL, List.drop_eq_nil_of_le, hss, hl0, hcl, hcl1, hcl2, hle]
    try omega

def e_xfail : List AV → AHeap → (AEnd → AHeap → Prop) → Prop
  | [.ptr id 0, .int .i64 x], H, K => onR H id fun m l e => True ∧ K (.ret (.tup [])) (H.set id (.cells [.slice m 1 (bys l), .int .i64 x]))
  | _, _, _ => False
theorem ok_xfail : EntOk Try.prog 67 (Ent.effect e_xfail) := by
  refine EntOk.effect fun args H K h => ?_
  unfold e_xfail at h
  split at h
  rotate_left
  · exact h.elim
  rename_i id x
  obtain ⟨m, l, e, hid, hle, h⟩ := onR_out h
  obtain ⟨hpre, hK⟩ := h
  refine ⟨_, _, hK, ?_⟩
  clear hK
  have hl0 := AHeap.get_lt hid
  have hne := far_of hl0
  have hss := set_same hid
  have hcs := cells_some hid
  have hcm := fun cs => @cells_set_same H id cs hl0
  have hgm := fun o => @get_set_same' H id o hl0
  refine ACalls.of_aw (Ω := []) (T := assoc []) mixed TblOk.nil Try.func67 (by kernel_rfl) (by rfl) (rs := []) (by rfl) (by kernel_rfl) (by simp only [Try.ntmps67, List.length_cons, List.length_nil]; decide) (Nat.le_refl _) fun hcl hlt => ?_
  change aw _ _ _ (KI Try.prog [] (aEnd Try.prog [] H.nx _ _) []) _ _
  clear hlt
  have hcl1 := fun l' e' => closedR hid hcl m (.inl rfl) l' e'
  have hcl2 := fun l' e' => closedR hid hcl .any (.inr rfl) l' e' 
  simp only [↓bwp, bwq, zav, List.tail_nil, List.tail_cons, List.headD_nil, List.headD_cons, ne_eq, reduceCtorEq, Nat.reduceEqDiff, Nat.reduceAdd, Nat.reduceMul, Nat.reduceSub, Nat.reduceLeDiff, Nat.reduceLT, Int.reduceMul, Int.reduceAdd, Int.reduceSub, List.map_cons, List.map_nil, Option.map_some, Option.map_none, Option.elim_some, if_true, if_false, List.append_nil, List.nil_append, bvq, rEq, List.cons_append, Int.reduceToNat, List.getElem?_cons_zero, List.getElem?_cons_succ, TD.agg, List.drop_succ_cons, List.drop_zero, List.take_succ_cons, List.take_zero, List.take_nil, List.drop_nil, List.getD_cons_zero, List.getD_cons_succ, splice, zhb, zhc, Option.isSome_some, Option.isSome_none, List.getElem?_nil, zhd, zhe, rLen, rBin, rInt, rStr, rUn, zhf, zhg, zhh, zhi, zhj, rBox, zhk, zhl, zhm, zhn, zho, zhp, zhq, zhr, zhs, zht, zhu, zhv, zhw, zhx, zhy, zhz, zia, zib, zic, bound, addL, addT, grow, room, List.length_cons, List.length_nil, List.length_map, frOf, byq, ti_bytes, ti_int, ti_uint, ti_u8, ti_bool, ti_string, ti_u64, ti_val, ti_a16, ti_bits, ti_op, ti_ops, ti_reader, ti_errno, ti_preader, ti_rreader, ti_prreader, hne, hid, hcs, hcm, hgm, onR, onRo_some, onRo_nil, zkg, zke, zjp, and_true, true_and]
  simp (disch := first | assumption | omega | (simp; done) | (simp; omega) | (simp only [bt, and_true]; first | done | omega | (simp; done))) [↓zkt, beq, List.take_of_length_le, List.drop_append, List.take_append, endOk, wk, wk2, wk1, wkM, wkL, wkLL, List.drop_eq_nil_of_le, hss, hl0, hcl1, hcl2, zkg, zke, zjp]

def e_xBool : List AV → AHeap → (AEnd → AHeap → Prop) → Prop
  | [.ptr id 0], H, K => onR H id fun m l e => True ∧ K (.ret (.bool (boolR (m, l, e)).1)) (H.set id (.cells (cellR (boolR (m, l, e)).2)))
  | _, _, _ => False
theorem ok_xBool : EntOk Try.prog 25 (Ent.effect e_xBool) := by
  refine EntOk.effect fun args H K h => ?_
  unfold e_xBool at h
  split at h
  rotate_left
  · exact h.elim
  rename_i id
  obtain ⟨m, l, e, hid, hle, h⟩ := onR_out h
  obtain ⟨hpre, hK⟩ := h
  refine ⟨_, _, hK, ?_⟩
  clear hK
  have hl0 := AHeap.get_lt hid
  have hne := far_of hl0
  have hss := set_same hid
  have hcs := cells_some hid
  have hcm := fun cs => @cells_set_same H id cs hl0
  have hgm := fun o => @get_set_same' H id o hl0
  by_cases h0 : e = 0
  case neg =>
    have d0 : (e != 0) = true := by simpa using h0
    rw [show boolR (m, l, e) = (false, m, l, e) by simp [boolR, h0]]
    dsimp only [cellR]
    try rw [hss]
    refine ACalls.of_aw (Ω := [(67, Ent.effect e_xfail)]) (T := assoc []) mixed (TblOk.cons ok_xfail TblOk.nil) Try.func25 (by kernel_rfl) (by rfl) (rs := [.tmp 2]) (by rfl) (by kernel_rfl) (by simp only [Try.ntmps25, List.length_cons, List.length_nil]; decide) (by simp [zjk]) fun hcl hlt => ?_
    change aw _ _ _ (KI Try.prog [(67, Ent.effect e_xfail)] (aEnd Try.prog [.tmp 2] H.nx _ _) []) _ _
    clear hlt
    have hcl1 := fun l' e' => closedR hid hcl m (.inl rfl) l' e'
    have hcl2 := fun l' e' => closedR hid hcl .any (.inr rfl) l' e' 
    simp only [↓bwp, bwq, zav, List.tail_nil, List.tail_cons, List.headD_nil, List.headD_cons, ne_eq, reduceCtorEq, Nat.reduceEqDiff, Nat.reduceAdd, Nat.reduceMul, Nat.reduceSub, Nat.reduceLeDiff, Nat.reduceLT, Int.reduceMul, Int.reduceAdd, Int.reduceSub, List.map_cons, List.map_nil, Option.map_some, Option.map_none, Option.elim_some, if_true, if_false, List.append_nil, List.nil_append, bvq, rEq, List.cons_append, Int.reduceToNat, List.getElem?_cons_zero, List.getElem?_cons_succ, TD.agg, List.drop_succ_cons, List.drop_zero, List.take_succ_cons, List.take_zero, List.take_nil, List.drop_nil, List.getD_cons_zero, List.getD_cons_succ, splice, zhb, zhc, Option.isSome_some, Option.isSome_none, List.getElem?_nil, zhd, zhe, rLen, rBin, rInt, rStr, rUn, zhf, zhg, zhh, zhi, zhj, rBox, zhk, zhl, zhm, zhn, zho, zhp, zhq, zhr, zhs, zht, zhu, zhv, zhw, zhx, zhy, zhz, zia, zib, zic, bound, addL, addT, grow, room, List.length_cons, List.length_nil, List.length_map, frOf, byq, ti_bytes, ti_int, ti_uint, ti_u8, ti_bool, ti_string, ti_u64, ti_val, ti_a16, ti_bits, ti_op, ti_ops, ti_reader, ti_errno, ti_preader, ti_rreader, ti_prreader, ↓blp, blq, hne, hid, hcs, hcm, hgm, onR, onRo_some, onRo_nil, zkg, zke, zjp, and_true, true_and, hid, d0]
    simp (disch := first | assumption | omega | (simp; done) | (simp; omega) | (simp only [bt, and_true]; first | done | omega | (simp; done))) [↓zkt, beq, List.take_of_length_le, List.drop_append, List.take_append, endOk, wk, wk2, wk1, wkM, wkL, wkLL, List.drop_eq_nil_of_le, hss, hl0, hcl, hcl1, hcl2, hle]
    try omega
  subst h0
  have d0 : ((0 : Int) != 0) = false := rfl
  by_cases h1 : l.length < 1
  · have d1 : ((l.length : Int) == 0) = true := by simp; exact List.eq_nil_of_length_eq_zero (by omega)
    rw [show boolR (m, l, 0) = (false, m, l, 1) by simp [boolR, h1]]
    dsimp only [cellR]
    try rw [hss]
    refine ACalls.of_aw (Ω := [(67, Ent.effect e_xfail)]) (T := assoc []) mixed (TblOk.cons ok_xfail TblOk.nil) Try.func25 (by kernel_rfl) (by rfl) (rs := [.tmp 2]) (by rfl) (by kernel_rfl) (by simp only [Try.ntmps25, List.length_cons, List.length_nil]; decide) (by simp [zjk]) fun hcl hlt => ?_
    change aw _ _ _ (KI Try.prog [(67, Ent.effect e_xfail)] (aEnd Try.prog [.tmp 2] H.nx _ _) []) _ _
    clear hlt
    have hcl1 := fun l' e' => closedR hid hcl m (.inl rfl) l' e'
    have hcl2 := fun l' e' => closedR hid hcl .any (.inr rfl) l' e' 
    simp only [↓bwp, bwq, zav, List.tail_nil, List.tail_cons, List.headD_nil, List.headD_cons, ne_eq, reduceCtorEq, Nat.reduceEqDiff, Nat.reduceAdd, Nat.reduceMul, Nat.reduceSub, Nat.reduceLeDiff, Nat.reduceLT, Int.reduceMul, Int.reduceAdd, Int.reduceSub, List.map_cons, List.map_nil, Option.map_some, Option.map_none, Option.elim_some, if_true, if_false, List.append_nil, List.nil_append, bvq, rEq, List.cons_append, Int.reduceToNat, List.getElem?_cons_zero, List.getElem?_cons_succ, TD.agg, List.drop_succ_cons, List.drop_zero, List.take_succ_cons, List.take_zero, List.take_nil, List.drop_nil, List.getD_cons_zero, List.getD_cons_succ, splice, zhb, zhc, Option.isSome_some, Option.isSome_none, List.getElem?_nil, zhd, zhe, rLen, rBin, rInt, rStr, rUn, zhf, zhg, zhh, zhi, zhj, rBox, zhk, zhl, zhm, zhn, zho, zhp, zhq, zhr, zhs, zht, zhu, zhv, zhw, zhx, zhy, zhz, zia, zib, zic, bound, addL, addT, grow, room, List.length_cons, List.length_nil, List.length_map, frOf, byq, ti_bytes, ti_int, ti_uint, ti_u8, ti_bool, ti_string, ti_u64, ti_val, ti_a16, ti_bits, ti_op, ti_ops, ti_reader, ti_errno, ti_preader, ti_rreader, ti_prreader, ↓blp, blq, hne, hid, hcs, hcm, hgm, onR, onRo_some, onRo_nil, zkg, zke, zjp, and_true, true_and, hid, e_xfail, d0, d1]
    simp (disch := first | assumption | omega | (simp; done) | (simp; omega) | (simp only [bt, and_true]; first | done | omega | (simp; done))) [↓zkt, beq, List.take_of_length_le, List.drop_append, List.take_append, endOk, wk, wk2, wk1, wkM, wkL, wkLL, List.drop_eq_nil_of_le, hss, hl0, hcl, hcl1, hcl2, hle]
    try omega
  have d1 : ((l.length : Int) == 0) = false := by simp; intro e; exact h1 (by rw [e]; simp)
  have d7 : List.take (l.length : Int).toNat l = l := by simp
  have d8 : (bys l).getD 0 .junk = ofByte (b0 l) := b0_get' l (by omega)
  by_cases h2 : 1 < (b0 l).toNat
  · have d2 : decide (((b0 l).toNat : Int) > 1) = true := by simp; omega
    rw [show boolR (m, l, 0) = (false, m, l, 2) by simp [boolR, h1, h2]]
    dsimp only [cellR]
    try rw [hss]
    refine ACalls.of_aw (Ω := [(67, Ent.effect e_xfail)]) (T := assoc []) mixed (TblOk.cons ok_xfail TblOk.nil) Try.func25 (by kernel_rfl) (by rfl) (rs := [.tmp 2]) (by rfl) (by kernel_rfl) (by simp only [Try.ntmps25, List.length_cons, List.length_nil]; decide) (by simp [zjk]) fun hcl hlt => ?_
    change aw _ _ _ (KI Try.prog [(67, Ent.effect e_xfail)] (aEnd Try.prog [.tmp 2] H.nx _ _) []) _ _
    clear hlt
    have hcl1 := fun l' e' => closedR hid hcl m (.inl rfl) l' e'
    have hcl2 := fun l' e' => closedR hid hcl .any (.inr rfl) l' e' 
    simp only [↓bwp, bwq, zav, List.tail_nil, List.tail_cons, List.headD_nil, List.headD_cons, ne_eq, reduceCtorEq, Nat.reduceEqDiff, Nat.reduceAdd, Nat.reduceMul, Nat.reduceSub, Nat.reduceLeDiff, Nat.reduceLT, Int.reduceMul, Int.reduceAdd, Int.reduceSub, List.map_cons, List.map_nil, Option.map_some, Option.map_none, Option.elim_some, if_true, if_false, List.append_nil, List.nil_append, bvq, rEq, List.cons_append, Int.reduceToNat, List.getElem?_cons_zero, List.getElem?_cons_succ, TD.agg, List.drop_succ_cons, List.drop_zero, List.take_succ_cons, List.take_zero, List.take_nil, List.drop_nil, List.getD_cons_zero, List.getD_cons_succ, splice, zhb, zhc, Option.isSome_some, Option.isSome_none, List.getElem?_nil, zhd, zhe, rLen, rBin, rInt, rStr, rUn, zhf, zhg, zhh, zhi, zhj, rBox, zhk, zhl, zhm, zhn, zho, zhp, zhq, zhr, zhs, zht, zhu, zhv, zhw, zhx, zhy, zhz, zia, zib, zic, bound, addL, addT, grow, room, List.length_cons, List.length_nil, List.length_map, frOf, byq, ti_bytes, ti_int, ti_uint, ti_u8, ti_bool, ti_string, ti_u64, ti_val, ti_a16, ti_bits, ti_op, ti_ops, ti_reader, ti_errno, ti_preader, ti_rreader, ti_prreader, ↓blp, blq, hne, hid, hcs, hcm, hgm, onR, onRo_some, onRo_nil, zkg, zke, zjp, and_true, true_and, hid, e_xfail, d0, d1, d2, d7, d8, ofByte]
    simp (disch := first | assumption | omega | (simp; done) | (simp; omega) | (simp only [bt, and_true]; first | done | omega | (simp; done))) [↓zkt, beq, List.take_of_length_le, List.drop_append, List.take_append, endOk, wk, wk2, wk1, wkM, wkL, wkLL, List.drop_eq_nil_of_le, hss, hl0, hcl, hcl1, hcl2, hle]
    try omega
  · have d2 : decide (((b0 l).toNat : Int) > 1) = false := by simp; omega
    have d3 : ((((b0 l).toNat : Nat) : Int) == 1) = ((b0 l).toNat == 1) := by rw [Bool.eq_iff_iff]; simp; omega
    rw [show boolR (m, l, 0) = ((b0 l).toNat == 1, Mark.any, l.drop 1, (0 : Int)) by simp [boolR, h1, h2]]
    dsimp only [cellR]
    try rw [hss]
    refine ACalls.of_aw (Ω := [(67, Ent.effect e_xfail)]) (T := assoc []) mixed (TblOk.cons ok_xfail TblOk.nil) Try.func25 (by kernel_rfl) (by rfl) (rs := [.tmp 2]) (by rfl) (by kernel_rfl) (by simp only [Try.ntmps25, List.length_cons, List.length_nil]; decide) (by simp [zjk]) fun hcl hlt => ?_
    change aw _ _ _ (KI Try.prog [(67, Ent.effect e_xfail)] (aEnd Try.prog [.tmp 2] H.nx _ _) []) _ _
    clear hlt
    have hcl1 := fun l' e' => closedR hid hcl m (.inl rfl) l' e'
    have hcl2 := fun l' e' => closedR hid hcl .any (.inr rfl) l' e' 
    simp only [↓bwp, bwq, zav, List.tail_nil, List.tail_cons, List.headD_nil, List.headD_cons, ne_eq, reduceCtorEq, Nat.reduceEqDiff, Nat.reduceAdd, Nat.reduceMul, Nat.reduceSub, Nat.reduceLeDiff, Nat.reduceLT, Int.reduceMul, Int.reduceAdd, Int.reduceSub, List.map_cons, List.map_nil, Option.map_some, Option.map_none, Option.elim_some, if_true, if_false, List.append_nil, List.nil_append, bvq, rEq, List.cons_append, Int.reduceToNat, List.getElem?_cons_zero, List.getElem?_cons_succ, TD.agg, List.drop_succ_cons, List.drop_zero, List.take_succ_cons, List.take_zero, List.take_nil, List.drop_nil, List.getD_cons_zero, List.getD_cons_succ, splice, zhb, zhc, Option.isSome_some, Option.isSome_none, List.getElem?_nil, zhd, zhe, rLen, rBin, rInt, rStr, rUn, zhf, zhg, zhh, zhi, zhj, rBox, zhk, zhl, zhm, zhn, zho, zhp, zhq, zhr, zhs, zht, zhu, zhv, zhw, zhx, zhy, zhz, zia, zib, zic, bound, addL, addT, grow, room, List.length_cons, List.length_nil, List.length_map, frOf, byq, ti_bytes, ti_int, ti_uint, ti_u8, ti_bool, ti_string, ti_u64, ti_val, ti_a16, ti_bits, ti_op, ti_ops, ti_reader, ti_errno, ti_preader, ti_rreader, ti_prreader, ↓blp, blq, hne, hid, hcs, hcm, hgm, onR, onRo_some, onRo_nil, zkg, zke, zjp, and_true, true_and, hid, e_xfail, d0, d1, d2, d3, d7, d8, ofByte]
    simp (disch := first | assumption | omega | (simp; done) | (simp; omega) | (simp only [bt, and_true]; first | done | omega | (simp; done))) [↓zkt, beq, List.take_of_length_le, List.drop_append, List.take_append, endOk, wk, wk2, wk1, wkM, wkL, wkLL, List.drop_eq_nil_of_le, hss, hl0, hcl, hcl1, hcl2, hle]
    try omega

theorem beVal_two (l : List UInt8) (h : 2 ≤ l.length) : beVal (l.take 2) = (l.getD 0 0).toNat * 256 + (l.getD 1 0).toNat := by
  match l, h with
  | a :: b :: t, _ => simp [beVal]

def e_xBytes : List AV → AHeap → (AEnd → AHeap → Prop) → Prop
  | [.ptr id 0, .int .i64 most], H, K => onR H id fun m l e => True ∧ K (.ret (.slice .any 1 (bys (bytesR (m, l, e) most).1))) (H.set id (.cells (cellR (bytesR (m, l, e) most).2)))
  | _, _, _ => False
theorem ok_xBytes : EntOk Try.prog 27 (Ent.effect e_xBytes) := by
  refine EntOk.effect fun args H K h => ?_
  unfold e_xBytes at h
  split at h
  rotate_left
  · exact h.elim
  rename_i id most
  obtain ⟨m, l, e, hid, hle, h⟩ := onR_out h
  obtain ⟨hpre, hK⟩ := h
  refine ⟨_, _, hK, ?_⟩
  clear hK
  have hl0 := AHeap.get_lt hid
  have hne := far_of hl0
  have hss := set_same hid
  have hcs := cells_some hid
  have hcm := fun cs => @cells_set_same H id cs hl0
  have hgm := fun o => @get_set_same' H id o hl0
  by_cases h0 : e = 0
  case neg =>
    have d0 : (e != 0) = true := by simpa using h0
    rw [show bytesR (m, l, e) most = ([], m, l, e) by simp [bytesR, h0]]
    dsimp only [cellR]
    try rw [hss]
    refine ACalls.of_aw (Ω := [(67, Ent.effect e_xfail)]) (T := assoc []) mixed (TblOk.cons ok_xfail TblOk.nil) Try.func27 (by kernel_rfl) (by rfl) (rs := [.tmp 4]) (by rfl) (by kernel_rfl) (by simp only [Try.ntmps27, List.length_cons, List.length_nil]; decide) (by simp [zjk]) fun hcl hlt => ?_
    change aw _ _ _ (KI Try.prog [(67, Ent.effect e_xfail)] (aEnd Try.prog [.tmp 4] H.nx _ _) []) _ _
    clear hlt
    have hcl1 := fun l' e' => closedR hid hcl m (.inl rfl) l' e'
    have hcl2 := fun l' e' => closedR hid hcl .any (.inr rfl) l' e' 
    simp only [↓bwp, bwq, zav, List.tail_nil, List.tail_cons, List.headD_nil, List.headD_cons, ne_eq, reduceCtorEq, Nat.reduceEqDiff, Nat.reduceAdd, Nat.reduceMul, Nat.reduceSub, Nat.reduceLeDiff, Nat.reduceLT, Int.reduceMul, Int.reduceAdd, Int.reduceSub, List.map_cons, List.map_nil, Option.map_some, Option.map_none, Option.elim_some, if_true, if_false, List.append_nil, List.nil_append, bvq, rEq, List.cons_append, Int.reduceToNat, List.getElem?_cons_zero, List.getElem?_cons_succ, TD.agg, List.drop_succ_cons, List.drop_zero, List.take_succ_cons, List.take_zero, List.take_nil, List.drop_nil, List.getD_cons_zero, List.getD_cons_succ, splice, zhb, zhc, Option.isSome_some, Option.isSome_none, List.getElem?_nil, zhd, zhe, rLen, rBin, rInt, rStr, rUn, zhf, zhg, zhh, zhi, zhj, rBox, zhk, zhl, zhm, zhn, zho, zhp, zhq, zhr, zhs, zht, zhu, zhv, zhw, zhx, zhy, zhz, zia, zib, zic, bound, addL, addT, grow, room, List.length_cons, List.length_nil, List.length_map, frOf, byq, ti_bytes, ti_int, ti_uint, ti_u8, ti_bool, ti_string, ti_u64, ti_val, ti_a16, ti_bits, ti_op, ti_ops, ti_reader, ti_errno, ti_preader, ti_rreader, ti_prreader, ↓blp, blq, hne, hid, hcs, hcm, hgm, onR, onRo_some, onRo_nil, zkg, zke, zjp, and_true, true_and, hid, d0]
    simp (disch := first | assumption | omega | (simp; done) | (simp; omega) | (simp only [bt, and_true]; first | done | omega | (simp; done))) [↓zkt, beq, List.take_of_length_le, List.drop_append, List.take_append, endOk, wk, wk2, wk1, wkM, wkL, wkLL, List.drop_eq_nil_of_le, hss, hl0, hcl, hcl1, hcl2, hle]
    try omega
  subst h0
  have d0 : ((0 : Int) != 0) = false := rfl
  by_cases h1 : l.length < 2
  · have d1 : decide ((l.length : Int) < 2) = true := by simp; omega
    rw [show bytesR (m, l, 0) most = ([], m, l, 1) by simp [bytesR, h1]]
    dsimp only [cellR]
    try rw [hss]
    refine ACalls.of_aw (Ω := [(67, Ent.effect e_xfail)]) (T := assoc []) mixed (TblOk.cons ok_xfail TblOk.nil) Try.func27 (by kernel_rfl) (by rfl) (rs := [.tmp 4]) (by rfl) (by kernel_rfl) (by simp only [Try.ntmps27, List.length_cons, List.length_nil]; decide) (by simp [zjk]) fun hcl hlt => ?_
    change aw _ _ _ (KI Try.prog [(67, Ent.effect e_xfail)] (aEnd Try.prog [.tmp 4] H.nx _ _) []) _ _
    clear hlt
    have hcl1 := fun l' e' => closedR hid hcl m (.inl rfl) l' e'
    have hcl2 := fun l' e' => closedR hid hcl .any (.inr rfl) l' e' 
    simp only [↓bwp, bwq, zav, List.tail_nil, List.tail_cons, List.headD_nil, List.headD_cons, ne_eq, reduceCtorEq, Nat.reduceEqDiff, Nat.reduceAdd, Nat.reduceMul, Nat.reduceSub, Nat.reduceLeDiff, Nat.reduceLT, Int.reduceMul, Int.reduceAdd, Int.reduceSub, List.map_cons, List.map_nil, Option.map_some, Option.map_none, Option.elim_some, if_true, if_false, List.append_nil, List.nil_append, bvq, rEq, List.cons_append, Int.reduceToNat, List.getElem?_cons_zero, List.getElem?_cons_succ, TD.agg, List.drop_succ_cons, List.drop_zero, List.take_succ_cons, List.take_zero, List.take_nil, List.drop_nil, List.getD_cons_zero, List.getD_cons_succ, splice, zhb, zhc, Option.isSome_some, Option.isSome_none, List.getElem?_nil, zhd, zhe, rLen, rBin, rInt, rStr, rUn, zhf, zhg, zhh, zhi, zhj, rBox, zhk, zhl, zhm, zhn, zho, zhp, zhq, zhr, zhs, zht, zhu, zhv, zhw, zhx, zhy, zhz, zia, zib, zic, bound, addL, addT, grow, room, List.length_cons, List.length_nil, List.length_map, frOf, byq, ti_bytes, ti_int, ti_uint, ti_u8, ti_bool, ti_string, ti_u64, ti_val, ti_a16, ti_bits, ti_op, ti_ops, ti_reader, ti_errno, ti_preader, ti_rreader, ti_prreader, ↓blp, blq, hne, hid, hcs, hcm, hgm, onR, onRo_some, onRo_nil, zkg, zke, zjp, and_true, true_and, hid, e_xfail, d0, d1]
    simp (disch := first | assumption | omega | (simp; done) | (simp; omega) | (simp only [bt, and_true]; first | done | omega | (simp; done))) [↓zkt, beq, List.take_of_length_le, List.drop_append, List.take_append, endOk, wk, wk2, wk1, wkM, wkL, wkLL, List.drop_eq_nil_of_le, hss, hl0, hcl, hcl1, hcl2, hle]
    try omega
  have d1 : decide ((l.length : Int) < 2) = false := by simp; omega
  have d2 : (bys l).getD 0 .junk = .int .u8 (((l.getD 0 0).toNat : Nat) : Int) := bys_get (by omega)
  have d3 : (bys l).getD 1 .junk = .int .u8 (((l.getD 1 0).toNat : Nat) : Int) := bys_get (by omega)
  have hv := beVal_two l (by omega)
  have b1 := UInt8.toNat_lt (l.getD 0 0)
  have b2 := UInt8.toNat_lt (l.getD 1 0)
  generalize (l.getD 0 0).toNat = x at *
  generalize (l.getD 1 0).toNat = y at *
  have w1 : IntKind.i64.wrap (x : Int) = (x : Int) := wrap_i64_nat _ (by omega)
  have w2 : IntKind.i64.wrap (y : Int) = (y : Int) := wrap_i64_nat _ (by omega)
  have w3 : IntKind.i64.wrap ((x : Int) * 256) = ((x * 256 : Nat) : Int) := by rw [wrap_i64] <;> omega
  have w4 : IntKind.i64.wrap (((x * 256 : Nat) : Int) + (y : Int)) = ((beVal (l.take 2) : Nat) : Int) := by rw [wrap_i64] <;> omega
  have hb : beVal (l.take 2) < 65536 := by omega
  clear hv
  generalize hn : beVal (l.take 2) = n at *
  have w5 : IntKind.i64.wrap (2 + (n : Int)) = ((2 + n : Nat) : Int) := by rw [wrap_i64] <;> omega
  by_cases h2 : most < (n : Int)
  · have d4 : decide ((n : Int) > most) = true := by simpa using h2
    rw [show bytesR (m, l, 0) most = ([], m, l, 3) by simp [bytesR, hn, h1, h2]]
    dsimp only [cellR]
    try rw [hss]
    refine ACalls.of_aw (Ω := [(67, Ent.effect e_xfail)]) (T := assoc []) mixed (TblOk.cons ok_xfail TblOk.nil) Try.func27 (by kernel_rfl) (by rfl) (rs := [.tmp 4]) (by rfl) (by kernel_rfl) (by simp only [Try.ntmps27, List.length_cons, List.length_nil]; decide) (by simp [zjk]) fun hcl hlt => ?_
    change aw _ _ _ (KI Try.prog [(67, Ent.effect e_xfail)] (aEnd Try.prog [.tmp 4] H.nx _ _) []) _ _
    clear hlt
    have hcl1 := fun l' e' => closedR hid hcl m (.inl rfl) l' e'
    have hcl2 := fun l' e' => closedR hid hcl .any (.inr rfl) l' e' 
    simp only [↓bwp, bwq, zav, List.tail_nil, List.tail_cons, List.headD_nil, List.headD_cons, ne_eq, reduceCtorEq, Nat.reduceEqDiff, Nat.reduceAdd, Nat.reduceMul, Nat.reduceSub, Nat.reduceLeDiff, Nat.reduceLT, Int.reduceMul, Int.reduceAdd, Int.reduceSub, List.map_cons, List.map_nil, Option.map_some, Option.map_none, Option.elim_some, if_true, if_false, List.append_nil, List.nil_append, bvq, rEq, List.cons_append, Int.reduceToNat, List.getElem?_cons_zero, List.getElem?_cons_succ, TD.agg, List.drop_succ_cons, List.drop_zero, List.take_succ_cons, List.take_zero, List.take_nil, List.drop_nil, List.getD_cons_zero, List.getD_cons_succ, splice, zhb, zhc, Option.isSome_some, Option.isSome_none, List.getElem?_nil, zhd, zhe, rLen, rBin, rInt, rStr, rUn, zhf, zhg, zhh, zhi, zhj, rBox, zhk, zhl, zhm, zhn, zho, zhp, zhq, zhr, zhs, zht, zhu, zhv, zhw, zhx, zhy, zhz, zia, zib, zic, bound, addL, addT, grow, room, List.length_cons, List.length_nil, List.length_map, frOf, byq, ti_bytes, ti_int, ti_uint, ti_u8, ti_bool, ti_string, ti_u64, ti_val, ti_a16, ti_bits, ti_op, ti_ops, ti_reader, ti_errno, ti_preader, ti_rreader, ti_prreader, ↓blp, blq, hne, hid, hcs, hcm, hgm, onR, onRo_some, onRo_nil, zkg, zke, zjp, and_true, true_and, hid, e_xfail, d0, d1, d2, d3, d4, w1, w2, w3, w4]
    simp (disch := first | assumption | omega | (simp; done) | (simp; omega) | (simp only [bt, and_true]; first | done | omega | (simp; done))) [↓zkt, beq, List.take_of_length_le, List.drop_append, List.take_append, endOk, wk, wk2, wk1, wkM, wkL, wkLL, List.drop_eq_nil_of_le, hss, hl0, hcl, hcl1, hcl2, hle]
    try omega
  have d4 : decide ((n : Int) > most) = false := by simpa using h2
  by_cases h3 : l.length < 2 + n
  · have d5 : decide ((l.length : Int) < ((2 + n : Nat) : Int)) = true := by simp; omega
    rw [show bytesR (m, l, 0) most = ([], m, l, 1) by simp [bytesR, hn, h1, h2, h3]]
    dsimp only [cellR]
    try rw [hss]
    refine ACalls.of_aw (Ω := [(67, Ent.effect e_xfail)]) (T := assoc []) mixed (TblOk.cons ok_xfail TblOk.nil) Try.func27 (by kernel_rfl) (by rfl) (rs := [.tmp 4]) (by rfl) (by kernel_rfl) (by simp only [Try.ntmps27, List.length_cons, List.length_nil]; decide) (by simp [zjk]) fun hcl hlt => ?_
    change aw _ _ _ (KI Try.prog [(67, Ent.effect e_xfail)] (aEnd Try.prog [.tmp 4] H.nx _ _) []) _ _
    clear hlt
    have hcl1 := fun l' e' => closedR hid hcl m (.inl rfl) l' e'
    have hcl2 := fun l' e' => closedR hid hcl .any (.inr rfl) l' e' 
    simp only [↓bwp, bwq, zav, List.tail_nil, List.tail_cons, List.headD_nil, List.headD_cons, ne_eq, reduceCtorEq, Nat.reduceEqDiff, Nat.reduceAdd, Nat.reduceMul, Nat.reduceSub, Nat.reduceLeDiff, Nat.reduceLT, Int.reduceMul, Int.reduceAdd, Int.reduceSub, List.map_cons, List.map_nil, Option.map_some, Option.map_none, Option.elim_some, if_true, if_false, List.append_nil, List.nil_append, bvq, rEq, List.cons_append, Int.reduceToNat, List.getElem?_cons_zero, List.getElem?_cons_succ, TD.agg, List.drop_succ_cons, List.drop_zero, List.take_succ_cons, List.take_zero, List.take_nil, List.drop_nil, List.getD_cons_zero, List.getD_cons_succ, splice, zhb, zhc, Option.isSome_some, Option.isSome_none, List.getElem?_nil, zhd, zhe, rLen, rBin, rInt, rStr, rUn, zhf, zhg, zhh, zhi, zhj, rBox, zhk, zhl, zhm, zhn, zho, zhp, zhq, zhr, zhs, zht, zhu, zhv, zhw, zhx, zhy, zhz, zia, zib, zic, bound, addL, addT, grow, room, List.length_cons, List.length_nil, List.length_map, frOf, byq, ti_bytes, ti_int, ti_uint, ti_u8, ti_bool, ti_string, ti_u64, ti_val, ti_a16, ti_bits, ti_op, ti_ops, ti_reader, ti_errno, ti_preader, ti_rreader, ti_prreader, ↓blp, blq, hne, hid, hcs, hcm, hgm, onR, onRo_some, onRo_nil, zkg, zke, zjp, and_true, true_and, hid, e_xfail, d0, d1, d2, d3, d4, d5, w1, w2, w3, w4, w5]
    simp (disch := first | assumption | omega | (simp; done) | (simp; omega) | (simp only [bt, and_true]; first | done | omega | (simp; done))) [↓zkt, beq, List.take_of_length_le, List.drop_append, List.take_append, endOk, wk, wk2, wk1, wkM, wkL, wkLL, List.drop_eq_nil_of_le, hss, hl0, hcl, hcl1, hcl2, hle]
    try omega
  · have d5 : decide ((l.length : Int) < ((2 + n : Nat) : Int)) = false := by simp; omega
    have d7 : List.take (l.length : Int).toNat l = l := by simp
    have d8 : ((l.take (2 + n)).drop 2).length ≤ 140737488355328 := by simp; omega
    rw [show bytesR (m, l, 0) most = ((l.take (2 + n)).drop 2, Mark.any, l.drop (2 + n), (0 : Int)) by simp [bytesR, hn, h1, h2, h3]]
    dsimp only [cellR]
    try rw [hss]
    refine ACalls.of_aw (Ω := [(67, Ent.effect e_xfail)]) (T := assoc []) mixed (TblOk.cons ok_xfail TblOk.nil) Try.func27 (by kernel_rfl) (by rfl) (rs := [.tmp 4]) (by rfl) (by kernel_rfl) (by simp only [Try.ntmps27, List.length_cons, List.length_nil]; decide) (by simp [zjk]) fun hcl hlt => ?_
    change aw _ _ _ (KI Try.prog [(67, Ent.effect e_xfail)] (aEnd Try.prog [.tmp 4] H.nx _ _) []) _ _
    clear hlt
    have hcl1 := fun l' e' => closedR hid hcl m (.inl rfl) l' e'
    have hcl2 := fun l' e' => closedR hid hcl .any (.inr rfl) l' e' 
    simp only [↓bwp, bwq, zav, List.tail_nil, List.tail_cons, List.headD_nil, List.headD_cons, ne_eq, reduceCtorEq, Nat.reduceEqDiff, Nat.reduceAdd, Nat.reduceMul, Nat.reduceSub, Nat.reduceLeDiff, Nat.reduceLT, Int.reduceMul, Int.reduceAdd, Int.reduceSub, List.map_cons, List.map_nil, Option.map_some, Option.map_none, Option.elim_some, if_true, if_false, List.append_nil, List.nil_append, bvq, rEq, List.cons_append, Int.reduceToNat, List.getElem?_cons_zero, List.getElem?_cons_succ, TD.agg, List.drop_succ_cons, List.drop_zero, List.take_succ_cons, List.take_zero, List.take_nil, List.drop_nil, List.getD_cons_zero, List.getD_cons_succ, splice, zhb, zhc, Option.isSome_some, Option.isSome_none, List.getElem?_nil, zhd, zhe, rLen, rBin, rInt, rStr, rUn, zhf, zhg, zhh, zhi, zhj, rBox, zhk, zhl, zhm, zhn, zho, zhp, zhq, zhr, zhs, zht, zhu, zhv, zhw, zhx, zhy, zhz, zia, zib, zic, bound, addL, addT, grow, room, List.length_cons, List.length_nil, List.length_map, frOf, byq, ti_bytes, ti_int, ti_uint, ti_u8, ti_bool, ti_string, ti_u64, ti_val, ti_a16, ti_bits, ti_op, ti_ops, ti_reader, ti_errno, ti_preader, ti_rreader, ti_prreader, ↓blp, blq, hne, hid, hcs, hcm, hgm, onR, onRo_some, onRo_nil, zkg, zke, zjp, and_true, true_and, hid, e_xfail, d0, d1, d2, d3, d4, d5, d7, d8, w1, w2, w3, w4, w5, Int.toNat_natCast]
    simp (disch := first | assumption | omega | (simp; done) | (simp; omega) | (simp only [bt, and_true]; first | done | omega | (simp; done))) [↓zkt, beq, List.take_of_length_le, List.drop_append, List.take_append, endOk, wk, wk2, wk1, wkM, wkL, wkLL, List.drop_eq_nil_of_le, hss, hl0, hcl, hcl1, hcl2, hle]
    try omega
theorem plainB_step (l : List UInt8) (k : Nat) (h : k < l.length) : plainB (l.drop k) = (!(decide ((l.getD k 0).toNat < 32) || decide (126 < (l.getD k 0).toNat)) && plainB (l.drop (k + 1))) := by
  rw [List.drop_eq_getElem_cons h]
  have : l.getD k 0 = l[k] := by simp [List.getD_eq_getElem?_getD, h]
  rw [this]; rfl

def p_xPlain : List AV → AHeap → (AV → Prop) → Prop
  | [.str s], _, K => (s.length ≤ 140737488355328) ∧ K (.bool (plainB s))
  | _, _, _ => False
theorem ok_xPlain : EntOk Try.prog 70 (Ent.pure p_xPlain) := by
  refine EntOk.pure fun args H K h => ?_
  unfold p_xPlain at h
  split at h
  rotate_left
  · exact h.elim
  rename_i s
  obtain ⟨hle, hK⟩ := h
  refine ⟨_, hK, ?_⟩
  refine ACalls.of_aw (Ω := []) (T := assoc []) mixed TblOk.nil Try.func70 (by kernel_rfl) (by rfl) (rs := [.tmp 2]) (by rfl) (by kernel_rfl) (by simp only [Try.ntmps70, List.length_cons, List.length_nil]; decide) (Nat.le_refl _) fun hcl hlt => ?_
  change aw _ _ _ (KI Try.prog [] (aEnd Try.prog [.tmp 2] H.nx _ _) []) _ _
  clear hK hlt
  simp only [↓bwp, bwq, List.tail_nil, List.tail_cons, List.headD_nil, List.headD_cons, ne_eq, reduceCtorEq, Nat.reduceEqDiff, Nat.reduceAdd, Nat.reduceMul, Nat.reduceSub, Nat.reduceLeDiff, Nat.reduceLT, Int.reduceMul, Int.reduceAdd, Int.reduceSub, List.map_cons, List.map_nil, Option.map_some, Option.map_none, Option.elim_some, if_true, if_false, List.append_nil, List.nil_append, bvq, rEq, List.cons_append, Int.reduceToNat, List.getElem?_cons_zero, List.getElem?_cons_succ, TD.agg, List.drop_succ_cons, List.drop_zero, List.take_succ_cons, List.take_zero, List.take_nil, List.drop_nil, List.getD_cons_zero, List.getD_cons_succ, splice, zhb, zhc, Option.isSome_some, Option.isSome_none, List.getElem?_nil, zhd, zhe, rLen, rBin, rInt, rStr, rUn, zhf, zhg, zhh, zhi, zhj, rBox, zhk, zhl, zhm, zhn, zho, zhp, zhq, zhr, zhs, zht, zhu, zhv, zhw, zhx, zhy, zhz, zia, zib, zic, bound, addL, addT, grow, room, List.length_cons, List.length_nil, List.length_map, frOf, byq, ti_bytes, ti_int, ti_uint, ti_u8, ti_bool, ti_string, ti_u64, ti_val, ti_a16, ti_bits, ti_op, ti_ops, ti_reader, ti_errno, ti_preader, ti_rreader, ti_prreader, ↓blp, blq]
  refine loop_intro (A := Nat) (fun k => [(3, .int .i64 (k : Int)), (0, .str s)])
    (fun k => H) (fun k => k ≤ s.length ∧ plainB (s.drop k) = plainB s) (fun k => s.length - k) 0 ⟨by omega, by simp⟩ ?_ fun k hk => ?_
  · simp only [bnq, enter, subF, ltF, ne_eq, Nat.reduceEqDiff, reduceCtorEq, true_or, and_true]
  obtain ⟨hk, hb⟩ := hk
  simp only [↓bwp, bwq, List.tail_nil, List.tail_cons, List.headD_nil, List.headD_cons, ne_eq, reduceCtorEq, Nat.reduceEqDiff, Nat.reduceAdd, Nat.reduceMul, Nat.reduceSub, Nat.reduceLeDiff, Nat.reduceLT, Int.reduceMul, Int.reduceAdd, Int.reduceSub, List.map_cons, List.map_nil, Option.map_some, Option.map_none, Option.elim_some, if_true, if_false, List.append_nil, List.nil_append, bvq, rEq, List.cons_append, Int.reduceToNat, List.getElem?_cons_zero, List.getElem?_cons_succ, TD.agg, List.drop_succ_cons, List.drop_zero, List.take_succ_cons, List.take_zero, List.take_nil, List.drop_nil, List.getD_cons_zero, List.getD_cons_succ, splice, zhb, zhc, Option.isSome_some, Option.isSome_none, List.getElem?_nil, zhd, zhe, rLen, rBin, rInt, rStr, rUn, zhf, zhg, zhh, zhi, zhj, rBox, zhk, zhl, zhm, zhn, zho, zhp, zhq, zhr, zhs, zht, zhu, zhv, zhw, zhx, zhy, zhz, zia, zib, zic, bound, addL, addT, grow, room, List.length_cons, List.length_nil, List.length_map, frOf, byq, ti_bytes, ti_int, ti_uint, ti_u8, ti_bool, ti_string, ti_u64, ti_val, ti_a16, ti_bits, ti_op, ti_ops, ti_reader, ti_errno, ti_preader, ti_rreader, ti_prreader, ↓blp, blq]
  refine cond_split (fun hc => ?_) (fun hc => ?_)
  · have hk : k < s.length := by simp at hc; omega
    have e1 : IntKind.i64.wrap ((k : Int) + 1) = ((k + 1 : Nat) : Int) := by rw [wrap_i64] <;> omega
    have hst := plainB_step s k hk
    have fin1 : ∀ c : Nat, (decide ((c : Int) < 32)) = decide (c < 32) := fun c => by rw [Bool.eq_iff_iff]; simp; omega
    have fin2 : ∀ c : Nat, (decide ((c : Int) > 126)) = decide (126 < c) := fun c => by rw [Bool.eq_iff_iff]; simp; omega
    by_cases c1 : (s.getD k 0).toNat < 32
    · have c1' : decide ((s.getD k 0).toNat < 32) = true := by simpa using c1
      rw [c1'] at hst
      have hf : plainB s = false := by rw [← hb, hst]; rfl
      rw [hf]
      simp only [↓bwp, bwq, zav, List.tail_nil, List.tail_cons, List.headD_nil, List.headD_cons, ne_eq, reduceCtorEq, Nat.reduceEqDiff, Nat.reduceAdd, Nat.reduceMul, Nat.reduceSub, Nat.reduceLeDiff, Nat.reduceLT, Int.reduceMul, Int.reduceAdd, Int.reduceSub, List.map_cons, List.map_nil, Option.map_some, Option.map_none, Option.elim_some, if_true, if_false, List.append_nil, List.nil_append, bvq, rEq, List.cons_append, Int.reduceToNat, List.getElem?_cons_zero, List.getElem?_cons_succ, TD.agg, List.drop_succ_cons, List.drop_zero, List.take_succ_cons, List.take_zero, List.take_nil, List.drop_nil, List.getD_cons_zero, List.getD_cons_succ, splice, zhb, zhc, Option.isSome_some, Option.isSome_none, List.getElem?_nil, zhd, zhe, rLen, rBin, rInt, rStr, rUn, zhf, zhg, zhh, zhi, zhj, rBox, zhk, zhl, zhm, zhn, zho, zhp, zhq, zhr, zhs, zht, zhu, zhv, zhw, zhx, zhy, zhz, zia, zib, zic, bound, addL, addT, grow, room, List.length_cons, List.length_nil, List.length_map, frOf, byq, ti_bytes, ti_int, ti_uint, ti_u8, ti_bool, ti_string, ti_u64, ti_val, ti_a16, ti_bits, ti_op, ti_ops, ti_reader, ti_errno, ti_preader, ti_rreader, ti_prreader, ↓blp, blq, e1, Int.toNat_natCast, fin1, c1']
      refine ⟨by omega, ?_⟩
      simp (disch := first | assumption | omega | (simp; done) | (simp; omega) | (simp only [bt, and_true]; first | done | omega | (simp; done))) [↓zkt, beq, List.take_of_length_le, List.drop_append, List.take_append, endOk, wk, wk2, wk1, wkM, wkL, wkLL, List.drop_eq_nil_of_le, hcl]
    · have c1' : decide ((s.getD k 0).toNat < 32) = false := by simpa using c1
      rw [c1'] at hst
      by_cases c2 : 126 < (s.getD k 0).toNat
      · have c2' : decide (126 < (s.getD k 0).toNat) = true := by simpa using c2
        rw [c2'] at hst
        have hf : plainB s = false := by rw [← hb, hst]; rfl
        rw [hf]
        simp only [↓bwp, bwq, zav, List.tail_nil, List.tail_cons, List.headD_nil, List.headD_cons, ne_eq, reduceCtorEq, Nat.reduceEqDiff, Nat.reduceAdd, Nat.reduceMul, Nat.reduceSub, Nat.reduceLeDiff, Nat.reduceLT, Int.reduceMul, Int.reduceAdd, Int.reduceSub, List.map_cons, List.map_nil, Option.map_some, Option.map_none, Option.elim_some, if_true, if_false, List.append_nil, List.nil_append, bvq, rEq, List.cons_append, Int.reduceToNat, List.getElem?_cons_zero, List.getElem?_cons_succ, TD.agg, List.drop_succ_cons, List.drop_zero, List.take_succ_cons, List.take_zero, List.take_nil, List.drop_nil, List.getD_cons_zero, List.getD_cons_succ, splice, zhb, zhc, Option.isSome_some, Option.isSome_none, List.getElem?_nil, zhd, zhe, rLen, rBin, rInt, rStr, rUn, zhf, zhg, zhh, zhi, zhj, rBox, zhk, zhl, zhm, zhn, zho, zhp, zhq, zhr, zhs, zht, zhu, zhv, zhw, zhx, zhy, zhz, zia, zib, zic, bound, addL, addT, grow, room, List.length_cons, List.length_nil, List.length_map, frOf, byq, ti_bytes, ti_int, ti_uint, ti_u8, ti_bool, ti_string, ti_u64, ti_val, ti_a16, ti_bits, ti_op, ti_ops, ti_reader, ti_errno, ti_preader, ti_rreader, ti_prreader, ↓blp, blq, e1, Int.toNat_natCast, fin1, fin2, c1', c2']
        refine ⟨by omega, by omega, ?_⟩
        simp (disch := first | assumption | omega | (simp; done) | (simp; omega) | (simp only [bt, and_true]; first | done | omega | (simp; done))) [↓zkt, beq, List.take_of_length_le, List.drop_append, List.take_append, endOk, wk, wk2, wk1, wkM, wkL, wkLL, List.drop_eq_nil_of_le, hcl]
      · have c2' : decide (126 < (s.getD k 0).toNat) = false := by simpa using c2
        rw [c2'] at hst
        have hf : plainB (s.drop (k + 1)) = plainB s := by rw [← hb, hst]; simp
        simp only [↓bwp, bwq, List.tail_nil, List.tail_cons, List.headD_nil, List.headD_cons, ne_eq, reduceCtorEq, Nat.reduceEqDiff, Nat.reduceAdd, Nat.reduceMul, Nat.reduceSub, Nat.reduceLeDiff, Nat.reduceLT, Int.reduceMul, Int.reduceAdd, Int.reduceSub, List.map_cons, List.map_nil, Option.map_some, Option.map_none, Option.elim_some, if_true, if_false, List.append_nil, List.nil_append, zau, bvq, rEq, List.cons_append, Int.reduceToNat, List.getElem?_cons_zero, List.getElem?_cons_succ, TD.agg, List.drop_succ_cons, List.drop_zero, List.take_succ_cons, List.take_zero, List.take_nil, List.drop_nil, List.getD_cons_zero, List.getD_cons_succ, splice, zhb, zhc, Option.isSome_some, Option.isSome_none, List.getElem?_nil, zhd, zhe, rLen, rBin, rInt, rStr, rUn, zhf, zhg, zhh, zhi, zhj, rBox, zhk, zhl, zhm, zhn, zho, zhp, zhq, zhr, zhs, zht, zhu, zhv, zhw, zhx, zhy, zhz, zia, zib, zic, bound, addL, addT, grow, room, List.length_cons, List.length_nil, List.length_map, frOf, byq, ti_bytes, ti_int, ti_uint, ti_u8, ti_bool, ti_string, ti_u64, ti_val, ti_a16, ti_bits, ti_op, ti_ops, ti_reader, ti_errno, ti_preader, ti_rreader, ti_prreader, ↓blp, blq, e1, Int.toNat_natCast, fin1, fin2, c1', c2']
        refine ⟨by omega, by omega, k + 1, ⟨by omega, hf⟩, by omega, ?_⟩
        simp only [bnq, enter, subF, ltF, ne_eq, Nat.reduceEqDiff, reduceCtorEq, true_or, and_self]
  · have hk : k = s.length := by simp at hc; omega
    subst hk
    rw [List.drop_length] at hb
    rw [← hb]
    simp only [↓bwp, bwq, List.tail_nil, List.tail_cons, List.headD_nil, List.headD_cons, ne_eq, reduceCtorEq, Nat.reduceEqDiff, Nat.reduceAdd, Nat.reduceMul, Nat.reduceSub, Nat.reduceLeDiff, Nat.reduceLT, Int.reduceMul, Int.reduceAdd, Int.reduceSub, List.map_cons, List.map_nil, Option.map_some, Option.map_none, Option.elim_some, if_true, if_false, List.append_nil, List.nil_append, bvq, rEq, List.cons_append, Int.reduceToNat, List.getElem?_cons_zero, List.getElem?_cons_succ, TD.agg, List.drop_succ_cons, List.drop_zero, List.take_succ_cons, List.take_zero, List.take_nil, List.drop_nil, List.getD_cons_zero, List.getD_cons_succ, splice, zhb, zhc, Option.isSome_some, Option.isSome_none, List.getElem?_nil, zhd, zhe, rLen, rBin, rInt, rStr, rUn, zhf, zhg, zhh, zhi, zhj, rBox, zhk, zhl, zhm, zhn, zho, zhp, zhq, zhr, zhs, zht, zhu, zhv, zhw, zhx, zhy, zhz, zia, zib, zic, bound, addL, addT, grow, room, List.length_cons, List.length_nil, List.length_map, frOf, byq, ti_bytes, ti_int, ti_uint, ti_u8, ti_bool, ti_string, ti_u64, ti_val, ti_a16, ti_bits, ti_op, ti_ops, ti_reader, ti_errno, ti_preader, ti_rreader, ti_prreader, ↓blp, blq]
    simp (disch := first | assumption | omega | (simp; done) | (simp; omega) | (simp only [bt, and_true]; first | done | omega | (simp; done))) [↓zkt, beq, List.take_of_length_le, List.drop_append, List.take_append, endOk, wk, wk2, wk1, wkM, wkL, wkLL, List.drop_eq_nil_of_le, hcl, plainB]

def e_xText : List AV → AHeap → (AEnd → AHeap → Prop) → Prop
  | [.ptr id 0, .int .i64 most], H, K => onR H id fun m l e => True ∧ K (.ret (.str (textR (m, l, e) most).1)) (H.set id (.cells (cellR (textR (m, l, e) most).2)))
  | _, _, _ => False
theorem bytesR_len (s : RS) (most : Int) : (bytesR s most).1.length ≤ s.2.1.length := by
  unfold bytesR
  repeat' split
  all_goals simp
  all_goals omega
theorem bytesR_mark (s : RS) (most : Int) : (bytesR s most).2.1 = s.1 ∨ (bytesR s most).2.1 = .any := by
  unfold bytesR
  repeat' split
  all_goals simp
theorem ok_xText : EntOk Try.prog 29 (Ent.effect e_xText) := by
  refine EntOk.effect fun args H K h => ?_
  unfold e_xText at h
  split at h
  rotate_left
  · exact h.elim
  rename_i id most
  obtain ⟨m, l, e, hid, hle, h⟩ := onR_out h
  obtain ⟨hpre, hK⟩ := h
  refine ⟨_, _, hK, ?_⟩
  clear hK
  have hl0 := AHeap.get_lt hid
  have hne := far_of hl0
  have hss := set_same hid
  have hcs := cells_some hid
  have hcm := fun cs => @cells_set_same H id cs hl0
  have hgm := fun o => @get_set_same' H id o hl0
  have hbl := bytesR_len (m, l, e) most
  have hbm := bytesR_mark (m, l, e) most
  have hpl : (bytesR (m, l, e) most).1.length ≤ 140737488355328 := by dsimp only at hbl; omega
  by_cases h4 : plainB (bytesR (m, l, e) most).1 = true
  · rw [show textR (m, l, e) most = bytesR (m, l, e) most by simp [textR, h4]]
    generalize hq : bytesR (m, l, e) most = q at *
    refine ACalls.of_aw (Ω := [(27, Ent.effect e_xBytes), (70, Ent.pure p_xPlain), (67, Ent.effect e_xfail)]) (T := assoc []) mixed (TblOk.cons ok_xBytes (TblOk.cons ok_xPlain (TblOk.cons ok_xfail TblOk.nil))) Try.func29 (by kernel_rfl) (by rfl) (rs := [.tmp 4]) (by rfl) (by kernel_rfl) (by simp only [Try.ntmps29, List.length_cons, List.length_nil]; decide) (by simp [zjk]) fun hcl hlt => ?_
    change aw _ _ _ (KI Try.prog [(27, Ent.effect e_xBytes), (70, Ent.pure p_xPlain), (67, Ent.effect e_xfail)] (aEnd Try.prog [.tmp 4] H.nx _ _) []) _ _
    clear hlt
    have hcl1 := closedR hid hcl q.2.1 hbm q.2.2.1 q.2.2.2
    simp only [↓bwp, bwq, zav, List.tail_nil, List.tail_cons, List.headD_nil, List.headD_cons, ne_eq, reduceCtorEq, Nat.reduceEqDiff, Nat.reduceAdd, Nat.reduceMul, Nat.reduceSub, Nat.reduceLeDiff, Nat.reduceLT, Int.reduceMul, Int.reduceAdd, Int.reduceSub, List.map_cons, List.map_nil, Option.map_some, Option.map_none, Option.elim_some, if_true, if_false, List.append_nil, List.nil_append, bvq, rEq, List.cons_append, Int.reduceToNat, List.getElem?_cons_zero, List.getElem?_cons_succ, TD.agg, List.drop_succ_cons, List.drop_zero, List.take_succ_cons, List.take_zero, List.take_nil, List.drop_nil, List.getD_cons_zero, List.getD_cons_succ, splice, zhb, zhc, Option.isSome_some, Option.isSome_none, List.getElem?_nil, zhd, zhe, rLen, rBin, rInt, rStr, rUn, zhf, zhg, zhh, zhi, zhj, rBox, zhk, zhl, zhm, zhn, zho, zhp, zhq, zhr, zhs, zht, zhu, zhv, zhw, zhx, zhy, zhz, zia, zib, zic, bound, addL, addT, grow, room, List.length_cons, List.length_nil, List.length_map, frOf, byq, ti_bytes, ti_int, ti_uint, ti_u8, ti_bool, ti_string, ti_u64, ti_val, ti_a16, ti_bits, ti_op, ti_ops, ti_reader, ti_errno, ti_preader, ti_rreader, ti_prreader, ↓blp, blq, hne, hid, hcs, hcm, hgm, onR, onRo_some, onRo_nil, zkg, zke, zjp, and_true, true_and, e_xBytes, p_xPlain, e_xfail, hid, cellR, hq, h4, hpl]
    simp (disch := first | assumption | omega | (simp; done) | (simp; omega) | (simp only [bt, and_true]; first | done | omega | (simp; done))) [↓zkt, beq, List.take_of_length_le, List.drop_append, List.take_append, endOk, wk, wk2, wk1, wkM, wkL, wkLL, List.drop_eq_nil_of_le, hcl1, hl0, hle]
  · have h5 : plainB (bytesR (m, l, e) most).1 = false := by simpa using h4
    rw [show textR (m, l, e) most = ([], m, l, 2) by simp [textR, h5]]
    generalize hq : bytesR (m, l, e) most = q at *
    refine ACalls.of_aw (Ω := [(27, Ent.effect e_xBytes), (70, Ent.pure p_xPlain), (67, Ent.effect e_xfail)]) (T := assoc []) mixed (TblOk.cons ok_xBytes (TblOk.cons ok_xPlain (TblOk.cons ok_xfail TblOk.nil))) Try.func29 (by kernel_rfl) (by rfl) (rs := [.tmp 4]) (by rfl) (by kernel_rfl) (by simp only [Try.ntmps29, List.length_cons, List.length_nil]; decide) (by simp [zjk]) fun hcl hlt => ?_
    change aw _ _ _ (KI Try.prog [(27, Ent.effect e_xBytes), (70, Ent.pure p_xPlain), (67, Ent.effect e_xfail)] (aEnd Try.prog [.tmp 4] H.nx _ _) []) _ _
    clear hlt
    have hcl1 := fun l' e' => closedR hid hcl m (.inl rfl) l' e'
    simp only [↓bwp, bwq, zav, List.tail_nil, List.tail_cons, List.headD_nil, List.headD_cons, ne_eq, reduceCtorEq, Nat.reduceEqDiff, Nat.reduceAdd, Nat.reduceMul, Nat.reduceSub, Nat.reduceLeDiff, Nat.reduceLT, Int.reduceMul, Int.reduceAdd, Int.reduceSub, List.map_cons, List.map_nil, Option.map_some, Option.map_none, Option.elim_some, if_true, if_false, List.append_nil, List.nil_append, bvq, rEq, List.cons_append, Int.reduceToNat, List.getElem?_cons_zero, List.getElem?_cons_succ, TD.agg, List.drop_succ_cons, List.drop_zero, List.take_succ_cons, List.take_zero, List.take_nil, List.drop_nil, List.getD_cons_zero, List.getD_cons_succ, splice, zhb, zhc, Option.isSome_some, Option.isSome_none, List.getElem?_nil, zhd, zhe, rLen, rBin, rInt, rStr, rUn, zhf, zhg, zhh, zhi, zhj, rBox, zhk, zhl, zhm, zhn, zho, zhp, zhq, zhr, zhs, zht, zhu, zhv, zhw, zhx, zhy, zhz, zia, zib, zic, bound, addL, addT, grow, room, List.length_cons, List.length_nil, List.length_map, frOf, byq, ti_bytes, ti_int, ti_uint, ti_u8, ti_bool, ti_string, ti_u64, ti_val, ti_a16, ti_bits, ti_op, ti_ops, ti_reader, ti_errno, ti_preader, ti_rreader, ti_prreader, ↓blp, blq, hne, hid, hcs, hcm, hgm, onR, onRo_some, onRo_nil, zkg, zke, zjp, and_true, true_and, e_xBytes, p_xPlain, e_xfail, hid, cellR, hq, h5, hpl]
    simp (disch := first | assumption | omega | (simp; done) | (simp; omega) | (simp only [bt, and_true]; first | done | omega | (simp; done))) [↓zkt, beq, List.take_of_length_le, List.drop_append, List.take_append, endOk, wk, wk2, wk1, wkM, wkL, wkLL, List.drop_eq_nil_of_le, hcl1, hl0, hle]

theorem uintR_two (m : Mark) (l : List UInt8) (e : Int) : uintR (m, l, e) 2 = if e ≠ 0 then (0, m, l, e) else if l.length < 2 then (0, m, l, 1) else (((beVal (l.take 2) : Nat) : Int), .any, l.drop 2, 0) := by
  unfold uintR
  by_cases h : e = 0
  · subst h
    by_cases h2 : l.length < 2
    · rw [if_neg (by simp), if_neg (by decide), if_pos (by simp; omega), if_neg (by simp), if_pos h2]
    · rw [if_neg (by simp), if_neg (by decide), if_neg (by simp; omega), if_neg (by simp), if_neg h2]; rfl
  · rw [if_pos h, if_pos h]

def e_xUint : List AV → AHeap → (AEnd → AHeap → Prop) → Prop
  | [.ptr id 0, .int .i64 w], H, K => onR H id fun m l e => True ∧ K (.ret (.int .i64 (uintR (m, l, e) w).1)) (H.set id (.cells (cellR (uintR (m, l, e) w).2)))
  | _, _, _ => False
theorem ok_xUint : EntOk Try.prog 23 (Ent.effect e_xUint) := by
  refine EntOk.effect fun args H K h => ?_
  unfold e_xUint at h
  split at h
  rotate_left
  · exact h.elim
  rename_i id w
  obtain ⟨m, l, e, hid, hle, h⟩ := onR_out h
  obtain ⟨hpre, hK⟩ := h
  refine ⟨_, _, hK, ?_⟩
  clear hK
  have hl0 := AHeap.get_lt hid
  have hne := far_of hl0
  have hss := set_same hid
  have hcs := cells_some hid
  have hcm := fun cs => @cells_set_same H id cs hl0
  have hgm := fun o => @get_set_same' H id o hl0
  by_cases h0 : e = 0
  case neg =>
    have d0 : (e != 0) = true := by simpa using h0
    rw [show uintR (m, l, e) w = (0, m, l, e) by simp [uintR, h0]]
    dsimp only [cellR]
    try rw [hss]
    refine ACalls.of_aw (Ω := [(67, Ent.effect e_xfail)]) (T := assoc []) mixed (TblOk.cons ok_xfail TblOk.nil) Try.func23 (by kernel_rfl) (by rfl) (rs := [.tmp 4]) (by rfl) (by kernel_rfl) (by simp only [Try.ntmps23, List.length_cons, List.length_nil]; decide) (by simp [zjk]) fun hcl hlt => ?_
    change aw _ _ _ (KI Try.prog [(67, Ent.effect e_xfail)] (aEnd Try.prog [.tmp 4] H.nx _ _) []) _ _
    clear hlt
    have hcl1 := fun l' e' => closedR hid hcl m (.inl rfl) l' e'
    have hcl2 := fun l' e' => closedR hid hcl .any (.inr rfl) l' e' 
    simp only [↓bwp, bwq, zav, List.tail_nil, List.tail_cons, List.headD_nil, List.headD_cons, ne_eq, reduceCtorEq, Nat.reduceEqDiff, Nat.reduceAdd, Nat.reduceMul, Nat.reduceSub, Nat.reduceLeDiff, Nat.reduceLT, Int.reduceMul, Int.reduceAdd, Int.reduceSub, List.map_cons, List.map_nil, Option.map_some, Option.map_none, Option.elim_some, if_true, if_false, List.append_nil, List.nil_append, bvq, rEq, List.cons_append, Int.reduceToNat, List.getElem?_cons_zero, List.getElem?_cons_succ, TD.agg, List.drop_succ_cons, List.drop_zero, List.take_succ_cons, List.take_zero, List.take_nil, List.drop_nil, List.getD_cons_zero, List.getD_cons_succ, splice, zhb, zhc, Option.isSome_some, Option.isSome_none, List.getElem?_nil, zhd, zhe, rLen, rBin, rInt, rStr, rUn, zhf, zhg, zhh, zhi, zhj, rBox, zhk, zhl, zhm, zhn, zho, zhp, zhq, zhr, zhs, zht, zhu, zhv, zhw, zhx, zhy, zhz, zia, zib, zic, bound, addL, addT, grow, room, List.length_cons, List.length_nil, List.length_map, frOf, byq, ti_bytes, ti_int, ti_uint, ti_u8, ti_bool, ti_string, ti_u64, ti_val, ti_a16, ti_bits, ti_op, ti_ops, ti_reader, ti_errno, ti_preader, ti_rreader, ti_prreader, ↓blp, blq, hne, hid, hcs, hcm, hgm, onR, onRo_some, onRo_nil, zkg, zke, zjp, and_true, true_and, hid, d0]
    simp (disch := first | assumption | omega | (simp; done) | (simp; omega) | (simp only [bt, and_true]; first | done | omega | (simp; done))) [↓zkt, beq, List.take_of_length_le, List.drop_append, List.take_append, endOk, wk, wk2, wk1, wkM, wkL, wkLL, List.drop_eq_nil_of_le, hss, hl0, hcl, hcl1, hcl2, hle]
    try omega
  subst h0
  have d0 : ((0 : Int) != 0) = false := rfl
  by_cases h1 : w < 1
  · have d1 : decide (w < 1) = true := by simpa using h1
    rw [show uintR (m, l, 0) w = (0, m, l, 4) by simp [uintR, h1]]
    dsimp only [cellR]
    try rw [hss]
    refine ACalls.of_aw (Ω := [(67, Ent.effect e_xfail)]) (T := assoc []) mixed (TblOk.cons ok_xfail TblOk.nil) Try.func23 (by kernel_rfl) (by rfl) (rs := [.tmp 4]) (by rfl) (by kernel_rfl) (by simp only [Try.ntmps23, List.length_cons, List.length_nil]; decide) (by simp [zjk]) fun hcl hlt => ?_
    change aw _ _ _ (KI Try.prog [(67, Ent.effect e_xfail)] (aEnd Try.prog [.tmp 4] H.nx _ _) []) _ _
    clear hlt
    have hcl1 := fun l' e' => closedR hid hcl m (.inl rfl) l' e'
    have hcl2 := fun l' e' => closedR hid hcl .any (.inr rfl) l' e' 
    simp only [↓bwp, bwq, zav, List.tail_nil, List.tail_cons, List.headD_nil, List.headD_cons, ne_eq, reduceCtorEq, Nat.reduceEqDiff, Nat.reduceAdd, Nat.reduceMul, Nat.reduceSub, Nat.reduceLeDiff, Nat.reduceLT, Int.reduceMul, Int.reduceAdd, Int.reduceSub, List.map_cons, List.map_nil, Option.map_some, Option.map_none, Option.elim_some, if_true, if_false, List.append_nil, List.nil_append, bvq, rEq, List.cons_append, Int.reduceToNat, List.getElem?_cons_zero, List.getElem?_cons_succ, TD.agg, List.drop_succ_cons, List.drop_zero, List.take_succ_cons, List.take_zero, List.take_nil, List.drop_nil, List.getD_cons_zero, List.getD_cons_succ, splice, zhb, zhc, Option.isSome_some, Option.isSome_none, List.getElem?_nil, zhd, zhe, rLen, rBin, rInt, rStr, rUn, zhf, zhg, zhh, zhi, zhj, rBox, zhk, zhl, zhm, zhn, zho, zhp, zhq, zhr, zhs, zht, zhu, zhv, zhw, zhx, zhy, zhz, zia, zib, zic, bound, addL, addT, grow, room, List.length_cons, List.length_nil, List.length_map, frOf, byq, ti_bytes, ti_int, ti_uint, ti_u8, ti_bool, ti_string, ti_u64, ti_val, ti_a16, ti_bits, ti_op, ti_ops, ti_reader, ti_errno, ti_preader, ti_rreader, ti_prreader, ↓blp, blq, hne, hid, hcs, hcm, hgm, onR, onRo_some, onRo_nil, zkg, zke, zjp, and_true, true_and, hid, e_xfail, d0, d1]
    simp (disch := first | assumption | omega | (simp; done) | (simp; omega) | (simp only [bt, and_true]; first | done | omega | (simp; done))) [↓zkt, beq, List.take_of_length_le, List.drop_append, List.take_append, endOk, wk, wk2, wk1, wkM, wkL, wkLL, List.drop_eq_nil_of_le, hss, hl0, hcl, hcl1, hcl2, hle]
    try omega
  have d1 : decide (w < 1) = false := by simpa using h1
  by_cases h2 : 4 < w
  · have d2 : decide (w > 4) = true := by simpa using h2
    rw [show uintR (m, l, 0) w = (0, m, l, 4) by simp [uintR, h2]]
    dsimp only [cellR]
    try rw [hss]
    refine ACalls.of_aw (Ω := [(67, Ent.effect e_xfail)]) (T := assoc []) mixed (TblOk.cons ok_xfail TblOk.nil) Try.func23 (by kernel_rfl) (by rfl) (rs := [.tmp 4]) (by rfl) (by kernel_rfl) (by simp only [Try.ntmps23, List.length_cons, List.length_nil]; decide) (by simp [zjk]) fun hcl hlt => ?_
    change aw _ _ _ (KI Try.prog [(67, Ent.effect e_xfail)] (aEnd Try.prog [.tmp 4] H.nx _ _) []) _ _
    clear hlt
    have hcl1 := fun l' e' => closedR hid hcl m (.inl rfl) l' e'
    have hcl2 := fun l' e' => closedR hid hcl .any (.inr rfl) l' e' 
    simp only [↓bwp, bwq, zav, List.tail_nil, List.tail_cons, List.headD_nil, List.headD_cons, ne_eq, reduceCtorEq, Nat.reduceEqDiff, Nat.reduceAdd, Nat.reduceMul, Nat.reduceSub, Nat.reduceLeDiff, Nat.reduceLT, Int.reduceMul, Int.reduceAdd, Int.reduceSub, List.map_cons, List.map_nil, Option.map_some, Option.map_none, Option.elim_some, if_true, if_false, List.append_nil, List.nil_append, bvq, rEq, List.cons_append, Int.reduceToNat, List.getElem?_cons_zero, List.getElem?_cons_succ, TD.agg, List.drop_succ_cons, List.drop_zero, List.take_succ_cons, List.take_zero, List.take_nil, List.drop_nil, List.getD_cons_zero, List.getD_cons_succ, splice, zhb, zhc, Option.isSome_some, Option.isSome_none, List.getElem?_nil, zhd, zhe, rLen, rBin, rInt, rStr, rUn, zhf, zhg, zhh, zhi, zhj, rBox, zhk, zhl, zhm, zhn, zho, zhp, zhq, zhr, zhs, zht, zhu, zhv, zhw, zhx, zhy, zhz, zia, zib, zic, bound, addL, addT, grow, room, List.length_cons, List.length_nil, List.length_map, frOf, byq, ti_bytes, ti_int, ti_uint, ti_u8, ti_bool, ti_string, ti_u64, ti_val, ti_a16, ti_bits, ti_op, ti_ops, ti_reader, ti_errno, ti_preader, ti_rreader, ti_prreader, ↓blp, blq, hne, hid, hcs, hcm, hgm, onR, onRo_some, onRo_nil, zkg, zke, zjp, and_true, true_and, hid, e_xfail, d0, d1, d2]
    simp (disch := first | assumption | omega | (simp; done) | (simp; omega) | (simp only [bt, and_true]; first | done | omega | (simp; done))) [↓zkt, beq, List.take_of_length_le, List.drop_append, List.take_append, endOk, wk, wk2, wk1, wkM, wkL, wkLL, List.drop_eq_nil_of_le, hss, hl0, hcl, hcl1, hcl2, hle]
    try omega
  have d2 : decide (w > 4) = false := by simp; omega
  by_cases h3 : (l.length : Int) < w
  · have d3 : decide ((l.length : Int) < w) = true := by simpa using h3
    rw [show uintR (m, l, 0) w = (0, m, l, 1) by simp [uintR, h1, h2, h3]]
    dsimp only [cellR]
    try rw [hss]
    refine ACalls.of_aw (Ω := [(67, Ent.effect e_xfail)]) (T := assoc []) mixed (TblOk.cons ok_xfail TblOk.nil) Try.func23 (by kernel_rfl) (by rfl) (rs := [.tmp 4]) (by rfl) (by kernel_rfl) (by simp only [Try.ntmps23, List.length_cons, List.length_nil]; decide) (by simp [zjk]) fun hcl hlt => ?_
    change aw _ _ _ (KI Try.prog [(67, Ent.effect e_xfail)] (aEnd Try.prog [.tmp 4] H.nx _ _) []) _ _
    clear hlt
    have hcl1 := fun l' e' => closedR hid hcl m (.inl rfl) l' e'
    have hcl2 := fun l' e' => closedR hid hcl .any (.inr rfl) l' e' 
    simp only [↓bwp, bwq, zav, List.tail_nil, List.tail_cons, List.headD_nil, List.headD_cons, ne_eq, reduceCtorEq, Nat.reduceEqDiff, Nat.reduceAdd, Nat.reduceMul, Nat.reduceSub, Nat.reduceLeDiff, Nat.reduceLT, Int.reduceMul, Int.reduceAdd, Int.reduceSub, List.map_cons, List.map_nil, Option.map_some, Option.map_none, Option.elim_some, if_true, if_false, List.append_nil, List.nil_append, bvq, rEq, List.cons_append, Int.reduceToNat, List.getElem?_cons_zero, List.getElem?_cons_succ, TD.agg, List.drop_succ_cons, List.drop_zero, List.take_succ_cons, List.take_zero, List.take_nil, List.drop_nil, List.getD_cons_zero, List.getD_cons_succ, splice, zhb, zhc, Option.isSome_some, Option.isSome_none, List.getElem?_nil, zhd, zhe, rLen, rBin, rInt, rStr, rUn, zhf, zhg, zhh, zhi, zhj, rBox, zhk, zhl, zhm, zhn, zho, zhp, zhq, zhr, zhs, zht, zhu, zhv, zhw, zhx, zhy, zhz, zia, zib, zic, bound, addL, addT, grow, room, List.length_cons, List.length_nil, List.length_map, frOf, byq, ti_bytes, ti_int, ti_uint, ti_u8, ti_bool, ti_string, ti_u64, ti_val, ti_a16, ti_bits, ti_op, ti_ops, ti_reader, ti_errno, ti_preader, ti_rreader, ti_prreader, ↓blp, blq, hne, hid, hcs, hcm, hgm, onR, onRo_some, onRo_nil, zkg, zke, zjp, and_true, true_and, hid, e_xfail, d0, d1, d2, d3]
    simp (disch := first | assumption | omega | (simp; done) | (simp; omega) | (simp only [bt, and_true]; first | done | omega | (simp; done))) [↓zkt, beq, List.take_of_length_le, List.drop_append, List.take_append, endOk, wk, wk2, wk1, wkM, wkL, wkLL, List.drop_eq_nil_of_le, hss, hl0, hcl, hcl1, hcl2, hle]
    try omega
  · have d3 : decide ((l.length : Int) < w) = false := by simpa using h3
    have d6 : (l.take w.toNat).length = w.toNat := by rw [List.length_take]; omega
    have d7 : List.take (l.length : Int).toNat l = l := by simp
    rw [show uintR (m, l, 0) w = (((beVal (l.take w.toNat) : Nat) : Int), Mark.any, l.drop w.toNat, (0 : Int)) by simp [uintR, h1, h2, h3]]
    dsimp only [cellR]
    refine ACalls.of_aw (Ω := [(67, Ent.effect e_xfail)]) (T := assoc []) mixed (TblOk.cons ok_xfail TblOk.nil) Try.func23 (by kernel_rfl) (by rfl) (rs := [.tmp 4]) (by rfl) (by kernel_rfl) (by simp only [Try.ntmps23, List.length_cons, List.length_nil]; decide) (by simp [zjk]) fun hcl hlt => ?_
    change aw _ _ _ (KI Try.prog [(67, Ent.effect e_xfail)] (aEnd Try.prog [.tmp 4] H.nx _ _) []) _ _
    clear hlt
    have hcl1 := fun l' e' => closedR hid hcl m (.inl rfl) l' e'
    have hcl2 := fun l' e' => closedR hid hcl .any (.inr rfl) l' e' 
    simp only [↓bwp, bwq, List.tail_nil, List.tail_cons, List.headD_nil, List.headD_cons, ne_eq, reduceCtorEq, Nat.reduceEqDiff, Nat.reduceAdd, Nat.reduceMul, Nat.reduceSub, Nat.reduceLeDiff, Nat.reduceLT, Int.reduceMul, Int.reduceAdd, Int.reduceSub, List.map_cons, List.map_nil, Option.map_some, Option.map_none, Option.elim_some, if_true, if_false, List.append_nil, List.nil_append, zat, zau, bvq, rEq, List.cons_append, Int.reduceToNat, List.getElem?_cons_zero, List.getElem?_cons_succ, TD.agg, List.drop_succ_cons, List.drop_zero, List.take_succ_cons, List.take_zero, List.take_nil, List.drop_nil, List.getD_cons_zero, List.getD_cons_succ, splice, zhb, zhc, Option.isSome_some, Option.isSome_none, List.getElem?_nil, zhd, zhe, rLen, rBin, rInt, rStr, rUn, zhf, zhg, zhh, zhi, zhj, rBox, zhk, zhl, zhm, zhn, zho, zhp, zhq, zhr, zhs, zht, zhu, zhv, zhw, zhx, zhy, zhz, zia, zib, zic, bound, addL, addT, grow, room, List.length_cons, List.length_nil, List.length_map, frOf, byq, ti_bytes, ti_int, ti_uint, ti_u8, ti_bool, ti_string, ti_u64, ti_val, ti_a16, ti_bits, ti_op, ti_ops, ti_reader, ti_errno, ti_preader, ti_rreader, ti_prreader, ↓blp, blq, hne, hid, hcs, hcm, hgm, onR, onRo_some, onRo_nil, zkg, zke, zjp, and_true, true_and, hid, d0, d1, d2, d3, d6, d7, List.drop_zero]
    refine ⟨by omega, ?_⟩
    have hw : w.toNat ≤ 4 := by omega
    generalize hll : l.take w.toNat = ll at *
    refine loop_intro (A := Nat) (fun k => [(40, .int .i64 (k : Int)), (39, .int .i64 (w.toNat : Int)), (38, .slice .any 1 (bys ll)), (5, .int .i64 (beVal (ll.take k) : Nat)), (0, .ptr id 0), (1, .int .i64 w)])
      (fun k => H) (fun k => k ≤ w.toNat) (fun k => w.toNat - k) 0 (by omega) ?_ fun k hk => ?_
    · simp only [bnq, enter, subF, ltF, ne_eq, Nat.reduceEqDiff, reduceCtorEq, List.take_zero, beVal_nil, true_or, and_true]
    simp only [↓bwp, bwq, List.tail_nil, List.tail_cons, List.headD_nil, List.headD_cons, ne_eq, reduceCtorEq, Nat.reduceEqDiff, Nat.reduceAdd, Nat.reduceMul, Nat.reduceSub, Nat.reduceLeDiff, Nat.reduceLT, Int.reduceMul, Int.reduceAdd, Int.reduceSub, List.map_cons, List.map_nil, Option.map_some, Option.map_none, Option.elim_some, if_true, if_false, List.append_nil, List.nil_append, bvq, rEq, List.cons_append, Int.reduceToNat, List.getElem?_cons_zero, List.getElem?_cons_succ, TD.agg, List.drop_succ_cons, List.drop_zero, List.take_succ_cons, List.take_zero, List.take_nil, List.drop_nil, List.getD_cons_zero, List.getD_cons_succ, splice, zhb, zhc, Option.isSome_some, Option.isSome_none, List.getElem?_nil, zhd, zhe, rLen, rBin, rInt, rStr, rUn, zhf, zhg, zhh, zhi, zhj, rBox, zhk, zhl, zhm, zhn, zho, zhp, zhq, zhr, zhs, zht, zhu, zhv, zhw, zhx, zhy, zhz, zia, zib, zic, bound, addL, addT, grow, room, List.length_cons, List.length_nil, List.length_map, frOf, byq, ti_bytes, ti_int, ti_uint, ti_u8, ti_bool, ti_string, ti_u64, ti_val, ti_a16, ti_bits, ti_op, ti_ops, ti_reader, ti_errno, ti_preader, ti_rreader, ti_prreader]
    refine cond_split (fun hc => ?_) (fun hc => ?_)
    · have hk : k < w.toNat := by simp at hc; omega
      have e1 : IntKind.i64.wrap ((k : Int) + 1) = ((k + 1 : Nat) : Int) := by rw [wrap_i64] <;> omega
      have hb : beVal (ll.take k) < 256 ^ 6 := beVal_take_lt ll k 6 (by omega)
      have hx : (bys ll).getD k .junk = ofByte (ll.getD k 0) := bys_get (by omega)
      have hxl := UInt8.toNat_lt (ll.getD k 0)
      have e2 : IntKind.i64.wrap (((ll.getD k 0).toNat : Nat) : Int) = (((ll.getD k 0).toNat : Nat) : Int) := wrap_i64_nat _ (by omega)
      have e3 : IntKind.i64.wrap (((beVal (ll.take k) : Nat) : Int) * 256) = ((beVal (ll.take k) * 256 : Nat) : Int) := by rw [wrap_i64] <;> omega
      have e4 := beVal_step ll k (by omega)
      have e5 : IntKind.i64.wrap (((beVal (ll.take k) * 256 : Nat) : Int) + (((ll.getD k 0).toNat : Nat) : Int)) = ((beVal (ll.take (k + 1)) : Nat) : Int) := by rw [wrap_i64] <;> omega
      simp only [↓bwp, bwq, List.tail_nil, List.tail_cons, List.headD_nil, List.headD_cons, ne_eq, reduceCtorEq, Nat.reduceEqDiff, Nat.reduceAdd, Nat.reduceMul, Nat.reduceSub, Nat.reduceLeDiff, Nat.reduceLT, Int.reduceMul, Int.reduceAdd, Int.reduceSub, List.map_cons, List.map_nil, Option.map_some, Option.map_none, Option.elim_some, if_true, if_false, List.append_nil, List.nil_append, bvq, rEq, List.cons_append, Int.reduceToNat, List.getElem?_cons_zero, List.getElem?_cons_succ, TD.agg, List.drop_succ_cons, List.drop_zero, List.take_succ_cons, List.take_zero, List.take_nil, List.drop_nil, List.getD_cons_zero, List.getD_cons_succ, splice, zhb, zhc, Option.isSome_some, Option.isSome_none, List.getElem?_nil, zhd, zhe, rLen, rBin, rInt, rStr, rUn, zhf, zhg, zhh, zhi, zhj, rBox, zhk, zhl, zhm, zhn, zho, zhp, zhq, zhr, zhs, zht, zhu, zhv, zhw, zhx, zhy, zhz, zia, zib, zic, bound, addL, addT, grow, room, List.length_cons, List.length_nil, List.length_map, frOf, byq, ti_bytes, ti_int, ti_uint, ti_u8, ti_bool, ti_string, ti_u64, ti_val, ti_a16, ti_bits, ti_op, ti_ops, ti_reader, ti_errno, ti_preader, ti_rreader, ti_prreader, Int.toNat_natCast, hx, e1, zjp, ofByte, e2, e3, e5, d6]
      refine ⟨by omega, k + 1, by omega, by omega, ?_⟩
      simp only [bnq, enter, subF, ltF, ne_eq, Nat.reduceEqDiff, reduceCtorEq, true_or, and_self]
    · have hk : k = w.toNat := by simp at hc; omega
      subst hk
      have et : ll.take w.toNat = ll := List.take_of_length_le (by omega)
      simp only [↓bwp, bwq, List.tail_nil, List.tail_cons, List.headD_nil, List.headD_cons, ne_eq, reduceCtorEq, Nat.reduceEqDiff, Nat.reduceAdd, Nat.reduceMul, Nat.reduceSub, Nat.reduceLeDiff, Nat.reduceLT, Int.reduceMul, Int.reduceAdd, Int.reduceSub, List.map_cons, List.map_nil, Option.map_some, Option.map_none, Option.elim_some, if_true, if_false, List.append_nil, List.nil_append, bvq, rEq, List.cons_append, Int.reduceToNat, List.getElem?_cons_zero, List.getElem?_cons_succ, TD.agg, List.drop_succ_cons, List.drop_zero, List.take_succ_cons, List.take_zero, List.take_nil, List.drop_nil, List.getD_cons_zero, List.getD_cons_succ, splice, zhb, zhc, Option.isSome_some, Option.isSome_none, List.getElem?_nil, zhd, zhe, rLen, rBin, rInt, rStr, rUn, zhf, zhg, zhh, zhi, zhj, rBox, zhk, zhl, zhm, zhn, zho, zhp, zhq, zhr, zhs, zht, zhu, zhv, zhw, zhx, zhy, zhz, zia, zib, zic, bound, addL, addT, grow, room, List.length_cons, List.length_nil, List.length_map, frOf, byq, ti_bytes, ti_int, ti_uint, ti_u8, ti_bool, ti_string, ti_u64, ti_val, ti_a16, ti_bits, ti_op, ti_ops, ti_reader, ti_errno, ti_preader, ti_rreader, ti_prreader, hne, hid, hcs, hcm, hgm, onR, onRo_some, onRo_nil, zkg, zke, zjp, and_true, true_and, et, d7]
      simp (disch := first | assumption | omega | (simp; done) | (simp; omega) | (simp only [bt, and_true]; first | done | omega | (simp; done))) [↓zkt, beq, List.take_of_length_le, List.drop_append, List.take_append, endOk, wk, wk2, wk1, wkM, wkL, wkLL, List.drop_eq_nil_of_le, hss, hl0, hcl, hcl1, hcl2, hle]
      try omega
end Go.AL
