/- Contracts and plain laws, a part of the proof; no condition of its own. -/
import Derived.Test.YtnhghceobhdaoaaCH
open Go Go.AL Go.Proofs
namespace Go.AL
set_option linter.all false
set_option maxRecDepth 10000

def p_xFinish : List AV → AHeap → (AV → Prop) → Prop
  | [.ptr id 0], H, K => onR H id fun m l e => K (.int .i64 (finishR (m, l, e)))
  | _, _, _ => False
theorem ok_xFinish : EntOk Try.prog 35 (Ent.pure p_xFinish) := by
  refine EntOk.pure fun args H K h => ?_
  unfold p_xFinish at h
  split at h
  rotate_left
  · exact h.elim
  rename_i id
  obtain ⟨m, l, e, hid, hle, hK⟩ := onR_out h
  refine ⟨_, hK, ?_⟩
  have hcs := cells_some hid
  by_cases h0 : e = 0
  · subst h0
    have d0 : ((0 : Int) == 0) = true := rfl
    by_cases h1 : 0 < l.length
    · have d1 : decide ((l.length : Int) > 0) = true := by simpa using h1
      rw [show finishR (m, l, 0) = 2 by simp [finishR, h1]]
      refine ACalls.of_aw (Ω := []) (T := assoc []) mixed TblOk.nil Try.func35 (by kernel_rfl) (by rfl) (rs := [.tmp 2]) (by rfl) (by kernel_rfl) (by simp only [Try.ntmps35, List.length_cons, List.length_nil]; decide) (Nat.le_refl _) fun hcl hlt => ?_
      change aw _ _ _ (KI Try.prog [] (aEnd Try.prog [.tmp 2] H.nx _ _) []) _ _
      clear h hK hlt
      simp only [↓bwp, bwq, zav, List.tail_nil, List.tail_cons, List.headD_nil, List.headD_cons, ne_eq, reduceCtorEq, Nat.reduceEqDiff, Nat.reduceAdd, Nat.reduceMul, Nat.reduceSub, Nat.reduceLeDiff, Nat.reduceLT, Int.reduceMul, Int.reduceAdd, Int.reduceSub, List.map_cons, List.map_nil, Option.map_some, Option.map_none, Option.elim_some, if_true, if_false, List.append_nil, List.nil_append, bvq, rEq, List.cons_append, Int.reduceToNat, List.getElem?_cons_zero, List.getElem?_cons_succ, TD.agg, List.drop_succ_cons, List.drop_zero, List.take_succ_cons, List.take_zero, List.take_nil, List.drop_nil, List.getD_cons_zero, List.getD_cons_succ, splice, zhb, zhc, Option.isSome_some, Option.isSome_none, List.getElem?_nil, zhd, zhe, rLen, rBin, rInt, rStr, rUn, zhf, zhg, zhh, zhi, zhj, rBox, zhk, zhl, zhm, zhn, zho, zhp, zhq, zhr, zhs, zht, zhu, zhv, zhw, zhx, zhy, zhz, zia, zib, zic, bound, addL, addT, grow, room, List.length_cons, List.length_nil, List.length_map, frOf, byq, ti_bytes, ti_int, ti_uint, ti_u8, ti_bool, ti_string, ti_u64, ti_val, ti_a16, ti_bits, ti_op, ti_ops, ti_reader, ti_errno, ti_preader, ti_rreader, ti_prreader, ↓blp, blq, hcs, hid, d0, d1]
      simp (disch := first | assumption | omega | (simp; done) | (simp; omega) | (simp only [bt, and_true]; first | done | omega | (simp; done))) [↓zkt, beq, List.take_of_length_le, List.drop_append, List.take_append, endOk, wk, wk2, wk1, wkM, wkL, wkLL, List.drop_eq_nil_of_le, hcl, hle, zkg, zjp]
    · have hl : l = [] := List.eq_nil_of_length_eq_zero (by omega)
      subst hl
      have d1 : decide ((([] : List UInt8).length : Int) > 0) = false := rfl
      rw [show finishR (m, [], 0) = 0 by simp [finishR]]
      refine ACalls.of_aw (Ω := []) (T := assoc []) mixed TblOk.nil Try.func35 (by kernel_rfl) (by rfl) (rs := [.tmp 2]) (by rfl) (by kernel_rfl) (by simp only [Try.ntmps35, List.length_cons, List.length_nil]; decide) (Nat.le_refl _) fun hcl hlt => ?_
      change aw _ _ _ (KI Try.prog [] (aEnd Try.prog [.tmp 2] H.nx _ _) []) _ _
      clear h hK hlt
      simp only [↓bwp, bwq, zav, List.tail_nil, List.tail_cons, List.headD_nil, List.headD_cons, ne_eq, reduceCtorEq, Nat.reduceEqDiff, Nat.reduceAdd, Nat.reduceMul, Nat.reduceSub, Nat.reduceLeDiff, Nat.reduceLT, Int.reduceMul, Int.reduceAdd, Int.reduceSub, List.map_cons, List.map_nil, Option.map_some, Option.map_none, Option.elim_some, if_true, if_false, List.append_nil, List.nil_append, bvq, rEq, List.cons_append, Int.reduceToNat, List.getElem?_cons_zero, List.getElem?_cons_succ, TD.agg, List.drop_succ_cons, List.drop_zero, List.take_succ_cons, List.take_zero, List.take_nil, List.drop_nil, List.getD_cons_zero, List.getD_cons_succ, splice, zhb, zhc, Option.isSome_some, Option.isSome_none, List.getElem?_nil, zhd, zhe, rLen, rBin, rInt, rStr, rUn, zhf, zhg, zhh, zhi, zhj, rBox, zhk, zhl, zhm, zhn, zho, zhp, zhq, zhr, zhs, zht, zhu, zhv, zhw, zhx, zhy, zhz, zia, zib, zic, bound, addL, addT, grow, room, List.length_cons, List.length_nil, List.length_map, frOf, byq, ti_bytes, ti_int, ti_uint, ti_u8, ti_bool, ti_string, ti_u64, ti_val, ti_a16, ti_bits, ti_op, ti_ops, ti_reader, ti_errno, ti_preader, ti_rreader, ti_prreader, ↓blp, blq, hcs, hid, d0, d1]
      simp (disch := first | assumption | omega | (simp; done) | (simp; omega) | (simp only [bt, and_true]; first | done | omega | (simp; done))) [↓zkt, beq, List.take_of_length_le, List.drop_append, List.take_append, endOk, wk, wk2, wk1, wkM, wkL, wkLL, List.drop_eq_nil_of_le, hcl, zkg, zkh, zjp, both]
  · have d0 : (e == 0) = false := by simpa using h0
    rw [show finishR (m, l, e) = e by simp [finishR, h0]]
    refine ACalls.of_aw (Ω := []) (T := assoc []) mixed TblOk.nil Try.func35 (by kernel_rfl) (by rfl) (rs := [.tmp 2]) (by rfl) (by kernel_rfl) (by simp only [Try.ntmps35, List.length_cons, List.length_nil]; decide) (Nat.le_refl _) fun hcl hlt => ?_
    change aw _ _ _ (KI Try.prog [] (aEnd Try.prog [.tmp 2] H.nx _ _) []) _ _
    clear h hK hlt
    simp only [↓bwp, bwq, zav, List.tail_nil, List.tail_cons, List.headD_nil, List.headD_cons, ne_eq, reduceCtorEq, Nat.reduceEqDiff, Nat.reduceAdd, Nat.reduceMul, Nat.reduceSub, Nat.reduceLeDiff, Nat.reduceLT, Int.reduceMul, Int.reduceAdd, Int.reduceSub, List.map_cons, List.map_nil, Option.map_some, Option.map_none, Option.elim_some, if_true, if_false, List.append_nil, List.nil_append, bvq, rEq, List.cons_append, Int.reduceToNat, List.getElem?_cons_zero, List.getElem?_cons_succ, TD.agg, List.drop_succ_cons, List.drop_zero, List.take_succ_cons, List.take_zero, List.take_nil, List.drop_nil, List.getD_cons_zero, List.getD_cons_succ, splice, zhb, zhc, Option.isSome_some, Option.isSome_none, List.getElem?_nil, zhd, zhe, rLen, rBin, rInt, rStr, rUn, zhf, zhg, zhh, zhi, zhj, rBox, zhk, zhl, zhm, zhn, zho, zhp, zhq, zhr, zhs, zht, zhu, zhv, zhw, zhx, zhy, zhz, zia, zib, zic, bound, addL, addT, grow, room, List.length_cons, List.length_nil, List.length_map, frOf, byq, ti_bytes, ti_int, ti_uint, ti_u8, ti_bool, ti_string, ti_u64, ti_val, ti_a16, ti_bits, ti_op, ti_ops, ti_reader, ti_errno, ti_preader, ti_rreader, ti_prreader, ↓blp, blq, hcs, hid, d0, zke]
    simp (disch := first | assumption | omega | (simp; done) | (simp; omega) | (simp only [bt, and_true]; first | done | omega | (simp; done))) [↓zkt, beq, List.take_of_length_le, List.drop_append, List.take_append, endOk, wk, wk2, wk1, wkM, wkL, wkLL, List.drop_eq_nil_of_le, hcl, hle, zkg, zjp]

def e_xValue : List AV → AHeap → (AEnd → AHeap → Prop) → Prop
  | [.ptr id 0], H, K => onR H id fun m l e => True ∧ K (.ret (vv (valueR (m, l, e)).1)) (H.set id (.cells (cellR (valueR (m, l, e)).2)))
  | _, _, _ => False
theorem ok_xValue : EntOk Try.prog 31 (Ent.effect e_xValue) := by
  refine EntOk.effect fun args H K h => ?_
  unfold e_xValue at h
  split at h
  rotate_left
  · exact h.elim
  rename_i id
  obtain ⟨m, l, e, hid, hle, h⟩ := onR_out h
  obtain ⟨hpre, hK⟩ := h
  refine ⟨_, _, hK, ?_⟩
  clear hK
  have hl0 := AHeap.get_lt hid
  have hne := far_of hl0
  have hss := set_same hid
  have hcs := cells_some hid
  have hcm := fun cs => @cells_set_same H id cs hl0
  have hgm := fun o => @get_set_same' H id o hl0
  have v0 : vv 0 = .agg [.int .u64 0, .int .u64 0] := rfl
  by_cases h0 : e = 0
  case neg =>
    have d0 : (e != 0) = true := by simpa using h0
    rw [show valueR (m, l, e) = (0, m, l, e) by simp [valueR, h0]]
    dsimp only [cellR]
    try rw [hss]
    refine ACalls.of_aw (Ω := [(67, Ent.effect e_xfail), (72, Ent.pure p_rParse)]) (T := assoc []) mixed (TblOk.cons ok_xfail (TblOk.cons ok_rParse TblOk.nil)) Try.func31 (by kernel_rfl) (by rfl) (rs := [.cell 2 46]) (by rfl) (by kernel_rfl) (by simp only [Try.ntmps31, List.length_cons, List.length_nil]; decide) (by simp [zjk]) fun hcl hlt => ?_
    change aw _ _ _ (KI Try.prog [(67, Ent.effect e_xfail), (72, Ent.pure p_rParse)] (aEnd Try.prog [.cell 2 46] H.nx _ _) []) _ _
    clear hlt
    have hcl1 := fun l' e' => closedR hid hcl m (.inl rfl) l' e'
    have hcl2 := fun l' e' => closedR hid hcl .any (.inr rfl) l' e' 
    simp only [↓bwp, bwq, zav, List.tail_nil, List.tail_cons, List.headD_nil, List.headD_cons, ne_eq, reduceCtorEq, Nat.reduceEqDiff, Nat.reduceAdd, Nat.reduceMul, Nat.reduceSub, Nat.reduceLeDiff, Nat.reduceLT, Int.reduceMul, Int.reduceAdd, Int.reduceSub, List.map_cons, List.map_nil, Option.map_some, Option.map_none, Option.elim_some, if_true, if_false, List.append_nil, List.nil_append, bvq, rEq, List.cons_append, Int.reduceToNat, List.getElem?_cons_zero, List.getElem?_cons_succ, TD.agg, List.drop_succ_cons, List.drop_zero, List.take_succ_cons, List.take_zero, List.take_nil, List.drop_nil, List.getD_cons_zero, List.getD_cons_succ, splice, zhb, zhc, Option.isSome_some, Option.isSome_none, List.getElem?_nil, zhd, zhe, rLen, rBin, rInt, rStr, rUn, zhf, zhg, zhh, zhi, zhj, rBox, zhk, zhl, zhm, zhn, zho, zhp, zhq, zhr, zhs, zht, zhu, zhv, zhw, zhx, zhy, zhz, zia, zib, zic, bound, addL, addT, grow, room, List.length_cons, List.length_nil, List.length_map, frOf, byq, ti_bytes, ti_int, ti_uint, ti_u8, ti_bool, ti_string, ti_u64, ti_val, ti_a16, ti_bits, ti_op, ti_ops, ti_reader, ti_errno, ti_preader, ti_rreader, ti_prreader, ↓blp, blq, hne, hid, hcs, hcm, hgm, onR, onRo_some, onRo_nil, zkg, zke, zjp, and_true, true_and, hid, d0, v0]
    simp (disch := first | assumption | omega | (simp; done) | (simp; omega) | (simp only [bt, and_true]; first | done | omega | (simp; done))) [↓zkt, beq, List.take_of_length_le, List.drop_append, List.take_append, endOk, wk, wk2, wk1, wkM, wkL, wkLL, List.drop_eq_nil_of_le, hss, hl0, hcl, hcl1, hcl2, hle]
    try omega
  subst h0
  have d0 : ((0 : Int) != 0) = false := rfl
  by_cases h1 : l.length < 1
  · have d1 : ((l.length : Int) == 0) = true := by simp; exact List.eq_nil_of_length_eq_zero (by omega)
    rw [show valueR (m, l, 0) = (0, m, l, 1) by simp [valueR, h1]]
    dsimp only [cellR]
    try rw [hss]
    refine ACalls.of_aw (Ω := [(67, Ent.effect e_xfail), (72, Ent.pure p_rParse)]) (T := assoc []) mixed (TblOk.cons ok_xfail (TblOk.cons ok_rParse TblOk.nil)) Try.func31 (by kernel_rfl) (by rfl) (rs := [.cell 2 46]) (by rfl) (by kernel_rfl) (by simp only [Try.ntmps31, List.length_cons, List.length_nil]; decide) (by simp [zjk]) fun hcl hlt => ?_
    change aw _ _ _ (KI Try.prog [(67, Ent.effect e_xfail), (72, Ent.pure p_rParse)] (aEnd Try.prog [.cell 2 46] H.nx _ _) []) _ _
    clear hlt
    have hcl1 := fun l' e' => closedR hid hcl m (.inl rfl) l' e'
    have hcl2 := fun l' e' => closedR hid hcl .any (.inr rfl) l' e' 
    simp only [↓bwp, bwq, zav, List.tail_nil, List.tail_cons, List.headD_nil, List.headD_cons, ne_eq, reduceCtorEq, Nat.reduceEqDiff, Nat.reduceAdd, Nat.reduceMul, Nat.reduceSub, Nat.reduceLeDiff, Nat.reduceLT, Int.reduceMul, Int.reduceAdd, Int.reduceSub, List.map_cons, List.map_nil, Option.map_some, Option.map_none, Option.elim_some, if_true, if_false, List.append_nil, List.nil_append, bvq, rEq, List.cons_append, Int.reduceToNat, List.getElem?_cons_zero, List.getElem?_cons_succ, TD.agg, List.drop_succ_cons, List.drop_zero, List.take_succ_cons, List.take_zero, List.take_nil, List.drop_nil, List.getD_cons_zero, List.getD_cons_succ, splice, zhb, zhc, Option.isSome_some, Option.isSome_none, List.getElem?_nil, zhd, zhe, rLen, rBin, rInt, rStr, rUn, zhf, zhg, zhh, zhi, zhj, rBox, zhk, zhl, zhm, zhn, zho, zhp, zhq, zhr, zhs, zht, zhu, zhv, zhw, zhx, zhy, zhz, zia, zib, zic, bound, addL, addT, grow, room, List.length_cons, List.length_nil, List.length_map, frOf, byq, ti_bytes, ti_int, ti_uint, ti_u8, ti_bool, ti_string, ti_u64, ti_val, ti_a16, ti_bits, ti_op, ti_ops, ti_reader, ti_errno, ti_preader, ti_rreader, ti_prreader, ↓blp, blq, hne, hid, hcs, hcm, hgm, onR, onRo_some, onRo_nil, zkg, zke, zjp, and_true, true_and, hid, e_xfail, d0, d1, v0]
    simp (disch := first | assumption | omega | (simp; done) | (simp; omega) | (simp only [bt, and_true]; first | done | omega | (simp; done))) [↓zkt, beq, List.take_of_length_le, List.drop_append, List.take_append, endOk, wk, wk2, wk1, wkM, wkL, wkLL, List.drop_eq_nil_of_le, hss, hl0, hcl, hcl1, hcl2, hle]
    try omega
  have d1 : ((l.length : Int) == 0) = false := by simp; intro e; exact h1 (by rw [e]; simp)
  have d7 : List.take (l.length : Int).toNat l = l := by simp
  have d8 : (bys l).getD 0 .junk = ofByte (b0 l) := b0_get' l (by omega)
  have hbl := UInt8.toNat_lt (b0 l)
  have d9 : IntKind.i64.wrap (((b0 l).toNat : Nat) : Int) = (((b0 l).toNat : Nat) : Int) := wrap_i64_nat _ (by omega)
  by_cases h2 : (b0 l).toNat < 1
  · have d2 : decide (((b0 l).toNat : Int) < 1) = true := by simp; omega
    rw [show valueR (m, l, 0) = (0, m, l, 2) by simp [valueR, h1, h2]]
    dsimp only [cellR]
    try rw [hss]
    refine ACalls.of_aw (Ω := [(67, Ent.effect e_xfail), (72, Ent.pure p_rParse)]) (T := assoc []) mixed (TblOk.cons ok_xfail (TblOk.cons ok_rParse TblOk.nil)) Try.func31 (by kernel_rfl) (by rfl) (rs := [.cell 2 46]) (by rfl) (by kernel_rfl) (by simp only [Try.ntmps31, List.length_cons, List.length_nil]; decide) (by simp [zjk]) fun hcl hlt => ?_
    change aw _ _ _ (KI Try.prog [(67, Ent.effect e_xfail), (72, Ent.pure p_rParse)] (aEnd Try.prog [.cell 2 46] H.nx _ _) []) _ _
    clear hlt
    have hcl1 := fun l' e' => closedR hid hcl m (.inl rfl) l' e'
    have hcl2 := fun l' e' => closedR hid hcl .any (.inr rfl) l' e' 
    simp only [↓bwp, bwq, zav, List.tail_nil, List.tail_cons, List.headD_nil, List.headD_cons, ne_eq, reduceCtorEq, Nat.reduceEqDiff, Nat.reduceAdd, Nat.reduceMul, Nat.reduceSub, Nat.reduceLeDiff, Nat.reduceLT, Int.reduceMul, Int.reduceAdd, Int.reduceSub, List.map_cons, List.map_nil, Option.map_some, Option.map_none, Option.elim_some, if_true, if_false, List.append_nil, List.nil_append, bvq, rEq, List.cons_append, Int.reduceToNat, List.getElem?_cons_zero, List.getElem?_cons_succ, TD.agg, List.drop_succ_cons, List.drop_zero, List.take_succ_cons, List.take_zero, List.take_nil, List.drop_nil, List.getD_cons_zero, List.getD_cons_succ, splice, zhb, zhc, Option.isSome_some, Option.isSome_none, List.getElem?_nil, zhd, zhe, rLen, rBin, rInt, rStr, rUn, zhf, zhg, zhh, zhi, zhj, rBox, zhk, zhl, zhm, zhn, zho, zhp, zhq, zhr, zhs, zht, zhu, zhv, zhw, zhx, zhy, zhz, zia, zib, zic, bound, addL, addT, grow, room, List.length_cons, List.length_nil, List.length_map, frOf, byq, ti_bytes, ti_int, ti_uint, ti_u8, ti_bool, ti_string, ti_u64, ti_val, ti_a16, ti_bits, ti_op, ti_ops, ti_reader, ti_errno, ti_preader, ti_rreader, ti_prreader, ↓blp, blq, hne, hid, hcs, hcm, hgm, onR, onRo_some, onRo_nil, zkg, zke, zjp, and_true, true_and, hid, e_xfail, d0, d1, d2, d7, d8, d9, ofByte, v0]
    simp (disch := first | assumption | omega | (simp; done) | (simp; omega) | (simp only [bt, and_true]; first | done | omega | (simp; done))) [↓zkt, beq, List.take_of_length_le, List.drop_append, List.take_append, endOk, wk, wk2, wk1, wkM, wkL, wkLL, List.drop_eq_nil_of_le, hss, hl0, hcl, hcl1, hcl2, hle]
    try omega
  have d2 : decide (((b0 l).toNat : Int) < 1) = false := by simp; omega
  by_cases h3 : 16 < (b0 l).toNat
  · have d3 : decide (((b0 l).toNat : Int) > 16) = true := by simp; omega
    rw [show valueR (m, l, 0) = (0, m, l, 2) by simp [valueR, h1, h2, h3]]
    dsimp only [cellR]
    try rw [hss]
    refine ACalls.of_aw (Ω := [(67, Ent.effect e_xfail), (72, Ent.pure p_rParse)]) (T := assoc []) mixed (TblOk.cons ok_xfail (TblOk.cons ok_rParse TblOk.nil)) Try.func31 (by kernel_rfl) (by rfl) (rs := [.cell 2 46]) (by rfl) (by kernel_rfl) (by simp only [Try.ntmps31, List.length_cons, List.length_nil]; decide) (by simp [zjk]) fun hcl hlt => ?_
    change aw _ _ _ (KI Try.prog [(67, Ent.effect e_xfail), (72, Ent.pure p_rParse)] (aEnd Try.prog [.cell 2 46] H.nx _ _) []) _ _
    clear hlt
    have hcl1 := fun l' e' => closedR hid hcl m (.inl rfl) l' e'
    have hcl2 := fun l' e' => closedR hid hcl .any (.inr rfl) l' e' 
    simp only [↓bwp, bwq, zav, List.tail_nil, List.tail_cons, List.headD_nil, List.headD_cons, ne_eq, reduceCtorEq, Nat.reduceEqDiff, Nat.reduceAdd, Nat.reduceMul, Nat.reduceSub, Nat.reduceLeDiff, Nat.reduceLT, Int.reduceMul, Int.reduceAdd, Int.reduceSub, List.map_cons, List.map_nil, Option.map_some, Option.map_none, Option.elim_some, if_true, if_false, List.append_nil, List.nil_append, bvq, rEq, List.cons_append, Int.reduceToNat, List.getElem?_cons_zero, List.getElem?_cons_succ, TD.agg, List.drop_succ_cons, List.drop_zero, List.take_succ_cons, List.take_zero, List.take_nil, List.drop_nil, List.getD_cons_zero, List.getD_cons_succ, splice, zhb, zhc, Option.isSome_some, Option.isSome_none, List.getElem?_nil, zhd, zhe, rLen, rBin, rInt, rStr, rUn, zhf, zhg, zhh, zhi, zhj, rBox, zhk, zhl, zhm, zhn, zho, zhp, zhq, zhr, zhs, zht, zhu, zhv, zhw, zhx, zhy, zhz, zia, zib, zic, bound, addL, addT, grow, room, List.length_cons, List.length_nil, List.length_map, frOf, byq, ti_bytes, ti_int, ti_uint, ti_u8, ti_bool, ti_string, ti_u64, ti_val, ti_a16, ti_bits, ti_op, ti_ops, ti_reader, ti_errno, ti_preader, ti_rreader, ti_prreader, ↓blp, blq, hne, hid, hcs, hcm, hgm, onR, onRo_some, onRo_nil, zkg, zke, zjp, and_true, true_and, hid, e_xfail, d0, d1, d2, d3, d7, d8, d9, ofByte, v0]
    simp (disch := first | assumption | omega | (simp; done) | (simp; omega) | (simp only [bt, and_true]; first | done | omega | (simp; done))) [↓zkt, beq, List.take_of_length_le, List.drop_append, List.take_append, endOk, wk, wk2, wk1, wkM, wkL, wkLL, List.drop_eq_nil_of_le, hss, hl0, hcl, hcl1, hcl2, hle]
    try omega
  have d3 : decide (((b0 l).toNat : Int) > 16) = false := by simp; omega
  have w1 : IntKind.i64.wrap (1 + (((b0 l).toNat : Nat) : Int)) = ((1 + (b0 l).toNat : Nat) : Int) := by rw [wrap_i64] <;> omega
  by_cases h4 : l.length < 1 + (b0 l).toNat
  · have d4 : decide ((l.length : Int) < ((1 + (b0 l).toNat : Nat) : Int)) = true := by simp; omega
    rw [show valueR (m, l, 0) = (0, m, l, 1) by simp [valueR, h1, h2, h3, h4]]
    dsimp only [cellR]
    try rw [hss]
    refine ACalls.of_aw (Ω := [(67, Ent.effect e_xfail), (72, Ent.pure p_rParse)]) (T := assoc []) mixed (TblOk.cons ok_xfail (TblOk.cons ok_rParse TblOk.nil)) Try.func31 (by kernel_rfl) (by rfl) (rs := [.cell 2 46]) (by rfl) (by kernel_rfl) (by simp only [Try.ntmps31, List.length_cons, List.length_nil]; decide) (by simp [zjk]) fun hcl hlt => ?_
    change aw _ _ _ (KI Try.prog [(67, Ent.effect e_xfail), (72, Ent.pure p_rParse)] (aEnd Try.prog [.cell 2 46] H.nx _ _) []) _ _
    clear hlt
    have hcl1 := fun l' e' => closedR hid hcl m (.inl rfl) l' e'
    have hcl2 := fun l' e' => closedR hid hcl .any (.inr rfl) l' e' 
    simp only [↓bwp, bwq, zav, List.tail_nil, List.tail_cons, List.headD_nil, List.headD_cons, ne_eq, reduceCtorEq, Nat.reduceEqDiff, Nat.reduceAdd, Nat.reduceMul, Nat.reduceSub, Nat.reduceLeDiff, Nat.reduceLT, Int.reduceMul, Int.reduceAdd, Int.reduceSub, List.map_cons, List.map_nil, Option.map_some, Option.map_none, Option.elim_some, if_true, if_false, List.append_nil, List.nil_append, bvq, rEq, List.cons_append, Int.reduceToNat, List.getElem?_cons_zero, List.getElem?_cons_succ, TD.agg, List.drop_succ_cons, List.drop_zero, List.take_succ_cons, List.take_zero, List.take_nil, List.drop_nil, List.getD_cons_zero, List.getD_cons_succ, splice, zhb, zhc, Option.isSome_some, Option.isSome_none, List.getElem?_nil, zhd, zhe, rLen, rBin, rInt, rStr, rUn, zhf, zhg, zhh, zhi, zhj, rBox, zhk, zhl, zhm, zhn, zho, zhp, zhq, zhr, zhs, zht, zhu, zhv, zhw, zhx, zhy, zhz, zia, zib, zic, bound, addL, addT, grow, room, List.length_cons, List.length_nil, List.length_map, frOf, byq, ti_bytes, ti_int, ti_uint, ti_u8, ti_bool, ti_string, ti_u64, ti_val, ti_a16, ti_bits, ti_op, ti_ops, ti_reader, ti_errno, ti_preader, ti_rreader, ti_prreader, ↓blp, blq, hne, hid, hcs, hcm, hgm, onR, onRo_some, onRo_nil, zkg, zke, zjp, and_true, true_and, hid, e_xfail, d0, d1, d2, d3, d4, d7, d8, d9, w1, ofByte, v0]
    simp (disch := first | assumption | omega | (simp; done) | (simp; omega) | (simp only [bt, and_true]; first | done | omega | (simp; done))) [↓zkt, beq, List.take_of_length_le, List.drop_append, List.take_append, endOk, wk, wk2, wk1, wkM, wkL, wkLL, List.drop_eq_nil_of_le, hss, hl0, hcl, hcl1, hcl2, hle]
    try omega
  have d4 : decide ((l.length : Int) < ((1 + (b0 l).toNat : Nat) : Int)) = false := by simp; omega
  have hpl : ((l.take (1 + (b0 l).toNat)).drop 1).length ≤ 140737488355328 := by simp; omega
  have v1 : ∀ v, vv v = .agg [.int .u64 ((v / 2 ^ 64 : Nat) : Int), .int .u64 ((v % 2 ^ 64 : Nat) : Int)] := fun _ => rfl
  by_cases h5 : (parseV ((l.take (1 + (b0 l).toNat)).drop 1)).2 = 0
  · have dp : parseV ((l.take (1 + (b0 l).toNat)).drop 1) = ((parseV ((l.take (1 + (b0 l).toNat)).drop 1)).1, 0) := by rw [← h5]
    generalize (parseV ((l.take (1 + (b0 l).toNat)).drop 1)).1 = q at *
    rw [show valueR (m, l, 0) = (q, Mark.any, l.drop (1 + (b0 l).toNat), (0 : Int)) by simp only [valueR]; rw [if_neg (by simp), if_neg h1, if_neg (by omega), if_neg h4, dp, if_neg (by simp)]]
    dsimp only [cellR]
    refine ACalls.of_aw (Ω := [(67, Ent.effect e_xfail), (72, Ent.pure p_rParse)]) (T := assoc []) mixed (TblOk.cons ok_xfail (TblOk.cons ok_rParse TblOk.nil)) Try.func31 (by kernel_rfl) (by rfl) (rs := [.cell 2 46]) (by rfl) (by kernel_rfl) (by simp only [Try.ntmps31, List.length_cons, List.length_nil]; decide) (by simp [zjk]) fun hcl hlt => ?_
    change aw _ _ _ (KI Try.prog [(67, Ent.effect e_xfail), (72, Ent.pure p_rParse)] (aEnd Try.prog [.cell 2 46] H.nx _ _) []) _ _
    clear hlt
    have hcl1 := fun l' e' => closedR hid hcl m (.inl rfl) l' e'
    have hcl2 := fun l' e' => closedR hid hcl .any (.inr rfl) l' e' 
    simp only [↓bwp, bwq, zav, List.tail_nil, List.tail_cons, List.headD_nil, List.headD_cons, ne_eq, reduceCtorEq, Nat.reduceEqDiff, Nat.reduceAdd, Nat.reduceMul, Nat.reduceSub, Nat.reduceLeDiff, Nat.reduceLT, Int.reduceMul, Int.reduceAdd, Int.reduceSub, List.map_cons, List.map_nil, Option.map_some, Option.map_none, Option.elim_some, if_true, if_false, List.append_nil, List.nil_append, bvq, rEq, List.cons_append, Int.reduceToNat, List.getElem?_cons_zero, List.getElem?_cons_succ, TD.agg, List.drop_succ_cons, List.drop_zero, List.take_succ_cons, List.take_zero, List.take_nil, List.drop_nil, List.getD_cons_zero, List.getD_cons_succ, splice, zhb, zhc, Option.isSome_some, Option.isSome_none, List.getElem?_nil, zhd, zhe, rLen, rBin, rInt, rStr, rUn, zhf, zhg, zhh, zhi, zhj, rBox, zhk, zhl, zhm, zhn, zho, zhp, zhq, zhr, zhs, zht, zhu, zhv, zhw, zhx, zhy, zhz, zia, zib, zic, bound, addL, addT, grow, room, List.length_cons, List.length_nil, List.length_map, frOf, byq, ti_bytes, ti_int, ti_uint, ti_u8, ti_bool, ti_string, ti_u64, ti_val, ti_a16, ti_bits, ti_op, ti_ops, ti_reader, ti_errno, ti_preader, ti_rreader, ti_prreader, ↓blp, blq, hne, hid, hcs, hcm, hgm, onR, onRo_some, onRo_nil, zkg, zke, zjp, and_true, true_and, hid, e_xfail, p_rParse, d0, d1, d2, d3, d4, d7, d8, d9, w1, dp, hpl, Int.toNat_natCast, ofByte, v1]
    simp (disch := first | assumption | omega | (simp; done) | (simp; omega) | (simp only [bt, and_true]; first | done | omega | (simp; done))) [↓zkt, beq, List.take_of_length_le, List.drop_append, List.take_append, endOk, wk, wk2, wk1, wkM, wkL, wkLL, List.drop_eq_nil_of_le, hss, hl0, hcl, hcl1, hcl2, hle]
    try omega
  · have d10 : ((parseV ((l.take (1 + (b0 l).toNat)).drop 1)).2 != 0) = true := by simpa using h5
    rw [show valueR (m, l, 0) = (0, m, l, 5) by simp only [valueR]; rw [if_neg (by simp), if_neg h1, if_neg (by omega), if_neg h4, if_pos h5]]
    generalize hq : parseV ((l.take (1 + (b0 l).toNat)).drop 1) = q at *
    dsimp only [cellR]
    refine ACalls.of_aw (Ω := [(67, Ent.effect e_xfail), (72, Ent.pure p_rParse)]) (T := assoc []) mixed (TblOk.cons ok_xfail (TblOk.cons ok_rParse TblOk.nil)) Try.func31 (by kernel_rfl) (by rfl) (rs := [.cell 2 46]) (by rfl) (by kernel_rfl) (by simp only [Try.ntmps31, List.length_cons, List.length_nil]; decide) (by simp [zjk]) fun hcl hlt => ?_
    change aw _ _ _ (KI Try.prog [(67, Ent.effect e_xfail), (72, Ent.pure p_rParse)] (aEnd Try.prog [.cell 2 46] H.nx _ _) []) _ _
    clear hlt
    have hcl1 := fun l' e' => closedR hid hcl m (.inl rfl) l' e'
    have hcl2 := fun l' e' => closedR hid hcl .any (.inr rfl) l' e' 
    simp only [↓bwp, bwq, zav, List.tail_nil, List.tail_cons, List.headD_nil, List.headD_cons, ne_eq, reduceCtorEq, Nat.reduceEqDiff, Nat.reduceAdd, Nat.reduceMul, Nat.reduceSub, Nat.reduceLeDiff, Nat.reduceLT, Int.reduceMul, Int.reduceAdd, Int.reduceSub, List.map_cons, List.map_nil, Option.map_some, Option.map_none, Option.elim_some, if_true, if_false, List.append_nil, List.nil_append, bvq, rEq, List.cons_append, Int.reduceToNat, List.getElem?_cons_zero, List.getElem?_cons_succ, TD.agg, List.drop_succ_cons, List.drop_zero, List.take_succ_cons, List.take_zero, List.take_nil, List.drop_nil, List.getD_cons_zero, List.getD_cons_succ, splice, zhb, zhc, Option.isSome_some, Option.isSome_none, List.getElem?_nil, zhd, zhe, rLen, rBin, rInt, rStr, rUn, zhf, zhg, zhh, zhi, zhj, rBox, zhk, zhl, zhm, zhn, zho, zhp, zhq, zhr, zhs, zht, zhu, zhv, zhw, zhx, zhy, zhz, zia, zib, zic, bound, addL, addT, grow, room, List.length_cons, List.length_nil, List.length_map, frOf, byq, ti_bytes, ti_int, ti_uint, ti_u8, ti_bool, ti_string, ti_u64, ti_val, ti_a16, ti_bits, ti_op, ti_ops, ti_reader, ti_errno, ti_preader, ti_rreader, ti_prreader, ↓blp, blq, hne, hid, hcs, hcm, hgm, onR, onRo_some, onRo_nil, zkg, zke, zjp, and_true, true_and, hid, e_xfail, p_rParse, d0, d1, d2, d3, d4, d7, d8, d9, d10, w1, hq, hpl, Int.toNat_natCast, ofByte, v1]
    simp (disch := first | assumption | omega | (simp; done) | (simp; omega) | (simp only [bt, and_true]; first | done | omega | (simp; done))) [↓zkt, beq, List.take_of_length_le, List.drop_append, List.take_append, endOk, wk, wk2, wk1, wkM, wkL, wkLL, List.drop_eq_nil_of_le, hss, hl0, hcl, hcl1, hcl2, hle]
    try omega
end Go.AL
