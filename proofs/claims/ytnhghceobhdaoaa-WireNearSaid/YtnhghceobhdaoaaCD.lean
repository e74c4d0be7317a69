/- Contracts and plain laws, a part of the proof; no condition of its own. -/
import Derived.Test.YtnhghceobhdaoaaCW
import Derived.Test.YtnhghceobhdaoaaLRead
open Go Go.AL Go.Proofs
namespace Go.AL
set_option linter.all false
set_option maxRecDepth 10000
theorem ti_reader : ti Try.prog 100 = some ⟨.struct [(0, 22, false), (1, 29, false)], 2, 32, .agg [.slice .nil 1 [], .int .i64 0]⟩ := by kernel_rfl
theorem ti_errno : ti Try.prog 29 = some ⟨.int .i64, 1, 8, .int .i64 0⟩ := by kernel_rfl
theorem ti_preader : ti Try.prog 52 = some ⟨.ptr 100, 1, 8, .nilp⟩ := by kernel_rfl

def p_Clone : List AV → AHeap → (AV → Prop) → Prop
  | [.slice _ 1 l], _, K => (isB l ∧ l.length ≤ 140737488355328) ∧ K (.slice .any 1 (bys (unb l)))
  | _, _, _ => False
theorem ok_Clone : EntOk Try.prog 62 (Ent.pure p_Clone) := by
  refine EntOk.pure fun args H K h => ?_
  unfold p_Clone at h
  split at h
  rotate_left
  · exact h.elim
  rename_i m l
  obtain ⟨⟨c1, hle⟩, hK⟩ := h
  refine ⟨_, hK, ?_⟩
  obtain ⟨xs, rfl⟩ := isB_out c1
  simp only [zke, zjp] at *
  refine ACalls.of_aw (Ω := []) (T := assoc []) mixed TblOk.nil Try.func62 (by kernel_rfl) (by rfl) (rs := [.tmp 2]) (by rfl) (by kernel_rfl) (by simp only [Try.ntmps62, List.length_cons, List.length_nil]; decide) (Nat.le_refl _) fun hcl hlt => ?_
  change aw _ _ _ (KI Try.prog [] (aEnd Try.prog [.tmp 2] H.nx _ _) []) _ _
  clear hK hlt
  simp only [↓bwp, bwq, zav, List.tail_nil, List.tail_cons, List.headD_nil, List.headD_cons, ne_eq, reduceCtorEq, Nat.reduceEqDiff, Nat.reduceAdd, Nat.reduceMul, Nat.reduceSub, Nat.reduceLeDiff, Nat.reduceLT, Int.reduceMul, Int.reduceAdd, Int.reduceSub, List.map_cons, List.map_nil, Option.map_some, Option.map_none, Option.elim_some, if_true, if_false, List.append_nil, List.nil_append, bvq, rEq, List.cons_append, Int.reduceToNat, List.getElem?_cons_zero, List.getElem?_cons_succ, TD.agg, List.drop_succ_cons, List.drop_zero, List.take_succ_cons, List.take_zero, List.take_nil, List.drop_nil, List.getD_cons_zero, List.getD_cons_succ, splice, zhb, zhc, Option.isSome_some, Option.isSome_none, List.getElem?_nil, zhd, zhe, rLen, rBin, rInt, rStr, rUn, zhf, zhg, zhh, zhi, zhj, rBox, zhk, zhl, zhm, zhn, zho, zhp, zhq, zhr, zhs, zht, zhu, zhv, zhw, zhx, zhy, zhz, zia, zib, zic, bound, addL, addT, grow, room, List.length_cons, List.length_nil, List.length_map, frOf, byq, ti_bytes, ti_int, ti_uint, ti_u8, ti_bool, ti_string, ti_u64, ti_val, ti_a16, ti_bits, ti_op, ti_ops, ti_reader, ti_errno, ti_preader]
  intro b hb
  refine both_split (fun h1 => ?_) (fun h1 => ?_)
  · subst h1
    have : xs = [] := by
      cases xs with
      | nil => rfl
      | cons a t => simp [bys] at hb
    subst this
    simp (disch := first | assumption | omega | (simp; done) | (simp; omega) | (simp only [bt, and_true]; first | done | omega | (simp; done))) [↓zkt, beq, List.take_of_length_le, List.drop_append, List.take_append, endOk, wk, wk2, wk1, wkM, wkL, wkLL, List.drop_eq_nil_of_le, hcl]
  · refine ⟨by omega, ?_⟩
    simp (disch := first | assumption | omega | (simp; done) | (simp; omega) | (simp only [bt, and_true]; first | done | omega | (simp; done))) [↓zkt, beq, List.take_of_length_le, List.drop_append, List.take_append, endOk, wk, wk2, wk1, wkM, wkL, wkLL, List.drop_eq_nil_of_le, hcl]

def e_New : List AV → AHeap → (AEnd → AHeap → Prop) → Prop
  | [.slice _ 1 l], H, K => (isB l ∧ l.length ≤ 140737488355328) ∧ K (.ret (.ptr H.nx 0)) (H.push (.cells [.slice .any 1 (bys (unb l)), .int .i64 0]))
  | _, _, _ => False
theorem ok_New : EntOk Try.prog 21 (Ent.effect e_New) := by
  refine EntOk.effect fun args H K h => ?_
  unfold e_New at h
  split at h
  rotate_left
  · exact h.elim
  rename_i m l
  obtain ⟨⟨c1, hle⟩, hK⟩ := h
  refine ⟨_, _, hK, ?_⟩
  obtain ⟨xs, rfl⟩ := isB_out c1
  simp only [zke, zjp] at *
  refine ACalls.of_aw (Ω := [(62, Ent.pure p_Clone)]) (T := assoc []) mixed (TblOk.cons ok_Clone TblOk.nil) Try.func21 (by kernel_rfl) (by rfl) (rs := [.tmp 2]) (by rfl) (by kernel_rfl) (by simp only [Try.ntmps21, List.length_cons, List.length_nil]; decide) (by simp only [zjj]; omega) fun hcl hlt => ?_
  change aw _ _ _ (KI Try.prog [(62, Ent.pure p_Clone)] (aEnd Try.prog [.tmp 2] H.nx _ _) []) _ _
  clear hK hlt
  simp only [↓bwp, bwq, zav, List.tail_nil, List.tail_cons, List.headD_nil, List.headD_cons, ne_eq, reduceCtorEq, Nat.reduceEqDiff, Nat.reduceAdd, Nat.reduceMul, Nat.reduceSub, Nat.reduceLeDiff, Nat.reduceLT, Int.reduceMul, Int.reduceAdd, Int.reduceSub, List.map_cons, List.map_nil, Option.map_some, Option.map_none, Option.elim_some, if_true, if_false, List.append_nil, List.nil_append, bvq, rEq, List.cons_append, Int.reduceToNat, List.getElem?_cons_zero, List.getElem?_cons_succ, TD.agg, List.drop_succ_cons, List.drop_zero, List.take_succ_cons, List.take_zero, List.take_nil, List.drop_nil, List.getD_cons_zero, List.getD_cons_succ, splice, zhb, zhc, Option.isSome_some, Option.isSome_none, List.getElem?_nil, zhd, zhe, rLen, rBin, rInt, rStr, rUn, zhf, zhg, zhh, zhi, zhj, rBox, zhk, zhl, zhm, zhn, zho, zhp, zhq, zhr, zhs, zht, zhu, zhv, zhw, zhx, zhy, zhz, zia, zib, zic, bound, addL, addT, grow, room, List.length_cons, List.length_nil, List.length_map, frOf, byq, ti_bytes, ti_int, ti_uint, ti_u8, ti_bool, ti_string, ti_u64, ti_val, ti_a16, ti_bits, ti_op, ti_ops, ti_reader, ti_errno, ti_preader, ↓blp, blq, p_Clone]
  refine ⟨by omega, ?_⟩
  have hc : (H.push (.cells [.slice .any 1 (bys xs), .int .i64 0])).Closed := closed_cells hcl (by simp [ltL, zkx, zlk])
  simp (disch := first | assumption | omega | (simp; done) | (simp; omega) | (simp only [bt, and_true]; first | done | omega | (simp; done))) [↓zkt, beq, List.take_of_length_le, List.drop_append, List.take_append, endOk, wk, wk2, wk1, wkM, wkL, wkLL, List.drop_eq_nil_of_le, hc]

def p_done : List AV → AHeap → (AV → Prop) → Prop
  | [.nilp], _, K => K (.bool true)
  | [.ptr id 0], H, K => onR H id fun m l e => K (.bool (e != 0))
  | _, _, _ => False
theorem ok_done : EntOk Try.prog 63 (Ent.pure p_done) := by
  refine EntOk.pure fun args H K h => ?_
  unfold p_done at h
  split at h
  · refine ⟨_, h, ?_⟩
    refine ACalls.of_aw (Ω := []) (T := assoc []) mixed TblOk.nil Try.func63 (by kernel_rfl) (by rfl) (rs := [.tmp 2]) (by rfl) (by kernel_rfl) (by simp only [Try.ntmps63, List.length_cons, List.length_nil]; decide) (Nat.le_refl _) fun hcl hlt => ?_
    change aw _ _ _ (KI Try.prog [] (aEnd Try.prog [.tmp 2] H.nx _ _) []) _ _
    clear h hlt
    simp only [↓bwp, bwq, zav, List.tail_nil, List.tail_cons, List.headD_nil, List.headD_cons, ne_eq, reduceCtorEq, Nat.reduceEqDiff, Nat.reduceAdd, Nat.reduceMul, Nat.reduceSub, Nat.reduceLeDiff, Nat.reduceLT, Int.reduceMul, Int.reduceAdd, Int.reduceSub, List.map_cons, List.map_nil, Option.map_some, Option.map_none, Option.elim_some, if_true, if_false, List.append_nil, List.nil_append, bvq, rEq, List.cons_append, Int.reduceToNat, List.getElem?_cons_zero, List.getElem?_cons_succ, TD.agg, List.drop_succ_cons, List.drop_zero, List.take_succ_cons, List.take_zero, List.take_nil, List.drop_nil, List.getD_cons_zero, List.getD_cons_succ, splice, zhb, zhc, Option.isSome_some, Option.isSome_none, List.getElem?_nil, zhd, zhe, rLen, rBin, rInt, rStr, rUn, zhf, zhg, zhh, zhi, zhj, rBox, zhk, zhl, zhm, zhn, zho, zhp, zhq, zhr, zhs, zht, zhu, zhv, zhw, zhx, zhy, zhz, zia, zib, zic, bound, addL, addT, grow, room, List.length_cons, List.length_nil, List.length_map, frOf, byq, ti_bytes, ti_int, ti_uint, ti_u8, ti_bool, ti_string, ti_u64, ti_val, ti_a16, ti_bits, ti_op, ti_ops, ti_reader, ti_errno, ti_preader]
    simp (disch := first | assumption | omega | (simp; done) | (simp; omega) | (simp only [bt, and_true]; first | done | omega | (simp; done))) [↓zkt, beq, List.take_of_length_le, List.drop_append, List.take_append, endOk, wk, wk2, wk1, wkM, wkL, wkLL, List.drop_eq_nil_of_le, hcl]
  · rename_i id
    obtain ⟨m, l, e, hid, hle, hK⟩ := onR_out h
    refine ⟨_, hK, ?_⟩
    have hcs := cells_some hid
    refine ACalls.of_aw (Ω := []) (T := assoc []) mixed TblOk.nil Try.func63 (by kernel_rfl) (by rfl) (rs := [.tmp 2]) (by rfl) (by kernel_rfl) (by simp only [Try.ntmps63, List.length_cons, List.length_nil]; decide) (Nat.le_refl _) fun hcl hlt => ?_
    change aw _ _ _ (KI Try.prog [] (aEnd Try.prog [.tmp 2] H.nx _ _) []) _ _
    clear h hK hlt
    simp only [↓bwp, bwq, zav, List.tail_nil, List.tail_cons, List.headD_nil, List.headD_cons, ne_eq, reduceCtorEq, Nat.reduceEqDiff, Nat.reduceAdd, Nat.reduceMul, Nat.reduceSub, Nat.reduceLeDiff, Nat.reduceLT, Int.reduceMul, Int.reduceAdd, Int.reduceSub, List.map_cons, List.map_nil, Option.map_some, Option.map_none, Option.elim_some, if_true, if_false, List.append_nil, List.nil_append, bvq, rEq, List.cons_append, Int.reduceToNat, List.getElem?_cons_zero, List.getElem?_cons_succ, TD.agg, List.drop_succ_cons, List.drop_zero, List.take_succ_cons, List.take_zero, List.take_nil, List.drop_nil, List.getD_cons_zero, List.getD_cons_succ, splice, zhb, zhc, Option.isSome_some, Option.isSome_none, List.getElem?_nil, zhd, zhe, rLen, rBin, rInt, rStr, rUn, zhf, zhg, zhh, zhi, zhj, rBox, zhk, zhl, zhm, zhn, zho, zhp, zhq, zhr, zhs, zht, zhu, zhv, zhw, zhx, zhy, zhz, zia, zib, zic, bound, addL, addT, grow, room, List.length_cons, List.length_nil, List.length_map, frOf, byq, ti_bytes, ti_int, ti_uint, ti_u8, ti_bool, ti_string, ti_u64, ti_val, ti_a16, ti_bits, ti_op, ti_ops, ti_reader, ti_errno, ti_preader, hcs]
    simp (disch := first | assumption | omega | (simp; done) | (simp; omega) | (simp only [bt, and_true]; first | done | omega | (simp; done))) [↓zkt, beq, List.take_of_length_le, List.drop_append, List.take_append, endOk, wk, wk2, wk1, wkM, wkL, wkLL, List.drop_eq_nil_of_le, hcl]
  · exact h.elim

def e_fail : List AV → AHeap → (AEnd → AHeap → Prop) → Prop
  | [.ptr id 0, .int .i64 x], H, K => onR H id fun m l e => True ∧ K (.ret (.tup [])) (H.set id (.cells [.slice m 1 (bys l), .int .i64 x]))
  | _, _, _ => False
theorem ok_fail : EntOk Try.prog 64 (Ent.effect e_fail) := by
  refine EntOk.effect fun args H K h => ?_
  unfold e_fail at h
  split at h
  rotate_left
  · exact h.elim
  rename_i id x
  obtain ⟨m, l, e, hid, hle, h⟩ := onR_out h
  obtain ⟨hpre, hK⟩ := h
  refine ⟨_, _, hK, ?_⟩
  clear hK
  have hl0 := AHeap.get_lt hid
  have hne := far_of hl0
  have hss := set_same hid
  have hcs := cells_some hid
  have hcm := fun cs => @cells_set_same H id cs hl0
  have hgm := fun o => @get_set_same' H id o hl0
  refine ACalls.of_aw (Ω := []) (T := assoc []) mixed TblOk.nil Try.func64 (by kernel_rfl) (by rfl) (rs := []) (by rfl) (by kernel_rfl) (by simp only [Try.ntmps64, List.length_cons, List.length_nil]; decide) (Nat.le_refl _) fun hcl hlt => ?_
  change aw _ _ _ (KI Try.prog [] (aEnd Try.prog [] H.nx _ _) []) _ _
  clear hlt
  have hcl1 := fun l' e' => closedR hid hcl m (.inl rfl) l' e'
  have hcl2 := fun l' e' => closedR hid hcl .any (.inr rfl) l' e' 
  simp only [↓bwp, bwq, zav, List.tail_nil, List.tail_cons, List.headD_nil, List.headD_cons, ne_eq, reduceCtorEq, Nat.reduceEqDiff, Nat.reduceAdd, Nat.reduceMul, Nat.reduceSub, Nat.reduceLeDiff, Nat.reduceLT, Int.reduceMul, Int.reduceAdd, Int.reduceSub, List.map_cons, List.map_nil, Option.map_some, Option.map_none, Option.elim_some, if_true, if_false, List.append_nil, List.nil_append, bvq, rEq, List.cons_append, Int.reduceToNat, List.getElem?_cons_zero, List.getElem?_cons_succ, TD.agg, List.drop_succ_cons, List.drop_zero, List.take_succ_cons, List.take_zero, List.take_nil, List.drop_nil, List.getD_cons_zero, List.getD_cons_succ, splice, zhb, zhc, Option.isSome_some, Option.isSome_none, List.getElem?_nil, zhd, zhe, rLen, rBin, rInt, rStr, rUn, zhf, zhg, zhh, zhi, zhj, rBox, zhk, zhl, zhm, zhn, zho, zhp, zhq, zhr, zhs, zht, zhu, zhv, zhw, zhx, zhy, zhz, zia, zib, zic, bound, addL, addT, grow, room, List.length_cons, List.length_nil, List.length_map, frOf, byq, ti_bytes, ti_int, ti_uint, ti_u8, ti_bool, ti_string, ti_u64, ti_val, ti_a16, ti_bits, ti_op, ti_ops, ti_reader, ti_errno, ti_preader, hne, hid, hcs, hcm, hgm, onR, onRo_some, onRo_nil, zkg, zke, zjp, and_true, true_and]
  simp (disch := first | assumption | omega | (simp; done) | (simp; omega) | (simp only [bt, and_true]; first | done | omega | (simp; done))) [↓zkt, beq, List.take_of_length_le, List.drop_append, List.take_append, endOk, wk, wk2, wk1, wkM, wkL, wkLL, List.drop_eq_nil_of_le, hss, hl0, hcl1, hcl2, zkg, zke, zjp]

def e_peek : List AV → AHeap → (AEnd → AHeap → Prop) → Prop
  | [.ptr id 0, .int .i64 a, .int .i64 n], H, K => onR H id fun m l e => (0 ≤ a ∧ a ≤ 100000 ∧ 0 ≤ n ∧ n ≤ 100000) ∧
      (if (l.length : Int) < a + n then K (.ret (.tup [.slice .any 1 [], .bool false])) (H.set id (.cells [.slice m 1 (bys l), .int .i64 1]))
       else K (.ret (.tup [.slice .any 1 (bys ((l.take (a + n).toNat).drop a.toNat)), .bool true])) H)
  | _, _, _ => False
theorem ok_peek : EntOk Try.prog 65 (Ent.effect e_peek) := by
  refine EntOk.effect fun args H K h => ?_
  unfold e_peek at h
  split at h
  rotate_left
  · exact h.elim
  rename_i id a n
  obtain ⟨m, l, e, hid, hle, h⟩ := onR_out h
  obtain ⟨hpre, hK⟩ := h
  have hl0 := AHeap.get_lt hid
  have hne := far_of hl0
  have hss := set_same hid
  have hcs := cells_some hid
  have hcm := fun cs => @cells_set_same H id cs hl0
  have hgm := fun o => @get_set_same' H id o hl0
  have hw : IntKind.i64.wrap (a + n) = a + n := by rw [wrap_i64] <;> omega
  split at hK
  · rename_i hlt0
    refine ⟨_, _, hK, ?_⟩
    refine ACalls.of_aw (Ω := [(64, Ent.effect e_fail)]) (T := assoc []) mixed (TblOk.cons ok_fail TblOk.nil) Try.func65 (by kernel_rfl) (by rfl) (rs := [.tmp 6,.tmp 7]) (by rfl) (by kernel_rfl) (by simp only [Try.ntmps65, List.length_cons, List.length_nil]; decide) (Nat.le_refl _) fun hcl hlt => ?_
    change aw _ _ _ (KI Try.prog [(64, Ent.effect e_fail)] (aEnd Try.prog [.tmp 6,.tmp 7] H.nx _ _) []) _ _
    clear hlt hK
    have hcl1 := fun l' e' => closedR hid hcl m (.inl rfl) l' e'
    have hd : decide ((l.length : Int) < a + n) = true := by simpa using hlt0
    simp only [↓bwp, bwq, zav, List.tail_nil, List.tail_cons, List.headD_nil, List.headD_cons, ne_eq, reduceCtorEq, Nat.reduceEqDiff, Nat.reduceAdd, Nat.reduceMul, Nat.reduceSub, Nat.reduceLeDiff, Nat.reduceLT, Int.reduceMul, Int.reduceAdd, Int.reduceSub, List.map_cons, List.map_nil, Option.map_some, Option.map_none, Option.elim_some, if_true, if_false, List.append_nil, List.nil_append, bvq, rEq, List.cons_append, Int.reduceToNat, List.getElem?_cons_zero, List.getElem?_cons_succ, TD.agg, List.drop_succ_cons, List.drop_zero, List.take_succ_cons, List.take_zero, List.take_nil, List.drop_nil, List.getD_cons_zero, List.getD_cons_succ, splice, zhb, zhc, Option.isSome_some, Option.isSome_none, List.getElem?_nil, zhd, zhe, rLen, rBin, rInt, rStr, rUn, zhf, zhg, zhh, zhi, zhj, rBox, zhk, zhl, zhm, zhn, zho, zhp, zhq, zhr, zhs, zht, zhu, zhv, zhw, zhx, zhy, zhz, zia, zib, zic, bound, addL, addT, grow, room, List.length_cons, List.length_nil, List.length_map, frOf, byq, ti_bytes, ti_int, ti_uint, ti_u8, ti_bool, ti_string, ti_u64, ti_val, ti_a16, ti_bits, ti_op, ti_ops, ti_reader, ti_errno, ti_preader, ↓blp, blq, hne, hid, hcs, hcm, hgm, onR, onRo_some, onRo_nil, zkg, zke, zjp, and_true, true_and, e_fail, hw, hd]
    refine ⟨by omega, ?_⟩
    simp (disch := first | assumption | omega | (simp; done) | (simp; omega) | (simp only [bt, and_true]; first | done | omega | (simp; done))) [↓zkt, beq, List.take_of_length_le, List.drop_append, List.take_append, endOk, wk, wk2, wk1, wkM, wkL, wkLL, List.drop_eq_nil_of_le, hss, hl0, hcl1]
  · rename_i hlt0
    refine ⟨_, _, hK, ?_⟩
    refine ACalls.of_aw (Ω := [(64, Ent.effect e_fail)]) (T := assoc []) mixed (TblOk.cons ok_fail TblOk.nil) Try.func65 (by kernel_rfl) (by rfl) (rs := [.tmp 6,.tmp 7]) (by rfl) (by kernel_rfl) (by simp only [Try.ntmps65, List.length_cons, List.length_nil]; decide) (Nat.le_refl _) fun hcl hlt => ?_
    change aw _ _ _ (KI Try.prog [(64, Ent.effect e_fail)] (aEnd Try.prog [.tmp 6,.tmp 7] H.nx _ _) []) _ _
    clear hlt hK
    have hd : decide ((l.length : Int) < a + n) = false := by simpa using hlt0
    simp only [↓bwp, bwq, zav, List.tail_nil, List.tail_cons, List.headD_nil, List.headD_cons, ne_eq, reduceCtorEq, Nat.reduceEqDiff, Nat.reduceAdd, Nat.reduceMul, Nat.reduceSub, Nat.reduceLeDiff, Nat.reduceLT, Int.reduceMul, Int.reduceAdd, Int.reduceSub, List.map_cons, List.map_nil, Option.map_some, Option.map_none, Option.elim_some, if_true, if_false, List.append_nil, List.nil_append, bvq, rEq, List.cons_append, Int.reduceToNat, List.getElem?_cons_zero, List.getElem?_cons_succ, TD.agg, List.drop_succ_cons, List.drop_zero, List.take_succ_cons, List.take_zero, List.take_nil, List.drop_nil, List.getD_cons_zero, List.getD_cons_succ, splice, zhb, zhc, Option.isSome_some, Option.isSome_none, List.getElem?_nil, zhd, zhe, rLen, rBin, rInt, rStr, rUn, zhf, zhg, zhh, zhi, zhj, rBox, zhk, zhl, zhm, zhn, zho, zhp, zhq, zhr, zhs, zht, zhu, zhv, zhw, zhx, zhy, zhz, zia, zib, zic, bound, addL, addT, grow, room, List.length_cons, List.length_nil, List.length_map, frOf, byq, ti_bytes, ti_int, ti_uint, ti_u8, ti_bool, ti_string, ti_u64, ti_val, ti_a16, ti_bits, ti_op, ti_ops, ti_reader, ti_errno, ti_preader, ↓blp, blq, hne, hid, hcs, hcm, hgm, onR, onRo_some, onRo_nil, zkg, zke, zjp, and_true, true_and, e_fail, hw, hd]
    refine ⟨by omega, ?_⟩
    simp (disch := first | assumption | omega | (simp; done) | (simp; omega) | (simp only [bt, and_true]; first | done | omega | (simp; done))) [↓zkt, beq, List.take_of_length_le, List.drop_append, List.take_append, endOk, wk, wk2, wk1, wkM, wkL, wkLL, List.drop_eq_nil_of_le, hcl]

def p_unsigned : List AV → AHeap → (AV → Prop) → Prop
  | [.slice _ 1 l], _, K => (isB l ∧ l.length ≤ 6) ∧ K (.int .i64 (beVal (unb l) : Nat))
  | _, _, _ => False
theorem ok_unsigned : EntOk Try.prog 66 (Ent.pure p_unsigned) := by
  refine EntOk.pure fun args H K h => ?_
  unfold p_unsigned at h
  split at h
  rotate_left
  · exact h.elim
  rename_i m l
  obtain ⟨⟨c1, hle⟩, hK⟩ := h
  refine ⟨_, hK, ?_⟩
  obtain ⟨xs, rfl⟩ := isB_out c1
  simp only [zke, zjp] at *
  refine ACalls.of_aw (Ω := []) (T := assoc []) mixed TblOk.nil Try.func66 (by kernel_rfl) (by rfl) (rs := [.tmp 2]) (by rfl) (by kernel_rfl) (by simp only [Try.ntmps66, List.length_cons, List.length_nil]; decide) (Nat.le_refl _) fun hcl hlt => ?_
  change aw _ _ _ (KI Try.prog [] (aEnd Try.prog [.tmp 2] H.nx _ _) []) _ _
  clear hK hlt
  simp only [↓bwp, bwq, List.tail_nil, List.tail_cons, List.headD_nil, List.headD_cons, ne_eq, reduceCtorEq, Nat.reduceEqDiff, Nat.reduceAdd, Nat.reduceMul, Nat.reduceSub, Nat.reduceLeDiff, Nat.reduceLT, Int.reduceMul, Int.reduceAdd, Int.reduceSub, List.map_cons, List.map_nil, Option.map_some, Option.map_none, Option.elim_some, if_true, if_false, List.append_nil, List.nil_append, bvq, rEq, List.cons_append, Int.reduceToNat, List.getElem?_cons_zero, List.getElem?_cons_succ, TD.agg, List.drop_succ_cons, List.drop_zero, List.take_succ_cons, List.take_zero, List.take_nil, List.drop_nil, List.getD_cons_zero, List.getD_cons_succ, splice, zhb, zhc, Option.isSome_some, Option.isSome_none, List.getElem?_nil, zhd, zhe, rLen, rBin, rInt, rStr, rUn, zhf, zhg, zhh, zhi, zhj, rBox, zhk, zhl, zhm, zhn, zho, zhp, zhq, zhr, zhs, zht, zhu, zhv, zhw, zhx, zhy, zhz, zia, zib, zic, bound, addL, addT, grow, room, List.length_cons, List.length_nil, List.length_map, frOf, byq, ti_bytes, ti_int, ti_uint, ti_u8, ti_bool, ti_string, ti_u64, ti_val, ti_a16, ti_bits, ti_op, ti_ops, ti_reader, ti_errno, ti_preader]
  refine loop_intro (A := Nat) (fun k => [(8, .int .i64 (k : Int)), (7, .int .i64 (xs.length : Int)), (6, .slice m 1 (bys xs)), (3, .int .i64 (beVal (xs.take k) : Nat))])
    (fun k => H) (fun k => k ≤ xs.length) (fun k => xs.length - k) 0 (by omega) ?_ fun k hk => ?_
  · simp only [bnq, enter, subF, ltF, ne_eq, Nat.reduceEqDiff, reduceCtorEq, List.take_zero, beVal_nil, true_or, and_true]
  simp only [↓bwp, bwq, List.tail_nil, List.tail_cons, List.headD_nil, List.headD_cons, ne_eq, reduceCtorEq, Nat.reduceEqDiff, Nat.reduceAdd, Nat.reduceMul, Nat.reduceSub, Nat.reduceLeDiff, Nat.reduceLT, Int.reduceMul, Int.reduceAdd, Int.reduceSub, List.map_cons, List.map_nil, Option.map_some, Option.map_none, Option.elim_some, if_true, if_false, List.append_nil, List.nil_append, bvq, rEq, List.cons_append, Int.reduceToNat, List.getElem?_cons_zero, List.getElem?_cons_succ, TD.agg, List.drop_succ_cons, List.drop_zero, List.take_succ_cons, List.take_zero, List.take_nil, List.drop_nil, List.getD_cons_zero, List.getD_cons_succ, splice, zhb, zhc, Option.isSome_some, Option.isSome_none, List.getElem?_nil, zhd, zhe, rLen, rBin, rInt, rStr, rUn, zhf, zhg, zhh, zhi, zhj, rBox, zhk, zhl, zhm, zhn, zho, zhp, zhq, zhr, zhs, zht, zhu, zhv, zhw, zhx, zhy, zhz, zia, zib, zic, bound, addL, addT, grow, room, List.length_cons, List.length_nil, List.length_map, frOf, byq, ti_bytes, ti_int, ti_uint, ti_u8, ti_bool, ti_string, ti_u64, ti_val, ti_a16, ti_bits, ti_op, ti_ops, ti_reader, ti_errno, ti_preader]
  refine cond_split (fun hc => ?_) (fun hc => ?_)
  · have hk : k < xs.length := by simp at hc; omega
    have e1 : IntKind.i64.wrap ((k : Int) + 1) = ((k + 1 : Nat) : Int) := by rw [wrap_i64] <;> omega
    have hb : beVal (xs.take k) < 256 ^ 6 := beVal_take_lt xs k 6 hle
    have hx : (bys xs).getD k .junk = ofByte (xs.getD k 0) := bys_get hk
    have e2 : IntKind.i64.wrap (((xs.getD k 0).toNat : Nat) : Int) = (((xs.getD k 0).toNat : Nat) : Int) := wrap_i64_nat _ (by have := UInt8.toNat_lt (xs.getD k 0); omega)
    have e3 := shl8_or (beVal (xs.take k)) (xs.getD k 0).toNat (by omega) (UInt8.toNat_lt _)
    rw [← beVal_step xs k hk] at e3
    simp only [↓bwp, bwq, List.tail_nil, List.tail_cons, List.headD_nil, List.headD_cons, ne_eq, reduceCtorEq, Nat.reduceEqDiff, Nat.reduceAdd, Nat.reduceMul, Nat.reduceSub, Nat.reduceLeDiff, Nat.reduceLT, Int.reduceMul, Int.reduceAdd, Int.reduceSub, List.map_cons, List.map_nil, Option.map_some, Option.map_none, Option.elim_some, if_true, if_false, List.append_nil, List.nil_append, bvq, rEq, List.cons_append, Int.reduceToNat, List.getElem?_cons_zero, List.getElem?_cons_succ, TD.agg, List.drop_succ_cons, List.drop_zero, List.take_succ_cons, List.take_zero, List.take_nil, List.drop_nil, List.getD_cons_zero, List.getD_cons_succ, splice, zhb, zhc, Option.isSome_some, Option.isSome_none, List.getElem?_nil, zhd, zhe, rLen, rBin, rInt, rStr, rUn, zhf, zhg, zhh, zhi, zhj, rBox, zhk, zhl, zhm, zhn, zho, zhp, zhq, zhr, zhs, zht, zhu, zhv, zhw, zhx, zhy, zhz, zia, zib, zic, bound, addL, addT, grow, room, List.length_cons, List.length_nil, List.length_map, frOf, byq, ti_bytes, ti_int, ti_uint, ti_u8, ti_bool, ti_string, ti_u64, ti_val, ti_a16, ti_bits, ti_op, ti_ops, ti_reader, ti_errno, ti_preader, Int.toNat_natCast, hx, e1, zjp, ofByte, e2, e3]
    refine ⟨by omega, by decide, k + 1, by omega, by omega, ?_⟩
    simp only [bnq, enter, subF, ltF, ne_eq, Nat.reduceEqDiff, reduceCtorEq, true_or, and_self]
  · have hk : k = xs.length := by simp at hc; omega
    subst hk
    simp only [↓bwp, bwq, List.tail_nil, List.tail_cons, List.headD_nil, List.headD_cons, ne_eq, reduceCtorEq, Nat.reduceEqDiff, Nat.reduceAdd, Nat.reduceMul, Nat.reduceSub, Nat.reduceLeDiff, Nat.reduceLT, Int.reduceMul, Int.reduceAdd, Int.reduceSub, List.map_cons, List.map_nil, Option.map_some, Option.map_none, Option.elim_some, if_true, if_false, List.append_nil, List.nil_append, bvq, rEq, List.cons_append, Int.reduceToNat, List.getElem?_cons_zero, List.getElem?_cons_succ, TD.agg, List.drop_succ_cons, List.drop_zero, List.take_succ_cons, List.take_zero, List.take_nil, List.drop_nil, List.getD_cons_zero, List.getD_cons_succ, splice, zhb, zhc, Option.isSome_some, Option.isSome_none, List.getElem?_nil, zhd, zhe, rLen, rBin, rInt, rStr, rUn, zhf, zhg, zhh, zhi, zhj, rBox, zhk, zhl, zhm, zhn, zho, zhp, zhq, zhr, zhs, zht, zhu, zhv, zhw, zhx, zhy, zhz, zia, zib, zic, bound, addL, addT, grow, room, List.length_cons, List.length_nil, List.length_map, frOf, byq, ti_bytes, ti_int, ti_uint, ti_u8, ti_bool, ti_string, ti_u64, ti_val, ti_a16, ti_bits, ti_op, ti_ops, ti_reader, ti_errno, ti_preader, List.take_length]
    simp (disch := first | assumption | omega | (simp; done) | (simp; omega) | (simp only [bt, and_true]; first | done | omega | (simp; done))) [↓zkt, beq, List.take_of_length_le, List.drop_append, List.take_append, endOk, wk, wk2, wk1, wkM, wkL, wkLL, List.drop_eq_nil_of_le, hcl]
end Go.AL
