/- Contracts and plain laws, a part of the proof; no condition of its own. -/
import Derived.Test.YtnikhifkngaleaaCI
import Derived.Test.YtnikhifkngaleaaLRd2
open Go Go.AL Go.Proofs
namespace Go.AL
set_option linter.all false
set_option maxRecDepth 10000

theorem eqg_val : Try.prog.eqGuardType Try.prog.depth 26 = false := by kernel_rfl
theorem teq_val {a b c d : Int} : teq Try.prog 9 26 (.agg [.int .u64 a, .int .u64 b]) (.agg [.int .u64 c, .int .u64 d]) = some ((a == c) && ((b == d) && true)) := by
  have g2 : Try.prog.stoodInHeld 26 = false := by kernel_rfl
  simp [ti_val, teq, teq.go, teq.part, ti_u64, ceq, g2, TD.agg]

def e_read : List AV → AHeap → (AEnd → AHeap → Prop) → Prop
  | [.ptr a 0, .ptr b 0, .agg [.int .i64 k, .int .i64 n, .int .i64 most, .int .u64 hi, .int .u64 lo, .slice _ 1 s]], H, K => a ≠ b ∧
      onR H a fun m1 l e => onR H b fun m2 l2 e2 => (l2 = l ∧ e2 = e) ∧ ∀ m1' m2', mkOk m1 m1' → mkOk m2 m2' →
        K (.ret (.bool true)) ((H.set a (.cells [.slice m1' 1 (bys (rdOp k n most l e).1), .int .i64 (rdOp k n most l e).2])).set b (.cells [.slice m2' 1 (bys (rdOp k n most l e).1), .int .i64 (rdOp k n most l e).2]))
  | _, _, _ => False

set_option maxHeartbeats 4000000 in
theorem ok_read : EntOk Try.prog 24 (Ent.effect e_read) := by
  refine EntOk.effect fun args H K h => ?_
  unfold e_read at h
  split at h
  rotate_left
  · exact h.elim
  rename_i a b k n most hi lo ms s
  obtain ⟨hab, h⟩ := h
  obtain ⟨m1, l, e, ha, hle, h⟩ := onR_out h
  obtain ⟨m2, l2, e2, hb, hle2, h⟩ := onR_out h
  obtain ⟨⟨rfl, rfl⟩, hK⟩ := h
  have la := AHeap.get_lt ha
  have lb := AHeap.get_lt hb
  have hna := far_of la
  have hnb := far_of lb
  have nab : (a = b) = False := eq_false hab
  have nba : (b = a) = False := eq_false fun e => hab e.symm
  have hca := cells_some ha
  have hcb := cells_some hb
  have hfin := fun m1' m2' h1 h2 => hK m1' m2' h1 h2
  have e1 : a < H.nx := la
  -- the walk of one way
  have hlt1 : ∀ {x : Prop}, x → x := fun h => h
  by_cases c0 : iand .i64 k 7 = 0
  case pos =>
    have d0 : (iand .i64 k 7 == 0) = true := by simpa using c0
    have hr : rdOp k n most l2 e2 = (uintR (.any, l2, e2) n).2.2 := by unfold rdOp; rw [if_pos c0]
    refine ⟨_, _, hK (uintR (m1, l2, e2) n).2.1 (uintR (m2, l2, e2) n).2.1 (uintR_m _ _ _ _) (uintR_m _ _ _ _), ?_⟩
    rw [hr]
    have t1 := uintR_v m1 l2 e2 n
    have t2 := uintR_v m2 l2 e2 n
    have s1 := uintR_s m1 l2 e2 n
    have s2 := uintR_s m2 l2 e2 n
    have k1 := uintR_m m1 l2 e2 n
    have k2 := uintR_m m2 l2 e2 n
    clear hK hfin
    generalize hq1 : uintR (m1, l2, e2) n = q1 at *
    generalize hq2 : uintR (m2, l2, e2) n = q2 at *
    rw [← s1]
    have s3 := s1.trans s2.symm
    have t3 := t1.trans t2.symm
    refine ACalls.of_aw (Ω := [(15, Ent.effect e_Uint), (26, Ent.effect e_xUint), (16, Ent.effect e_RBool), (27, Ent.effect e_xBool), (18, Ent.effect e_RBytes), (28, Ent.effect e_xBytes), (22, Ent.effect e_RText), (29, Ent.effect e_xText), (23, Ent.effect e_RCount), (48, Ent.effect e_xCount), (17, Ent.effect e_RValue), (30, Ent.effect e_xValue)]) mixed (TblOk.cons ok_Uint (TblOk.cons ok_xUint (TblOk.cons ok_RBool (TblOk.cons ok_xBool (TblOk.cons ok_RBytes (TblOk.cons ok_xBytes (TblOk.cons ok_RText (TblOk.cons ok_xText (TblOk.cons ok_RCount (TblOk.cons ok_xCount (TblOk.cons ok_RValue (TblOk.cons ok_xValue TblOk.nil)))))))))))) Try.func24 (by kernel_rfl) (by rfl) (rs := [.tmp 6]) (by rfl) (by kernel_rfl) (by simp only [Try.ntmps24, List.length_cons, List.length_nil]; decide) (by simp [zie]) fun hcl hlt => ?_
    change aw _ _ _ (KI Try.prog [(15, Ent.effect e_Uint), (26, Ent.effect e_xUint), (16, Ent.effect e_RBool), (27, Ent.effect e_xBool), (18, Ent.effect e_RBytes), (28, Ent.effect e_xBytes), (22, Ent.effect e_RText), (29, Ent.effect e_xText), (23, Ent.effect e_RCount), (48, Ent.effect e_xCount), (17, Ent.effect e_RValue), (30, Ent.effect e_xValue)] (aEnd Try.prog [.tmp 6] H.nx _ _) []) _ _
    clear hlt
    simp only [↓zaa, ↓zab, ↓zac, ↓zad, ↓zae, ↓zaf, ↓zag, ↓zah, ↓zai, ↓zaj, ↓zak, ↓zal, ↓zam, ↓zan, ↓KI_r, ↓KI_p, ↓zao, zap, zaq, zar, ↓zas, ↓zat, ↓zau, ↓zav, ↓zaw, ↓zax, ↓zay, ↓zaz, ↓zba, ↓zbb, ↓zbc, ↓zbd, ↓zbe, ↓zbf, ↓zbg, ↓zbh, ↓zbi, ↓zbj, ↓zbk, ↓zbl, zbm, zbn, zbo, zbp, ↓zbq, ↓zbr, ↓zbs, ↓zbt, ↓zbu, ↓zbv, ↓zbw, ↓zbx, ↓zby, ↓zbz, ↓zca, ↓zcb, ↓zcc, ↓zcd, ↓zce, ↓zcf, ↓zcg, ↓zch, ↓zci, ↓zcj, ↓zck, ↓zcl, ↓zcm, ↓zcn, ↓zco, ↓zcp, ↓zcq, ↓zcr, ↓zcs, ↓zct, ↓zcu, ↓zcv, ↓zcw, ↓zcx, ↓zcy, ↓zcz, ↓zda, ↓zdb, ↓zdc, ↓zdd, ↓zde, ↓zdf, ↓zdg, ↓zdh, ↓zdi, ↓zdj, ↓zdk, zdl, zdm, zdn, zdo, zdp, zdq, zdr, zds, zdt, zdu, zdv, ↓zdw, ↓zdx, zdy, zdz, zea, zeb, zec, zed, ↓zee, ↓zef, ↓zeg, zeh, zei, zej, zek, zel, zem, zen, zep, zeq, zer, zes, ↓zet, ↓zeu, ↓zev, ↓zew, ↓zex, ↓zey, ↓zez, ↓zfa, ↓zfb, ↓zfc, ↓zfd, ↓zfe, ne_eq, reduceCtorEq, not_false_eq_true, Nat.reduceEqDiff, Nat.reduceAdd, Nat.reduceMul, Nat.reduceSub, Nat.reduceLeDiff, Nat.reduceLT, Nat.mul_one, Nat.one_mul, Nat.zero_mul, Nat.zero_add, Nat.add_zero, zff, zfg, zfh, zfi, zfj, zfk, zfl, zfm, zfn, zfo, zfp, zfq, zfr, zfs, zft, zfu, Bool.and_true, Bool.and_self, Int.reduceMul, Int.reduceAdd, Int.reduceSub, Nat.left_eq_add, Nat.add_eq_left, Nat.add_right_cancel_iff, Nat.add_left_cancel_iff, Nat.succ_ne_self, Nat.one_ne_zero, List.map_cons, List.map_nil, Option.map_some, Option.map_none, Option.elim_some, if_true, if_false, true_and, and_true, true_or, or_true, false_or, or_false, Bool.false_eq_true, Bool.true_eq_false, Bool.not_true, Bool.not_false, List.append_nil, List.nil_append, rEq, List.cons_append, Int.reduceToNat, nn_2, nm_2, nn_3, nm_3, nn_4, nm_4, nn_5, nm_5, nn_6, nm_6, nn_7, nm_7, nn_8, nm_8, nn_9, nm_9, zfv, zfw, zfx, zfy, zfz, zga, List.getElem?_cons_zero, List.getElem?_cons_succ, TD.agg, List.drop_succ_cons, List.drop_zero, List.take_succ_cons, List.take_zero, List.take_nil, List.drop_nil, List.getD_cons_zero, List.getD_cons_succ, splice, zgb, zgc, zgd, Option.isSome_some, Option.isSome_none, List.getElem?_nil, Nat.zero_lt_succ, Nat.lt_add_one, zge, zgf, rLen, rBin, rInt, rStr, rUn, zgg, zgh, zgi, zgj, zgk, rBox, zgl, zgm, zgn, zgo, zgp, zgq, zgr, zgs, zgt, zgu, zgv, zgw, zgx, zgy, zgz, zha, zhb, zhc, zhd, bound, addL, addT, grow, room, List.length_cons, List.length_nil, zhe, zhf, zhg, zhh, zhi, zhj, zhk, zhl, zhm, zhn, zho, zhp, zhq, zhr, zgb, zhs, zht, zhu, zhv, zhw, zhx, zhy, zhz, zia, zib, zic, zid, zie, zif, zig, zih, zii, List.length_map, frOf, zij, zik, zil, zim, zin, zio, zip, ziq, zir, zis, zit, ziu, ziv, ziw, zix, ziy, ziz, zja, zjb, zjc, zjd, Int.toNat_natCast, ti_bytes, ti_int, ti_uint, ti_u8, ti_bool, ti_string, ti_u64, ti_val, ti_a16, ti_bits, ti_op, ti_ops, ti_reader, ti_errno, ti_preader, ti_rreader, ti_prreader, ↓zlc, ↓zld, ↓zle, ↓zlf, ↓zlg, ↓zlh, ↓zli, ↓zlj, zle, zlf, zlg, zlh, zli, zlj, hna, hnb, nab, nba, ha, hb, hca, hcb, heap_get_set, if_pos la, if_pos lb, onR, onRo_some, onRo_nil, e_Uint, e_xUint, d0, hq1, hq2, cellR, s3, t3]
    have hc := closedR2 hab ha hb hcl q1.2.1 q2.2.1 k1 k2 q2.2.2.1 q2.2.2.1 q2.2.2.2 q2.2.2.2
    simp (disch := first | assumption | omega | (simp; done) | (simp; omega)) [zje, ↓zjf, zjg, zjh, zji, zjj, zjk, zjl, List.take_of_length_le, List.drop_append, List.take_append, endOk, wk, wk2, wk1, wkM, wkL, wkLL, zif, zid, zie, zjm, zjn, zjo, zjp, zjq, zjr, zjs, zjt, zju, zjv, List.drop_eq_nil_of_le, zjw, zjx, zjy, zjz, zka, zkb, zkc, zkd, zke, zkf, zkg, zkh, zki, zkj, zkk, zkl, zkm, zjj, zkn, zko, zkp, cl_s, zkq, zkr, zks, zkt, zku, zkv, zkw, zkx, zky, zkz, zla, hc, hle, zja, zij]
  have d0 : (iand .i64 k 7 == 0) = false := by simpa using c0
  by_cases c1 : iand .i64 k 7 = 1
  case pos =>
    have d1 : (iand .i64 k 7 == 1) = true := by simpa using c1
    have hr : rdOp k n most l2 e2 = (uintR (.any, l2, e2) (IntKind.i64.wrap (1 + iand .i64 n 3))).2.2 := by unfold rdOp; rw [if_neg c0, if_pos c1]
    refine ⟨_, _, hK (uintR (m1, l2, e2) (IntKind.i64.wrap (1 + iand .i64 n 3))).2.1 (uintR (m2, l2, e2) (IntKind.i64.wrap (1 + iand .i64 n 3))).2.1 (uintR_m _ _ _ _) (uintR_m _ _ _ _), ?_⟩
    rw [hr]
    have t1 := uintR_v m1 l2 e2 (IntKind.i64.wrap (1 + iand .i64 n 3))
    have t2 := uintR_v m2 l2 e2 (IntKind.i64.wrap (1 + iand .i64 n 3))
    have s1 := uintR_s m1 l2 e2 (IntKind.i64.wrap (1 + iand .i64 n 3))
    have s2 := uintR_s m2 l2 e2 (IntKind.i64.wrap (1 + iand .i64 n 3))
    have k1 := uintR_m m1 l2 e2 (IntKind.i64.wrap (1 + iand .i64 n 3))
    have k2 := uintR_m m2 l2 e2 (IntKind.i64.wrap (1 + iand .i64 n 3))
    clear hK hfin
    generalize hq1 : uintR (m1, l2, e2) (IntKind.i64.wrap (1 + iand .i64 n 3)) = q1 at *
    generalize hq2 : uintR (m2, l2, e2) (IntKind.i64.wrap (1 + iand .i64 n 3)) = q2 at *
    rw [← s1]
    have s3 := s1.trans s2.symm
    have t3 := t1.trans t2.symm
    refine ACalls.of_aw (Ω := [(15, Ent.effect e_Uint), (26, Ent.effect e_xUint), (16, Ent.effect e_RBool), (27, Ent.effect e_xBool), (18, Ent.effect e_RBytes), (28, Ent.effect e_xBytes), (22, Ent.effect e_RText), (29, Ent.effect e_xText), (23, Ent.effect e_RCount), (48, Ent.effect e_xCount), (17, Ent.effect e_RValue), (30, Ent.effect e_xValue)]) mixed (TblOk.cons ok_Uint (TblOk.cons ok_xUint (TblOk.cons ok_RBool (TblOk.cons ok_xBool (TblOk.cons ok_RBytes (TblOk.cons ok_xBytes (TblOk.cons ok_RText (TblOk.cons ok_xText (TblOk.cons ok_RCount (TblOk.cons ok_xCount (TblOk.cons ok_RValue (TblOk.cons ok_xValue TblOk.nil)))))))))))) Try.func24 (by kernel_rfl) (by rfl) (rs := [.tmp 6]) (by rfl) (by kernel_rfl) (by simp only [Try.ntmps24, List.length_cons, List.length_nil]; decide) (by simp [zie]) fun hcl hlt => ?_
    change aw _ _ _ (KI Try.prog [(15, Ent.effect e_Uint), (26, Ent.effect e_xUint), (16, Ent.effect e_RBool), (27, Ent.effect e_xBool), (18, Ent.effect e_RBytes), (28, Ent.effect e_xBytes), (22, Ent.effect e_RText), (29, Ent.effect e_xText), (23, Ent.effect e_RCount), (48, Ent.effect e_xCount), (17, Ent.effect e_RValue), (30, Ent.effect e_xValue)] (aEnd Try.prog [.tmp 6] H.nx _ _) []) _ _
    clear hlt
    simp only [↓zaa, ↓zab, ↓zac, ↓zad, ↓zae, ↓zaf, ↓zag, ↓zah, ↓zai, ↓zaj, ↓zak, ↓zal, ↓zam, ↓zan, ↓KI_r, ↓KI_p, ↓zao, zap, zaq, zar, ↓zas, ↓zat, ↓zau, ↓zav, ↓zaw, ↓zax, ↓zay, ↓zaz, ↓zba, ↓zbb, ↓zbc, ↓zbd, ↓zbe, ↓zbf, ↓zbg, ↓zbh, ↓zbi, ↓zbj, ↓zbk, ↓zbl, zbm, zbn, zbo, zbp, ↓zbq, ↓zbr, ↓zbs, ↓zbt, ↓zbu, ↓zbv, ↓zbw, ↓zbx, ↓zby, ↓zbz, ↓zca, ↓zcb, ↓zcc, ↓zcd, ↓zce, ↓zcf, ↓zcg, ↓zch, ↓zci, ↓zcj, ↓zck, ↓zcl, ↓zcm, ↓zcn, ↓zco, ↓zcp, ↓zcq, ↓zcr, ↓zcs, ↓zct, ↓zcu, ↓zcv, ↓zcw, ↓zcx, ↓zcy, ↓zcz, ↓zda, ↓zdb, ↓zdc, ↓zdd, ↓zde, ↓zdf, ↓zdg, ↓zdh, ↓zdi, ↓zdj, ↓zdk, zdl, zdm, zdn, zdo, zdp, zdq, zdr, zds, zdt, zdu, zdv, ↓zdw, ↓zdx, zdy, zdz, zea, zeb, zec, zed, ↓zee, ↓zef, ↓zeg, zeh, zei, zej, zek, zel, zem, zen, zep, zeq, zer, zes, ↓zet, ↓zeu, ↓zev, ↓zew, ↓zex, ↓zey, ↓zez, ↓zfa, ↓zfb, ↓zfc, ↓zfd, ↓zfe, ne_eq, reduceCtorEq, not_false_eq_true, Nat.reduceEqDiff, Nat.reduceAdd, Nat.reduceMul, Nat.reduceSub, Nat.reduceLeDiff, Nat.reduceLT, Nat.mul_one, Nat.one_mul, Nat.zero_mul, Nat.zero_add, Nat.add_zero, zff, zfg, zfh, zfi, zfj, zfk, zfl, zfm, zfn, zfo, zfp, zfq, zfr, zfs, zft, zfu, Bool.and_true, Bool.and_self, Int.reduceMul, Int.reduceAdd, Int.reduceSub, Nat.left_eq_add, Nat.add_eq_left, Nat.add_right_cancel_iff, Nat.add_left_cancel_iff, Nat.succ_ne_self, Nat.one_ne_zero, List.map_cons, List.map_nil, Option.map_some, Option.map_none, Option.elim_some, if_true, if_false, true_and, and_true, true_or, or_true, false_or, or_false, Bool.false_eq_true, Bool.true_eq_false, Bool.not_true, Bool.not_false, List.append_nil, List.nil_append, rEq, List.cons_append, Int.reduceToNat, nn_2, nm_2, nn_3, nm_3, nn_4, nm_4, nn_5, nm_5, nn_6, nm_6, nn_7, nm_7, nn_8, nm_8, nn_9, nm_9, zfv, zfw, zfx, zfy, zfz, zga, List.getElem?_cons_zero, List.getElem?_cons_succ, TD.agg, List.drop_succ_cons, List.drop_zero, List.take_succ_cons, List.take_zero, List.take_nil, List.drop_nil, List.getD_cons_zero, List.getD_cons_succ, splice, zgb, zgc, zgd, Option.isSome_some, Option.isSome_none, List.getElem?_nil, Nat.zero_lt_succ, Nat.lt_add_one, zge, zgf, rLen, rBin, rInt, rStr, rUn, zgg, zgh, zgi, zgj, zgk, rBox, zgl, zgm, zgn, zgo, zgp, zgq, zgr, zgs, zgt, zgu, zgv, zgw, zgx, zgy, zgz, zha, zhb, zhc, zhd, bound, addL, addT, grow, room, List.length_cons, List.length_nil, zhe, zhf, zhg, zhh, zhi, zhj, zhk, zhl, zhm, zhn, zho, zhp, zhq, zhr, zgb, zhs, zht, zhu, zhv, zhw, zhx, zhy, zhz, zia, zib, zic, zid, zie, zif, zig, zih, zii, List.length_map, frOf, zij, zik, zil, zim, zin, zio, zip, ziq, zir, zis, zit, ziu, ziv, ziw, zix, ziy, ziz, zja, zjb, zjc, zjd, Int.toNat_natCast, ti_bytes, ti_int, ti_uint, ti_u8, ti_bool, ti_string, ti_u64, ti_val, ti_a16, ti_bits, ti_op, ti_ops, ti_reader, ti_errno, ti_preader, ti_rreader, ti_prreader, ↓zlc, ↓zld, ↓zle, ↓zlf, ↓zlg, ↓zlh, ↓zli, ↓zlj, zle, zlf, zlg, zlh, zli, zlj, hna, hnb, nab, nba, ha, hb, hca, hcb, heap_get_set, if_pos la, if_pos lb, onR, onRo_some, onRo_nil, e_Uint, e_xUint, d0, d1, hq1, hq2, cellR, s3, t3]
    have hc := closedR2 hab ha hb hcl q1.2.1 q2.2.1 k1 k2 q2.2.2.1 q2.2.2.1 q2.2.2.2 q2.2.2.2
    simp (disch := first | assumption | omega | (simp; done) | (simp; omega)) [zje, ↓zjf, zjg, zjh, zji, zjj, zjk, zjl, List.take_of_length_le, List.drop_append, List.take_append, endOk, wk, wk2, wk1, wkM, wkL, wkLL, zif, zid, zie, zjm, zjn, zjo, zjp, zjq, zjr, zjs, zjt, zju, zjv, List.drop_eq_nil_of_le, zjw, zjx, zjy, zjz, zka, zkb, zkc, zkd, zke, zkf, zkg, zkh, zki, zkj, zkk, zkl, zkm, zjj, zkn, zko, zkp, cl_s, zkq, zkr, zks, zkt, zku, zkv, zkw, zkx, zky, zkz, zla, hc, hle, zja, zij]
  have d1 : (iand .i64 k 7 == 1) = false := by simpa using c1
  by_cases c2 : iand .i64 k 7 = 2
  case pos =>
    have d2 : (iand .i64 k 7 == 2) = true := by simpa using c2
    have hr : rdOp k n most l2 e2 = (boolR (.any, l2, e2)).2.2 := by unfold rdOp; rw [if_neg c0, if_neg c1, if_pos c2]
    refine ⟨_, _, hK (boolR (m1, l2, e2)).2.1 (boolR (m2, l2, e2)).2.1 (boolR_m _ _ _) (boolR_m _ _ _), ?_⟩
    rw [hr]
    have t1 := boolR_v m1 l2 e2
    have t2 := boolR_v m2 l2 e2
    have s1 := boolR_s m1 l2 e2
    have s2 := boolR_s m2 l2 e2
    have k1 := boolR_m m1 l2 e2
    have k2 := boolR_m m2 l2 e2
    clear hK hfin
    generalize hq1 : boolR (m1, l2, e2) = q1 at *
    generalize hq2 : boolR (m2, l2, e2) = q2 at *
    rw [← s1]
    have s3 := s1.trans s2.symm
    have t3 := t1.trans t2.symm
    refine ACalls.of_aw (Ω := [(15, Ent.effect e_Uint), (26, Ent.effect e_xUint), (16, Ent.effect e_RBool), (27, Ent.effect e_xBool), (18, Ent.effect e_RBytes), (28, Ent.effect e_xBytes), (22, Ent.effect e_RText), (29, Ent.effect e_xText), (23, Ent.effect e_RCount), (48, Ent.effect e_xCount), (17, Ent.effect e_RValue), (30, Ent.effect e_xValue)]) mixed (TblOk.cons ok_Uint (TblOk.cons ok_xUint (TblOk.cons ok_RBool (TblOk.cons ok_xBool (TblOk.cons ok_RBytes (TblOk.cons ok_xBytes (TblOk.cons ok_RText (TblOk.cons ok_xText (TblOk.cons ok_RCount (TblOk.cons ok_xCount (TblOk.cons ok_RValue (TblOk.cons ok_xValue TblOk.nil)))))))))))) Try.func24 (by kernel_rfl) (by rfl) (rs := [.tmp 6]) (by rfl) (by kernel_rfl) (by simp only [Try.ntmps24, List.length_cons, List.length_nil]; decide) (by simp [zie]) fun hcl hlt => ?_
    change aw _ _ _ (KI Try.prog [(15, Ent.effect e_Uint), (26, Ent.effect e_xUint), (16, Ent.effect e_RBool), (27, Ent.effect e_xBool), (18, Ent.effect e_RBytes), (28, Ent.effect e_xBytes), (22, Ent.effect e_RText), (29, Ent.effect e_xText), (23, Ent.effect e_RCount), (48, Ent.effect e_xCount), (17, Ent.effect e_RValue), (30, Ent.effect e_xValue)] (aEnd Try.prog [.tmp 6] H.nx _ _) []) _ _
    clear hlt
    simp only [↓zaa, ↓zab, ↓zac, ↓zad, ↓zae, ↓zaf, ↓zag, ↓zah, ↓zai, ↓zaj, ↓zak, ↓zal, ↓zam, ↓zan, ↓KI_r, ↓KI_p, ↓zao, zap, zaq, zar, ↓zas, ↓zat, ↓zau, ↓zav, ↓zaw, ↓zax, ↓zay, ↓zaz, ↓zba, ↓zbb, ↓zbc, ↓zbd, ↓zbe, ↓zbf, ↓zbg, ↓zbh, ↓zbi, ↓zbj, ↓zbk, ↓zbl, zbm, zbn, zbo, zbp, ↓zbq, ↓zbr, ↓zbs, ↓zbt, ↓zbu, ↓zbv, ↓zbw, ↓zbx, ↓zby, ↓zbz, ↓zca, ↓zcb, ↓zcc, ↓zcd, ↓zce, ↓zcf, ↓zcg, ↓zch, ↓zci, ↓zcj, ↓zck, ↓zcl, ↓zcm, ↓zcn, ↓zco, ↓zcp, ↓zcq, ↓zcr, ↓zcs, ↓zct, ↓zcu, ↓zcv, ↓zcw, ↓zcx, ↓zcy, ↓zcz, ↓zda, ↓zdb, ↓zdc, ↓zdd, ↓zde, ↓zdf, ↓zdg, ↓zdh, ↓zdi, ↓zdj, ↓zdk, zdl, zdm, zdn, zdo, zdp, zdq, zdr, zds, zdt, zdu, zdv, ↓zdw, ↓zdx, zdy, zdz, zea, zeb, zec, zed, ↓zee, ↓zef, ↓zeg, zeh, zei, zej, zek, zel, zem, zen, zep, zeq, zer, zes, ↓zet, ↓zeu, ↓zev, ↓zew, ↓zex, ↓zey, ↓zez, ↓zfa, ↓zfb, ↓zfc, ↓zfd, ↓zfe, ne_eq, reduceCtorEq, not_false_eq_true, Nat.reduceEqDiff, Nat.reduceAdd, Nat.reduceMul, Nat.reduceSub, Nat.reduceLeDiff, Nat.reduceLT, Nat.mul_one, Nat.one_mul, Nat.zero_mul, Nat.zero_add, Nat.add_zero, zff, zfg, zfh, zfi, zfj, zfk, zfl, zfm, zfn, zfo, zfp, zfq, zfr, zfs, zft, zfu, Bool.and_true, Bool.and_self, Int.reduceMul, Int.reduceAdd, Int.reduceSub, Nat.left_eq_add, Nat.add_eq_left, Nat.add_right_cancel_iff, Nat.add_left_cancel_iff, Nat.succ_ne_self, Nat.one_ne_zero, List.map_cons, List.map_nil, Option.map_some, Option.map_none, Option.elim_some, if_true, if_false, true_and, and_true, true_or, or_true, false_or, or_false, Bool.false_eq_true, Bool.true_eq_false, Bool.not_true, Bool.not_false, List.append_nil, List.nil_append, rEq, List.cons_append, Int.reduceToNat, nn_2, nm_2, nn_3, nm_3, nn_4, nm_4, nn_5, nm_5, nn_6, nm_6, nn_7, nm_7, nn_8, nm_8, nn_9, nm_9, zfv, zfw, zfx, zfy, zfz, zga, List.getElem?_cons_zero, List.getElem?_cons_succ, TD.agg, List.drop_succ_cons, List.drop_zero, List.take_succ_cons, List.take_zero, List.take_nil, List.drop_nil, List.getD_cons_zero, List.getD_cons_succ, splice, zgb, zgc, zgd, Option.isSome_some, Option.isSome_none, List.getElem?_nil, Nat.zero_lt_succ, Nat.lt_add_one, zge, zgf, rLen, rBin, rInt, rStr, rUn, zgg, zgh, zgi, zgj, zgk, rBox, zgl, zgm, zgn, zgo, zgp, zgq, zgr, zgs, zgt, zgu, zgv, zgw, zgx, zgy, zgz, zha, zhb, zhc, zhd, bound, addL, addT, grow, room, List.length_cons, List.length_nil, zhe, zhf, zhg, zhh, zhi, zhj, zhk, zhl, zhm, zhn, zho, zhp, zhq, zhr, zgb, zhs, zht, zhu, zhv, zhw, zhx, zhy, zhz, zia, zib, zic, zid, zie, zif, zig, zih, zii, List.length_map, frOf, zij, zik, zil, zim, zin, zio, zip, ziq, zir, zis, zit, ziu, ziv, ziw, zix, ziy, ziz, zja, zjb, zjc, zjd, Int.toNat_natCast, ti_bytes, ti_int, ti_uint, ti_u8, ti_bool, ti_string, ti_u64, ti_val, ti_a16, ti_bits, ti_op, ti_ops, ti_reader, ti_errno, ti_preader, ti_rreader, ti_prreader, ↓zlc, ↓zld, ↓zle, ↓zlf, ↓zlg, ↓zlh, ↓zli, ↓zlj, zle, zlf, zlg, zlh, zli, zlj, hna, hnb, nab, nba, ha, hb, hca, hcb, heap_get_set, if_pos la, if_pos lb, onR, onRo_some, onRo_nil, e_RBool, e_xBool, d0, d1, d2, hq1, hq2, cellR, s3, t3]
    have hc := closedR2 hab ha hb hcl q1.2.1 q2.2.1 k1 k2 q2.2.2.1 q2.2.2.1 q2.2.2.2 q2.2.2.2
    simp (disch := first | assumption | omega | (simp; done) | (simp; omega)) [zje, ↓zjf, zjg, zjh, zji, zjj, zjk, zjl, List.take_of_length_le, List.drop_append, List.take_append, endOk, wk, wk2, wk1, wkM, wkL, wkLL, zif, zid, zie, zjm, zjn, zjo, zjp, zjq, zjr, zjs, zjt, zju, zjv, List.drop_eq_nil_of_le, zjw, zjx, zjy, zjz, zka, zkb, zkc, zkd, zke, zkf, zkg, zkh, zki, zkj, zkk, zkl, zkm, zjj, zkn, zko, zkp, cl_s, zkq, zkr, zks, zkt, zku, zkv, zkw, zkx, zky, zkz, zla, hc, hle, zja, zij]
  have d2 : (iand .i64 k 7 == 2) = false := by simpa using c2
  by_cases c3 : iand .i64 k 7 = 3
  case pos =>
    have d3 : (iand .i64 k 7 == 3) = true := by simpa using c3
    have hr : rdOp k n most l2 e2 = (bytesR (.any, l2, e2) most).2.2 := by unfold rdOp; rw [if_neg c0, if_neg c1, if_neg c2, if_pos c3]
    refine ⟨_, _, hK (bytesR (m1, l2, e2) most).2.1 (bytesR (m2, l2, e2) most).2.1 (bytesR_m _ _ _ _) (bytesR_m _ _ _ _), ?_⟩
    rw [hr]
    have t1 := bytesR_v m1 l2 e2 most
    have t2 := bytesR_v m2 l2 e2 most
    have s1 := bytesR_s m1 l2 e2 most
    have s2 := bytesR_s m2 l2 e2 most
    have k1 := bytesR_m m1 l2 e2 most
    have k2 := bytesR_m m2 l2 e2 most
    clear hK hfin
    generalize hq1 : bytesR (m1, l2, e2) most = q1 at *
    generalize hq2 : bytesR (m2, l2, e2) most = q2 at *
    rw [← s1]
    have s3 := s1.trans s2.symm
    have t3 := t1.trans t2.symm
    refine ACalls.of_aw (Ω := [(15, Ent.effect e_Uint), (26, Ent.effect e_xUint), (16, Ent.effect e_RBool), (27, Ent.effect e_xBool), (18, Ent.effect e_RBytes), (28, Ent.effect e_xBytes), (22, Ent.effect e_RText), (29, Ent.effect e_xText), (23, Ent.effect e_RCount), (48, Ent.effect e_xCount), (17, Ent.effect e_RValue), (30, Ent.effect e_xValue)]) mixed (TblOk.cons ok_Uint (TblOk.cons ok_xUint (TblOk.cons ok_RBool (TblOk.cons ok_xBool (TblOk.cons ok_RBytes (TblOk.cons ok_xBytes (TblOk.cons ok_RText (TblOk.cons ok_xText (TblOk.cons ok_RCount (TblOk.cons ok_xCount (TblOk.cons ok_RValue (TblOk.cons ok_xValue TblOk.nil)))))))))))) Try.func24 (by kernel_rfl) (by rfl) (rs := [.tmp 6]) (by rfl) (by kernel_rfl) (by simp only [Try.ntmps24, List.length_cons, List.length_nil]; decide) (by simp [zie]) fun hcl hlt => ?_
    change aw _ _ _ (KI Try.prog [(15, Ent.effect e_Uint), (26, Ent.effect e_xUint), (16, Ent.effect e_RBool), (27, Ent.effect e_xBool), (18, Ent.effect e_RBytes), (28, Ent.effect e_xBytes), (22, Ent.effect e_RText), (29, Ent.effect e_xText), (23, Ent.effect e_RCount), (48, Ent.effect e_xCount), (17, Ent.effect e_RValue), (30, Ent.effect e_xValue)] (aEnd Try.prog [.tmp 6] H.nx _ _) []) _ _
    clear hlt
    simp only [↓zaa, ↓zab, ↓zac, ↓zad, ↓zae, ↓zaf, ↓zag, ↓zah, ↓zai, ↓zaj, ↓zak, ↓zal, ↓zam, ↓zan, ↓KI_r, ↓KI_p, ↓zao, zap, zaq, zar, ↓zas, ↓zat, ↓zau, ↓zav, ↓zaw, ↓zax, ↓zay, ↓zaz, ↓zba, ↓zbb, ↓zbc, ↓zbd, ↓zbe, ↓zbf, ↓zbg, ↓zbh, ↓zbi, ↓zbj, ↓zbk, ↓zbl, zbm, zbn, zbo, zbp, ↓zbq, ↓zbr, ↓zbs, ↓zbt, ↓zbu, ↓zbv, ↓zbw, ↓zbx, ↓zby, ↓zbz, ↓zca, ↓zcb, ↓zcc, ↓zcd, ↓zce, ↓zcf, ↓zcg, ↓zch, ↓zci, ↓zcj, ↓zck, ↓zcl, ↓zcm, ↓zcn, ↓zco, ↓zcp, ↓zcq, ↓zcr, ↓zcs, ↓zct, ↓zcu, ↓zcv, ↓zcw, ↓zcx, ↓zcy, ↓zcz, ↓zda, ↓zdb, ↓zdc, ↓zdd, ↓zde, ↓zdf, ↓zdg, ↓zdh, ↓zdi, ↓zdj, ↓zdk, zdl, zdm, zdn, zdo, zdp, zdq, zdr, zds, zdt, zdu, zdv, ↓zdw, ↓zdx, zdy, zdz, zea, zeb, zec, zed, ↓zee, ↓zef, ↓zeg, zeh, zei, zej, zek, zel, zem, zen, zep, zeq, zer, zes, ↓zet, ↓zeu, ↓zev, ↓zew, ↓zex, ↓zey, ↓zez, ↓zfa, ↓zfb, ↓zfc, ↓zfd, ↓zfe, ne_eq, reduceCtorEq, not_false_eq_true, Nat.reduceEqDiff, Nat.reduceAdd, Nat.reduceMul, Nat.reduceSub, Nat.reduceLeDiff, Nat.reduceLT, Nat.mul_one, Nat.one_mul, Nat.zero_mul, Nat.zero_add, Nat.add_zero, zff, zfg, zfh, zfi, zfj, zfk, zfl, zfm, zfn, zfo, zfp, zfq, zfr, zfs, zft, zfu, Bool.and_true, Bool.and_self, Int.reduceMul, Int.reduceAdd, Int.reduceSub, Nat.left_eq_add, Nat.add_eq_left, Nat.add_right_cancel_iff, Nat.add_left_cancel_iff, Nat.succ_ne_self, Nat.one_ne_zero, List.map_cons, List.map_nil, Option.map_some, Option.map_none, Option.elim_some, if_true, if_false, true_and, and_true, true_or, or_true, false_or, or_false, Bool.false_eq_true, Bool.true_eq_false, Bool.not_true, Bool.not_false, List.append_nil, List.nil_append, rEq, List.cons_append, Int.reduceToNat, nn_2, nm_2, nn_3, nm_3, nn_4, nm_4, nn_5, nm_5, nn_6, nm_6, nn_7, nm_7, nn_8, nm_8, nn_9, nm_9, zfv, zfw, zfx, zfy, zfz, zga, List.getElem?_cons_zero, List.getElem?_cons_succ, TD.agg, List.drop_succ_cons, List.drop_zero, List.take_succ_cons, List.take_zero, List.take_nil, List.drop_nil, List.getD_cons_zero, List.getD_cons_succ, splice, zgb, zgc, zgd, Option.isSome_some, Option.isSome_none, List.getElem?_nil, Nat.zero_lt_succ, Nat.lt_add_one, zge, zgf, rLen, rBin, rInt, rStr, rUn, zgg, zgh, zgi, zgj, zgk, rBox, zgl, zgm, zgn, zgo, zgp, zgq, zgr, zgs, zgt, zgu, zgv, zgw, zgx, zgy, zgz, zha, zhb, zhc, zhd, bound, addL, addT, grow, room, List.length_cons, List.length_nil, zhe, zhf, zhg, zhh, zhi, zhj, zhk, zhl, zhm, zhn, zho, zhp, zhq, zhr, zgb, zhs, zht, zhu, zhv, zhw, zhx, zhy, zhz, zia, zib, zic, zid, zie, zif, zig, zih, zii, List.length_map, frOf, zij, zik, zil, zim, zin, zio, zip, ziq, zir, zis, zit, ziu, ziv, ziw, zix, ziy, ziz, zja, zjb, zjc, zjd, Int.toNat_natCast, ti_bytes, ti_int, ti_uint, ti_u8, ti_bool, ti_string, ti_u64, ti_val, ti_a16, ti_bits, ti_op, ti_ops, ti_reader, ti_errno, ti_preader, ti_rreader, ti_prreader, ↓zlc, ↓zld, ↓zle, ↓zlf, ↓zlg, ↓zlh, ↓zli, ↓zlj, zle, zlf, zlg, zlh, zli, zlj, hna, hnb, nab, nba, ha, hb, hca, hcb, heap_get_set, if_pos la, if_pos lb, onR, onRo_some, onRo_nil, e_RBytes, e_xBytes, d0, d1, d2, d3, hq1, hq2, cellR, s3, t3]
    have hc := closedR2 hab ha hb hcl q1.2.1 q2.2.1 k1 k2 q2.2.2.1 q2.2.2.1 q2.2.2.2 q2.2.2.2
    simp (disch := first | assumption | omega | (simp; done) | (simp; omega)) [zje, ↓zjf, zjg, zjh, zji, zjj, zjk, zjl, List.take_of_length_le, List.drop_append, List.take_append, endOk, wk, wk2, wk1, wkM, wkL, wkLL, zif, zid, zie, zjm, zjn, zjo, zjp, zjq, zjr, zjs, zjt, zju, zjv, List.drop_eq_nil_of_le, zjw, zjx, zjy, zjz, zka, zkb, zkc, zkd, zke, zkf, zkg, zkh, zki, zkj, zkk, zkl, zkm, zjj, zkn, zko, zkp, cl_s, zkq, zkr, zks, zkt, zku, zkv, zkw, zkx, zky, zkz, zla, hc, hle, zja, zij]
  have d3 : (iand .i64 k 7 == 3) = false := by simpa using c3
  by_cases c4 : iand .i64 k 7 = 4
  case pos =>
    have d4 : (iand .i64 k 7 == 4) = true := by simpa using c4
    have hr : rdOp k n most l2 e2 = (textR (.any, l2, e2) (iand .i64 most 63)).2.2 := by unfold rdOp; rw [if_neg c0, if_neg c1, if_neg c2, if_neg c3, if_pos c4]
    refine ⟨_, _, hK (textR (m1, l2, e2) (iand .i64 most 63)).2.1 (textR (m2, l2, e2) (iand .i64 most 63)).2.1 (textR_m _ _ _ _) (textR_m _ _ _ _), ?_⟩
    rw [hr]
    have t1 := textR_v m1 l2 e2 (iand .i64 most 63)
    have t2 := textR_v m2 l2 e2 (iand .i64 most 63)
    have s1 := textR_s m1 l2 e2 (iand .i64 most 63)
    have s2 := textR_s m2 l2 e2 (iand .i64 most 63)
    have k1 := textR_m m1 l2 e2 (iand .i64 most 63)
    have k2 := textR_m m2 l2 e2 (iand .i64 most 63)
    clear hK hfin
    generalize hq1 : textR (m1, l2, e2) (iand .i64 most 63) = q1 at *
    generalize hq2 : textR (m2, l2, e2) (iand .i64 most 63) = q2 at *
    rw [← s1]
    have s3 := s1.trans s2.symm
    have t3 := t1.trans t2.symm
    refine ACalls.of_aw (Ω := [(15, Ent.effect e_Uint), (26, Ent.effect e_xUint), (16, Ent.effect e_RBool), (27, Ent.effect e_xBool), (18, Ent.effect e_RBytes), (28, Ent.effect e_xBytes), (22, Ent.effect e_RText), (29, Ent.effect e_xText), (23, Ent.effect e_RCount), (48, Ent.effect e_xCount), (17, Ent.effect e_RValue), (30, Ent.effect e_xValue)]) mixed (TblOk.cons ok_Uint (TblOk.cons ok_xUint (TblOk.cons ok_RBool (TblOk.cons ok_xBool (TblOk.cons ok_RBytes (TblOk.cons ok_xBytes (TblOk.cons ok_RText (TblOk.cons ok_xText (TblOk.cons ok_RCount (TblOk.cons ok_xCount (TblOk.cons ok_RValue (TblOk.cons ok_xValue TblOk.nil)))))))))))) Try.func24 (by kernel_rfl) (by rfl) (rs := [.tmp 6]) (by rfl) (by kernel_rfl) (by simp only [Try.ntmps24, List.length_cons, List.length_nil]; decide) (by simp [zie]) fun hcl hlt => ?_
    change aw _ _ _ (KI Try.prog [(15, Ent.effect e_Uint), (26, Ent.effect e_xUint), (16, Ent.effect e_RBool), (27, Ent.effect e_xBool), (18, Ent.effect e_RBytes), (28, Ent.effect e_xBytes), (22, Ent.effect e_RText), (29, Ent.effect e_xText), (23, Ent.effect e_RCount), (48, Ent.effect e_xCount), (17, Ent.effect e_RValue), (30, Ent.effect e_xValue)] (aEnd Try.prog [.tmp 6] H.nx _ _) []) _ _
    clear hlt
    simp only [↓zaa, ↓zab, ↓zac, ↓zad, ↓zae, ↓zaf, ↓zag, ↓zah, ↓zai, ↓zaj, ↓zak, ↓zal, ↓zam, ↓zan, ↓KI_r, ↓KI_p, ↓zao, zap, zaq, zar, ↓zas, ↓zat, ↓zau, ↓zav, ↓zaw, ↓zax, ↓zay, ↓zaz, ↓zba, ↓zbb, ↓zbc, ↓zbd, ↓zbe, ↓zbf, ↓zbg, ↓zbh, ↓zbi, ↓zbj, ↓zbk, ↓zbl, zbm, zbn, zbo, zbp, ↓zbq, ↓zbr, ↓zbs, ↓zbt, ↓zbu, ↓zbv, ↓zbw, ↓zbx, ↓zby, ↓zbz, ↓zca, ↓zcb, ↓zcc, ↓zcd, ↓zce, ↓zcf, ↓zcg, ↓zch, ↓zci, ↓zcj, ↓zck, ↓zcl, ↓zcm, ↓zcn, ↓zco, ↓zcp, ↓zcq, ↓zcr, ↓zcs, ↓zct, ↓zcu, ↓zcv, ↓zcw, ↓zcx, ↓zcy, ↓zcz, ↓zda, ↓zdb, ↓zdc, ↓zdd, ↓zde, ↓zdf, ↓zdg, ↓zdh, ↓zdi, ↓zdj, ↓zdk, zdl, zdm, zdn, zdo, zdp, zdq, zdr, zds, zdt, zdu, zdv, ↓zdw, ↓zdx, zdy, zdz, zea, zeb, zec, zed, ↓zee, ↓zef, ↓zeg, zeh, zei, zej, zek, zel, zem, zen, zep, zeq, zer, zes, ↓zet, ↓zeu, ↓zev, ↓zew, ↓zex, ↓zey, ↓zez, ↓zfa, ↓zfb, ↓zfc, ↓zfd, ↓zfe, ne_eq, reduceCtorEq, not_false_eq_true, Nat.reduceEqDiff, Nat.reduceAdd, Nat.reduceMul, Nat.reduceSub, Nat.reduceLeDiff, Nat.reduceLT, Nat.mul_one, Nat.one_mul, Nat.zero_mul, Nat.zero_add, Nat.add_zero, zff, zfg, zfh, zfi, zfj, zfk, zfl, zfm, zfn, zfo, zfp, zfq, zfr, zfs, zft, zfu, Bool.and_true, Bool.and_self, Int.reduceMul, Int.reduceAdd, Int.reduceSub, Nat.left_eq_add, Nat.add_eq_left, Nat.add_right_cancel_iff, Nat.add_left_cancel_iff, Nat.succ_ne_self, Nat.one_ne_zero, List.map_cons, List.map_nil, Option.map_some, Option.map_none, Option.elim_some, if_true, if_false, true_and, and_true, true_or, or_true, false_or, or_false, Bool.false_eq_true, Bool.true_eq_false, Bool.not_true, Bool.not_false, List.append_nil, List.nil_append, rEq, List.cons_append, Int.reduceToNat, nn_2, nm_2, nn_3, nm_3, nn_4, nm_4, nn_5, nm_5, nn_6, nm_6, nn_7, nm_7, nn_8, nm_8, nn_9, nm_9, zfv, zfw, zfx, zfy, zfz, zga, List.getElem?_cons_zero, List.getElem?_cons_succ, TD.agg, List.drop_succ_cons, List.drop_zero, List.take_succ_cons, List.take_zero, List.take_nil, List.drop_nil, List.getD_cons_zero, List.getD_cons_succ, splice, zgb, zgc, zgd, Option.isSome_some, Option.isSome_none, List.getElem?_nil, Nat.zero_lt_succ, Nat.lt_add_one, zge, zgf, rLen, rBin, rInt, rStr, rUn, zgg, zgh, zgi, zgj, zgk, rBox, zgl, zgm, zgn, zgo, zgp, zgq, zgr, zgs, zgt, zgu, zgv, zgw, zgx, zgy, zgz, zha, zhb, zhc, zhd, bound, addL, addT, grow, room, List.length_cons, List.length_nil, zhe, zhf, zhg, zhh, zhi, zhj, zhk, zhl, zhm, zhn, zho, zhp, zhq, zhr, zgb, zhs, zht, zhu, zhv, zhw, zhx, zhy, zhz, zia, zib, zic, zid, zie, zif, zig, zih, zii, List.length_map, frOf, zij, zik, zil, zim, zin, zio, zip, ziq, zir, zis, zit, ziu, ziv, ziw, zix, ziy, ziz, zja, zjb, zjc, zjd, Int.toNat_natCast, ti_bytes, ti_int, ti_uint, ti_u8, ti_bool, ti_string, ti_u64, ti_val, ti_a16, ti_bits, ti_op, ti_ops, ti_reader, ti_errno, ti_preader, ti_rreader, ti_prreader, ↓zlc, ↓zld, ↓zle, ↓zlf, ↓zlg, ↓zlh, ↓zli, ↓zlj, zle, zlf, zlg, zlh, zli, zlj, hna, hnb, nab, nba, ha, hb, hca, hcb, heap_get_set, if_pos la, if_pos lb, onR, onRo_some, onRo_nil, e_RText, e_xText, d0, d1, d2, d3, d4, hq1, hq2, cellR, s3, t3]
    have hc := closedR2 hab ha hb hcl q1.2.1 q2.2.1 k1 k2 q2.2.2.1 q2.2.2.1 q2.2.2.2 q2.2.2.2
    simp (disch := first | assumption | omega | (simp; done) | (simp; omega)) [zje, ↓zjf, zjg, zjh, zji, zjj, zjk, zjl, List.take_of_length_le, List.drop_append, List.take_append, endOk, wk, wk2, wk1, wkM, wkL, wkLL, zif, zid, zie, zjm, zjn, zjo, zjp, zjq, zjr, zjs, zjt, zju, zjv, List.drop_eq_nil_of_le, zjw, zjx, zjy, zjz, zka, zkb, zkc, zkd, zke, zkf, zkg, zkh, zki, zkj, zkk, zkl, zkm, zjj, zkn, zko, zkp, cl_s, zkq, zkr, zks, zkt, zku, zkv, zkw, zkx, zky, zkz, zla, hc, hle, zja, zij]
  have d4 : (iand .i64 k 7 == 4) = false := by simpa using c4
  by_cases c5 : iand .i64 k 7 = 5
  case pos =>
    have d5 : (iand .i64 k 7 == 5) = true := by simpa using c5
    have hr : rdOp k n most l2 e2 = (countR (.any, l2, e2) most).2.2 := by unfold rdOp; rw [if_neg c0, if_neg c1, if_neg c2, if_neg c3, if_neg c4, if_pos c5]
    refine ⟨_, _, hK (countR (m1, l2, e2) most).2.1 (countR (m2, l2, e2) most).2.1 (countR_m _ _ _ _) (countR_m _ _ _ _), ?_⟩
    rw [hr]
    have t1 := countR_v m1 l2 e2 most
    have t2 := countR_v m2 l2 e2 most
    have s1 := countR_s m1 l2 e2 most
    have s2 := countR_s m2 l2 e2 most
    have k1 := countR_m m1 l2 e2 most
    have k2 := countR_m m2 l2 e2 most
    clear hK hfin
    generalize hq1 : countR (m1, l2, e2) most = q1 at *
    generalize hq2 : countR (m2, l2, e2) most = q2 at *
    rw [← s1]
    have s3 := s1.trans s2.symm
    have t3 := t1.trans t2.symm
    refine ACalls.of_aw (Ω := [(15, Ent.effect e_Uint), (26, Ent.effect e_xUint), (16, Ent.effect e_RBool), (27, Ent.effect e_xBool), (18, Ent.effect e_RBytes), (28, Ent.effect e_xBytes), (22, Ent.effect e_RText), (29, Ent.effect e_xText), (23, Ent.effect e_RCount), (48, Ent.effect e_xCount), (17, Ent.effect e_RValue), (30, Ent.effect e_xValue)]) mixed (TblOk.cons ok_Uint (TblOk.cons ok_xUint (TblOk.cons ok_RBool (TblOk.cons ok_xBool (TblOk.cons ok_RBytes (TblOk.cons ok_xBytes (TblOk.cons ok_RText (TblOk.cons ok_xText (TblOk.cons ok_RCount (TblOk.cons ok_xCount (TblOk.cons ok_RValue (TblOk.cons ok_xValue TblOk.nil)))))))))))) Try.func24 (by kernel_rfl) (by rfl) (rs := [.tmp 6]) (by rfl) (by kernel_rfl) (by simp only [Try.ntmps24, List.length_cons, List.length_nil]; decide) (by simp [zie]) fun hcl hlt => ?_
    change aw _ _ _ (KI Try.prog [(15, Ent.effect e_Uint), (26, Ent.effect e_xUint), (16, Ent.effect e_RBool), (27, Ent.effect e_xBool), (18, Ent.effect e_RBytes), (28, Ent.effect e_xBytes), (22, Ent.effect e_RText), (29, Ent.effect e_xText), (23, Ent.effect e_RCount), (48, Ent.effect e_xCount), (17, Ent.effect e_RValue), (30, Ent.effect e_xValue)] (aEnd Try.prog [.tmp 6] H.nx _ _) []) _ _
    clear hlt
    simp only [↓zaa, ↓zab, ↓zac, ↓zad, ↓zae, ↓zaf, ↓zag, ↓zah, ↓zai, ↓zaj, ↓zak, ↓zal, ↓zam, ↓zan, ↓KI_r, ↓KI_p, ↓zao, zap, zaq, zar, ↓zas, ↓zat, ↓zau, ↓zav, ↓zaw, ↓zax, ↓zay, ↓zaz, ↓zba, ↓zbb, ↓zbc, ↓zbd, ↓zbe, ↓zbf, ↓zbg, ↓zbh, ↓zbi, ↓zbj, ↓zbk, ↓zbl, zbm, zbn, zbo, zbp, ↓zbq, ↓zbr, ↓zbs, ↓zbt, ↓zbu, ↓zbv, ↓zbw, ↓zbx, ↓zby, ↓zbz, ↓zca, ↓zcb, ↓zcc, ↓zcd, ↓zce, ↓zcf, ↓zcg, ↓zch, ↓zci, ↓zcj, ↓zck, ↓zcl, ↓zcm, ↓zcn, ↓zco, ↓zcp, ↓zcq, ↓zcr, ↓zcs, ↓zct, ↓zcu, ↓zcv, ↓zcw, ↓zcx, ↓zcy, ↓zcz, ↓zda, ↓zdb, ↓zdc, ↓zdd, ↓zde, ↓zdf, ↓zdg, ↓zdh, ↓zdi, ↓zdj, ↓zdk, zdl, zdm, zdn, zdo, zdp, zdq, zdr, zds, zdt, zdu, zdv, ↓zdw, ↓zdx, zdy, zdz, zea, zeb, zec, zed, ↓zee, ↓zef, ↓zeg, zeh, zei, zej, zek, zel, zem, zen, zep, zeq, zer, zes, ↓zet, ↓zeu, ↓zev, ↓zew, ↓zex, ↓zey, ↓zez, ↓zfa, ↓zfb, ↓zfc, ↓zfd, ↓zfe, ne_eq, reduceCtorEq, not_false_eq_true, Nat.reduceEqDiff, Nat.reduceAdd, Nat.reduceMul, Nat.reduceSub, Nat.reduceLeDiff, Nat.reduceLT, Nat.mul_one, Nat.one_mul, Nat.zero_mul, Nat.zero_add, Nat.add_zero, zff, zfg, zfh, zfi, zfj, zfk, zfl, zfm, zfn, zfo, zfp, zfq, zfr, zfs, zft, zfu, Bool.and_true, Bool.and_self, Int.reduceMul, Int.reduceAdd, Int.reduceSub, Nat.left_eq_add, Nat.add_eq_left, Nat.add_right_cancel_iff, Nat.add_left_cancel_iff, Nat.succ_ne_self, Nat.one_ne_zero, List.map_cons, List.map_nil, Option.map_some, Option.map_none, Option.elim_some, if_true, if_false, true_and, and_true, true_or, or_true, false_or, or_false, Bool.false_eq_true, Bool.true_eq_false, Bool.not_true, Bool.not_false, List.append_nil, List.nil_append, rEq, List.cons_append, Int.reduceToNat, nn_2, nm_2, nn_3, nm_3, nn_4, nm_4, nn_5, nm_5, nn_6, nm_6, nn_7, nm_7, nn_8, nm_8, nn_9, nm_9, zfv, zfw, zfx, zfy, zfz, zga, List.getElem?_cons_zero, List.getElem?_cons_succ, TD.agg, List.drop_succ_cons, List.drop_zero, List.take_succ_cons, List.take_zero, List.take_nil, List.drop_nil, List.getD_cons_zero, List.getD_cons_succ, splice, zgb, zgc, zgd, Option.isSome_some, Option.isSome_none, List.getElem?_nil, Nat.zero_lt_succ, Nat.lt_add_one, zge, zgf, rLen, rBin, rInt, rStr, rUn, zgg, zgh, zgi, zgj, zgk, rBox, zgl, zgm, zgn, zgo, zgp, zgq, zgr, zgs, zgt, zgu, zgv, zgw, zgx, zgy, zgz, zha, zhb, zhc, zhd, bound, addL, addT, grow, room, List.length_cons, List.length_nil, zhe, zhf, zhg, zhh, zhi, zhj, zhk, zhl, zhm, zhn, zho, zhp, zhq, zhr, zgb, zhs, zht, zhu, zhv, zhw, zhx, zhy, zhz, zia, zib, zic, zid, zie, zif, zig, zih, zii, List.length_map, frOf, zij, zik, zil, zim, zin, zio, zip, ziq, zir, zis, zit, ziu, ziv, ziw, zix, ziy, ziz, zja, zjb, zjc, zjd, Int.toNat_natCast, ti_bytes, ti_int, ti_uint, ti_u8, ti_bool, ti_string, ti_u64, ti_val, ti_a16, ti_bits, ti_op, ti_ops, ti_reader, ti_errno, ti_preader, ti_rreader, ti_prreader, ↓zlc, ↓zld, ↓zle, ↓zlf, ↓zlg, ↓zlh, ↓zli, ↓zlj, zle, zlf, zlg, zlh, zli, zlj, hna, hnb, nab, nba, ha, hb, hca, hcb, heap_get_set, if_pos la, if_pos lb, onR, onRo_some, onRo_nil, e_RCount, e_xCount, d0, d1, d2, d3, d4, d5, hq1, hq2, cellR, s3, t3]
    have hc := closedR2 hab ha hb hcl q1.2.1 q2.2.1 k1 k2 q2.2.2.1 q2.2.2.1 q2.2.2.2 q2.2.2.2
    simp (disch := first | assumption | omega | (simp; done) | (simp; omega)) [zje, ↓zjf, zjg, zjh, zji, zjj, zjk, zjl, List.take_of_length_le, List.drop_append, List.take_append, endOk, wk, wk2, wk1, wkM, wkL, wkLL, zif, zid, zie, zjm, zjn, zjo, zjp, zjq, zjr, zjs, zjt, zju, zjv, List.drop_eq_nil_of_le, zjw, zjx, zjy, zjz, zka, zkb, zkc, zkd, zke, zkf, zkg, zkh, zki, zkj, zkk, zkl, zkm, zjj, zkn, zko, zkp, cl_s, zkq, zkr, zks, zkt, zku, zkv, zkw, zkx, zky, zkz, zla, hc, hle, zja, zij]
  have d5 : (iand .i64 k 7 == 5) = false := by simpa using c5
  by_cases c6 : iand .i64 k 7 = 6
  case pos =>
    have d6 : (iand .i64 k 7 == 6) = true := by simpa using c6
    have hr : rdOp k n most l2 e2 = (countR (.any, l2, e2) (iand .i64 most 255)).2.2 := by unfold rdOp; rw [if_neg c0, if_neg c1, if_neg c2, if_neg c3, if_neg c4, if_neg c5, if_pos c6]
    refine ⟨_, _, hK (countR (m1, l2, e2) (iand .i64 most 255)).2.1 (countR (m2, l2, e2) (iand .i64 most 255)).2.1 (countR_m _ _ _ _) (countR_m _ _ _ _), ?_⟩
    rw [hr]
    have t1 := countR_v m1 l2 e2 (iand .i64 most 255)
    have t2 := countR_v m2 l2 e2 (iand .i64 most 255)
    have s1 := countR_s m1 l2 e2 (iand .i64 most 255)
    have s2 := countR_s m2 l2 e2 (iand .i64 most 255)
    have k1 := countR_m m1 l2 e2 (iand .i64 most 255)
    have k2 := countR_m m2 l2 e2 (iand .i64 most 255)
    clear hK hfin
    generalize hq1 : countR (m1, l2, e2) (iand .i64 most 255) = q1 at *
    generalize hq2 : countR (m2, l2, e2) (iand .i64 most 255) = q2 at *
    rw [← s1]
    have s3 := s1.trans s2.symm
    have t3 := t1.trans t2.symm
    refine ACalls.of_aw (Ω := [(15, Ent.effect e_Uint), (26, Ent.effect e_xUint), (16, Ent.effect e_RBool), (27, Ent.effect e_xBool), (18, Ent.effect e_RBytes), (28, Ent.effect e_xBytes), (22, Ent.effect e_RText), (29, Ent.effect e_xText), (23, Ent.effect e_RCount), (48, Ent.effect e_xCount), (17, Ent.effect e_RValue), (30, Ent.effect e_xValue)]) mixed (TblOk.cons ok_Uint (TblOk.cons ok_xUint (TblOk.cons ok_RBool (TblOk.cons ok_xBool (TblOk.cons ok_RBytes (TblOk.cons ok_xBytes (TblOk.cons ok_RText (TblOk.cons ok_xText (TblOk.cons ok_RCount (TblOk.cons ok_xCount (TblOk.cons ok_RValue (TblOk.cons ok_xValue TblOk.nil)))))))))))) Try.func24 (by kernel_rfl) (by rfl) (rs := [.tmp 6]) (by rfl) (by kernel_rfl) (by simp only [Try.ntmps24, List.length_cons, List.length_nil]; decide) (by simp [zie]) fun hcl hlt => ?_
    change aw _ _ _ (KI Try.prog [(15, Ent.effect e_Uint), (26, Ent.effect e_xUint), (16, Ent.effect e_RBool), (27, Ent.effect e_xBool), (18, Ent.effect e_RBytes), (28, Ent.effect e_xBytes), (22, Ent.effect e_RText), (29, Ent.effect e_xText), (23, Ent.effect e_RCount), (48, Ent.effect e_xCount), (17, Ent.effect e_RValue), (30, Ent.effect e_xValue)] (aEnd Try.prog [.tmp 6] H.nx _ _) []) _ _
    clear hlt
    simp only [↓zaa, ↓zab, ↓zac, ↓zad, ↓zae, ↓zaf, ↓zag, ↓zah, ↓zai, ↓zaj, ↓zak, ↓zal, ↓zam, ↓zan, ↓KI_r, ↓KI_p, ↓zao, zap, zaq, zar, ↓zas, ↓zat, ↓zau, ↓zav, ↓zaw, ↓zax, ↓zay, ↓zaz, ↓zba, ↓zbb, ↓zbc, ↓zbd, ↓zbe, ↓zbf, ↓zbg, ↓zbh, ↓zbi, ↓zbj, ↓zbk, ↓zbl, zbm, zbn, zbo, zbp, ↓zbq, ↓zbr, ↓zbs, ↓zbt, ↓zbu, ↓zbv, ↓zbw, ↓zbx, ↓zby, ↓zbz, ↓zca, ↓zcb, ↓zcc, ↓zcd, ↓zce, ↓zcf, ↓zcg, ↓zch, ↓zci, ↓zcj, ↓zck, ↓zcl, ↓zcm, ↓zcn, ↓zco, ↓zcp, ↓zcq, ↓zcr, ↓zcs, ↓zct, ↓zcu, ↓zcv, ↓zcw, ↓zcx, ↓zcy, ↓zcz, ↓zda, ↓zdb, ↓zdc, ↓zdd, ↓zde, ↓zdf, ↓zdg, ↓zdh, ↓zdi, ↓zdj, ↓zdk, zdl, zdm, zdn, zdo, zdp, zdq, zdr, zds, zdt, zdu, zdv, ↓zdw, ↓zdx, zdy, zdz, zea, zeb, zec, zed, ↓zee, ↓zef, ↓zeg, zeh, zei, zej, zek, zel, zem, zen, zep, zeq, zer, zes, ↓zet, ↓zeu, ↓zev, ↓zew, ↓zex, ↓zey, ↓zez, ↓zfa, ↓zfb, ↓zfc, ↓zfd, ↓zfe, ne_eq, reduceCtorEq, not_false_eq_true, Nat.reduceEqDiff, Nat.reduceAdd, Nat.reduceMul, Nat.reduceSub, Nat.reduceLeDiff, Nat.reduceLT, Nat.mul_one, Nat.one_mul, Nat.zero_mul, Nat.zero_add, Nat.add_zero, zff, zfg, zfh, zfi, zfj, zfk, zfl, zfm, zfn, zfo, zfp, zfq, zfr, zfs, zft, zfu, Bool.and_true, Bool.and_self, Int.reduceMul, Int.reduceAdd, Int.reduceSub, Nat.left_eq_add, Nat.add_eq_left, Nat.add_right_cancel_iff, Nat.add_left_cancel_iff, Nat.succ_ne_self, Nat.one_ne_zero, List.map_cons, List.map_nil, Option.map_some, Option.map_none, Option.elim_some, if_true, if_false, true_and, and_true, true_or, or_true, false_or, or_false, Bool.false_eq_true, Bool.true_eq_false, Bool.not_true, Bool.not_false, List.append_nil, List.nil_append, rEq, List.cons_append, Int.reduceToNat, nn_2, nm_2, nn_3, nm_3, nn_4, nm_4, nn_5, nm_5, nn_6, nm_6, nn_7, nm_7, nn_8, nm_8, nn_9, nm_9, zfv, zfw, zfx, zfy, zfz, zga, List.getElem?_cons_zero, List.getElem?_cons_succ, TD.agg, List.drop_succ_cons, List.drop_zero, List.take_succ_cons, List.take_zero, List.take_nil, List.drop_nil, List.getD_cons_zero, List.getD_cons_succ, splice, zgb, zgc, zgd, Option.isSome_some, Option.isSome_none, List.getElem?_nil, Nat.zero_lt_succ, Nat.lt_add_one, zge, zgf, rLen, rBin, rInt, rStr, rUn, zgg, zgh, zgi, zgj, zgk, rBox, zgl, zgm, zgn, zgo, zgp, zgq, zgr, zgs, zgt, zgu, zgv, zgw, zgx, zgy, zgz, zha, zhb, zhc, zhd, bound, addL, addT, grow, room, List.length_cons, List.length_nil, zhe, zhf, zhg, zhh, zhi, zhj, zhk, zhl, zhm, zhn, zho, zhp, zhq, zhr, zgb, zhs, zht, zhu, zhv, zhw, zhx, zhy, zhz, zia, zib, zic, zid, zie, zif, zig, zih, zii, List.length_map, frOf, zij, zik, zil, zim, zin, zio, zip, ziq, zir, zis, zit, ziu, ziv, ziw, zix, ziy, ziz, zja, zjb, zjc, zjd, Int.toNat_natCast, ti_bytes, ti_int, ti_uint, ti_u8, ti_bool, ti_string, ti_u64, ti_val, ti_a16, ti_bits, ti_op, ti_ops, ti_reader, ti_errno, ti_preader, ti_rreader, ti_prreader, ↓zlc, ↓zld, ↓zle, ↓zlf, ↓zlg, ↓zlh, ↓zli, ↓zlj, zle, zlf, zlg, zlh, zli, zlj, hna, hnb, nab, nba, ha, hb, hca, hcb, heap_get_set, if_pos la, if_pos lb, onR, onRo_some, onRo_nil, e_RCount, e_xCount, d0, d1, d2, d3, d4, d5, d6, hq1, hq2, cellR, s3, t3]
    have hc := closedR2 hab ha hb hcl q1.2.1 q2.2.1 k1 k2 q2.2.2.1 q2.2.2.1 q2.2.2.2 q2.2.2.2
    simp (disch := first | assumption | omega | (simp; done) | (simp; omega)) [zje, ↓zjf, zjg, zjh, zji, zjj, zjk, zjl, List.take_of_length_le, List.drop_append, List.take_append, endOk, wk, wk2, wk1, wkM, wkL, wkLL, zif, zid, zie, zjm, zjn, zjo, zjp, zjq, zjr, zjs, zjt, zju, zjv, List.drop_eq_nil_of_le, zjw, zjx, zjy, zjz, zka, zkb, zkc, zkd, zke, zkf, zkg, zkh, zki, zkj, zkk, zkl, zkm, zjj, zkn, zko, zkp, cl_s, zkq, zkr, zks, zkt, zku, zkv, zkw, zkx, zky, zkz, zla, hc, hle, zja, zij]
  have d6 : (iand .i64 k 7 == 6) = false := by simpa using c6
  have hr : rdOp k n most l2 e2 = (valueR (.any, l2, e2)).2.2 := by unfold rdOp; rw [if_neg c0, if_neg c1, if_neg c2, if_neg c3, if_neg c4, if_neg c5, if_neg c6]
  refine ⟨_, _, hK (valueR (m1, l2, e2)).2.1 (valueR (m2, l2, e2)).2.1 (valueR_m _ _ _) (valueR_m _ _ _), ?_⟩
  rw [hr]
  have t1 := valueR_v m1 l2 e2
  have t2 := valueR_v m2 l2 e2
  have s1 := valueR_s m1 l2 e2
  have s2 := valueR_s m2 l2 e2
  have k1 := valueR_m m1 l2 e2
  have k2 := valueR_m m2 l2 e2
  clear hK hfin
  generalize hq1 : valueR (m1, l2, e2) = q1 at *
  generalize hq2 : valueR (m2, l2, e2) = q2 at *
  rw [← s1]
  have s3 := s1.trans s2.symm
  have t3 := t1.trans t2.symm
  refine ACalls.of_aw (Ω := [(15, Ent.effect e_Uint), (26, Ent.effect e_xUint), (16, Ent.effect e_RBool), (27, Ent.effect e_xBool), (18, Ent.effect e_RBytes), (28, Ent.effect e_xBytes), (22, Ent.effect e_RText), (29, Ent.effect e_xText), (23, Ent.effect e_RCount), (48, Ent.effect e_xCount), (17, Ent.effect e_RValue), (30, Ent.effect e_xValue)]) mixed (TblOk.cons ok_Uint (TblOk.cons ok_xUint (TblOk.cons ok_RBool (TblOk.cons ok_xBool (TblOk.cons ok_RBytes (TblOk.cons ok_xBytes (TblOk.cons ok_RText (TblOk.cons ok_xText (TblOk.cons ok_RCount (TblOk.cons ok_xCount (TblOk.cons ok_RValue (TblOk.cons ok_xValue TblOk.nil)))))))))))) Try.func24 (by kernel_rfl) (by rfl) (rs := [.tmp 6]) (by rfl) (by kernel_rfl) (by simp only [Try.ntmps24, List.length_cons, List.length_nil]; decide) (by simp [zie]) fun hcl hlt => ?_
  change aw _ _ _ (KI Try.prog [(15, Ent.effect e_Uint), (26, Ent.effect e_xUint), (16, Ent.effect e_RBool), (27, Ent.effect e_xBool), (18, Ent.effect e_RBytes), (28, Ent.effect e_xBytes), (22, Ent.effect e_RText), (29, Ent.effect e_xText), (23, Ent.effect e_RCount), (48, Ent.effect e_xCount), (17, Ent.effect e_RValue), (30, Ent.effect e_xValue)] (aEnd Try.prog [.tmp 6] H.nx _ _) []) _ _
  clear hlt
  simp only [↓zaa, ↓zab, ↓zac, ↓zad, ↓zae, ↓zaf, ↓zag, ↓zah, ↓zai, ↓zaj, ↓zak, ↓zal, ↓zam, ↓zan, ↓KI_r, ↓KI_p, ↓zao, zap, zaq, zar, ↓zas, ↓zat, ↓zau, ↓zav, ↓zaw, ↓zax, ↓zay, ↓zaz, ↓zba, ↓zbb, ↓zbc, ↓zbd, ↓zbe, ↓zbf, ↓zbg, ↓zbh, ↓zbi, ↓zbj, ↓zbk, ↓zbl, zbm, zbn, zbo, zbp, ↓zbq, ↓zbr, ↓zbs, ↓zbt, ↓zbu, ↓zbv, ↓zbw, ↓zbx, ↓zby, ↓zbz, ↓zca, ↓zcb, ↓zcc, ↓zcd, ↓zce, ↓zcf, ↓zcg, ↓zch, ↓zci, ↓zcj, ↓zck, ↓zcl, ↓zcm, ↓zcn, ↓zco, ↓zcp, ↓zcq, ↓zcr, ↓zcs, ↓zct, ↓zcu, ↓zcv, ↓zcw, ↓zcx, ↓zcy, ↓zcz, ↓zda, ↓zdb, ↓zdc, ↓zdd, ↓zde, ↓zdf, ↓zdg, ↓zdh, ↓zdi, ↓zdj, ↓zdk, zdl, zdm, zdn, zdo, zdp, zdq, zdr, zds, zdt, zdu, zdv, ↓zdw, ↓zdx, zdy, zdz, zea, zeb, zec, zed, ↓zee, ↓zef, ↓zeg, zeh, zei, zej, zek, zel, zem, zen, zep, zeq, zer, zes, ↓zet, ↓zeu, ↓zev, ↓zew, ↓zex, ↓zey, ↓zez, ↓zfa, ↓zfb, ↓zfc, ↓zfd, ↓zfe, ne_eq, reduceCtorEq, not_false_eq_true, Nat.reduceEqDiff, Nat.reduceAdd, Nat.reduceMul, Nat.reduceSub, Nat.reduceLeDiff, Nat.reduceLT, Nat.mul_one, Nat.one_mul, Nat.zero_mul, Nat.zero_add, Nat.add_zero, zff, zfg, zfh, zfi, zfj, zfk, zfl, zfm, zfn, zfo, zfp, zfq, zfr, zfs, zft, zfu, Bool.and_true, Bool.and_self, Int.reduceMul, Int.reduceAdd, Int.reduceSub, Nat.left_eq_add, Nat.add_eq_left, Nat.add_right_cancel_iff, Nat.add_left_cancel_iff, Nat.succ_ne_self, Nat.one_ne_zero, List.map_cons, List.map_nil, Option.map_some, Option.map_none, Option.elim_some, if_true, if_false, true_and, and_true, true_or, or_true, false_or, or_false, Bool.false_eq_true, Bool.true_eq_false, Bool.not_true, Bool.not_false, List.append_nil, List.nil_append, rEq, List.cons_append, Int.reduceToNat, nn_2, nm_2, nn_3, nm_3, nn_4, nm_4, nn_5, nm_5, nn_6, nm_6, nn_7, nm_7, nn_8, nm_8, nn_9, nm_9, zfv, zfw, zfx, zfy, zfz, zga, List.getElem?_cons_zero, List.getElem?_cons_succ, TD.agg, List.drop_succ_cons, List.drop_zero, List.take_succ_cons, List.take_zero, List.take_nil, List.drop_nil, List.getD_cons_zero, List.getD_cons_succ, splice, zgb, zgc, zgd, Option.isSome_some, Option.isSome_none, List.getElem?_nil, Nat.zero_lt_succ, Nat.lt_add_one, zge, zgf, rLen, rBin, rInt, rStr, rUn, zgg, zgh, zgi, zgj, zgk, rBox, zgl, zgm, zgn, zgo, zgp, zgq, zgr, zgs, zgt, zgu, zgv, zgw, zgx, zgy, zgz, zha, zhb, zhc, zhd, bound, addL, addT, grow, room, List.length_cons, List.length_nil, zhe, zhf, zhg, zhh, zhi, zhj, zhk, zhl, zhm, zhn, zho, zhp, zhq, zhr, zgb, zhs, zht, zhu, zhv, zhw, zhx, zhy, zhz, zia, zib, zic, zid, zie, zif, zig, zih, zii, List.length_map, frOf, zij, zik, zil, zim, zin, zio, zip, ziq, zir, zis, zit, ziu, ziv, ziw, zix, ziy, ziz, zja, zjb, zjc, zjd, Int.toNat_natCast, ti_bytes, ti_int, ti_uint, ti_u8, ti_bool, ti_string, ti_u64, ti_val, ti_a16, ti_bits, ti_op, ti_ops, ti_reader, ti_errno, ti_preader, ti_rreader, ti_prreader, ↓zlc, ↓zld, ↓zle, ↓zlf, ↓zlg, ↓zlh, ↓zli, ↓zlj, zle, zlf, zlg, zlh, zli, zlj, hna, hnb, nab, nba, ha, hb, hca, hcb, heap_get_set, if_pos la, if_pos lb, onR, onRo_some, onRo_nil, e_RValue, e_xValue, d0, d1, d2, d3, d4, d5, d6, hq1, hq2, cellR, s3, t3, vv, teq_val, eqg_val, beq_self_eq_true]
  have hc := closedR2 hab ha hb hcl q1.2.1 q2.2.1 k1 k2 q2.2.2.1 q2.2.2.1 q2.2.2.2 q2.2.2.2
  simp (disch := first | assumption | omega | (simp; done) | (simp; omega)) [zje, ↓zjf, zjg, zjh, zji, zjj, zjk, zjl, List.take_of_length_le, List.drop_append, List.take_append, endOk, wk, wk2, wk1, wkM, wkL, wkLL, zif, zid, zie, zjm, zjn, zjo, zjp, zjq, zjr, zjs, zjt, zju, zjv, List.drop_eq_nil_of_le, zjw, zjx, zjy, zjz, zka, zkb, zkc, zkd, zke, zkf, zkg, zkh, zki, zkj, zkk, zkl, zkm, zjj, zkn, zko, zkp, cl_s, zkq, zkr, zks, zkt, zku, zkv, zkw, zkx, zky, zkz, zla, hc, hle, zja, zij]
end Go.AL
