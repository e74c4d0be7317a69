/- Contracts and plain laws, a part of the proof; no condition of its own. -/
import Derived.Test.YtnikhifkngaleaaCR
open Go Go.AL Go.Proofs
namespace Go.AL
set_option linter.all false
set_option maxRecDepth 10000
theorem ti_op : ti Try.prog 28 = some ⟨.struct [(0, 3, false), (1, 3, false), (2, 3, false), (3, 26, false), (5, 23, false)], 6, 64, .agg [.int .i64 0, .int .i64 0, .int .i64 0, .int .u64 0, .int .u64 0, .slice .nil 1 []]⟩ := by kernel_rfl
theorem ti_ops : ti Try.prog 22 = some ⟨.slice 28, 1, 24, .slice .nil 1 []⟩ := by kernel_rfl

/-- the bytes of a value behind their number -/
def wValue (v : Nat) : List UInt8 := UInt8.ofNat (vLen v) :: vBytes v
theorem vBytes_len (v : Nat) : (vBytes v).length = vLen v := beN_len _ _

def p_AppendValue : List AV → AHeap → (AV → Prop) → Prop
  | [.slice _ 1 l, .agg [.int .u64 hi, .int .u64 lo]], _, K => (isV hi lo ∧ isB l ∧ l.length ≤ 140737488000000) ∧ K (.slice .any 1 (bys (unb l ++ wValue (vOf hi.toNat lo.toNat))))
  | _, _, _ => False

theorem ok_AppendValue : EntOk Try.prog 12 (Ent.pure p_AppendValue) := by
  refine EntOk.pure fun args H K h => ?_
  unfold p_AppendValue at h
  split at h
  rotate_left
  · exact h.elim
  rename_i m l hi lo
  obtain ⟨⟨⟨h0, h1, h2, h3⟩, c1, hle⟩, hK⟩ := h
  refine ⟨_, hK, ?_⟩
  obtain ⟨x, rfl⟩ := u64_lift h0
  obtain ⟨y, rfl⟩ := u64_lift h2
  obtain ⟨xs, rfl⟩ := isB_out c1
  clear hK h0 h2
  simp only [zjo, ziz] at *
  rw [Int.toNat_natCast, Int.toNat_natCast]
  have hx : x < 2 ^ 64 := by omega
  have hy : y < 2 ^ 64 := by omega
  refine ACalls.of_aw (Ω := [(37, Ent.pure p_joined), (39, Ent.pure p_vBytesF)]) (T := assoc []) mixed (TblOk.cons ok_joined (TblOk.cons ok_vBytesF TblOk.nil)) Try.func12 (by kernel_rfl) (by rfl) (rs := [.tmp 4]) (by rfl) (by kernel_rfl) (by simp only [Try.ntmps12, List.length_cons, List.length_nil]; decide) (Nat.le_refl _) fun hcl hlt => ?_
  change aw _ _ _ (KI Try.prog [(37, Ent.pure p_joined), (39, Ent.pure p_vBytesF)] (aEnd Try.prog [.tmp 4] H.nx _ _) []) _ _
  clear hlt
  have hv := vOf_lt hx hy
  have hvl := vLen_le hv
  generalize hvo : vOf x y = v at hv hvl ⊢
  have w1 : IntKind.u8.wrap ((vLen v : Nat) : Int) = ((vLen v : Nat) : Int) := by rw [wrap_u8_nat]; omega
  have w2 : AV.int .u8 ((vLen v : Nat) : Int) = ofByte (UInt8.ofNat (vLen v)) := u8_ofByte (by omega)
  have w3 : UInt8.ofNat (vLen v) :: vBytes v = wValue v := rfl
  simp only [↓zaa, ↓zab, ↓zac, ↓zad, ↓zae, ↓zaf, ↓zag, ↓zah, ↓zai, ↓zaj, ↓zak, ↓zal, ↓zam, ↓zan, ↓KI_r, ↓KI_p, ↓zao, zap, zaq, zar, ↓zas, ↓zat, ↓zau, ↓zav, ↓zaw, ↓zax, ↓zay, ↓zaz, ↓zba, ↓zbb, ↓zbc, ↓zbd, ↓zbe, ↓zbf, ↓zbg, ↓zbh, ↓zbi, ↓zbj, ↓zbk, ↓zbl, zbm, zbn, zbo, zbp, ↓zbq, ↓zbr, ↓zbs, ↓zbt, ↓zbu, ↓zbv, ↓zbw, ↓zbx, ↓zby, ↓zbz, ↓zca, ↓zcb, ↓zcc, ↓zcd, ↓zce, ↓zcf, ↓zcg, ↓zch, ↓zci, ↓zcj, ↓zck, ↓zcl, ↓zcm, ↓zcn, ↓zco, ↓zcp, ↓zcq, ↓zcr, ↓zcs, ↓zct, ↓zcu, ↓zcv, ↓zcw, ↓zcx, ↓zcy, ↓zcz, ↓zda, ↓zdb, ↓zdc, ↓zdd, ↓zde, ↓zdf, ↓zdg, ↓zdh, ↓zdi, ↓zdj, ↓zdk, zdl, zdm, zdn, zdo, zdp, zdq, KI_T, zdr, zds, zdt, zdu, ↓zdv, ↓zdw, zdx, zdy, zdz, zea, zeb, i_mk, zec, zed, i_nx, zee, zef, zeg, zeh, zei, zej, zek, List.tail_nil, List.tail_cons, List.headD_nil, List.headD_cons, zel, ↓zem, ↓zen, zeo, zep, zeq, zer, zes, zet, ↓zeu, ↓zev, ↓zew, zex, zey, zez, zfa, zfb, ↓zfc, ↓zfd, zfe, zff, zfg, zfh, zfi, ↓zfj, ↓zfk, ↓zfl, ↓zfm, ↓zfn, ↓zfo, ↓zfp, ↓zfq, ↓zfr, ↓zfs, ↓zft, ↓zfu, ne_eq, reduceCtorEq, not_false_eq_true, Nat.reduceEqDiff, Nat.reduceAdd, Nat.reduceMul, Nat.reduceSub, Nat.reduceLeDiff, Nat.reduceLT, Nat.mul_one, Nat.one_mul, Nat.zero_mul, Nat.zero_add, Nat.add_zero, zfv, zfw, zfx, zfy, zfz, zga, zgb, zgc, zgd, zge, zgf, zgg, zgh, zgi, zgj, zgk, Bool.and_true, Bool.and_self, Int.reduceMul, Int.reduceAdd, Int.reduceSub, Nat.left_eq_add, Nat.add_eq_left, Nat.add_right_cancel_iff, Nat.add_left_cancel_iff, Nat.succ_ne_self, Nat.one_ne_zero, List.map_cons, List.map_nil, Option.map_some, Option.map_none, Option.elim_some, if_true, if_false, true_and, and_true, true_or, or_true, false_or, or_false, Bool.false_eq_true, Bool.true_eq_false, Bool.not_true, Bool.not_false, List.append_nil, List.nil_append, rEq, List.cons_append, Int.reduceToNat, nn_2, nm_2, nn_3, nm_3, nn_4, nm_4, nn_5, nm_5, nn_6, nm_6, nn_7, nm_7, nn_8, nm_8, nn_9, nm_9, zgl, zgm, zgn, zgo, zgp, zgq, List.getElem?_cons_zero, List.getElem?_cons_succ, TD.agg, List.drop_succ_cons, List.drop_zero, List.take_succ_cons, List.take_zero, List.take_nil, List.drop_nil, List.getD_cons_zero, List.getD_cons_succ, splice, zgr, zgs, zgt, Option.isSome_some, Option.isSome_none, List.getElem?_nil, Nat.zero_lt_succ, Nat.lt_add_one, zgu, zgv, rLen, rBin, rInt, rStr, rUn, zgw, zgx, zgy, zgz, zha, rBox, zhb, zhc, zhd, zhe, zhf, zhg, zhh, zhi, zhj, zhk, zhl, zhm, zhn, zho, zhp, zhq, zhr, zhs, zht, bound, addL, addT, grow, room, List.length_cons, List.length_nil, zhu, zhv, zhw, zhx, zhy, zhz, zia, zib, zic, zid, zie, zif, zig, zih, zgr, zii, zij, zik, zil, zim, zin, zio, zip, ziq, zir, zis, zit, ziu, ziv, ziw, zix, ziy, List.length_map, frOf, ziz, zja, zjb, zjc, zjd, zje, zjf, zjg, zjh, zji, zjj, zjk, zjl, zjm, zjn, zjo, zjp, zjq, zjr, zjs, zjt, Int.toNat_natCast, ti_bytes, ti_int, ti_uint, ti_u8, ti_bool, ti_string, ti_u64, ti_val, ti_a16, ti_bits, ti_op, ti_ops, ↓zls, ↓zlt, ↓zlu, ↓zlv, ↓zlw, ↓zlx, ↓zly, ↓zlz, zlu, zlv, zlw, zlx, zly, zlz, p_joined, p_vBytesF, isV, Int.toNat_natCast, hvo, vBytes_len, w1, w2]
  refine ⟨by omega, by omega, by first | omega | (simp only [List.length_append, List.length_cons, List.length_nil, vBytes_len]; omega), ?_⟩
  have w4 : UInt8.ofNat (vLen v) :: vBytes v = wValue v := rfl
  have w5 : [UInt8.ofNat (vLen v)] ++ vBytes v = wValue v := rfl
  first | rw [w4] | rw [w5]
  simp (disch := first | assumption | omega | (simp; done) | (simp; omega)) [zju, ↓zjv, zjw, zjx, zjy, zjz, zka, zkb, List.take_of_length_le, List.drop_append, List.take_append, endOk, wk, wk2, wk1, wkM, wkL, wkLL, ziv, zit, ziu, zkc, zkd, zke, zkf, zkg, zkh, zki, zkj, zkk, zkl, List.drop_eq_nil_of_le, zkm, zkn, zko, zkp, zkq, zkr, zks, zkt, zku, zkv, zkw, zkx, zky, zkz, zla, zlb, zlc, zjz, zld, zle, zlf, cl_s, zlg, zlh, zli, zlj, zlk, zll, zlm, zln, zlo, zlp, zlq, hcl]

def e_rValue : List AV → AHeap → (AEnd → AHeap → Prop) → Prop
  | [.slice (.own id) 1 l, .agg [.int .u64 hi, .int .u64 lo]], H, K => (isV hi lo ∧ isB l ∧ l.length ≤ 140737488000000 ∧ H.get id = some (.buf 1 l.length)) ∧
      K (.ret (.slice (.own id) 1 (bys (unb l ++ wValue (vOf hi.toNat lo.toNat))))) (H.set id (.buf 1 (l.length + (wValue (vOf hi.toNat lo.toNat)).length)))
  | _, _, _ => False

theorem ok_rValue : EntOk Try.prog 36 (Ent.effect e_rValue) := by
  refine EntOk.effect fun args H K h => ?_
  unfold e_rValue at h
  split at h
  rotate_left
  · exact h.elim
  rename_i id l hi lo
  obtain ⟨⟨⟨h0, h1, h2, h3⟩, c1, hle, hid⟩, hK⟩ := h
  refine ⟨_, _, hK, ?_⟩
  obtain ⟨x, rfl⟩ := u64_lift h0
  obtain ⟨y, rfl⟩ := u64_lift h2
  obtain ⟨xs, rfl⟩ := isB_out c1
  clear hK h0 h2
  simp only [zjo, ziz] at *
  rw [Int.toNat_natCast, Int.toNat_natCast]
  have hx : x < 2 ^ 64 := by omega
  have hy : y < 2 ^ 64 := by omega
  have hl0 := AHeap.get_lt hid
  have hne := far_of hl0
  refine ACalls.of_aw (Ω := [(52, Ent.pure p_rVBytes)]) (T := assoc []) mixed (TblOk.cons ok_rVBytes TblOk.nil) Try.func36 (by kernel_rfl) (by rfl) (rs := [.tmp 4]) (by rfl) (by kernel_rfl) (by simp only [Try.ntmps36, List.length_cons, List.length_nil]; decide) (Nat.le_refl _) fun hcl hlt => ?_
  change aw _ _ _ (KI Try.prog [(52, Ent.pure p_rVBytes)] (aEnd Try.prog [.tmp 4] H.nx _ _) []) _ _
  clear hlt
  have hv := vOf_lt hx hy
  have hvl := vLen_le hv
  generalize hvo : vOf x y = v at hv hvl ⊢
  have w1 : IntKind.u8.wrap ((vLen v : Nat) : Int) = ((vLen v : Nat) : Int) := by rw [wrap_u8_nat]; omega
  have w2 : AV.int .u8 ((vLen v : Nat) : Int) = ofByte (UInt8.ofNat (vLen v)) := u8_ofByte (by omega)
  have w3 : xs ++ [UInt8.ofNat (vLen v)] ++ vBytes v = xs ++ wValue v := by simp [wValue]
  have w4 : xs.length + (wValue v).length = xs.length + 1 + vLen v := by simp [wValue, vBytes_len]; omega
  rw [w4]
  simp only [↓zaa, ↓zab, ↓zac, ↓zad, ↓zae, ↓zaf, ↓zag, ↓zah, ↓zai, ↓zaj, ↓zak, ↓zal, ↓zam, ↓zan, ↓KI_r, ↓KI_p, ↓zao, zap, zaq, zar, ↓zas, ↓zat, ↓zau, ↓zav, ↓zaw, ↓zax, ↓zay, ↓zaz, ↓zba, ↓zbb, ↓zbc, ↓zbd, ↓zbe, ↓zbf, ↓zbg, ↓zbh, ↓zbi, ↓zbj, ↓zbk, ↓zbl, zbm, zbn, zbo, zbp, ↓zbq, ↓zbr, ↓zbs, ↓zbt, ↓zbu, ↓zbv, ↓zbw, ↓zbx, ↓zby, ↓zbz, ↓zca, ↓zcb, ↓zcc, ↓zcd, ↓zce, ↓zcf, ↓zcg, ↓zch, ↓zci, ↓zcj, ↓zck, ↓zcl, ↓zcm, ↓zcn, ↓zco, ↓zcp, ↓zcq, ↓zcr, ↓zcs, ↓zct, ↓zcu, ↓zcv, ↓zcw, ↓zcx, ↓zcy, ↓zcz, ↓zda, ↓zdb, ↓zdc, ↓zdd, ↓zde, ↓zdf, ↓zdg, ↓zdh, ↓zdi, ↓zdj, ↓zdk, zdl, zdm, zdn, zdo, zdp, zdq, KI_T, zdr, zds, zdt, zdu, ↓zdv, ↓zdw, zdx, zdy, zdz, zea, zeb, i_mk, zec, zed, i_nx, zee, zef, zeg, zeh, zei, zej, zek, List.tail_nil, List.tail_cons, List.headD_nil, List.headD_cons, zel, ↓zem, ↓zen, zeo, zep, zeq, zer, zes, zet, ↓zeu, ↓zev, ↓zew, zex, zey, zez, zfa, zfb, ↓zfc, ↓zfd, zfe, zff, zfg, zfh, zfi, ↓zfj, ↓zfk, ↓zfl, ↓zfm, ↓zfn, ↓zfo, ↓zfp, ↓zfq, ↓zfr, ↓zfs, ↓zft, ↓zfu, ne_eq, reduceCtorEq, not_false_eq_true, Nat.reduceEqDiff, Nat.reduceAdd, Nat.reduceMul, Nat.reduceSub, Nat.reduceLeDiff, Nat.reduceLT, Nat.mul_one, Nat.one_mul, Nat.zero_mul, Nat.zero_add, Nat.add_zero, zfv, zfw, zfx, zfy, zfz, zga, zgb, zgc, zgd, zge, zgf, zgg, zgh, zgi, zgj, zgk, Bool.and_true, Bool.and_self, Int.reduceMul, Int.reduceAdd, Int.reduceSub, Nat.left_eq_add, Nat.add_eq_left, Nat.add_right_cancel_iff, Nat.add_left_cancel_iff, Nat.succ_ne_self, Nat.one_ne_zero, List.map_cons, List.map_nil, Option.map_some, Option.map_none, Option.elim_some, if_true, if_false, true_and, and_true, true_or, or_true, false_or, or_false, Bool.false_eq_true, Bool.true_eq_false, Bool.not_true, Bool.not_false, List.append_nil, List.nil_append, rEq, List.cons_append, Int.reduceToNat, nn_2, nm_2, nn_3, nm_3, nn_4, nm_4, nn_5, nm_5, nn_6, nm_6, nn_7, nm_7, nn_8, nm_8, nn_9, nm_9, zgl, zgm, zgn, zgo, zgp, zgq, List.getElem?_cons_zero, List.getElem?_cons_succ, TD.agg, List.drop_succ_cons, List.drop_zero, List.take_succ_cons, List.take_zero, List.take_nil, List.drop_nil, List.getD_cons_zero, List.getD_cons_succ, splice, zgr, zgs, zgt, Option.isSome_some, Option.isSome_none, List.getElem?_nil, Nat.zero_lt_succ, Nat.lt_add_one, zgu, zgv, rLen, rBin, rInt, rStr, rUn, zgw, zgx, zgy, zgz, zha, rBox, zhb, zhc, zhd, zhe, zhf, zhg, zhh, zhi, zhj, zhk, zhl, zhm, zhn, zho, zhp, zhq, zhr, zhs, zht, bound, addL, addT, grow, room, List.length_cons, List.length_nil, zhu, zhv, zhw, zhx, zhy, zhz, zia, zib, zic, zid, zie, zif, zig, zih, zgr, zii, zij, zik, zil, zim, zin, zio, zip, ziq, zir, zis, zit, ziu, ziv, ziw, zix, ziy, List.length_map, frOf, ziz, zja, zjb, zjc, zjd, zje, zjf, zjg, zjh, zji, zjj, zjk, zjl, zjm, zjn, zjo, zjp, zjq, zjr, zjs, zjt, Int.toNat_natCast, ti_bytes, ti_int, ti_uint, ti_u8, ti_bool, ti_string, ti_u64, ti_val, ti_a16, ti_bits, ti_op, ti_ops, ↓zls, ↓zlt, ↓zlu, ↓zlv, ↓zlw, ↓zlx, ↓zly, ↓zlz, zlu, zlv, zlw, zlx, zly, zlz, p_rVBytes, isV, Int.toNat_natCast, hvo, vBytes_len, w1, w2, hne, hid, heap_get_set, if_pos hl0]
  have w5 : (xs ++ [UInt8.ofNat (vLen v)]).length = xs.length + 1 := by simp
  rw [w5, w3]
  refine ⟨by omega, by omega, by simp; omega, ?_⟩
  have hcs : (H.set id (.buf 1 (xs.length + 1 + vLen v))).Closed := closed_set_buf hcl
  simp (disch := first | assumption | omega | (simp; done) | (simp; omega)) [zju, ↓zjv, zjw, zjx, zjy, zjz, zka, zkb, List.take_of_length_le, List.drop_append, List.take_append, endOk, wk, wk2, wk1, wkM, wkL, wkLL, ziv, zit, ziu, zkc, zkd, zke, zkf, zkg, zkh, zki, zkj, zkk, zkl, List.drop_eq_nil_of_le, zkm, zkn, zko, zkp, zkq, zkr, zks, zkt, zku, zkv, zkw, zkx, zky, zkz, zla, zlb, zlc, zjz, zld, zle, zlf, cl_s, zlg, zlh, zli, zlj, zlk, zll, zlm, zln, zlo, zlp, zlq, hcs]
  exact hl0

/-- the bytes of an element -/
def wOp (k n most : Int) (v : Nat) (s : List UInt8) : List UInt8 :=
  if k.tmod 6 = 0 then wUint n most
  else if k.tmod 6 = 1 then wUint n (IntKind.i64.wrap (1 + iand .i64 most 3))
  else if k.tmod 6 = 2 then [if iand .i64 n 1 == 1 then 1 else 0]
  else if k.tmod 6 = 3 then wBytes (s.take (min (s.length : Int) 40).toNat)
  else if k.tmod 6 = 4 then wBytes (s.take (min (s.length : Int) 40).toNat)
  else wValue v
theorem wUint_len (n w : Int) : (wUint n w).length ≤ 4 := by
  unfold wUint; split
  · rw [be_len]; omega
  · simp
theorem wOp_len {k n most : Int} {v : Nat} {s : List UInt8} (hv : v < 2 ^ 128) : (wOp k n most v s).length ≤ 100 := by
  have h1 := wUint_len n most
  have h2 := wUint_len n (IntKind.i64.wrap (1 + iand .i64 most 3))
  have h3 : (wBytes (s.take (min (s.length : Int) 40).toNat)).length ≤ 42 := by
    unfold wBytes
    rw [List.length_append, be_len, List.length_take, List.length_take]
    omega
  have h4 : (wValue v).length ≤ 17 := by have := vLen_le hv; simp [wValue, vBytes_len]; omega
  unfold wOp
  repeat' split
  all_goals first | omega | simp

def e_write : List AV → AHeap → (AEnd → AHeap → Prop) → Prop
  | [.slice _ 1 la, .slice (.own id) 1 lb, .agg [.int .i64 k, .int .i64 n, .int .i64 most, .int .u64 hi, .int .u64 lo, .slice _ 1 s]], H, K =>
      (isV hi lo ∧ isB la ∧ isB lb ∧ isB s ∧ la.length ≤ 100000 ∧ lb.length ≤ 100000 ∧ H.get id = some (.buf 1 lb.length)) ∧
      K (.ret (.tup [.slice .any 1 (bys (unb la ++ wOp k n most (vOf hi.toNat lo.toNat) (unb s))), .slice (.own id) 1 (bys (unb lb ++ wOp k n most (vOf hi.toNat lo.toNat) (unb s)))]))
        (H.set id (.buf 1 (lb.length + (wOp k n most (vOf hi.toNat lo.toNat) (unb s)).length)))
  | _, _, _ => False

theorem ok_write : EntOk Try.prog 8 (Ent.effect e_write) := by
  refine EntOk.effect fun args H K h => ?_
  unfold e_write at h
  split at h
  rotate_left
  · exact h.elim
  rename_i ma la id lb k n most hi lo ms s
  obtain ⟨⟨⟨h0, h1, h2, h3⟩, ca, cb, cs, hla, hlb, hid⟩, hK⟩ := h
  refine ⟨_, _, hK, ?_⟩
  obtain ⟨x, rfl⟩ := u64_lift h0
  obtain ⟨y, rfl⟩ := u64_lift h2
  obtain ⟨xa, rfl⟩ := isB_out ca
  obtain ⟨xb, rfl⟩ := isB_out cb
  obtain ⟨xs, rfl⟩ := isB_out cs
  clear hK h0 h2 ca cb cs
  simp only [zjo, ziz] at *
  rw [Int.toNat_natCast, Int.toNat_natCast]
  have hx : x < 2 ^ 64 := by omega
  have hy : y < 2 ^ 64 := by omega
  have hl0 := AHeap.get_lt hid
  have hne := far_of hl0
  refine ACalls.of_aw (Ω := [(10, Ent.pure p_AppendUint), (31, Ent.effect e_rUint), (11, Ent.pure p_AppendBool), (32, Ent.effect e_rBool), (13, Ent.pure p_AppendBytes), (33, Ent.effect e_rBytes), (34, Ent.pure p_AppendText), (35, Ent.effect e_rText), (12, Ent.pure p_AppendValue), (36, Ent.effect e_rValue)]) (T := assoc []) mixed (TblOk.cons ok_AppendUint (TblOk.cons ok_rUint (TblOk.cons ok_AppendBool (TblOk.cons ok_rBool (TblOk.cons ok_AppendBytes (TblOk.cons ok_rBytes (TblOk.cons ok_AppendText (TblOk.cons ok_rText (TblOk.cons ok_AppendValue (TblOk.cons ok_rValue TblOk.nil)))))))))) Try.func8 (by kernel_rfl) (by rfl) (rs := [.tmp 6,.tmp 7]) (by rfl) (by kernel_rfl) (by simp only [Try.ntmps8, List.length_cons, List.length_nil]; decide) (Nat.le_refl _) fun hcl hlt => ?_
  change aw _ _ _ (KI Try.prog [(10, Ent.pure p_AppendUint), (31, Ent.effect e_rUint), (11, Ent.pure p_AppendBool), (32, Ent.effect e_rBool), (13, Ent.pure p_AppendBytes), (33, Ent.effect e_rBytes), (34, Ent.pure p_AppendText), (35, Ent.effect e_rText), (12, Ent.pure p_AppendValue), (36, Ent.effect e_rValue)] (aEnd Try.prog [.tmp 6,.tmp 7] H.nx _ _) []) _ _
  clear hlt
  have hv := vOf_lt hx hy
  generalize hvo : vOf x y = v at hv ⊢
  have hlen := @wOp_len k n most v xs hv
  simp only [↓zaa, ↓zab, ↓zac, ↓zad, ↓zae, ↓zaf, ↓zag, ↓zah, ↓zai, ↓zaj, ↓zak, ↓zal, ↓zam, ↓zan, ↓KI_r, ↓KI_p, ↓zao, zap, zaq, zar, ↓zas, ↓zat, ↓zau, ↓zav, ↓zaw, ↓zax, ↓zay, ↓zaz, ↓zba, ↓zbb, ↓zbc, ↓zbd, ↓zbe, ↓zbf, ↓zbg, ↓zbh, ↓zbi, ↓zbj, ↓zbk, ↓zbl, zbm, zbn, zbo, zbp, ↓zbq, ↓zbr, ↓zbs, ↓zbt, ↓zbu, ↓zbv, ↓zbw, ↓zbx, ↓zby, ↓zbz, ↓zca, ↓zcb, ↓zcc, ↓zcd, ↓zce, ↓zcf, ↓zcg, ↓zch, ↓zci, ↓zcj, ↓zck, ↓zcl, ↓zcm, ↓zcn, ↓zco, ↓zcp, ↓zcq, ↓zcr, ↓zcs, ↓zct, ↓zcu, ↓zcv, ↓zcw, ↓zcx, ↓zcy, ↓zcz, ↓zda, ↓zdb, ↓zdc, ↓zdd, ↓zde, ↓zdf, ↓zdg, ↓zdh, ↓zdi, ↓zdj, ↓zdk, zdl, zdm, zdn, zdo, zdp, zdq, KI_T, zdr, zds, zdt, zdu, ↓zdv, ↓zdw, zdx, zdy, zdz, zea, zeb, i_mk, zec, zed, i_nx, zee, zef, zeg, zeh, zei, zej, zek, List.tail_nil, List.tail_cons, List.headD_nil, List.headD_cons, zel, ↓zem, ↓zen, zeo, zep, zeq, zer, zes, zet, ↓zeu, ↓zev, ↓zew, zex, zey, zez, zfa, zfb, ↓zfc, ↓zfd, zfe, zff, zfg, zfh, zfi, ↓zfj, ↓zfk, ↓zfl, ↓zfm, ↓zfn, ↓zfo, ↓zfp, ↓zfq, ↓zfr, ↓zfs, ↓zft, ↓zfu, ne_eq, reduceCtorEq, not_false_eq_true, Nat.reduceEqDiff, Nat.reduceAdd, Nat.reduceMul, Nat.reduceSub, Nat.reduceLeDiff, Nat.reduceLT, Nat.mul_one, Nat.one_mul, Nat.zero_mul, Nat.zero_add, Nat.add_zero, zfv, zfw, zfx, zfy, zfz, zga, zgb, zgc, zgd, zge, zgf, zgg, zgh, zgi, zgj, zgk, Bool.and_true, Bool.and_self, Int.reduceMul, Int.reduceAdd, Int.reduceSub, Nat.left_eq_add, Nat.add_eq_left, Nat.add_right_cancel_iff, Nat.add_left_cancel_iff, Nat.succ_ne_self, Nat.one_ne_zero, List.map_cons, List.map_nil, Option.map_some, Option.map_none, Option.elim_some, if_true, if_false, true_and, and_true, true_or, or_true, false_or, or_false, Bool.false_eq_true, Bool.true_eq_false, Bool.not_true, Bool.not_false, List.append_nil, List.nil_append, rEq, List.cons_append, Int.reduceToNat, nn_2, nm_2, nn_3, nm_3, nn_4, nm_4, nn_5, nm_5, nn_6, nm_6, nn_7, nm_7, nn_8, nm_8, nn_9, nm_9, zgl, zgm, zgn, zgo, zgp, zgq, List.getElem?_cons_zero, List.getElem?_cons_succ, TD.agg, List.drop_succ_cons, List.drop_zero, List.take_succ_cons, List.take_zero, List.take_nil, List.drop_nil, List.getD_cons_zero, List.getD_cons_succ, splice, zgr, zgs, zgt, Option.isSome_some, Option.isSome_none, List.getElem?_nil, Nat.zero_lt_succ, Nat.lt_add_one, zgu, zgv, rLen, rBin, rInt, rStr, rUn, zgw, zgx, zgy, zgz, zha, rBox, zhb, zhc, zhd, zhe, zhf, zhg, zhh, zhi, zhj, zhk, zhl, zhm, zhn, zho, zhp, zhq, zhr, zhs, zht, bound, addL, addT, grow, room, List.length_cons, List.length_nil, zhu, zhv, zhw, zhx, zhy, zhz, zia, zib, zic, zid, zie, zif, zig, zih, zgr, zii, zij, zik, zil, zim, zin, zio, zip, ziq, zir, zis, zit, ziu, ziv, ziw, zix, ziy, List.length_map, frOf, ziz, zja, zjb, zjc, zjd, zje, zjf, zjg, zjh, zji, zjj, zjk, zjl, zjm, zjn, zjo, zjp, zjq, zjr, zjs, zjt, Int.toNat_natCast, ti_bytes, ti_int, ti_uint, ti_u8, ti_bool, ti_string, ti_u64, ti_val, ti_a16, ti_bits, ti_op, ti_ops, ↓zls, ↓zlt, ↓zlu, ↓zlv, ↓zlw, ↓zlx, ↓zly, ↓zlz, zlu, zlv, zlw, zlx, zly, zlz, p_AppendUint, e_rUint, p_AppendBool, e_rBool, p_AppendBytes, e_rBytes, p_AppendText, e_rText, p_AppendValue, e_rValue, hne, hid, heap_get_set, if_pos hl0, isV, Int.toNat_natCast, hvo, List.drop_zero]
  have hcs : ∀ q, (H.set id (.buf 1 q)).Closed := fun q => closed_set_buf hcl
  have fin : ∀ (o : AObj) (w : List UInt8), wOp k n most v xs = w → endOk ((((H.set id (AObj.buf 1 (xb.length + w.length))).push o).push (AObj.buf 1 0)).push (AObj.buf 1 0))
      (AV.tup [AV.slice Mark.any 1 (bys (xa ++ w)), AV.slice (Mark.own id) 1 (bys (xb ++ w))]) (H.set id (AObj.buf 1 (xb.length + (wOp k n most v xs).length)))
      (AV.tup [AV.slice Mark.any 1 (bys (xa ++ wOp k n most v xs)), AV.slice (Mark.own id) 1 (bys (xb ++ wOp k n most v xs))]) := by
    rintro o w rfl
    simp (disch := first | assumption | omega | (simp; done) | (simp; omega)) [zju, ↓zjv, zjw, zjx, zjy, zjz, zka, zkb, List.take_of_length_le, List.drop_append, List.take_append, endOk, wk, wk2, wk1, wkM, wkL, wkLL, ziv, zit, ziu, zkc, zkd, zke, zkf, zkg, zkh, zki, zkj, zkk, zkl, List.drop_eq_nil_of_le, zkm, zkn, zko, zkp, zkq, zkr, zks, zkt, zku, zkv, zkw, zkx, zky, zkz, zla, zlb, zlc, zjz, zld, zle, zlf, cl_s, zlg, zlh, zli, zlj, zlk, zll, zlm, zln, zlo, zlp, zlq, hcs]
    exact hl0
  refine ⟨by omega, by decide, both_split (fun c0 => ?_) fun c0 => both_split (fun c1 => ?_) fun c1 => both_split (fun c2 => ?_) fun c2 => both_split (fun c3 => ?_) fun c3 => both_split (fun c4 => ?_) fun c4 => ?_⟩
  all_goals simp only [beq_iff_eq, beq_eq_false_iff_ne, ne_eq] at c0
  all_goals try simp only [beq_iff_eq, beq_eq_false_iff_ne, ne_eq] at c1
  all_goals try simp only [beq_iff_eq, beq_eq_false_iff_ne, ne_eq] at c2
  all_goals try simp only [beq_iff_eq, beq_eq_false_iff_ne, ne_eq] at c3
  all_goals try simp only [beq_iff_eq, beq_eq_false_iff_ne, ne_eq] at c4
  · have e : wOp k n most v xs = wUint n most := by unfold wOp; rw [if_pos c0]
    exact ⟨by omega, by omega, .inr (by omega), fin _ _ e⟩
  · have e : wOp k n most v xs = wUint n (IntKind.i64.wrap (1 + iand IntKind.i64 most 3)) := by unfold wOp; rw [if_neg c0, if_pos c1]
    exact ⟨by omega, by omega, .inr (by omega), fin _ _ e⟩
  · have e : wOp k n most v xs = [if iand .i64 n 1 == 1 then 1 else 0] := by unfold wOp; rw [if_neg c0, if_neg c1, if_pos c2]
    exact ⟨by omega, by omega, .inr (by omega), fin _ _ e⟩
  · have e : wOp k n most v xs = wBytes (xs.take (min (xs.length : Int) 40).toNat) := by unfold wOp; rw [if_neg c0, if_neg c1, if_neg c2, if_pos c3]
    exact ⟨by omega, by omega, fin _ _ e⟩
  · have e : wOp k n most v xs = wBytes (xs.take (min (xs.length : Int) 40).toNat) := by unfold wOp; rw [if_neg c0, if_neg c1, if_neg c2, if_neg c3, if_pos c4]
    have hl : (xs.take (min (xs.length : Int) 40).toNat).length ≤ 40 := by rw [List.length_take]; omega
    exact ⟨⟨by omega, by omega⟩, ⟨by omega, by omega, fin _ _ e⟩⟩
  · have e : wOp k n most v xs = wValue v := by unfold wOp; rw [if_neg c0, if_neg c1, if_neg c2, if_neg c3, if_neg c4]
    exact ⟨by omega, by omega, .inr (by omega), fin _ _ e⟩

def p_begun : List AV → AHeap → (AV → Prop) → Prop
  | [], _, K => K (.bool true)
  | _, _, _ => False

theorem ok_begun : EntOk Try.prog 9 (Ent.pure p_begun) := by
  refine EntOk.pure fun args H K h => ?_
  unfold p_begun at h
  split at h
  rotate_left
  · exact h.elim
  refine ⟨_, h, ?_⟩
  refine ACalls.of_aw (Ω := [(12, Ent.pure p_AppendValue)]) (T := assoc []) mixed (TblOk.cons ok_AppendValue TblOk.nil) Try.func9 (by kernel_rfl) (by rfl) (rs := [.tmp 0]) (by rfl) (by kernel_rfl) (by simp only [Try.ntmps9, List.length_cons, List.length_nil]; decide) (Nat.le_refl _) fun hcl hlt => ?_
  change aw _ _ _ (KI Try.prog [(12, Ent.pure p_AppendValue)] (aEnd Try.prog [.tmp 0] H.nx _ _) []) _ _
  clear hlt h
  have e : (bys ([] ++ wValue (vOf (Int.toNat 0) (Int.toNat 256)))).map byteOf = [2, 1, 0] := by decide +kernel
  have e2 : wValue (vOf 0 256) = [2, 1, 0] := by decide +kernel
  simp only [↓zaa, ↓zab, ↓zac, ↓zad, ↓zae, ↓zaf, ↓zag, ↓zah, ↓zai, ↓zaj, ↓zak, ↓zal, ↓zam, ↓zan, ↓KI_r, ↓KI_p, ↓zao, zap, zaq, zar, ↓zas, ↓zat, ↓zau, ↓zav, ↓zaw, ↓zax, ↓zay, ↓zaz, ↓zba, ↓zbb, ↓zbc, ↓zbd, ↓zbe, ↓zbf, ↓zbg, ↓zbh, ↓zbi, ↓zbj, ↓zbk, ↓zbl, zbm, zbn, zbo, zbp, ↓zbq, ↓zbr, ↓zbs, ↓zbt, ↓zbu, ↓zbv, ↓zbw, ↓zbx, ↓zby, ↓zbz, ↓zca, ↓zcb, ↓zcc, ↓zcd, ↓zce, ↓zcf, ↓zcg, ↓zch, ↓zci, ↓zcj, ↓zck, ↓zcl, ↓zcm, ↓zcn, ↓zco, ↓zcp, ↓zcq, ↓zcr, ↓zcs, ↓zct, ↓zcu, ↓zcv, ↓zcw, ↓zcx, ↓zcy, ↓zcz, ↓zda, ↓zdb, ↓zdc, ↓zdd, ↓zde, ↓zdf, ↓zdg, ↓zdh, ↓zdi, ↓zdj, ↓zdk, zdl, zdm, zdn, zdo, zdp, zdq, KI_T, zdr, zds, zdt, zdu, ↓zdv, ↓zdw, zdx, zdy, zdz, zea, zeb, i_mk, zec, zed, i_nx, zee, zef, zeg, zeh, zei, zej, zek, List.tail_nil, List.tail_cons, List.headD_nil, List.headD_cons, zel, ↓zem, ↓zen, zeo, zep, zeq, zer, zes, zet, ↓zeu, ↓zev, ↓zew, zex, zey, zez, zfa, zfb, ↓zfc, ↓zfd, zfe, zff, zfg, zfh, zfi, ↓zfj, ↓zfk, ↓zfl, ↓zfm, ↓zfn, ↓zfo, ↓zfp, ↓zfq, ↓zfr, ↓zfs, ↓zft, ↓zfu, ne_eq, reduceCtorEq, not_false_eq_true, Nat.reduceEqDiff, Nat.reduceAdd, Nat.reduceMul, Nat.reduceSub, Nat.reduceLeDiff, Nat.reduceLT, Nat.mul_one, Nat.one_mul, Nat.zero_mul, Nat.zero_add, Nat.add_zero, zfv, zfw, zfx, zfy, zfz, zga, zgb, zgc, zgd, zge, zgf, zgg, zgh, zgi, zgj, zgk, Bool.and_true, Bool.and_self, Int.reduceMul, Int.reduceAdd, Int.reduceSub, Nat.left_eq_add, Nat.add_eq_left, Nat.add_right_cancel_iff, Nat.add_left_cancel_iff, Nat.succ_ne_self, Nat.one_ne_zero, List.map_cons, List.map_nil, Option.map_some, Option.map_none, Option.elim_some, if_true, if_false, true_and, and_true, true_or, or_true, false_or, or_false, Bool.false_eq_true, Bool.true_eq_false, Bool.not_true, Bool.not_false, List.append_nil, List.nil_append, rEq, List.cons_append, Int.reduceToNat, nn_2, nm_2, nn_3, nm_3, nn_4, nm_4, nn_5, nm_5, nn_6, nm_6, nn_7, nm_7, nn_8, nm_8, nn_9, nm_9, zgl, zgm, zgn, zgo, zgp, zgq, List.getElem?_cons_zero, List.getElem?_cons_succ, TD.agg, List.drop_succ_cons, List.drop_zero, List.take_succ_cons, List.take_zero, List.take_nil, List.drop_nil, List.getD_cons_zero, List.getD_cons_succ, splice, zgr, zgs, zgt, Option.isSome_some, Option.isSome_none, List.getElem?_nil, Nat.zero_lt_succ, Nat.lt_add_one, zgu, zgv, rLen, rBin, rInt, rStr, rUn, zgw, zgx, zgy, zgz, zha, rBox, zhb, zhc, zhd, zhe, zhf, zhg, zhh, zhi, zhj, zhk, zhl, zhm, zhn, zho, zhp, zhq, zhr, zhs, zht, bound, addL, addT, grow, room, List.length_cons, List.length_nil, zhu, zhv, zhw, zhx, zhy, zhz, zia, zib, zic, zid, zie, zif, zig, zih, zgr, zii, zij, zik, zil, zim, zin, zio, zip, ziq, zir, zis, zit, ziu, ziv, ziw, zix, ziy, List.length_map, frOf, ziz, zja, zjb, zjc, zjd, zje, zjf, zjg, zjh, zji, zjj, zjk, zjl, zjm, zjn, zjo, zjp, zjq, zjr, zjs, zjt, Int.toNat_natCast, ti_bytes, ti_int, ti_uint, ti_u8, ti_bool, ti_string, ti_u64, ti_val, ti_a16, ti_bits, ti_op, ti_ops, ↓zls, ↓zlt, ↓zlu, ↓zlv, ↓zlw, ↓zlx, ↓zly, ↓zlz, zlu, zlv, zlw, zlx, zly, zlz, p_AppendValue, isV, e2]
  refine ⟨by decide, ?_⟩
  simp (disch := first | assumption | omega | (simp; done) | (simp; omega)) [zju, ↓zjv, zjw, zjx, zjy, zjz, zka, zkb, List.take_of_length_le, List.drop_append, List.take_append, endOk, wk, wk2, wk1, wkM, wkL, wkLL, ziv, zit, ziu, zkc, zkd, zke, zkf, zkg, zkh, zki, zkj, zkk, zkl, List.drop_eq_nil_of_le, zkm, zkn, zko, zkp, zkq, zkr, zks, zkt, zku, zkv, zkw, zkx, zky, zkz, zla, zlb, zlc, zjz, zld, zle, zlf, cl_s, zlg, zlh, zli, zlj, zlk, zll, zlm, zln, zlo, zlp, zlq, hcl]

/-- an element as the program has it -/
def opB (x : AV) : List UInt8 :=
  match x with
  | .agg [.int .i64 k, .int .i64 n, .int .i64 most, .int .u64 hi, .int .u64 lo, .slice _ 1 s] => wOp k n most (vOf hi.toNat lo.toNat) (unb s)
  | _ => []
def isOp (x : AV) : Prop := ∃ k n most hi lo s, x = .agg [.int .i64 k, .int .i64 n, .int .i64 most, .int .u64 hi, .int .u64 lo, .slice .any 1 s] ∧ isV hi lo ∧ isB s
def opsB (l : List AV) : List UInt8 := l.flatMap opB
theorem opsB_step (l : List AV) (k : Nat) (h : k < l.length) : opsB (l.take (k + 1)) = opsB (l.take k) ++ opB (l.getD k .junk) := by
  unfold opsB
  rw [List.take_succ_eq_append_getElem h, List.flatMap_append]
  simp [List.getD_eq_getElem?_getD, h]
theorem opsB_len (l : List AV) (hl : ∀ x ∈ l, isOp x) : ∀ k, (opsB (l.take k)).length ≤ 100 * k
  | 0 => by simp [opsB]
  | k + 1 => by
    have ih := opsB_len l hl k
    by_cases h : k < l.length
    · rw [opsB_step l k h, List.length_append]
      have hx : l.getD k .junk ∈ l := by simp [List.getD_eq_getElem?_getD, h]
      obtain ⟨a, n, most, hi, lo, s, e, hv, _⟩ := hl _ hx
      rw [e]
      have := @wOp_len a n most (vOf hi.toNat lo.toNat) (unb s) (vOf_lt (by have := hv.2.1; have := hv.1; omega) (by have := hv.2.2.2; have := hv.2.2.1; omega))
      simp only [opB]
      omega
    · rw [List.take_of_length_le (by omega)] at ih ⊢
      omega

def p_WireWrites : List AV → AHeap → (AV → Prop) → Prop
  | [.slice _ 6 l], _, K => (∀ x ∈ l, isOp x) ∧ K (.bool true)
  | _, _, _ => False

theorem ok_WireWrites : EntOk Try.prog 3 (Ent.pure p_WireWrites) := by
  refine EntOk.pure fun args H K h => ?_
  unfold p_WireWrites at h
  split at h
  rotate_left
  · exact h.elim
  rename_i m l
  obtain ⟨hl, hK⟩ := h
  refine ⟨_, hK, ?_⟩
  refine ACalls.of_aw (Ω := [(8, Ent.effect e_write), (9, Ent.pure p_begun)]) (T := assoc []) mixed (TblOk.cons ok_write (TblOk.cons ok_begun TblOk.nil)) Try.func3 (by kernel_rfl) (by rfl) (rs := [.tmp 2]) (by rfl) (by kernel_rfl) (by simp only [Try.ntmps3, List.length_cons, List.length_nil]; decide) (Nat.le_refl _) fun hcl hlt => ?_
  change aw _ _ _ (KI Try.prog [(8, Ent.effect e_write), (9, Ent.pure p_begun)] (aEnd Try.prog [.tmp 2] H.nx _ _) []) _ _
  have hltl : ∀ n', H.nx ≤ n' → (AV.slice .any 6 (l.take (min (l.length : Int) 20).toNat)).lt n' := fun n' hn => lt_sub (hlt (AV.slice m 6 l) (by simp)) (fun x hx => List.mem_of_mem_take hx) hn
  clear hlt hK
  have hn20 : (min (l.length : Int) 20).toNat ≤ 20 := by omega
  have hn0 : (l.take (min (l.length : Int) 20).toNat).length = (min (l.length : Int) 20).toNat := by rw [List.length_take]; omega
  have hl0 : ∀ x ∈ l.take (min (l.length : Int) 20).toNat, isOp x := fun x hx => hl x (List.mem_of_mem_take hx)
  simp only [↓zaa, ↓zab, ↓zac, ↓zad, ↓zae, ↓zaf, ↓zag, ↓zah, ↓zai, ↓zaj, ↓zak, ↓zal, ↓zam, ↓zan, ↓KI_r, ↓KI_p, ↓zao, zap, zaq, ↓zas, ↓zat, ↓zau, ↓zav, ↓zaw, ↓zax, ↓zay, ↓zaz, ↓zba, ↓zbb, ↓zbc, ↓zbd, ↓zbe, ↓zbf, ↓zbg, ↓zbh, ↓zbi, ↓zbj, ↓zbk, ↓zbl, zbm, zbn, zbo, zbp, ↓zbq, ↓zbr, ↓zbs, ↓zbt, ↓zbu, ↓zbv, ↓zbw, ↓zbx, ↓zby, ↓zbz, ↓zca, ↓zcb, ↓zcc, ↓zcd, ↓zce, ↓zcf, ↓zcg, ↓zch, ↓zci, ↓zcj, ↓zck, ↓zcl, ↓zcm, ↓zcn, ↓zco, ↓zcp, ↓zcq, ↓zcr, ↓zcs, ↓zct, ↓zcu, ↓zcv, ↓zcw, ↓zcx, ↓zcy, ↓zcz, ↓zda, ↓zdb, ↓zdc, ↓zdd, ↓zde, ↓zdf, ↓zdg, ↓zdh, ↓zdi, ↓zdj, ↓zdk, zdl, zdm, zdn, zdo, zdp, zdq, KI_T, zdr, zds, zdt, zdu, ↓zdv, ↓zdw, zdx, zdy, zdz, zea, zeb, i_mk, zec, zed, i_nx, zee, zef, zeg, zeh, zei, zej, zek, List.tail_nil, List.tail_cons, List.headD_nil, List.headD_cons, zel, ↓zem, ↓zen, zeo, zep, zeq, zer, zes, zet, ↓zeu, ↓zev, ↓zew, zex, zey, zez, zfa, zfb, ↓zfc, ↓zfd, zfe, zff, zfg, zfh, zfi, ↓zfj, ↓zfk, ↓zfl, ↓zfm, ↓zfn, ↓zfo, ↓zfp, ↓zfq, ↓zfr, ↓zfs, ↓zft, ↓zfu, ne_eq, reduceCtorEq, not_false_eq_true, Nat.reduceEqDiff, Nat.reduceAdd, Nat.reduceMul, Nat.reduceSub, Nat.reduceLeDiff, Nat.reduceLT, Nat.mul_one, Nat.one_mul, Nat.zero_mul, Nat.zero_add, Nat.add_zero, zfv, zfw, zfx, zfy, zfz, zga, zgb, zgc, zgd, zge, zgf, zgg, zgh, zgi, zgj, zgk, Bool.and_true, Bool.and_self, Int.reduceMul, Int.reduceAdd, Int.reduceSub, Nat.left_eq_add, Nat.add_eq_left, Nat.add_right_cancel_iff, Nat.add_left_cancel_iff, Nat.succ_ne_self, Nat.one_ne_zero, List.map_cons, List.map_nil, Option.map_some, Option.map_none, Option.elim_some, if_true, if_false, true_and, and_true, true_or, or_true, false_or, or_false, Bool.false_eq_true, Bool.true_eq_false, Bool.not_true, Bool.not_false, List.append_nil, List.nil_append, rEq, List.cons_append, Int.reduceToNat, nn_2, nm_2, nn_3, nm_3, nn_4, nm_4, nn_5, nm_5, nn_6, nm_6, nn_7, nm_7, nn_8, nm_8, nn_9, nm_9, zgl, zgm, zgn, zgo, zgp, zgq, List.getElem?_cons_zero, List.getElem?_cons_succ, TD.agg, List.drop_succ_cons, List.drop_zero, List.take_succ_cons, List.take_zero, List.take_nil, List.drop_nil, List.getD_cons_zero, List.getD_cons_succ, splice, zgr, zgs, zgt, Option.isSome_some, Option.isSome_none, List.getElem?_nil, Nat.zero_lt_succ, Nat.lt_add_one, zgu, zgv, rLen, rBin, rInt, rStr, rUn, zgw, zgx, zgy, zgz, zha, rBox, zhb, zhc, zhd, zhe, zhf, zhg, zhh, zhi, zhj, zhk, zhl, zhm, zhn, zho, zhp, zhq, zhr, zhs, zht, bound, addL, addT, grow, room, List.length_cons, List.length_nil, zhu, zhv, zhw, zhx, zhy, zhz, zia, zib, zic, zid, zie, zif, zig, zih, zgr, zii, zij, zik, zil, zim, zin, zio, zip, ziq, zir, zis, zit, ziu, ziv, ziw, zix, ziy, List.length_map, frOf, ziz, zja, zjb, zjc, zjd, zje, zjf, zjg, zjh, zji, zjj, zjk, zjl, zjm, zjn, zjo, zjp, zjq, zjr, zjs, zjt, Int.toNat_natCast, ti_bytes, ti_int, ti_uint, ti_u8, ti_bool, ti_string, ti_u64, ti_val, ti_a16, ti_bits, ti_op, ti_ops, ↓zls, ↓zlt, ↓zlu, ↓zlv, ↓zlw, ↓zlx, ↓zly, ↓zlz, zlu, zlv, zlw, zlx, zly, zlz, hn0, List.drop_zero]
  generalize l.take (min (l.length : Int) 20).toNat = l0 at *
  generalize (min (l.length : Int) 20).toNat = n0 at *
  refine ⟨by omega, ?_⟩
  refine loop_intro (A := Nat × Mark) (fun a => [(13, .int .i64 (a.1 : Int)), (12, .int .i64 (n0 : Int)), (11, .slice .any 6 l0), (3, .slice a.2 1 (bys (opsB (l0.take a.1)))), (4, .slice (.own (H.nx + 1)) 1 (bys (opsB (l0.take a.1))))])
    (fun a => (H.push (.buf 1 0)).push (.buf 1 (opsB (l0.take a.1)).length)) (fun a => a.1 ≤ n0 ∧ (a.2 = .any ∨ a.2 = .own H.nx)) (fun a => n0 - a.1) (0, .own H.nx) ⟨by omega, .inr rfl⟩ ?_ fun a hk => ?_
  · simp only [zlr, enter, subF, ltF, zft, zfu, zik, ne_eq, Nat.reduceEqDiff, not_false_eq_true, reduceCtorEq, true_and, and_true, List.take_zero, opsB, List.flatMap_nil, zja, List.length_nil, true_or, and_true]
    all_goals rfl
  obtain ⟨k, m'⟩ := a
  obtain ⟨hk, hm⟩ := hk
  dsimp only at hk hm ⊢
  simp only [↓zaa, ↓zab, ↓zac, ↓zad, ↓zae, ↓zaf, ↓zag, ↓zah, ↓zai, ↓zaj, ↓zak, ↓zal, ↓zam, ↓zan, ↓KI_r, ↓KI_p, ↓zao, zap, zaq, ↓zas, ↓zat, ↓zau, ↓zav, ↓zaw, ↓zax, ↓zay, ↓zaz, ↓zba, ↓zbb, ↓zbc, ↓zbd, ↓zbe, ↓zbf, ↓zbg, ↓zbh, ↓zbi, ↓zbj, ↓zbk, ↓zbl, zbm, zbn, zbo, zbp, ↓zbq, ↓zbr, ↓zbs, ↓zbt, ↓zbu, ↓zbv, ↓zbw, ↓zbx, ↓zby, ↓zbz, ↓zca, ↓zcb, ↓zcc, ↓zcd, ↓zce, ↓zcf, ↓zcg, ↓zch, ↓zci, ↓zcj, ↓zck, ↓zcl, ↓zcm, ↓zcn, ↓zco, ↓zcp, ↓zcq, ↓zcr, ↓zcs, ↓zct, ↓zcu, ↓zcv, ↓zcw, ↓zcx, ↓zcy, ↓zcz, ↓zda, ↓zdb, ↓zdc, ↓zdd, ↓zde, ↓zdf, ↓zdg, ↓zdh, ↓zdi, ↓zdj, ↓zdk, zdl, zdm, zdn, zdo, zdp, zdq, KI_T, zdr, zds, zdt, zdu, ↓zdv, ↓zdw, zdx, zdy, zdz, zea, zeb, i_mk, zec, zed, i_nx, zee, zef, zeg, zeh, zei, zej, zek, List.tail_nil, List.tail_cons, List.headD_nil, List.headD_cons, zel, ↓zem, ↓zen, zeo, zep, zeq, zer, zes, zet, ↓zeu, ↓zev, ↓zew, zex, zey, zez, zfa, zfb, ↓zfc, ↓zfd, zfe, zff, zfg, zfh, zfi, ↓zfj, ↓zfk, ↓zfl, ↓zfm, ↓zfn, ↓zfo, ↓zfp, ↓zfq, ↓zfr, ↓zfs, ↓zft, ↓zfu, ne_eq, reduceCtorEq, not_false_eq_true, Nat.reduceEqDiff, Nat.reduceAdd, Nat.reduceMul, Nat.reduceSub, Nat.reduceLeDiff, Nat.reduceLT, Nat.mul_one, Nat.one_mul, Nat.zero_mul, Nat.zero_add, Nat.add_zero, zfv, zfw, zfx, zfy, zfz, zga, zgb, zgc, zgd, zge, zgf, zgg, zgh, zgi, zgj, zgk, Bool.and_true, Bool.and_self, Int.reduceMul, Int.reduceAdd, Int.reduceSub, Nat.left_eq_add, Nat.add_eq_left, Nat.add_right_cancel_iff, Nat.add_left_cancel_iff, Nat.succ_ne_self, Nat.one_ne_zero, List.map_cons, List.map_nil, Option.map_some, Option.map_none, Option.elim_some, if_true, if_false, true_and, and_true, true_or, or_true, false_or, or_false, Bool.false_eq_true, Bool.true_eq_false, Bool.not_true, Bool.not_false, List.append_nil, List.nil_append, rEq, List.cons_append, Int.reduceToNat, nn_2, nm_2, nn_3, nm_3, nn_4, nm_4, nn_5, nm_5, nn_6, nm_6, nn_7, nm_7, nn_8, nm_8, nn_9, nm_9, zgl, zgm, zgn, zgo, zgp, zgq, List.getElem?_cons_zero, List.getElem?_cons_succ, TD.agg, List.drop_succ_cons, List.drop_zero, List.take_succ_cons, List.take_zero, List.take_nil, List.drop_nil, List.getD_cons_zero, List.getD_cons_succ, splice, zgr, zgs, zgt, Option.isSome_some, Option.isSome_none, List.getElem?_nil, Nat.zero_lt_succ, Nat.lt_add_one, zgu, zgv, rLen, rBin, rInt, rStr, rUn, zgw, zgx, zgy, zgz, zha, rBox, zhb, zhc, zhd, zhe, zhf, zhg, zhh, zhi, zhj, zhk, zhl, zhm, zhn, zho, zhp, zhq, zhr, zhs, zht, bound, addL, addT, grow, room, List.length_cons, List.length_nil, zhu, zhv, zhw, zhx, zhy, zhz, zia, zib, zic, zid, zie, zif, zig, zih, zgr, zii, zij, zik, zil, zim, zin, zio, zip, ziq, zir, zis, zit, ziu, ziv, ziw, zix, ziy, List.length_map, frOf, ziz, zja, zjb, zjc, zjd, zje, zjf, zjg, zjh, zji, zjj, zjk, zjl, zjm, zjn, zjo, zjp, zjq, zjr, zjs, zjt, Int.toNat_natCast, ti_bytes, ti_int, ti_uint, ti_u8, ti_bool, ti_string, ti_u64, ti_val, ti_a16, ti_bits, ti_op, ti_ops, ↓zls, ↓zlt, ↓zlu, ↓zlv, ↓zlw, ↓zlx, ↓zly, ↓zlz, zlu, zlv, zlw, zlx, zly, zlz]
  refine cond_split (fun hc => ?_) (fun hc => ?_)
  · have hk : k < n0 := by simp at hc; omega
    have e1 : IntKind.i64.wrap ((k : Int) + 1) = ((k + 1 : Nat) : Int) := by rw [wrap_i64] <;> omega
    have hx : l0.getD k .junk ∈ l0 := by simp [List.getD_eq_getElem?_getD, hn0, hk]
    obtain ⟨ka, n, most, hi, lo, s, ex, hv, hs⟩ := hl0 _ hx
    have hst := opsB_step l0 k (by omega)
    rw [ex] at hst
    simp only [opB] at hst
    have hlen := opsB_len l0 hl0 k
    have hlen2 := opsB_len l0 hl0 (k + 1)
    have hst2 : (opsB (l0.take k)).length + (wOp ka n most (vOf hi.toNat lo.toNat) (unb s)).length = (opsB (l0.take (k + 1))).length := by rw [hst, List.length_append]
    simp only [↓zaa, ↓zab, ↓zac, ↓zad, ↓zae, ↓zaf, ↓zag, ↓zah, ↓zai, ↓zaj, ↓zak, ↓zal, ↓zam, ↓zan, ↓KI_r, ↓KI_p, ↓zao, zap, zaq, ↓zas, ↓zat, ↓zau, ↓zav, ↓zaw, ↓zax, ↓zay, ↓zaz, ↓zba, ↓zbb, ↓zbc, ↓zbd, ↓zbe, ↓zbf, ↓zbg, ↓zbh, ↓zbi, ↓zbj, ↓zbk, ↓zbl, zbm, zbn, zbo, zbp, ↓zbq, ↓zbr, ↓zbs, ↓zbt, ↓zbu, ↓zbv, ↓zbw, ↓zbx, ↓zby, ↓zbz, ↓zca, ↓zcb, ↓zcc, ↓zcd, ↓zce, ↓zcf, ↓zcg, ↓zch, ↓zci, ↓zcj, ↓zck, ↓zcl, ↓zcm, ↓zcn, ↓zco, ↓zcp, ↓zcq, ↓zcr, ↓zcs, ↓zct, ↓zcu, ↓zcv, ↓zcw, ↓zcx, ↓zcy, ↓zcz, ↓zda, ↓zdb, ↓zdc, ↓zdd, ↓zde, ↓zdf, ↓zdg, ↓zdh, ↓zdi, ↓zdj, ↓zdk, zdl, zdm, zdn, zdo, zdp, zdq, KI_T, zdr, zds, zdt, zdu, ↓zdv, ↓zdw, zdx, zdy, zdz, zea, zeb, i_mk, zec, zed, i_nx, zee, zef, zeg, zeh, zei, zej, zek, List.tail_nil, List.tail_cons, List.headD_nil, List.headD_cons, zel, ↓zem, ↓zen, zeo, zep, zeq, zer, zes, zet, ↓zeu, ↓zev, ↓zew, zex, zey, zez, zfa, zfb, ↓zfc, ↓zfd, zfe, zff, zfg, zfh, zfi, ↓zfj, ↓zfk, ↓zfl, ↓zfm, ↓zfn, ↓zfo, ↓zfp, ↓zfq, ↓zfr, ↓zfs, ↓zft, ↓zfu, ne_eq, reduceCtorEq, not_false_eq_true, Nat.reduceEqDiff, Nat.reduceAdd, Nat.reduceMul, Nat.reduceSub, Nat.reduceLeDiff, Nat.reduceLT, Nat.mul_one, Nat.one_mul, Nat.zero_mul, Nat.zero_add, Nat.add_zero, zfv, zfw, zfx, zfy, zfz, zga, zgb, zgc, zgd, zge, zgf, zgg, zgh, zgi, zgj, zgk, Bool.and_true, Bool.and_self, Int.reduceMul, Int.reduceAdd, Int.reduceSub, Nat.left_eq_add, Nat.add_eq_left, Nat.add_right_cancel_iff, Nat.add_left_cancel_iff, Nat.succ_ne_self, Nat.one_ne_zero, List.map_cons, List.map_nil, Option.map_some, Option.map_none, Option.elim_some, if_true, if_false, true_and, and_true, true_or, or_true, false_or, or_false, Bool.false_eq_true, Bool.true_eq_false, Bool.not_true, Bool.not_false, List.append_nil, List.nil_append, rEq, List.cons_append, Int.reduceToNat, nn_2, nm_2, nn_3, nm_3, nn_4, nm_4, nn_5, nm_5, nn_6, nm_6, nn_7, nm_7, nn_8, nm_8, nn_9, nm_9, zgl, zgm, zgn, zgo, zgp, zgq, List.getElem?_cons_zero, List.getElem?_cons_succ, TD.agg, List.drop_succ_cons, List.drop_zero, List.take_succ_cons, List.take_zero, List.take_nil, List.drop_nil, List.getD_cons_zero, List.getD_cons_succ, splice, zgr, zgs, zgt, Option.isSome_some, Option.isSome_none, List.getElem?_nil, Nat.zero_lt_succ, Nat.lt_add_one, zgu, zgv, rLen, rBin, rInt, rStr, rUn, zgw, zgx, zgy, zgz, zha, rBox, zhb, zhc, zhd, zhe, zhf, zhg, zhh, zhi, zhj, zhk, zhl, zhm, zhn, zho, zhp, zhq, zhr, zhs, zht, bound, addL, addT, grow, room, List.length_cons, List.length_nil, zhu, zhv, zhw, zhx, zhy, zhz, zia, zib, zic, zid, zie, zif, zig, zih, zgr, zii, zij, zik, zil, zim, zin, zio, zip, ziq, zir, zis, zit, ziu, ziv, ziw, zix, ziy, List.length_map, frOf, ziz, zja, zjb, zjc, zjd, zje, zjf, zjg, zjh, zji, zjj, zjk, zjl, zjm, zjn, zjo, zjp, zjq, zjr, zjs, zjt, Int.toNat_natCast, ti_bytes, ti_int, ti_uint, ti_u8, ti_bool, ti_string, ti_u64, ti_val, ti_a16, ti_bits, ti_op, ti_ops, ↓zls, ↓zlt, ↓zlu, ↓zlv, ↓zlw, ↓zlx, ↓zly, ↓zlz, zlu, zlv, zlw, zlx, zly, zlz, Int.toNat_natCast, ex, e_write, hn0, e1, hv, hs, ← hst, beq_self_eq_true, hst2]
    refine ⟨by omega, by omega, (k + 1, .any), ⟨by omega, .inl rfl⟩, by dsimp only; omega, ?_⟩
    simp only [zlr, enter, subF, ltF, zft, zfu, zik, ne_eq, Nat.reduceEqDiff, not_false_eq_true, reduceCtorEq, true_and, and_true]
    refine .inr ?_
    have hcs : ∀ q, ((H.push (.buf 1 0)).push (.buf 1 q)).Closed := fun q => closed_buf (closed_buf hcl)
    simp (disch := first | assumption | omega | (simp; done) | (simp; omega)) [zju, ↓zjv, zjw, zjx, zjy, zjz, zka, zkb, List.take_of_length_le, List.drop_append, List.take_append, endOk, wk, wk2, wk1, wkM, wkL, wkLL, ziv, zit, ziu, zkc, zkd, zke, zkf, zkg, zkh, zki, zkj, zkk, zkl, List.drop_eq_nil_of_le, zkm, zkn, zko, zkp, zkq, zkr, zks, zkt, zku, zkv, zkw, zkx, zky, zkz, zla, zlb, zlc, zjz, zld, zle, zlf, cl_s, zlg, zlh, zli, zlj, zlk, zll, zlm, zln, zlo, zlp, zlq, hcs]
    exact ⟨by omega, hltl _ (by omega)⟩
  · simp only [↓zaa, ↓zab, ↓zac, ↓zad, ↓zae, ↓zaf, ↓zag, ↓zah, ↓zai, ↓zaj, ↓zak, ↓zal, ↓zam, ↓zan, ↓KI_r, ↓KI_p, ↓zao, zap, zaq, ↓zas, ↓zat, ↓zau, ↓zav, ↓zaw, ↓zax, ↓zay, ↓zaz, ↓zba, ↓zbb, ↓zbc, ↓zbd, ↓zbe, ↓zbf, ↓zbg, ↓zbh, ↓zbi, ↓zbj, ↓zbk, ↓zbl, zbm, zbn, zbo, zbp, ↓zbq, ↓zbr, ↓zbs, ↓zbt, ↓zbu, ↓zbv, ↓zbw, ↓zbx, ↓zby, ↓zbz, ↓zca, ↓zcb, ↓zcc, ↓zcd, ↓zce, ↓zcf, ↓zcg, ↓zch, ↓zci, ↓zcj, ↓zck, ↓zcl, ↓zcm, ↓zcn, ↓zco, ↓zcp, ↓zcq, ↓zcr, ↓zcs, ↓zct, ↓zcu, ↓zcv, ↓zcw, ↓zcx, ↓zcy, ↓zcz, ↓zda, ↓zdb, ↓zdc, ↓zdd, ↓zde, ↓zdf, ↓zdg, ↓zdh, ↓zdi, ↓zdj, ↓zdk, zdl, zdm, zdn, zdo, zdp, zdq, KI_T, zdr, zds, zdt, zdu, ↓zdv, ↓zdw, zdx, zdy, zdz, zea, zeb, i_mk, zec, zed, i_nx, zee, zef, zeg, zeh, zei, zej, zek, List.tail_nil, List.tail_cons, List.headD_nil, List.headD_cons, zel, ↓zem, ↓zen, zeo, zep, zeq, zer, zes, zet, ↓zeu, ↓zev, ↓zew, zex, zey, zez, zfa, zfb, ↓zfc, ↓zfd, zfe, zff, zfg, zfh, zfi, ↓zfj, ↓zfk, ↓zfl, ↓zfm, ↓zfn, ↓zfo, ↓zfp, ↓zfq, ↓zfr, ↓zfs, ↓zft, ↓zfu, ne_eq, reduceCtorEq, not_false_eq_true, Nat.reduceEqDiff, Nat.reduceAdd, Nat.reduceMul, Nat.reduceSub, Nat.reduceLeDiff, Nat.reduceLT, Nat.mul_one, Nat.one_mul, Nat.zero_mul, Nat.zero_add, Nat.add_zero, zfv, zfw, zfx, zfy, zfz, zga, zgb, zgc, zgd, zge, zgf, zgg, zgh, zgi, zgj, zgk, Bool.and_true, Bool.and_self, Int.reduceMul, Int.reduceAdd, Int.reduceSub, Nat.left_eq_add, Nat.add_eq_left, Nat.add_right_cancel_iff, Nat.add_left_cancel_iff, Nat.succ_ne_self, Nat.one_ne_zero, List.map_cons, List.map_nil, Option.map_some, Option.map_none, Option.elim_some, if_true, if_false, true_and, and_true, true_or, or_true, false_or, or_false, Bool.false_eq_true, Bool.true_eq_false, Bool.not_true, Bool.not_false, List.append_nil, List.nil_append, rEq, List.cons_append, Int.reduceToNat, nn_2, nm_2, nn_3, nm_3, nn_4, nm_4, nn_5, nm_5, nn_6, nm_6, nn_7, nm_7, nn_8, nm_8, nn_9, nm_9, zgl, zgm, zgn, zgo, zgp, zgq, List.getElem?_cons_zero, List.getElem?_cons_succ, TD.agg, List.drop_succ_cons, List.drop_zero, List.take_succ_cons, List.take_zero, List.take_nil, List.drop_nil, List.getD_cons_zero, List.getD_cons_succ, splice, zgr, zgs, zgt, Option.isSome_some, Option.isSome_none, List.getElem?_nil, Nat.zero_lt_succ, Nat.lt_add_one, zgu, zgv, rLen, rBin, rInt, rStr, rUn, zgw, zgx, zgy, zgz, zha, rBox, zhb, zhc, zhd, zhe, zhf, zhg, zhh, zhi, zhj, zhk, zhl, zhm, zhn, zho, zhp, zhq, zhr, zhs, zht, bound, addL, addT, grow, room, List.length_cons, List.length_nil, zhu, zhv, zhw, zhx, zhy, zhz, zia, zib, zic, zid, zie, zif, zig, zih, zgr, zii, zij, zik, zil, zim, zin, zio, zip, ziq, zir, zis, zit, ziu, ziv, ziw, zix, ziy, List.length_map, frOf, ziz, zja, zjb, zjc, zjd, zje, zjf, zjg, zjh, zji, zjj, zjk, zjl, zjm, zjn, zjo, zjp, zjq, zjr, zjs, zjt, Int.toNat_natCast, ti_bytes, ti_int, ti_uint, ti_u8, ti_bool, ti_string, ti_u64, ti_val, ti_a16, ti_bits, ti_op, ti_ops, ↓zls, ↓zlt, ↓zlu, ↓zlv, ↓zlw, ↓zlx, ↓zly, ↓zlz, zlu, zlv, zlw, zlx, zly, zlz, p_begun]
    simp (disch := first | assumption | omega | (simp; done) | (simp; omega)) [zju, ↓zjv, zjw, zjx, zjy, zjz, zka, zkb, List.take_of_length_le, List.drop_append, List.take_append, endOk, wk, wk2, wk1, wkM, wkL, wkLL, ziv, zit, ziu, zkc, zkd, zke, zkf, zkg, zkh, zki, zkj, zkk, zkl, List.drop_eq_nil_of_le, zkm, zkn, zko, zkp, zkq, zkr, zks, zkt, zku, zkv, zkw, zkx, zky, zkz, zla, zlb, zlc, zjz, zld, zle, zlf, cl_s, zlg, zlh, zli, zlj, zlk, zll, zlm, zln, zlo, zlp, zlq, hcl]
end Go.AL
