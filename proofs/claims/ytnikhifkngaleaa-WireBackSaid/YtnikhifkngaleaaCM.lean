/- Contracts and plain laws, a part of the proof; no condition of its own. -/
import Derived.Test.YtnikhifkngaleaaCL
import Derived.Test.YtnikhifkngaleaaLBack
open Go Go.AL Go.Proofs
namespace Go.AL
set_option linter.all false
set_option maxRecDepth 10000

theorem be_nat (m w : Nat) (hm : m < 2 ^ 63) (hw : w ≤ 8) : be (m : Int) w = beN m w := by
  unfold be beHead beN
  rw [Nat.sub_zero]
  refine List.map_congr_left fun i hi => ?_
  have hi := List.mem_range.1 hi
  unfold byteAt ishr
  have e : ((2 : Int) ^ min (8 * ((w - 1 - i : Nat) : Int)).toNat IntKind.i64.bits) = ((2 ^ (8 * (w - 1 - i)) : Nat) : Int) := by
    have h1 : (8 * ((w - 1 - i : Nat) : Int)).toNat = 8 * (w - 1 - i) := by omega
    have h2 : min (8 * (w - 1 - i)) IntKind.i64.bits = 8 * (w - 1 - i) := Nat.min_eq_left (by simp [IntKind.bits]; omega)
    rw [h1, h2]; push_cast; rfl
  rw [e, Int.fdiv_eq_ediv_of_nonneg _ (Int.natCast_nonneg _), ← Int.natCast_ediv, ← Nat.shiftRight_eq_div_pow]
  generalize m >>> (8 * (w - 1 - i)) = q
  rw [UInt8.ofNat_eq_iff_mod_eq_toNat, UInt8.toNat_ofNat']
  omega
theorem iand_low (n : Int) (k : Nat) (hk : k < 2 ^ 63) : ∃ m : Nat, iand .i64 n (k : Int) = (m : Int) ∧ m ≤ k := by
  refine ⟨(BitVec.ofInt 64 n &&& BitVec.ofInt 64 (k : Int)).toNat, ?_, ?_⟩
  · show IntKind.wrap .i64 (((BitVec.ofInt 64 n &&& BitVec.ofInt 64 (k : Int)).toNat : Nat) : Int) = _
    have : (BitVec.ofInt 64 n &&& BitVec.ofInt 64 (k : Int)).toNat ≤ k := by
      rw [BitVec.toNat_and, ofInt63 k hk]; exact Nat.and_le_right
    exact wrap_i64_nat _ (by omega)
  · rw [BitVec.toNat_and, ofInt63 k hk]; exact Nat.and_le_right
theorem uintR_back (m w : Nat) (r : List UInt8) (h1 : 1 ≤ w) (h4 : w ≤ 4) (hm : m < 256 ^ w) : uintR (.any, be (m : Int) w ++ r, 0) (w : Int) = ((m : Int), .any, r, 0) := by
  have h63 : m < 2 ^ 63 := Nat.lt_of_lt_of_le hm (Nat.le_trans (Nat.pow_le_pow_right (by decide) h4) (by decide))
  rw [be_nat m w h63 (by omega)]
  have hl := beN_len m w
  unfold uintR
  dsimp only
  rw [if_neg (by simp), if_neg (by omega), if_neg (by simp; omega), Int.toNat_natCast, List.take_append_of_le_length (by omega), List.take_of_length_le (by omega), beVal_beN, Nat.mod_eq_of_lt hm, List.drop_append_of_le_length (by omega), List.drop_of_length_le (by omega)]
  rfl
theorem boolR_back (b : Bool) (r : List UInt8) : boolR (.any, [if b then 1 else 0] ++ r, 0) = (b, .any, r, 0) := by
  cases b <;> simp [boolR, b0]
theorem valueR_back (v : Nat) (r : List UInt8) (h : v < 2 ^ 128) : valueR (.any, wValue v ++ r, 0) = (v, .any, r, 0) := by
  have h16 := vLen_le h
  have h1 := vLen_pos v
  have hl := vBytes_len v
  have hb : (b0 (wValue v ++ r)).toNat = vLen v := by
    show (UInt8.ofNat (vLen v)).toNat = vLen v
    rw [UInt8.toNat_ofNat']; exact Nat.mod_eq_of_lt (by omega)
  have hd : ((wValue v ++ r).take (1 + vLen v)).drop 1 = vBytes v := by
    show ((UInt8.ofNat (vLen v) :: (vBytes v ++ r)).take (1 + vLen v)).drop 1 = _
    rw [Nat.add_comm, List.take_succ_cons, List.drop_succ_cons, List.drop_zero, List.take_append_of_le_length (by omega), List.take_of_length_le (by omega)]
  have hr : (wValue v ++ r).drop (1 + vLen v) = r := by
    show (UInt8.ofNat (vLen v) :: (vBytes v ++ r)).drop (1 + vLen v) = _
    rw [Nat.add_comm, List.drop_succ_cons, List.drop_append_of_le_length (by omega), List.drop_of_length_le (by omega)]; rfl
  have hlen : (wValue v ++ r).length = 1 + vLen v + r.length := by simp [wValue, hl]; omega
  unfold valueR
  dsimp only
  rw [if_neg (by simp), if_neg (by omega), hb, if_neg (by omega), if_neg (by omega), hd, parse_vBytes h, if_neg (by simp), hr]
theorem bytesR_back (s r : List UInt8) (hs : s.length ≤ 40) : bytesR (.any, wBytes s ++ r, 0) 40 = (s, .any, r, 0) := by
  have hw : wBytes s = be ((s.length : Nat) : Int) 2 ++ s := by
    unfold wBytes
    have h1 : min (s.length : Int) 65535 = (s.length : Int) := by omega
    rw [h1, Int.toNat_natCast, List.take_length]
  have hl := be_len (s.length : Int) 2
  have ht : ((be ((s.length : Nat) : Int) 2 ++ s) ++ r).take 2 = beN s.length 2 := by
    rw [List.append_assoc, List.take_append_of_le_length (by omega), List.take_of_length_le (by omega), be_nat _ _ (by omega) (by omega)]
  have hv : beVal (beN s.length 2) = s.length := by rw [beVal_beN]; exact Nat.mod_eq_of_lt (by omega)
  have hlen : ((be ((s.length : Nat) : Int) 2 ++ s) ++ r).length = 2 + s.length + r.length := by simp [be_len]; omega
  unfold bytesR
  dsimp only
  rw [hw, if_neg (by simp), if_neg (by omega), ht, hv, if_neg (by omega), if_neg (by omega)]
  have h1 : (be ((s.length : Nat) : Int) 2 ++ s).length = 2 + s.length := by simp [be_len]
  rw [List.take_append_of_le_length (by omega), List.take_of_length_le (by omega), List.drop_append_of_le_length (by omega), List.drop_of_length_le (l := be _ _) (by omega), List.nil_append, List.drop_append_of_le_length (by omega), List.drop_of_length_le (l := be _ _ ++ s) (by omega), List.nil_append]

/-- what WireBack writes for an element -/
def opW (x : AV) : List UInt8 :=
  match x with
  | .agg [.int .i64 _, .int .i64 n, .int .i64 _, .int .u64 hi, .int .u64 lo, .slice _ 1 s] =>
    be (iand .i64 n 255) 1 ++ (be (iand .i64 n 65535) 2 ++ (be (iand .i64 n 4294967295) 4 ++ ([if (iand .i64 n 1 == 1) = true then 1 else 0] ++ (wValue (vOf hi.toNat lo.toNat) ++ wBytes ((unb s).take (min ((unb s).length : Int) 40).toNat)))))
  | _ => []
def accW (l : List AV) : List UInt8 := l.flatMap opW
theorem opW_len (x : AV) (hx : isOp x) : (opW x).length ≤ 70 := by
  obtain ⟨a, n, most, hi, lo, s, rfl, hv, _⟩ := hx
  have hvl := vLen_le (vOf_lt (hi := hi.toNat) (lo := lo.toNat) (by have := hv.2.1; have := hv.1; omega) (by have := hv.2.2.2; have := hv.2.2.1; omega))
  simp only [opW, List.length_append, be_len, List.length_singleton, wValue, List.length_cons, List.length_nil, vBytes_len, wBytes, List.length_take]
  omega
theorem accW_take (l : List AV) (k : Nat) (h : k < l.length) : accW (l.take (k + 1)) = accW (l.take k) ++ opW (l.getD k .junk) := by
  unfold accW
  rw [List.take_succ_eq_append_getElem h, List.flatMap_append]
  simp [List.getD_eq_getElem?_getD, h]
theorem accW_drop (l : List AV) (k : Nat) (h : k < l.length) : accW (l.drop k) = opW (l.getD k .junk) ++ accW (l.drop (k + 1)) := by
  unfold accW
  rw [List.drop_eq_getElem_cons h, List.flatMap_cons]
  simp [List.getD_eq_getElem?_getD, h]
theorem accW_len (l : List AV) (hl : ∀ x ∈ l, isOp x) : (accW l).length ≤ 70 * l.length := by
  induction l with
  | nil => simp [accW]
  | cons a t ih =>
    have h1 := opW_len a (hl a (by simp))
    have h2 := ih fun x hx => hl x (by simp [hx])
    have : accW (a :: t) = opW a ++ accW t := by simp [accW]
    rw [this, List.length_append, List.length_cons]; omega

def p_WireBack : List AV → AHeap → (AV → Prop) → Prop
  | [.slice _ 6 l], _, K => (∀ x ∈ l, isOp x) ∧ K (.bool true)
  | _, _, _ => False

set_option maxHeartbeats 4000000 in
theorem ok_WireBack : EntOk Try.prog 4 (Ent.pure p_WireBack) := by
  refine EntOk.pure fun args H K h => ?_
  unfold p_WireBack at h
  split at h
  rotate_left
  · exact h.elim
  rename_i m l
  obtain ⟨hl, hK⟩ := h
  refine ⟨_, hK, ?_⟩
  refine ACalls.of_aw (Ω := [(10, Ent.pure p_AppendUint), (11, Ent.pure p_AppendBool), (12, Ent.pure p_AppendValue), (13, Ent.pure p_AppendBytes), (14, Ent.effect e_New), (15, Ent.effect e_Uint), (16, Ent.effect e_RBool), (17, Ent.effect e_RValue), (18, Ent.effect e_RBytes), (19, Ent.effect e_RFinishE), (20, Ent.effect e_RLeftE), (9, Ent.pure p_begun)]) mixed (TblOk.cons ok_AppendUint (TblOk.cons ok_AppendBool (TblOk.cons ok_AppendValue (TblOk.cons ok_AppendBytes (TblOk.cons ok_New (TblOk.cons ok_Uint (TblOk.cons ok_RBool (TblOk.cons ok_RValue (TblOk.cons ok_RBytes (TblOk.cons ok_RFinishE (TblOk.cons ok_RLeftE (TblOk.cons ok_begun TblOk.nil)))))))))))) Try.func4 (by kernel_rfl) (by rfl) (rs := [.tmp 2]) (by rfl) (by kernel_rfl) (by simp only [Try.ntmps4, List.length_cons, List.length_nil]; decide) (Nat.le_refl _) fun hcl hlt => ?_
  change aw _ _ _ (KI Try.prog [(10, Ent.pure p_AppendUint), (11, Ent.pure p_AppendBool), (12, Ent.pure p_AppendValue), (13, Ent.pure p_AppendBytes), (14, Ent.effect e_New), (15, Ent.effect e_Uint), (16, Ent.effect e_RBool), (17, Ent.effect e_RValue), (18, Ent.effect e_RBytes), (19, Ent.effect e_RFinishE), (20, Ent.effect e_RLeftE), (9, Ent.pure p_begun)] (aEnd Try.prog [.tmp 2] H.nx _ _) []) _ _
  have hltl : ∀ n', H.nx ≤ n' → (AV.slice .any 6 (l.take (min (l.length : Int) 20).toNat)).lt n' := fun n' hn => lt_sub (hlt (AV.slice m 6 l) (by simp)) (fun x hx => List.mem_of_mem_take hx) hn
  clear hlt hK
  have hn20 : (min (l.length : Int) 20).toNat ≤ 20 := by omega
  have hn0 : (l.take (min (l.length : Int) 20).toNat).length = (min (l.length : Int) 20).toNat := by rw [List.length_take]; omega
  have hl0 : ∀ x ∈ l.take (min (l.length : Int) 20).toNat, isOp x := fun x hx => hl x (List.mem_of_mem_take hx)
  simp only [↓zaa, ↓zab, ↓zac, ↓zad, ↓zae, ↓zaf, ↓zag, ↓zah, ↓zai, ↓zaj, ↓zak, ↓zal, ↓zam, ↓zan, ↓KI_r, ↓KI_p, ↓zao, zap, zaq, ↓zas, ↓zat, ↓zau, ↓zav, ↓zaw, ↓zax, ↓zay, ↓zaz, ↓zba, ↓zbb, ↓zbc, ↓zbd, ↓zbe, ↓zbf, ↓zbg, ↓zbh, ↓zbi, ↓zbj, ↓zbk, ↓zbl, zbm, zbn, zbo, zbp, ↓zbq, ↓zbr, ↓zbs, ↓zbt, ↓zbu, ↓zbv, ↓zbw, ↓zbx, ↓zby, ↓zbz, ↓zca, ↓zcb, ↓zcc, ↓zcd, ↓zce, ↓zcf, ↓zcg, ↓zch, ↓zci, ↓zcj, ↓zck, ↓zcl, ↓zcm, ↓zcn, ↓zco, ↓zcp, ↓zcq, ↓zcr, ↓zcs, ↓zct, ↓zcu, ↓zcv, ↓zcw, ↓zcx, ↓zcy, ↓zcz, ↓zda, ↓zdb, ↓zdc, ↓zdd, ↓zde, ↓zdf, ↓zdg, ↓zdh, ↓zdi, ↓zdj, ↓zdk, zdl, zdm, zdn, zdo, zdp, zdq, zdr, zds, zdt, zdu, zdv, ↓zdw, ↓zdx, zdy, zdz, zea, zeb, zec, zed, ↓zee, ↓zef, ↓zeg, zeh, zei, zej, zek, zel, ↓zem, ↓zen, zeo, zep, zeq, zer, zes, ↓zet, ↓zeu, ↓zev, ↓zew, ↓zex, ↓zey, ↓zez, ↓zfa, ↓zfb, ↓zfc, ↓zfd, ↓zfe, ne_eq, reduceCtorEq, not_false_eq_true, Nat.reduceEqDiff, Nat.reduceAdd, Nat.reduceMul, Nat.reduceSub, Nat.reduceLeDiff, Nat.reduceLT, Nat.mul_one, Nat.one_mul, Nat.zero_mul, Nat.zero_add, Nat.add_zero, zff, zfg, zfh, zfi, zfj, zfk, zfl, zfm, zfn, zfo, zfp, zfq, zfr, zfs, zft, zfu, Bool.and_true, Bool.and_self, Int.reduceMul, Int.reduceAdd, Int.reduceSub, Nat.left_eq_add, Nat.add_eq_left, Nat.add_right_cancel_iff, Nat.add_left_cancel_iff, Nat.succ_ne_self, Nat.one_ne_zero, List.map_cons, List.map_nil, Option.map_some, Option.map_none, Option.elim_some, if_true, if_false, true_and, and_true, true_or, or_true, false_or, or_false, Bool.false_eq_true, Bool.true_eq_false, Bool.not_true, Bool.not_false, List.append_nil, List.nil_append, rEq, List.cons_append, Int.reduceToNat, nn_2, nm_2, nn_3, nm_3, nn_4, nm_4, nn_5, nm_5, nn_6, nm_6, nn_7, nm_7, nn_8, nm_8, nn_9, nm_9, zfv, zfw, zfx, zfy, zfz, zga, List.getElem?_cons_zero, List.getElem?_cons_succ, TD.agg, List.drop_succ_cons, List.drop_zero, List.take_succ_cons, List.take_zero, List.take_nil, List.drop_nil, List.getD_cons_zero, List.getD_cons_succ, splice, zgb, zgc, zgd, Option.isSome_some, Option.isSome_none, List.getElem?_nil, Nat.zero_lt_succ, Nat.lt_add_one, zge, zgf, rLen, rBin, rInt, rStr, rUn, zgg, zgh, zgi, zgj, zgk, rBox, zgl, zgm, zgn, zgo, zgp, zgq, zgr, zgs, zgt, zgu, zgv, zgw, zgx, zgy, zgz, zha, zhb, zhc, zhd, bound, addL, addT, grow, room, List.length_cons, List.length_nil, zhe, zhf, zhg, zhh, zhi, zhj, zhk, zhl, zhm, zhn, zho, zhp, zhq, zhr, zgb, zhs, zht, zhu, zhv, zhw, zhx, zhy, zhz, zia, zib, zic, zid, zie, zif, zig, zih, zii, List.length_map, frOf, zij, zik, zil, zim, zin, zio, zip, ziq, zir, zis, zit, ziu, ziv, ziw, zix, ziy, ziz, zja, zjb, zjc, zjd, Int.toNat_natCast, ti_bytes, ti_int, ti_uint, ti_u8, ti_bool, ti_string, ti_u64, ti_val, ti_a16, ti_bits, ti_op, ti_ops, ti_reader, ti_errno, ti_preader, ti_rreader, ti_prreader, ↓zlc, ↓zld, ↓zle, ↓zlf, ↓zlg, ↓zlh, ↓zli, ↓zlj, zle, zlf, zlg, zlh, zli, zlj, hn0, List.drop_zero]
  generalize l.take (min (l.length : Int) 20).toNat = l0 at *
  generalize (min (l.length : Int) 20).toNat = n0 at *
  refine ⟨by omega, ?_⟩
  refine loop_intro (A := Nat × Mark) (fun a => [(16, .int .i64 (a.1 : Int)), (15, .int .i64 (n0 : Int)), (14, .slice .any 6 l0), (0, .slice .any 6 l0), (3, .slice a.2 1 (bys (accW (l0.take a.1))))])
    (fun a => H.push (.buf 1 0)) (fun a => a.1 ≤ n0) (fun a => n0 - a.1) (0, .own H.nx) (by omega) ?_ fun a hk => ?_
  · simp only [zlb, enter, subF, ltF, zfd, zfe, zhu, ne_eq, Nat.reduceEqDiff, not_false_eq_true, reduceCtorEq, true_and, and_true, List.take_zero, accW, List.flatMap_nil, zik, true_or, and_true]
  obtain ⟨k, m'⟩ := a
  dsimp only at hk ⊢
  simp only [↓zaa, ↓zab, ↓zac, ↓zad, ↓zae, ↓zaf, ↓zag, ↓zah, ↓zai, ↓zaj, ↓zak, ↓zal, ↓zam, ↓zan, ↓KI_r, ↓KI_p, ↓zao, zap, zaq, ↓zas, ↓zat, ↓zau, ↓zav, ↓zaw, ↓zax, ↓zay, ↓zaz, ↓zba, ↓zbb, ↓zbc, ↓zbd, ↓zbe, ↓zbf, ↓zbg, ↓zbh, ↓zbi, ↓zbj, ↓zbk, ↓zbl, zbm, zbn, zbo, zbp, ↓zbq, ↓zbr, ↓zbs, ↓zbt, ↓zbu, ↓zbv, ↓zbw, ↓zbx, ↓zby, ↓zbz, ↓zca, ↓zcb, ↓zcc, ↓zcd, ↓zce, ↓zcf, ↓zcg, ↓zch, ↓zci, ↓zcj, ↓zck, ↓zcl, ↓zcm, ↓zcn, ↓zco, ↓zcp, ↓zcq, ↓zcr, ↓zcs, ↓zct, ↓zcu, ↓zcv, ↓zcw, ↓zcx, ↓zcy, ↓zcz, ↓zda, ↓zdb, ↓zdc, ↓zdd, ↓zde, ↓zdf, ↓zdg, ↓zdh, ↓zdi, ↓zdj, ↓zdk, zdl, zdm, zdn, zdo, zdp, zdq, zdr, zds, zdt, zdu, zdv, ↓zdw, ↓zdx, zdy, zdz, zea, zeb, zec, zed, ↓zee, ↓zef, ↓zeg, zeh, zei, zej, zek, zel, ↓zem, ↓zen, zeo, zep, zeq, zer, zes, ↓zet, ↓zeu, ↓zev, ↓zew, ↓zex, ↓zey, ↓zez, ↓zfa, ↓zfb, ↓zfc, ↓zfd, ↓zfe, ne_eq, reduceCtorEq, not_false_eq_true, Nat.reduceEqDiff, Nat.reduceAdd, Nat.reduceMul, Nat.reduceSub, Nat.reduceLeDiff, Nat.reduceLT, Nat.mul_one, Nat.one_mul, Nat.zero_mul, Nat.zero_add, Nat.add_zero, zff, zfg, zfh, zfi, zfj, zfk, zfl, zfm, zfn, zfo, zfp, zfq, zfr, zfs, zft, zfu, Bool.and_true, Bool.and_self, Int.reduceMul, Int.reduceAdd, Int.reduceSub, Nat.left_eq_add, Nat.add_eq_left, Nat.add_right_cancel_iff, Nat.add_left_cancel_iff, Nat.succ_ne_self, Nat.one_ne_zero, List.map_cons, List.map_nil, Option.map_some, Option.map_none, Option.elim_some, if_true, if_false, true_and, and_true, true_or, or_true, false_or, or_false, Bool.false_eq_true, Bool.true_eq_false, Bool.not_true, Bool.not_false, List.append_nil, List.nil_append, rEq, List.cons_append, Int.reduceToNat, nn_2, nm_2, nn_3, nm_3, nn_4, nm_4, nn_5, nm_5, nn_6, nm_6, nn_7, nm_7, nn_8, nm_8, nn_9, nm_9, zfv, zfw, zfx, zfy, zfz, zga, List.getElem?_cons_zero, List.getElem?_cons_succ, TD.agg, List.drop_succ_cons, List.drop_zero, List.take_succ_cons, List.take_zero, List.take_nil, List.drop_nil, List.getD_cons_zero, List.getD_cons_succ, splice, zgb, zgc, zgd, Option.isSome_some, Option.isSome_none, List.getElem?_nil, Nat.zero_lt_succ, Nat.lt_add_one, zge, zgf, rLen, rBin, rInt, rStr, rUn, zgg, zgh, zgi, zgj, zgk, rBox, zgl, zgm, zgn, zgo, zgp, zgq, zgr, zgs, zgt, zgu, zgv, zgw, zgx, zgy, zgz, zha, zhb, zhc, zhd, bound, addL, addT, grow, room, List.length_cons, List.length_nil, zhe, zhf, zhg, zhh, zhi, zhj, zhk, zhl, zhm, zhn, zho, zhp, zhq, zhr, zgb, zhs, zht, zhu, zhv, zhw, zhx, zhy, zhz, zia, zib, zic, zid, zie, zif, zig, zih, zii, List.length_map, frOf, zij, zik, zil, zim, zin, zio, zip, ziq, zir, zis, zit, ziu, ziv, ziw, zix, ziy, ziz, zja, zjb, zjc, zjd, Int.toNat_natCast, ti_bytes, ti_int, ti_uint, ti_u8, ti_bool, ti_string, ti_u64, ti_val, ti_a16, ti_bits, ti_op, ti_ops, ti_reader, ti_errno, ti_preader, ti_rreader, ti_prreader, ↓zlc, ↓zld, ↓zle, ↓zlf, ↓zlg, ↓zlh, ↓zli, ↓zlj, zle, zlf, zlg, zlh, zli, zlj]
  refine cond_split (fun hc => ?_) (fun hc => ?_)
  · have hk : k < n0 := by simp at hc; omega
    have e1 : IntKind.i64.wrap ((k : Int) + 1) = ((k + 1 : Nat) : Int) := by rw [wrap_i64] <;> omega
    have hx : l0.getD k .junk ∈ l0 := by simp [List.getD_eq_getElem?_getD, hn0, hk]
    obtain ⟨ka, n, most, hi, lo, s, ex, hv, hs⟩ := hl0 _ hx
    have hst := accW_take l0 k (by omega)
    rw [ex] at hst
    obtain ⟨ss, rfl⟩ := isB_out hs
    simp only [opW, ziy] at hst
    have hlen := accW_len (l0.take k) fun x hx => hl0 x (List.mem_of_mem_take hx)
    have hlk : (l0.take k).length ≤ 20 := by rw [List.length_take]; omega
    have u1 : ∀ q, wUint q 1 = be q 1 := fun q => by unfold wUint; rw [if_pos (by decide)]; rfl
    have u2 : ∀ q, wUint q 2 = be q 2 := fun q => by unfold wUint; rw [if_pos (by decide)]; rfl
    have u4 : ∀ q, wUint q 4 = be q 4 := fun q => by unfold wUint; rw [if_pos (by decide)]; rfl
    simp only [↓zaa, ↓zab, ↓zac, ↓zad, ↓zae, ↓zaf, ↓zag, ↓zah, ↓zai, ↓zaj, ↓zak, ↓zal, ↓zam, ↓zan, ↓KI_r, ↓KI_p, ↓zao, zap, zaq, ↓zas, ↓zat, ↓zau, ↓zav, ↓zaw, ↓zax, ↓zay, ↓zaz, ↓zba, ↓zbb, ↓zbc, ↓zbd, ↓zbe, ↓zbf, ↓zbg, ↓zbh, ↓zbi, ↓zbj, ↓zbk, ↓zbl, zbm, zbn, zbo, zbp, ↓zbq, ↓zbr, ↓zbs, ↓zbt, ↓zbu, ↓zbv, ↓zbw, ↓zbx, ↓zby, ↓zbz, ↓zca, ↓zcb, ↓zcc, ↓zcd, ↓zce, ↓zcf, ↓zcg, ↓zch, ↓zci, ↓zcj, ↓zck, ↓zcl, ↓zcm, ↓zcn, ↓zco, ↓zcp, ↓zcq, ↓zcr, ↓zcs, ↓zct, ↓zcu, ↓zcv, ↓zcw, ↓zcx, ↓zcy, ↓zcz, ↓zda, ↓zdb, ↓zdc, ↓zdd, ↓zde, ↓zdf, ↓zdg, ↓zdh, ↓zdi, ↓zdj, ↓zdk, zdl, zdm, zdn, zdo, zdp, zdq, zdr, zds, zdt, zdu, zdv, ↓zdw, ↓zdx, zdy, zdz, zea, zeb, zec, zed, ↓zee, ↓zef, ↓zeg, zeh, zei, zej, zek, zel, ↓zem, ↓zen, zeo, zep, zeq, zer, zes, ↓zet, ↓zeu, ↓zev, ↓zew, ↓zex, ↓zey, ↓zez, ↓zfa, ↓zfb, ↓zfc, ↓zfd, ↓zfe, ne_eq, reduceCtorEq, not_false_eq_true, Nat.reduceEqDiff, Nat.reduceAdd, Nat.reduceMul, Nat.reduceSub, Nat.reduceLeDiff, Nat.reduceLT, Nat.mul_one, Nat.one_mul, Nat.zero_mul, Nat.zero_add, Nat.add_zero, zff, zfg, zfh, zfi, zfj, zfk, zfl, zfm, zfn, zfo, zfp, zfq, zfr, zfs, zft, zfu, Bool.and_true, Bool.and_self, Int.reduceMul, Int.reduceAdd, Int.reduceSub, Nat.left_eq_add, Nat.add_eq_left, Nat.add_right_cancel_iff, Nat.add_left_cancel_iff, Nat.succ_ne_self, Nat.one_ne_zero, List.map_cons, List.map_nil, Option.map_some, Option.map_none, Option.elim_some, if_true, if_false, true_and, and_true, true_or, or_true, false_or, or_false, Bool.false_eq_true, Bool.true_eq_false, Bool.not_true, Bool.not_false, List.append_nil, List.nil_append, rEq, List.cons_append, Int.reduceToNat, nn_2, nm_2, nn_3, nm_3, nn_4, nm_4, nn_5, nm_5, nn_6, nm_6, nn_7, nm_7, nn_8, nm_8, nn_9, nm_9, zfv, zfw, zfx, zfy, zfz, zga, List.getElem?_cons_zero, List.getElem?_cons_succ, TD.agg, List.drop_succ_cons, List.drop_zero, List.take_succ_cons, List.take_zero, List.take_nil, List.drop_nil, List.getD_cons_zero, List.getD_cons_succ, splice, zgb, zgc, zgd, Option.isSome_some, Option.isSome_none, List.getElem?_nil, Nat.zero_lt_succ, Nat.lt_add_one, zge, zgf, rLen, rBin, rInt, rStr, rUn, zgg, zgh, zgi, zgj, zgk, rBox, zgl, zgm, zgn, zgo, zgp, zgq, zgr, zgs, zgt, zgu, zgv, zgw, zgx, zgy, zgz, zha, zhb, zhc, zhd, bound, addL, addT, grow, room, List.length_cons, List.length_nil, zhe, zhf, zhg, zhh, zhi, zhj, zhk, zhl, zhm, zhn, zho, zhp, zhq, zhr, zgb, zhs, zht, zhu, zhv, zhw, zhx, zhy, zhz, zia, zib, zic, zid, zie, zif, zig, zih, zii, List.length_map, frOf, zij, zik, zil, zim, zin, zio, zip, ziq, zir, zis, zit, ziu, ziv, ziw, zix, ziy, ziz, zja, zjb, zjc, zjd, Int.toNat_natCast, ti_bytes, ti_int, ti_uint, ti_u8, ti_bool, ti_string, ti_u64, ti_val, ti_a16, ti_bits, ti_op, ti_ops, ti_reader, ti_errno, ti_preader, ti_rreader, ti_prreader, ↓zlc, ↓zld, ↓zle, ↓zlf, ↓zlg, ↓zlh, ↓zli, ↓zlj, zle, zlf, zlg, zlh, zli, zlj, Int.toNat_natCast, ex, p_AppendUint, p_AppendBool, p_AppendValue, p_AppendBytes, hn0, e1, hv, List.drop_zero, u1, u2, u4]
    have hbd : isV hi lo := hv
    have hvl := vLen_le (vOf_lt (hi := hi.toNat) (lo := lo.toNat) (by have := hv.2.1; have := hv.1; omega) (by have := hv.2.2.2; have := hv.2.2.1; omega))
    have ea : accW (l0.take k) ++ be (iand IntKind.i64 n 255) 1 ++ be (iand IntKind.i64 n 65535) 2 ++ be (iand IntKind.i64 n 4294967295) 4 ++ [if (iand IntKind.i64 n 1 == 1) = true then 1 else 0] ++ wValue (vOf hi.toNat lo.toNat) ++ wBytes (List.take (min (ss.length : Int) 40).toNat ss) = accW (l0.take (k + 1)) := by
      rw [hst]; simp only [List.append_assoc]
    have lv : (wValue (vOf hi.toNat lo.toNat)).length = 1 + vLen (vOf hi.toNat lo.toNat) := by simp [wValue, vBytes_len]; omega
    simp only [ea, List.length_append, be_len, List.length_singleton, lv]
    refine ⟨by omega, by omega, by omega, by omega, by omega, by omega, by omega, by omega, (k + 1, .any), by dsimp only; omega, by dsimp only; omega, ?_⟩
    simp only [zlb, enter, subF, ltF, zfd, zfe, zhu, ne_eq, Nat.reduceEqDiff, not_false_eq_true, reduceCtorEq, true_and, and_true]
    refine .inr ?_
    have hcs : (H.push (.buf 1 0)).Closed := closed_buf hcl
    simp (disch := first | assumption | omega | (simp; done) | (simp; omega)) [zje, ↓zjf, zjg, zjh, zji, zjj, zjk, zjl, List.take_of_length_le, List.drop_append, List.take_append, endOk, wk, wk2, wk1, wkM, wkL, wkLL, zif, zid, zie, zjm, zjn, zjo, zjp, zjq, zjr, zjs, zjt, zju, zjv, List.drop_eq_nil_of_le, zjw, zjx, zjy, zjz, zka, zkb, zkc, zkd, zke, zkf, zkg, zkh, zki, zkj, zkk, zkl, zkm, zjj, zkn, zko, zkp, cl_s, zkq, zkr, zks, zkt, zku, zkv, zkw, zkx, zky, zkz, zla, hcs]
    exact hltl _ (by omega)
  · have hk : k = n0 := by simp at hc; omega
    subst hk
    have et : l0.take l0.length = l0 := List.take_length
    have hl20 : l0.length ≤ 20 := by omega
    obtain rfl : l0.length = k := hn0
    have hlen := accW_len l0 hl0
    simp only [↓zaa, ↓zab, ↓zac, ↓zad, ↓zae, ↓zaf, ↓zag, ↓zah, ↓zai, ↓zaj, ↓zak, ↓zal, ↓zam, ↓zan, ↓KI_r, ↓KI_p, ↓zao, zap, zaq, ↓zas, ↓zat, ↓zau, ↓zav, ↓zaw, ↓zax, ↓zay, ↓zaz, ↓zba, ↓zbb, ↓zbc, ↓zbd, ↓zbe, ↓zbf, ↓zbg, ↓zbh, ↓zbi, ↓zbj, ↓zbk, ↓zbl, zbm, zbn, zbo, zbp, ↓zbq, ↓zbr, ↓zbs, ↓zbt, ↓zbu, ↓zbv, ↓zbw, ↓zbx, ↓zby, ↓zbz, ↓zca, ↓zcb, ↓zcc, ↓zcd, ↓zce, ↓zcf, ↓zcg, ↓zch, ↓zci, ↓zcj, ↓zck, ↓zcl, ↓zcm, ↓zcn, ↓zco, ↓zcp, ↓zcq, ↓zcr, ↓zcs, ↓zct, ↓zcu, ↓zcv, ↓zcw, ↓zcx, ↓zcy, ↓zcz, ↓zda, ↓zdb, ↓zdc, ↓zdd, ↓zde, ↓zdf, ↓zdg, ↓zdh, ↓zdi, ↓zdj, ↓zdk, zdl, zdm, zdn, zdo, zdp, zdq, zdr, zds, zdt, zdu, zdv, ↓zdw, ↓zdx, zdy, zdz, zea, zeb, zec, zed, ↓zee, ↓zef, ↓zeg, zeh, zei, zej, zek, zel, ↓zem, ↓zen, zeo, zep, zeq, zer, zes, ↓zet, ↓zeu, ↓zev, ↓zew, ↓zex, ↓zey, ↓zez, ↓zfa, ↓zfb, ↓zfc, ↓zfd, ↓zfe, ne_eq, reduceCtorEq, not_false_eq_true, Nat.reduceEqDiff, Nat.reduceAdd, Nat.reduceMul, Nat.reduceSub, Nat.reduceLeDiff, Nat.reduceLT, Nat.mul_one, Nat.one_mul, Nat.zero_mul, Nat.zero_add, Nat.add_zero, zff, zfg, zfh, zfi, zfj, zfk, zfl, zfm, zfn, zfo, zfp, zfq, zfr, zfs, zft, zfu, Bool.and_true, Bool.and_self, Int.reduceMul, Int.reduceAdd, Int.reduceSub, Nat.left_eq_add, Nat.add_eq_left, Nat.add_right_cancel_iff, Nat.add_left_cancel_iff, Nat.succ_ne_self, Nat.one_ne_zero, List.map_cons, List.map_nil, Option.map_some, Option.map_none, Option.elim_some, if_true, if_false, true_and, and_true, true_or, or_true, false_or, or_false, Bool.false_eq_true, Bool.true_eq_false, Bool.not_true, Bool.not_false, List.append_nil, List.nil_append, rEq, List.cons_append, Int.reduceToNat, nn_2, nm_2, nn_3, nm_3, nn_4, nm_4, nn_5, nm_5, nn_6, nm_6, nn_7, nm_7, nn_8, nm_8, nn_9, nm_9, zfv, zfw, zfx, zfy, zfz, zga, List.getElem?_cons_zero, List.getElem?_cons_succ, TD.agg, List.drop_succ_cons, List.drop_zero, List.take_succ_cons, List.take_zero, List.take_nil, List.drop_nil, List.getD_cons_zero, List.getD_cons_succ, splice, zgb, zgc, zgd, Option.isSome_some, Option.isSome_none, List.getElem?_nil, Nat.zero_lt_succ, Nat.lt_add_one, zge, zgf, rLen, rBin, rInt, rStr, rUn, zgg, zgh, zgi, zgj, zgk, rBox, zgl, zgm, zgn, zgo, zgp, zgq, zgr, zgs, zgt, zgu, zgv, zgw, zgx, zgy, zgz, zha, zhb, zhc, zhd, bound, addL, addT, grow, room, List.length_cons, List.length_nil, zhe, zhf, zhg, zhh, zhi, zhj, zhk, zhl, zhm, zhn, zho, zhp, zhq, zhr, zgb, zhs, zht, zhu, zhv, zhw, zhx, zhy, zhz, zia, zib, zic, zid, zie, zif, zig, zih, zii, List.length_map, frOf, zij, zik, zil, zim, zin, zio, zip, ziq, zir, zis, zit, ziu, ziv, ziw, zix, ziy, ziz, zja, zjb, zjc, zjd, Int.toNat_natCast, ti_bytes, ti_int, ti_uint, ti_u8, ti_bool, ti_string, ti_u64, ti_val, ti_a16, ti_bits, ti_op, ti_ops, ti_reader, ti_errno, ti_preader, ti_rreader, ti_prreader, ↓zlc, ↓zld, ↓zle, ↓zlf, ↓zlg, ↓zlh, ↓zli, ↓zlj, zle, zlf, zlg, zlh, zli, zlj, et, e_New]
    refine ⟨by omega, ?_⟩
    refine loop_intro (A := Nat) (fun a => [(59, .int .i64 (a : Int)), (58, .int .i64 (l0.length : Int)), (57, .slice .any 6 l0), (6, .ptr (H.nx + 1) 0)])
      (fun a => (H.push (.buf 1 0)).push (.cells [.slice .any 1 (bys (accW (l0.drop a))), .int .i64 0])) (fun a => a ≤ l0.length) (fun a => l0.length - a) 0 (by omega) ?_ fun a hk => ?_
    · simp only [zlb, enter, subF, ltF, zfd, zfe, zhu, ne_eq, Nat.reduceEqDiff, not_false_eq_true, reduceCtorEq, true_and, and_true, List.drop_zero, true_or, and_true]
    simp only [↓zaa, ↓zab, ↓zac, ↓zad, ↓zae, ↓zaf, ↓zag, ↓zah, ↓zai, ↓zaj, ↓zak, ↓zal, ↓zam, ↓zan, ↓KI_r, ↓KI_p, ↓zao, zap, zaq, ↓zas, ↓zat, ↓zau, ↓zav, ↓zaw, ↓zax, ↓zay, ↓zaz, ↓zba, ↓zbb, ↓zbc, ↓zbd, ↓zbe, ↓zbf, ↓zbg, ↓zbh, ↓zbi, ↓zbj, ↓zbk, ↓zbl, zbm, zbn, zbo, zbp, ↓zbq, ↓zbr, ↓zbs, ↓zbt, ↓zbu, ↓zbv, ↓zbw, ↓zbx, ↓zby, ↓zbz, ↓zca, ↓zcb, ↓zcc, ↓zcd, ↓zce, ↓zcf, ↓zcg, ↓zch, ↓zci, ↓zcj, ↓zck, ↓zcl, ↓zcm, ↓zcn, ↓zco, ↓zcp, ↓zcq, ↓zcr, ↓zcs, ↓zct, ↓zcu, ↓zcv, ↓zcw, ↓zcx, ↓zcy, ↓zcz, ↓zda, ↓zdb, ↓zdc, ↓zdd, ↓zde, ↓zdf, ↓zdg, ↓zdh, ↓zdi, ↓zdj, ↓zdk, zdl, zdm, zdn, zdo, zdp, zdq, zdr, zds, zdt, zdu, zdv, ↓zdw, ↓zdx, zdy, zdz, zea, zeb, zec, zed, ↓zee, ↓zef, ↓zeg, zeh, zei, zej, zek, zel, ↓zem, ↓zen, zeo, zep, zeq, zer, zes, ↓zet, ↓zeu, ↓zev, ↓zew, ↓zex, ↓zey, ↓zez, ↓zfa, ↓zfb, ↓zfc, ↓zfd, ↓zfe, ne_eq, reduceCtorEq, not_false_eq_true, Nat.reduceEqDiff, Nat.reduceAdd, Nat.reduceMul, Nat.reduceSub, Nat.reduceLeDiff, Nat.reduceLT, Nat.mul_one, Nat.one_mul, Nat.zero_mul, Nat.zero_add, Nat.add_zero, zff, zfg, zfh, zfi, zfj, zfk, zfl, zfm, zfn, zfo, zfp, zfq, zfr, zfs, zft, zfu, Bool.and_true, Bool.and_self, Int.reduceMul, Int.reduceAdd, Int.reduceSub, Nat.left_eq_add, Nat.add_eq_left, Nat.add_right_cancel_iff, Nat.add_left_cancel_iff, Nat.succ_ne_self, Nat.one_ne_zero, List.map_cons, List.map_nil, Option.map_some, Option.map_none, Option.elim_some, if_true, if_false, true_and, and_true, true_or, or_true, false_or, or_false, Bool.false_eq_true, Bool.true_eq_false, Bool.not_true, Bool.not_false, List.append_nil, List.nil_append, rEq, List.cons_append, Int.reduceToNat, nn_2, nm_2, nn_3, nm_3, nn_4, nm_4, nn_5, nm_5, nn_6, nm_6, nn_7, nm_7, nn_8, nm_8, nn_9, nm_9, zfv, zfw, zfx, zfy, zfz, zga, List.getElem?_cons_zero, List.getElem?_cons_succ, TD.agg, List.drop_succ_cons, List.drop_zero, List.take_succ_cons, List.take_zero, List.take_nil, List.drop_nil, List.getD_cons_zero, List.getD_cons_succ, splice, zgb, zgc, zgd, Option.isSome_some, Option.isSome_none, List.getElem?_nil, Nat.zero_lt_succ, Nat.lt_add_one, zge, zgf, rLen, rBin, rInt, rStr, rUn, zgg, zgh, zgi, zgj, zgk, rBox, zgl, zgm, zgn, zgo, zgp, zgq, zgr, zgs, zgt, zgu, zgv, zgw, zgx, zgy, zgz, zha, zhb, zhc, zhd, bound, addL, addT, grow, room, List.length_cons, List.length_nil, zhe, zhf, zhg, zhh, zhi, zhj, zhk, zhl, zhm, zhn, zho, zhp, zhq, zhr, zgb, zhs, zht, zhu, zhv, zhw, zhx, zhy, zhz, zia, zib, zic, zid, zie, zif, zig, zih, zii, List.length_map, frOf, zij, zik, zil, zim, zin, zio, zip, ziq, zir, zis, zit, ziu, ziv, ziw, zix, ziy, ziz, zja, zjb, zjc, zjd, Int.toNat_natCast, ti_bytes, ti_int, ti_uint, ti_u8, ti_bool, ti_string, ti_u64, ti_val, ti_a16, ti_bits, ti_op, ti_ops, ti_reader, ti_errno, ti_preader, ti_rreader, ti_prreader, ↓zlc, ↓zld, ↓zle, ↓zlf, ↓zlg, ↓zlh, ↓zli, ↓zlj, zle, zlf, zlg, zlh, zli, zlj]
    refine cond_split (fun hc => ?_) (fun hc => ?_)
    · have hk : a < l0.length := by simp at hc; omega
      have e1 : IntKind.i64.wrap ((a : Int) + 1) = ((a + 1 : Nat) : Int) := by rw [wrap_i64] <;> omega
      have hx : l0.getD a .junk ∈ l0 := by simp [List.getD_eq_getElem?_getD, hk]
      obtain ⟨ka, n, most, hi, lo, s, ex, hv, hs⟩ := hl0 _ hx
      have hst := accW_drop l0 a (by omega)
      rw [ex] at hst
      obtain ⟨ss, rfl⟩ := isB_out hs
      simp only [opW, ziy, List.append_assoc] at hst
      obtain ⟨v0, v1, v2, v3⟩ := hv
      obtain ⟨x, rfl⟩ := u64_lift v0
      obtain ⟨y, rfl⟩ := u64_lift v2
      simp only [Int.toNat_natCast] at hst
      have hx : x < 2 ^ 64 := by omega
      have hy : y < 2 ^ 64 := by omega
      have hv := vOf_lt hx hy
      have hvv : vv (vOf x y) = .agg [.int .u64 (x : Int), .int .u64 (y : Int)] := vv_vOf hy
      obtain ⟨p1, q1, r1⟩ := iand_low n 255 (by decide)
      obtain ⟨p2, q2, r2⟩ := iand_low n 65535 (by decide)
      obtain ⟨p4, q4, r4⟩ := iand_low n 4294967295 (by decide)
      have q1' : iand .i64 n 255 = (p1 : Int) := q1
      have q2' : iand .i64 n 65535 = (p2 : Int) := q2
      have q4' : iand .i64 n 4294967295 = (p4 : Int) := q4
      rw [q1', q2', q4'] at hst
      have hsl : (ss.take (min (ss.length : Int) 40).toNat).length ≤ 40 := by rw [List.length_take]; omega
      generalize hbb : (iand .i64 n 1 == 1) = bb at hst
      generalize hs' : ss.take (min (ss.length : Int) 40).toNat = s' at hst hsl
      have t1 := uintR_back p1 1 (be (p2 : Int) 2 ++ (be (p4 : Int) 4 ++ ([if bb = true then 1 else 0] ++ (wValue (vOf x y) ++ (wBytes s' ++ accW (l0.drop (a + 1))))))) (by decide) (by decide) (by omega)
      have t2 := uintR_back p2 2 (be (p4 : Int) 4 ++ ([if bb = true then 1 else 0] ++ (wValue (vOf x y) ++ (wBytes s' ++ accW (l0.drop (a + 1)))))) (by decide) (by decide) (by omega)
      have t3 := uintR_back p4 4 ([if bb = true then 1 else 0] ++ (wValue (vOf x y) ++ (wBytes s' ++ accW (l0.drop (a + 1))))) (by decide) (by decide) (by omega)
      have t4 := boolR_back bb (wValue (vOf x y) ++ (wBytes s' ++ accW (l0.drop (a + 1))))
      have t5 := valueR_back (vOf x y) (wBytes s' ++ accW (l0.drop (a + 1))) hv
      have t6 := bytesR_back s' (accW (l0.drop (a + 1))) hsl
      have hll := accW_len (l0.drop a) fun x hx => hl0 x (List.mem_of_mem_drop hx)
      have hdl : (l0.drop a).length ≤ 20 := by rw [List.length_drop]; omega
      have b0 : (accW (l0.drop a)).length ≤ 100000 := by omega
      rw [hst] at b0
      have z1 : ((1 : Nat) : Int) = 1 := rfl
      have z2 : ((2 : Nat) : Int) = 2 := rfl
      have z4 : ((4 : Nat) : Int) = 4 := rfl
      rw [z1] at t1; rw [z2] at t2; rw [z4] at t3
      generalize g6 : accW (l0.drop (a + 1)) = R6 at *
      generalize g5 : wBytes s' ++ R6 = R5 at *
      generalize g4 : wValue (vOf x y) ++ R5 = R4 at *
      generalize g3 : [if bb = true then (1 : UInt8) else 0] ++ R4 = R3 at *
      generalize g2 : be (p4 : Int) 4 ++ R3 = R2 at *
      generalize g1 : be (p2 : Int) 2 ++ R2 = R1 at *
      generalize g0 : be (p1 : Int) 1 ++ R1 = R0 at *
      have l1 : R1.length ≤ 100000 := by rw [← g0, List.length_append] at b0; omega
      have l2 : R2.length ≤ 100000 := by rw [← g1, List.length_append] at l1; omega
      have l3 : R3.length ≤ 100000 := by rw [← g2, List.length_append] at l2; omega
      have l4 : R4.length ≤ 100000 := by rw [← g3, List.length_append] at l3; omega
      have l5 : R5.length ≤ 100000 := by rw [← g4, List.length_append] at l4; omega
      have l6 : R6.length ≤ 100000 := by rw [← g5, List.length_append] at l5; omega
      simp only [↓zaa, ↓zab, ↓zac, ↓zad, ↓zae, ↓zaf, ↓zag, ↓zah, ↓zai, ↓zaj, ↓zak, ↓zal, ↓zam, ↓zan, ↓KI_r, ↓KI_p, ↓zao, zap, zaq, ↓zas, ↓zat, ↓zau, ↓zav, ↓zaw, ↓zax, ↓zay, ↓zaz, ↓zba, ↓zbb, ↓zbc, ↓zbd, ↓zbe, ↓zbf, ↓zbg, ↓zbh, ↓zbi, ↓zbj, ↓zbk, ↓zbl, zbm, zbn, zbo, zbp, ↓zbq, ↓zbr, ↓zbs, ↓zbt, ↓zbu, ↓zbv, ↓zbw, ↓zbx, ↓zby, ↓zbz, ↓zca, ↓zcb, ↓zcc, ↓zcd, ↓zce, ↓zcf, ↓zcg, ↓zch, ↓zci, ↓zcj, ↓zck, ↓zcl, ↓zcm, ↓zcn, ↓zco, ↓zcp, ↓zcq, ↓zcr, ↓zcs, ↓zct, ↓zcu, ↓zcv, ↓zcw, ↓zcx, ↓zcy, ↓zcz, ↓zda, ↓zdb, ↓zdc, ↓zdd, ↓zde, ↓zdf, ↓zdg, ↓zdh, ↓zdi, ↓zdj, ↓zdk, zdl, zdm, zdn, zdo, zdp, zdq, zdr, zds, zdt, zdu, zdv, ↓zdw, ↓zdx, zdy, zdz, zea, zeb, zec, zed, ↓zee, ↓zef, ↓zeg, zeh, zei, zej, zek, zel, ↓zem, ↓zen, zeo, zep, zeq, zer, zes, ↓zet, ↓zeu, ↓zev, ↓zew, ↓zex, ↓zey, ↓zez, ↓zfa, ↓zfb, ↓zfc, ↓zfd, ↓zfe, ne_eq, reduceCtorEq, not_false_eq_true, Nat.reduceEqDiff, Nat.reduceAdd, Nat.reduceMul, Nat.reduceSub, Nat.reduceLeDiff, Nat.reduceLT, Nat.mul_one, Nat.one_mul, Nat.zero_mul, Nat.zero_add, Nat.add_zero, zff, zfg, zfh, zfi, zfj, zfk, zfl, zfm, zfn, zfo, zfp, zfq, zfr, zfs, zft, zfu, Bool.and_true, Bool.and_self, Int.reduceMul, Int.reduceAdd, Int.reduceSub, Nat.left_eq_add, Nat.add_eq_left, Nat.add_right_cancel_iff, Nat.add_left_cancel_iff, Nat.succ_ne_self, Nat.one_ne_zero, List.map_cons, List.map_nil, Option.map_some, Option.map_none, Option.elim_some, if_true, if_false, true_and, and_true, true_or, or_true, false_or, or_false, Bool.false_eq_true, Bool.true_eq_false, Bool.not_true, Bool.not_false, List.append_nil, List.nil_append, zaq, zap, rEq, List.cons_append, Int.reduceToNat, nn_2, nm_2, nn_3, nm_3, nn_4, nm_4, nn_5, nm_5, nn_6, nm_6, nn_7, nm_7, nn_8, nm_8, nn_9, nm_9, zfv, zfw, zfx, zfy, zfz, zga, List.getElem?_cons_zero, List.getElem?_cons_succ, TD.agg, List.drop_succ_cons, List.drop_zero, List.take_succ_cons, List.take_zero, List.take_nil, List.drop_nil, List.getD_cons_zero, List.getD_cons_succ, splice, zgb, zgc, zgd, Option.isSome_some, Option.isSome_none, List.getElem?_nil, Nat.zero_lt_succ, Nat.lt_add_one, zge, zgf, rLen, rBin, rInt, rStr, rUn, zgg, zgh, zgi, zgj, zgk, rBox, zgl, zgm, zgn, zgo, zgp, zgq, zgr, zgs, zgt, zgu, zgv, zgw, zgx, zgy, zgz, zha, zhb, zhc, zhd, bound, addL, addT, grow, room, List.length_cons, List.length_nil, zhe, zhf, zhg, zhh, zhi, zhj, zhk, zhl, zhm, zhn, zho, zhp, zhq, zhr, zgb, zhs, zht, zhu, zhv, zhw, zhx, zhy, zhz, zia, zib, zic, zid, zie, zif, zig, zih, zii, List.length_map, frOf, zij, zik, zil, zim, zin, zio, zip, ziq, zir, zis, zit, ziu, ziv, ziw, zix, ziy, ziz, zja, zjb, zjc, zjd, Int.toNat_natCast, ti_bytes, ti_int, ti_uint, ti_u8, ti_bool, ti_string, ti_u64, ti_val, ti_a16, ti_bits, ti_op, ti_ops, ti_reader, ti_errno, ti_preader, ti_rreader, ti_prreader, ↓zlc, ↓zld, ↓zle, ↓zlf, ↓zlg, ↓zlh, ↓zli, ↓zlj, zle, zlf, zlg, zlh, zli, zlj, Int.toNat_natCast, ex, e_Uint, e_RBool, e_RValue, e_RBytes, e1, onR, onRo_some, onRo_nil, cellR, hst, t1, t2, t3, t4, t5, t6, hvv, teq_val, eqg_val, q1', q2', q4', hbb, hs', bne_self_eq_false, beq_self_eq_true, List.drop_zero, b0, l1, l2, l3, l4, l5, l6]
      refine ⟨by omega, by omega, a + 1, by omega, by omega, ?_⟩
      rw [g6]
      simp only [zlb, enter, subF, ltF, zfd, zfe, zhu, ne_eq, Nat.reduceEqDiff, not_false_eq_true, reduceCtorEq, true_and, and_true]
      refine .inr ?_
      have hcs : ((H.push (.buf 1 0)).push (.cells [.slice .any 1 (bys R6), .int .i64 0])).Closed := closed_cells (closed_buf hcl) (by simp [ltL, zjj, zjw])
      simp (disch := first | assumption | omega | (simp; done) | (simp; omega)) [zje, ↓zjf, zjg, zjh, zji, zjj, zjk, zjl, List.take_of_length_le, List.drop_append, List.take_append, endOk, wk, wk2, wk1, wkM, wkL, wkLL, zif, zid, zie, zjm, zjn, zjo, zjp, zjq, zjr, zjs, zjt, zju, zjv, List.drop_eq_nil_of_le, zjw, zjx, zjy, zjz, zka, zkb, zkc, zkd, zke, zkf, zkg, zkh, zki, zkj, zkk, zkl, zkm, zjj, zkn, zko, zkp, cl_s, zkq, zkr, zks, zkt, zku, zkv, zkw, zkx, zky, zkz, zla, hcs]
      exact ⟨by omega, hltl _ (by omega)⟩
    · have hk : a = l0.length := by simp at hc; omega
      subst hk
      have ed : accW (l0.drop l0.length) = [] := by rw [List.drop_length]; rfl
      have f1 : finishR (.any, [], 0) = 0 := by simp [finishR]
      have e00 : ((0 : Int) == 0) = true := rfl
      simp only [↓zaa, ↓zab, ↓zac, ↓zad, ↓zae, ↓zaf, ↓zag, ↓zah, ↓zai, ↓zaj, ↓zak, ↓zal, ↓zam, ↓zan, ↓KI_r, ↓KI_p, ↓zao, zap, zaq, ↓zas, ↓zat, ↓zau, ↓zav, ↓zaw, ↓zax, ↓zay, ↓zaz, ↓zba, ↓zbb, ↓zbc, ↓zbd, ↓zbe, ↓zbf, ↓zbg, ↓zbh, ↓zbi, ↓zbj, ↓zbk, ↓zbl, zbm, zbn, zbo, zbp, ↓zbq, ↓zbr, ↓zbs, ↓zbt, ↓zbu, ↓zbv, ↓zbw, ↓zbx, ↓zby, ↓zbz, ↓zca, ↓zcb, ↓zcc, ↓zcd, ↓zce, ↓zcf, ↓zcg, ↓zch, ↓zci, ↓zcj, ↓zck, ↓zcl, ↓zcm, ↓zcn, ↓zco, ↓zcp, ↓zcq, ↓zcr, ↓zcs, ↓zct, ↓zcu, ↓zcv, ↓zcw, ↓zcx, ↓zcy, ↓zcz, ↓zda, ↓zdb, ↓zdc, ↓zdd, ↓zde, ↓zdf, ↓zdg, ↓zdh, ↓zdi, ↓zdj, ↓zdk, zdl, zdm, zdn, zdo, zdp, zdq, zdr, zds, zdt, zdu, zdv, ↓zdw, ↓zdx, zdy, zdz, zea, zeb, zec, zed, ↓zee, ↓zef, ↓zeg, zeh, zei, zej, zek, zel, ↓zem, ↓zen, zeo, zep, zeq, zer, zes, ↓zet, ↓zeu, ↓zev, ↓zew, ↓zex, ↓zey, ↓zez, ↓zfa, ↓zfb, ↓zfc, ↓zfd, ↓zfe, ne_eq, reduceCtorEq, not_false_eq_true, Nat.reduceEqDiff, Nat.reduceAdd, Nat.reduceMul, Nat.reduceSub, Nat.reduceLeDiff, Nat.reduceLT, Nat.mul_one, Nat.one_mul, Nat.zero_mul, Nat.zero_add, Nat.add_zero, zff, zfg, zfh, zfi, zfj, zfk, zfl, zfm, zfn, zfo, zfp, zfq, zfr, zfs, zft, zfu, Bool.and_true, Bool.and_self, Int.reduceMul, Int.reduceAdd, Int.reduceSub, Nat.left_eq_add, Nat.add_eq_left, Nat.add_right_cancel_iff, Nat.add_left_cancel_iff, Nat.succ_ne_self, Nat.one_ne_zero, List.map_cons, List.map_nil, Option.map_some, Option.map_none, Option.elim_some, if_true, if_false, true_and, and_true, true_or, or_true, false_or, or_false, Bool.false_eq_true, Bool.true_eq_false, Bool.not_true, Bool.not_false, List.append_nil, List.nil_append, zaq, zap, rEq, List.cons_append, Int.reduceToNat, nn_2, nm_2, nn_3, nm_3, nn_4, nm_4, nn_5, nm_5, nn_6, nm_6, nn_7, nm_7, nn_8, nm_8, nn_9, nm_9, zfv, zfw, zfx, zfy, zfz, zga, List.getElem?_cons_zero, List.getElem?_cons_succ, TD.agg, List.drop_succ_cons, List.drop_zero, List.take_succ_cons, List.take_zero, List.take_nil, List.drop_nil, List.getD_cons_zero, List.getD_cons_succ, splice, zgb, zgc, zgd, Option.isSome_some, Option.isSome_none, List.getElem?_nil, Nat.zero_lt_succ, Nat.lt_add_one, zge, zgf, rLen, rBin, rInt, rStr, rUn, zgg, zgh, zgi, zgj, zgk, rBox, zgl, zgm, zgn, zgo, zgp, zgq, zgr, zgs, zgt, zgu, zgv, zgw, zgx, zgy, zgz, zha, zhb, zhc, zhd, bound, addL, addT, grow, room, List.length_cons, List.length_nil, zhe, zhf, zhg, zhh, zhi, zhj, zhk, zhl, zhm, zhn, zho, zhp, zhq, zhr, zgb, zhs, zht, zhu, zhv, zhw, zhx, zhy, zhz, zia, zib, zic, zid, zie, zif, zig, zih, zii, List.length_map, frOf, zij, zik, zil, zim, zin, zio, zip, ziq, zir, zis, zit, ziu, ziv, ziw, zix, ziy, ziz, zja, zjb, zjc, zjd, Int.toNat_natCast, ti_bytes, ti_int, ti_uint, ti_u8, ti_bool, ti_string, ti_u64, ti_val, ti_a16, ti_bits, ti_op, ti_ops, ti_reader, ti_errno, ti_preader, ti_rreader, ti_prreader, ↓zlc, ↓zld, ↓zle, ↓zlf, ↓zlg, ↓zlh, ↓zli, ↓zlj, zle, zlf, zlg, zlh, zli, zlj, ed, e_RFinishE, p_RFinish, e_RLeftE, p_RLeft, p_begun, onR, onRo_some, onRo_nil, f1, e00, zlb]
      simp (disch := first | assumption | omega | (simp; done) | (simp; omega)) [zje, ↓zjf, zjg, zjh, zji, zjj, zjk, zjl, List.take_of_length_le, List.drop_append, List.take_append, endOk, wk, wk2, wk1, wkM, wkL, wkLL, zif, zid, zie, zjm, zjn, zjo, zjp, zjq, zjr, zjs, zjt, zju, zjv, List.drop_eq_nil_of_le, zjw, zjx, zjy, zjz, zka, zkb, zkc, zkd, zke, zkf, zkg, zkh, zki, zkj, zkk, zkl, zkm, zjj, zkn, zko, zkp, cl_s, zkq, zkr, zks, zkt, zku, zkv, zkw, zkx, zky, zkz, zla, hcl]
end Go.AL
