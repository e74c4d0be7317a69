/- Contracts and plain laws, a part of the proof; no condition of its own. -/
import Derived.Test.YtnhghceobhdaoaaCR
open Go Go.AL Go.Proofs
namespace Go.AL
set_option linter.all false
set_option maxRecDepth 10000
theorem ti_op : ti Try.prog 48 = some ⟨.struct [(0, 3, false), (1, 3, false), (2, 3, false), (3, 46, false), (5, 22, false)], 6, 64, .agg [.int .i64 0, .int .i64 0, .int .i64 0, .int .u64 0, .int .u64 0, .slice .nil 1 []]⟩ := by kernel_rfl
theorem ti_ops : ti Try.prog 43 = some ⟨.slice 48, 1, 24, .slice .nil 1 []⟩ := by kernel_rfl

/-- the bytes of a value behind their number -/
def wValue (v : Nat) : List UInt8 := UInt8.ofNat (vLen v) :: vBytes v
theorem vBytes_len (v : Nat) : (vBytes v).length = vLen v := beN_len _ _

def p_AppendValue : List AV → AHeap → (AV → Prop) → Prop
  | [.slice _ 1 l, .agg [.int .u64 hi, .int .u64 lo]], _, K => (isV hi lo ∧ isB l ∧ l.length ≤ 140737488000000) ∧ K (.slice .any 1 (bys (unb l ++ wValue (vOf hi.toNat lo.toNat))))
  | _, _, _ => False

theorem ok_AppendValue : EntOk Try.prog 60 (Ent.pure p_AppendValue) := by
  refine EntOk.pure fun args H K h => ?_
  unfold p_AppendValue at h
  split at h
  rotate_left
  · exact h.elim
  rename_i m l hi lo
  obtain ⟨⟨⟨h0, h1, h2, h3⟩, c1, hle⟩, hK⟩ := h
  refine ⟨_, hK, ?_⟩
  obtain ⟨x, rfl⟩ := u64_lift h0
  obtain ⟨y, rfl⟩ := u64_lift h2
  obtain ⟨xs, rfl⟩ := isB_out c1
  clear hK h0 h2
  simp only [zke, zjp] at *
  rw [Int.toNat_natCast, Int.toNat_natCast]
  have hx : x < 2 ^ 64 := by omega
  have hy : y < 2 ^ 64 := by omega
  refine ACalls.of_aw (Ω := [(93, Ent.pure p_joined), (95, Ent.pure p_vBytesF)]) (T := assoc []) mixed (TblOk.cons ok_joined (TblOk.cons ok_vBytesF TblOk.nil)) Try.func60 (by kernel_rfl) (by rfl) (rs := [.tmp 4]) (by rfl) (by kernel_rfl) (by simp only [Try.ntmps60, List.length_cons, List.length_nil]; decide) (Nat.le_refl _) fun hcl hlt => ?_
  change aw _ _ _ (KI Try.prog [(93, Ent.pure p_joined), (95, Ent.pure p_vBytesF)] (aEnd Try.prog [.tmp 4] H.nx _ _) []) _ _
  clear hlt
  have hv := vOf_lt hx hy
  have hvl := vLen_le hv
  generalize hvo : vOf x y = v at hv hvl ⊢
  have w1 : IntKind.u8.wrap ((vLen v : Nat) : Int) = ((vLen v : Nat) : Int) := by rw [wrap_u8_nat]; omega
  have w2 : AV.int .u8 ((vLen v : Nat) : Int) = ofByte (UInt8.ofNat (vLen v)) := u8_ofByte (by omega)
  have w3 : UInt8.ofNat (vLen v) :: vBytes v = wValue v := rfl
  simp only [↓bwp, bwq, zav, List.tail_nil, List.tail_cons, List.headD_nil, List.headD_cons, ne_eq, reduceCtorEq, Nat.reduceEqDiff, Nat.reduceAdd, Nat.reduceMul, Nat.reduceSub, Nat.reduceLeDiff, Nat.reduceLT, Int.reduceMul, Int.reduceAdd, Int.reduceSub, List.map_cons, List.map_nil, Option.map_some, Option.map_none, Option.elim_some, if_true, if_false, List.append_nil, List.nil_append, bvq, rEq, List.cons_append, Int.reduceToNat, List.getElem?_cons_zero, List.getElem?_cons_succ, TD.agg, List.drop_succ_cons, List.drop_zero, List.take_succ_cons, List.take_zero, List.take_nil, List.drop_nil, List.getD_cons_zero, List.getD_cons_succ, splice, zhb, zhc, Option.isSome_some, Option.isSome_none, List.getElem?_nil, zhd, zhe, rLen, rBin, rInt, rStr, rUn, zhf, zhg, zhh, zhi, zhj, rBox, zhk, zhl, zhm, zhn, zho, zhp, zhq, zhr, zhs, zht, zhu, zhv, zhw, zhx, zhy, zhz, zia, zib, zic, bound, addL, addT, grow, room, List.length_cons, List.length_nil, List.length_map, frOf, byq, ti_bytes, ti_int, ti_uint, ti_u8, ti_bool, ti_string, ti_u64, ti_val, ti_a16, ti_bits, ti_op, ti_ops, ↓blp, blq, p_joined, p_vBytesF, isV, Int.toNat_natCast, hvo, vBytes_len, w1, w2]
  refine ⟨by omega, by omega, by first | omega | (simp only [List.length_append, List.length_cons, List.length_nil, vBytes_len]; omega), ?_⟩
  have w4 : UInt8.ofNat (vLen v) :: vBytes v = wValue v := rfl
  have w5 : [UInt8.ofNat (vLen v)] ++ vBytes v = wValue v := rfl
  first | rw [w4] | rw [w5]
  simp (disch := first | assumption | omega | (simp; done) | (simp; omega) | (simp only [bt, and_true]; first | done | omega | (simp; done))) [↓zkt, beq, List.take_of_length_le, List.drop_append, List.take_append, endOk, wk, wk2, wk1, wkM, wkL, wkLL, List.drop_eq_nil_of_le, hcl]

def e_rValue : List AV → AHeap → (AEnd → AHeap → Prop) → Prop
  | [.slice (.own id) 1 l, .agg [.int .u64 hi, .int .u64 lo]], H, K => (isV hi lo ∧ isB l ∧ l.length ≤ 140737488000000 ∧ H.get id = some (.buf 1 l.length)) ∧
      K (.ret (.slice (.own id) 1 (bys (unb l ++ wValue (vOf hi.toNat lo.toNat))))) (H.set id (.buf 1 (l.length + (wValue (vOf hi.toNat lo.toNat)).length)))
  | _, _, _ => False

theorem ok_rValue : EntOk Try.prog 61 (Ent.effect e_rValue) := by
  refine EntOk.effect fun args H K h => ?_
  unfold e_rValue at h
  split at h
  rotate_left
  · exact h.elim
  rename_i id l hi lo
  obtain ⟨⟨⟨h0, h1, h2, h3⟩, c1, hle, hid⟩, hK⟩ := h
  refine ⟨_, _, hK, ?_⟩
  obtain ⟨x, rfl⟩ := u64_lift h0
  obtain ⟨y, rfl⟩ := u64_lift h2
  obtain ⟨xs, rfl⟩ := isB_out c1
  clear hK h0 h2
  simp only [zke, zjp] at *
  rw [Int.toNat_natCast, Int.toNat_natCast]
  have hx : x < 2 ^ 64 := by omega
  have hy : y < 2 ^ 64 := by omega
  have hl0 := AHeap.get_lt hid
  have hne := far_of hl0
  refine ACalls.of_aw (Ω := [(96, Ent.pure p_rVBytes)]) (T := assoc []) mixed (TblOk.cons ok_rVBytes TblOk.nil) Try.func61 (by kernel_rfl) (by rfl) (rs := [.tmp 4]) (by rfl) (by kernel_rfl) (by simp only [Try.ntmps61, List.length_cons, List.length_nil]; decide) (Nat.le_refl _) fun hcl hlt => ?_
  change aw _ _ _ (KI Try.prog [(96, Ent.pure p_rVBytes)] (aEnd Try.prog [.tmp 4] H.nx _ _) []) _ _
  clear hlt
  have hv := vOf_lt hx hy
  have hvl := vLen_le hv
  generalize hvo : vOf x y = v at hv hvl ⊢
  have w1 : IntKind.u8.wrap ((vLen v : Nat) : Int) = ((vLen v : Nat) : Int) := by rw [wrap_u8_nat]; omega
  have w2 : AV.int .u8 ((vLen v : Nat) : Int) = ofByte (UInt8.ofNat (vLen v)) := u8_ofByte (by omega)
  have w3 : xs ++ [UInt8.ofNat (vLen v)] ++ vBytes v = xs ++ wValue v := by simp [wValue]
  have w4 : xs.length + (wValue v).length = xs.length + 1 + vLen v := by simp [wValue, vBytes_len]; omega
  rw [w4]
  simp only [↓bwp, bwq, zav, List.tail_nil, List.tail_cons, List.headD_nil, List.headD_cons, ne_eq, reduceCtorEq, Nat.reduceEqDiff, Nat.reduceAdd, Nat.reduceMul, Nat.reduceSub, Nat.reduceLeDiff, Nat.reduceLT, Int.reduceMul, Int.reduceAdd, Int.reduceSub, List.map_cons, List.map_nil, Option.map_some, Option.map_none, Option.elim_some, if_true, if_false, List.append_nil, List.nil_append, bvq, rEq, List.cons_append, Int.reduceToNat, List.getElem?_cons_zero, List.getElem?_cons_succ, TD.agg, List.drop_succ_cons, List.drop_zero, List.take_succ_cons, List.take_zero, List.take_nil, List.drop_nil, List.getD_cons_zero, List.getD_cons_succ, splice, zhb, zhc, Option.isSome_some, Option.isSome_none, List.getElem?_nil, zhd, zhe, rLen, rBin, rInt, rStr, rUn, zhf, zhg, zhh, zhi, zhj, rBox, zhk, zhl, zhm, zhn, zho, zhp, zhq, zhr, zhs, zht, zhu, zhv, zhw, zhx, zhy, zhz, zia, zib, zic, bound, addL, addT, grow, room, List.length_cons, List.length_nil, List.length_map, frOf, byq, ti_bytes, ti_int, ti_uint, ti_u8, ti_bool, ti_string, ti_u64, ti_val, ti_a16, ti_bits, ti_op, ti_ops, ↓blp, blq, p_rVBytes, isV, Int.toNat_natCast, hvo, vBytes_len, w1, w2, hne, hid, heap_get_set, if_pos hl0]
  have w5 : (xs ++ [UInt8.ofNat (vLen v)]).length = xs.length + 1 := by simp
  rw [w5, w3]
  refine ⟨by omega, by omega, by simp; omega, ?_⟩
  have hcs : (H.set id (.buf 1 (xs.length + 1 + vLen v))).Closed := closed_set_buf hcl
  simp (disch := first | assumption | omega | (simp; done) | (simp; omega) | (simp only [bt, and_true]; first | done | omega | (simp; done))) [↓zkt, beq, List.take_of_length_le, List.drop_append, List.take_append, endOk, wk, wk2, wk1, wkM, wkL, wkLL, List.drop_eq_nil_of_le, hcs]
  exact hl0

/-- the bytes of an element -/
def wOp (k n most : Int) (v : Nat) (s : List UInt8) : List UInt8 :=
  if k.tmod 6 = 0 then wUint n most
  else if k.tmod 6 = 1 then wUint n (IntKind.i64.wrap (1 + iand .i64 most 3))
  else if k.tmod 6 = 2 then [if iand .i64 n 1 == 1 then 1 else 0]
  else if k.tmod 6 = 3 then wBytes (s.take (min (s.length : Int) 40).toNat)
  else if k.tmod 6 = 4 then wBytes (s.take (min (s.length : Int) 40).toNat)
  else wValue v
theorem wUint_len (n w : Int) : (wUint n w).length ≤ 4 := by
  unfold wUint; split
  · rw [be_len]; omega
  · simp
theorem wOp_len {k n most : Int} {v : Nat} {s : List UInt8} (hv : v < 2 ^ 128) : (wOp k n most v s).length ≤ 100 := by
  have h1 := wUint_len n most
  have h2 := wUint_len n (IntKind.i64.wrap (1 + iand .i64 most 3))
  have h3 : (wBytes (s.take (min (s.length : Int) 40).toNat)).length ≤ 42 := by
    unfold wBytes
    rw [List.length_append, be_len, List.length_take, List.length_take]
    omega
  have h4 : (wValue v).length ≤ 17 := by have := vLen_le hv; simp [wValue, vBytes_len]; omega
  unfold wOp
  repeat' split
  all_goals first | omega | simp

def e_write : List AV → AHeap → (AEnd → AHeap → Prop) → Prop
  | [.slice _ 1 la, .slice (.own id) 1 lb, .agg [.int .i64 k, .int .i64 n, .int .i64 most, .int .u64 hi, .int .u64 lo, .slice _ 1 s]], H, K =>
      (isV hi lo ∧ isB la ∧ isB lb ∧ isB s ∧ la.length ≤ 100000 ∧ lb.length ≤ 100000 ∧ H.get id = some (.buf 1 lb.length)) ∧
      K (.ret (.tup [.slice .any 1 (bys (unb la ++ wOp k n most (vOf hi.toNat lo.toNat) (unb s))), .slice (.own id) 1 (bys (unb lb ++ wOp k n most (vOf hi.toNat lo.toNat) (unb s)))]))
        (H.set id (.buf 1 (lb.length + (wOp k n most (vOf hi.toNat lo.toNat) (unb s)).length)))
  | _, _, _ => False

theorem ok_write : EntOk Try.prog 20 (Ent.effect e_write) := by
  refine EntOk.effect fun args H K h => ?_
  unfold e_write at h
  split at h
  rotate_left
  · exact h.elim
  rename_i ma la id lb k n most hi lo ms s
  obtain ⟨⟨⟨h0, h1, h2, h3⟩, ca, cb, cs, hla, hlb, hid⟩, hK⟩ := h
  refine ⟨_, _, hK, ?_⟩
  obtain ⟨x, rfl⟩ := u64_lift h0
  obtain ⟨y, rfl⟩ := u64_lift h2
  obtain ⟨xa, rfl⟩ := isB_out ca
  obtain ⟨xb, rfl⟩ := isB_out cb
  obtain ⟨xs, rfl⟩ := isB_out cs
  clear hK h0 h2 ca cb cs
  simp only [zke, zjp] at *
  rw [Int.toNat_natCast, Int.toNat_natCast]
  have hx : x < 2 ^ 64 := by omega
  have hy : y < 2 ^ 64 := by omega
  have hl0 := AHeap.get_lt hid
  have hne := far_of hl0
  refine ACalls.of_aw (Ω := [(52, Ent.pure p_AppendUint), (53, Ent.effect e_rUint), (54, Ent.pure p_AppendBool), (55, Ent.effect e_rBool), (56, Ent.pure p_AppendBytes), (57, Ent.effect e_rBytes), (58, Ent.pure p_AppendText), (59, Ent.effect e_rText), (60, Ent.pure p_AppendValue), (61, Ent.effect e_rValue)]) (T := assoc []) mixed (TblOk.cons ok_AppendUint (TblOk.cons ok_rUint (TblOk.cons ok_AppendBool (TblOk.cons ok_rBool (TblOk.cons ok_AppendBytes (TblOk.cons ok_rBytes (TblOk.cons ok_AppendText (TblOk.cons ok_rText (TblOk.cons ok_AppendValue (TblOk.cons ok_rValue TblOk.nil)))))))))) Try.func20 (by kernel_rfl) (by rfl) (rs := [.tmp 6,.tmp 7]) (by rfl) (by kernel_rfl) (by simp only [Try.ntmps20, List.length_cons, List.length_nil]; decide) (Nat.le_refl _) fun hcl hlt => ?_
  change aw _ _ _ (KI Try.prog [(52, Ent.pure p_AppendUint), (53, Ent.effect e_rUint), (54, Ent.pure p_AppendBool), (55, Ent.effect e_rBool), (56, Ent.pure p_AppendBytes), (57, Ent.effect e_rBytes), (58, Ent.pure p_AppendText), (59, Ent.effect e_rText), (60, Ent.pure p_AppendValue), (61, Ent.effect e_rValue)] (aEnd Try.prog [.tmp 6,.tmp 7] H.nx _ _) []) _ _
  clear hlt
  have hv := vOf_lt hx hy
  generalize hvo : vOf x y = v at hv ⊢
  have hlen := @wOp_len k n most v xs hv
  simp only [↓bwp, bwq, zav, List.tail_nil, List.tail_cons, List.headD_nil, List.headD_cons, ne_eq, reduceCtorEq, Nat.reduceEqDiff, Nat.reduceAdd, Nat.reduceMul, Nat.reduceSub, Nat.reduceLeDiff, Nat.reduceLT, Int.reduceMul, Int.reduceAdd, Int.reduceSub, List.map_cons, List.map_nil, Option.map_some, Option.map_none, Option.elim_some, if_true, if_false, List.append_nil, List.nil_append, bvq, rEq, List.cons_append, Int.reduceToNat, List.getElem?_cons_zero, List.getElem?_cons_succ, TD.agg, List.drop_succ_cons, List.drop_zero, List.take_succ_cons, List.take_zero, List.take_nil, List.drop_nil, List.getD_cons_zero, List.getD_cons_succ, splice, zhb, zhc, Option.isSome_some, Option.isSome_none, List.getElem?_nil, zhd, zhe, rLen, rBin, rInt, rStr, rUn, zhf, zhg, zhh, zhi, zhj, rBox, zhk, zhl, zhm, zhn, zho, zhp, zhq, zhr, zhs, zht, zhu, zhv, zhw, zhx, zhy, zhz, zia, zib, zic, bound, addL, addT, grow, room, List.length_cons, List.length_nil, List.length_map, frOf, byq, ti_bytes, ti_int, ti_uint, ti_u8, ti_bool, ti_string, ti_u64, ti_val, ti_a16, ti_bits, ti_op, ti_ops, ↓blp, blq, p_AppendUint, e_rUint, p_AppendBool, e_rBool, p_AppendBytes, e_rBytes, p_AppendText, e_rText, p_AppendValue, e_rValue, hne, hid, heap_get_set, if_pos hl0, isV, Int.toNat_natCast, hvo, List.drop_zero]
  have hcs : ∀ q, (H.set id (.buf 1 q)).Closed := fun q => closed_set_buf hcl
  have fin : ∀ (o : AObj) (w : List UInt8), wOp k n most v xs = w → endOk ((((H.set id (AObj.buf 1 (xb.length + w.length))).push o).push (AObj.buf 1 0)).push (AObj.buf 1 0))
      (AV.tup [AV.slice Mark.any 1 (bys (xa ++ w)), AV.slice (Mark.own id) 1 (bys (xb ++ w))]) (H.set id (AObj.buf 1 (xb.length + (wOp k n most v xs).length)))
      (AV.tup [AV.slice Mark.any 1 (bys (xa ++ wOp k n most v xs)), AV.slice (Mark.own id) 1 (bys (xb ++ wOp k n most v xs))]) := by
    rintro o w rfl
    simp (disch := first | assumption | omega | (simp; done) | (simp; omega) | (simp only [bt, and_true]; first | done | omega | (simp; done))) [↓zkt, beq, List.take_of_length_le, List.drop_append, List.take_append, endOk, wk, wk2, wk1, wkM, wkL, wkLL, List.drop_eq_nil_of_le, hcs]
    exact hl0
  refine ⟨by omega, by decide, both_split (fun c0 => ?_) fun c0 => both_split (fun c1 => ?_) fun c1 => both_split (fun c2 => ?_) fun c2 => both_split (fun c3 => ?_) fun c3 => both_split (fun c4 => ?_) fun c4 => ?_⟩
  all_goals simp only [beq_iff_eq, beq_eq_false_iff_ne, ne_eq] at c0
  all_goals try simp only [beq_iff_eq, beq_eq_false_iff_ne, ne_eq] at c1
  all_goals try simp only [beq_iff_eq, beq_eq_false_iff_ne, ne_eq] at c2
  all_goals try simp only [beq_iff_eq, beq_eq_false_iff_ne, ne_eq] at c3
  all_goals try simp only [beq_iff_eq, beq_eq_false_iff_ne, ne_eq] at c4
  · have e : wOp k n most v xs = wUint n most := by unfold wOp; rw [if_pos c0]
    exact ⟨by omega, by omega, .inr (by omega), fin _ _ e⟩
  · have e : wOp k n most v xs = wUint n (IntKind.i64.wrap (1 + iand IntKind.i64 most 3)) := by unfold wOp; rw [if_neg c0, if_pos c1]
    exact ⟨by omega, by omega, .inr (by omega), fin _ _ e⟩
  · have e : wOp k n most v xs = [if iand .i64 n 1 == 1 then 1 else 0] := by unfold wOp; rw [if_neg c0, if_neg c1, if_pos c2]
    exact ⟨by omega, by omega, .inr (by omega), fin _ _ e⟩
  · have e : wOp k n most v xs = wBytes (xs.take (min (xs.length : Int) 40).toNat) := by unfold wOp; rw [if_neg c0, if_neg c1, if_neg c2, if_pos c3]
    exact ⟨by omega, by omega, fin _ _ e⟩
  · have e : wOp k n most v xs = wBytes (xs.take (min (xs.length : Int) 40).toNat) := by unfold wOp; rw [if_neg c0, if_neg c1, if_neg c2, if_neg c3, if_pos c4]
    have hl : (xs.take (min (xs.length : Int) 40).toNat).length ≤ 40 := by rw [List.length_take]; omega
    exact ⟨⟨by omega, by omega⟩, ⟨by omega, by omega, fin _ _ e⟩⟩
  · have e : wOp k n most v xs = wValue v := by unfold wOp; rw [if_neg c0, if_neg c1, if_neg c2, if_neg c3, if_neg c4]
    exact ⟨by omega, by omega, .inr (by omega), fin _ _ e⟩

def p_begun : List AV → AHeap → (AV → Prop) → Prop
  | [], _, K => K (.bool true)
  | _, _, _ => False

theorem ok_begun : EntOk Try.prog 36 (Ent.pure p_begun) := by
  refine EntOk.pure fun args H K h => ?_
  unfold p_begun at h
  split at h
  rotate_left
  · exact h.elim
  refine ⟨_, h, ?_⟩
  refine ACalls.of_aw (Ω := [(60, Ent.pure p_AppendValue)]) (T := assoc []) mixed (TblOk.cons ok_AppendValue TblOk.nil) Try.func36 (by kernel_rfl) (by rfl) (rs := [.tmp 0]) (by rfl) (by kernel_rfl) (by simp only [Try.ntmps36, List.length_cons, List.length_nil]; decide) (Nat.le_refl _) fun hcl hlt => ?_
  change aw _ _ _ (KI Try.prog [(60, Ent.pure p_AppendValue)] (aEnd Try.prog [.tmp 0] H.nx _ _) []) _ _
  clear hlt h
  have e : (bys ([] ++ wValue (vOf (Int.toNat 0) (Int.toNat 256)))).map byteOf = [2, 1, 0] := by decide +kernel
  have e2 : wValue (vOf 0 256) = [2, 1, 0] := by decide +kernel
  simp only [↓bwp, bwq, zav, List.tail_nil, List.tail_cons, List.headD_nil, List.headD_cons, ne_eq, reduceCtorEq, Nat.reduceEqDiff, Nat.reduceAdd, Nat.reduceMul, Nat.reduceSub, Nat.reduceLeDiff, Nat.reduceLT, Int.reduceMul, Int.reduceAdd, Int.reduceSub, List.map_cons, List.map_nil, Option.map_some, Option.map_none, Option.elim_some, if_true, if_false, List.append_nil, List.nil_append, bvq, rEq, List.cons_append, Int.reduceToNat, List.getElem?_cons_zero, List.getElem?_cons_succ, TD.agg, List.drop_succ_cons, List.drop_zero, List.take_succ_cons, List.take_zero, List.take_nil, List.drop_nil, List.getD_cons_zero, List.getD_cons_succ, splice, zhb, zhc, Option.isSome_some, Option.isSome_none, List.getElem?_nil, zhd, zhe, rLen, rBin, rInt, rStr, rUn, zhf, zhg, zhh, zhi, zhj, rBox, zhk, zhl, zhm, zhn, zho, zhp, zhq, zhr, zhs, zht, zhu, zhv, zhw, zhx, zhy, zhz, zia, zib, zic, bound, addL, addT, grow, room, List.length_cons, List.length_nil, List.length_map, frOf, byq, ti_bytes, ti_int, ti_uint, ti_u8, ti_bool, ti_string, ti_u64, ti_val, ti_a16, ti_bits, ti_op, ti_ops, ↓blp, blq, p_AppendValue, isV, e2]
  refine ⟨by decide, ?_⟩
  simp (disch := first | assumption | omega | (simp; done) | (simp; omega) | (simp only [bt, and_true]; first | done | omega | (simp; done))) [↓zkt, beq, List.take_of_length_le, List.drop_append, List.take_append, endOk, wk, wk2, wk1, wkM, wkL, wkLL, List.drop_eq_nil_of_le, hcl]

/-- an element as the program has it -/
def opB (x : AV) : List UInt8 :=
  match x with
  | .agg [.int .i64 k, .int .i64 n, .int .i64 most, .int .u64 hi, .int .u64 lo, .slice _ 1 s] => wOp k n most (vOf hi.toNat lo.toNat) (unb s)
  | _ => []
def isOp (x : AV) : Prop := ∃ k n most hi lo s, x = .agg [.int .i64 k, .int .i64 n, .int .i64 most, .int .u64 hi, .int .u64 lo, .slice .any 1 s] ∧ isV hi lo ∧ isB s
def opsB (l : List AV) : List UInt8 := l.flatMap opB
theorem opsB_step (l : List AV) (k : Nat) (h : k < l.length) : opsB (l.take (k + 1)) = opsB (l.take k) ++ opB (l.getD k .junk) := by
  unfold opsB
  rw [List.take_succ_eq_append_getElem h, List.flatMap_append]
  simp [List.getD_eq_getElem?_getD, h]
theorem opsB_len (l : List AV) (hl : ∀ x ∈ l, isOp x) : ∀ k, (opsB (l.take k)).length ≤ 100 * k
  | 0 => by simp [opsB]
  | k + 1 => by
    have ih := opsB_len l hl k
    by_cases h : k < l.length
    · rw [opsB_step l k h, List.length_append]
      have hx : l.getD k .junk ∈ l := by simp [List.getD_eq_getElem?_getD, h]
      obtain ⟨a, n, most, hi, lo, s, e, hv, _⟩ := hl _ hx
      rw [e]
      have := @wOp_len a n most (vOf hi.toNat lo.toNat) (unb s) (vOf_lt (by have := hv.2.1; have := hv.1; omega) (by have := hv.2.2.2; have := hv.2.2.1; omega))
      simp only [opB]
      omega
    · rw [List.take_of_length_le (by omega)] at ih ⊢
      omega

end Go.AL
