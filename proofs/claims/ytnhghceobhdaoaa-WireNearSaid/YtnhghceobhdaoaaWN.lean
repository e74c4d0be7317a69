/- Contracts and plain laws, a part of the proof; no condition of its own. -/
import Derived.Test.YtnhghceobhdaoaaCK
import Derived.Test.YtnhghceobhdaoaaCM
open Go Go.AL Go.Proofs
namespace Go.AL
set_option linter.all false
set_option maxRecDepth 10000
theorem ti_rows : ti Try.prog 51 = some ⟨.slice 22, 1, 24, .slice .nil 1 []⟩ := by kernel_rfl
theorem both_tt {t : Bool} {A B : Prop} (e : t = true) (h : A) : both t A B := both_split (fun _ => h) (fun h => by simp [e] at h)
theorem both_ff {t : Bool} {A B : Prop} (e : t = false) (h : B) : both t A B := both_split (fun h => by simp [e] at h) (fun _ => h)
theorem cond_tt {P : Program} {Ω : Tbl} {K : Conts} {t : Bool} {a b : Code} {fr : Fr} {H : AHeap} (e : t = true) (h : aw P Ω a K fr H) : condK P Ω (.bool t) a b K fr H := cond_split (fun _ => h) (fun h => by simp [e] at h)
theorem cond_ff {P : Program} {Ω : Tbl} {K : Conts} {t : Bool} {a b : Code} {fr : Fr} {H : AHeap} (e : t = false) (h : aw P Ω b K fr H) : condK P Ω (.bool t) a b K fr H := cond_split (fun h => by simp [e] at h) (fun _ => h)
theorem ltL_junked {n k : Nat} {l : List UInt8} : ltL n (bys l ++ List.replicate k AV.junk) := ltL_iff.2 fun j hj => by
  rw [List.getElem_append]
  split
  · simp only [bys, List.getElem_map, ofByte]
    rw [AV.lt] <;> simp
  · rw [List.getElem_replicate, AV.lt] <;> simp
theorem tmod_nat {z : Int} {n : Nat} (h0 : 0 ≤ z) (hn : 0 < n) : ∃ ix : Nat, z.tmod (n : Int) = (ix : Int) ∧ ix < n := by
  obtain ⟨m, rfl⟩ := Int.eq_ofNat_of_zero_le h0
  exact ⟨m % n, by rw [Int.tmod_eq_emod_of_nonneg (by omega)]; rfl, Nat.mod_lt _ hn⟩
theorem rows_junk {l : List UInt8} {n k : Nat} (h : n = l.length) : rowsOf 1 n (bys l ++ List.replicate k AV.junk) = bys l := by
  subst h
  induction l with
  | nil => rfl
  | cons a l ih =>
    show rowsOf 1 (l.length + 1) (ofByte a :: (bys l ++ List.replicate k AV.junk)) = ofByte a :: bys l
    simp only [rowsOf, if_true, List.drop_succ_cons, List.drop_zero, ih]
    rfl
def p_WireNear : List AV → AHeap → (AV → Prop) → Prop
  | [.slice _ 6 l, .int .i64 at', .int .u8 by', .int .i64 cut, .int .i64 most], _, K => ((∀ x ∈ l, isOp x) ∧ (0 ≤ by' ∧ by' ≤ 255)) ∧ K (.bool true)
  | _, _, _ => False
set_option maxHeartbeats 8000000 in
theorem ok_WireNear : EntOk Try.prog 7 (Ent.pure p_WireNear) := by
  refine EntOk.pure fun args H K h => ?_
  unfold p_WireNear at h
  split at h
  rotate_left
  · exact h.elim
  rename_i m l at' by' cut most
  obtain ⟨⟨hl, hby0, hby1⟩, hK⟩ := h
  refine ⟨_, hK, ?_⟩
  refine ACalls.of_aw (Ω := [(20, Ent.effect e_write), (21, Ent.effect e_New), (22, Ent.effect e_Uint), (23, Ent.effect e_xUint), (24, Ent.effect e_RBool), (25, Ent.effect e_xBool), (26, Ent.effect e_RBytes), (27, Ent.effect e_xBytes), (28, Ent.effect e_RText), (29, Ent.effect e_xText), (30, Ent.effect e_RValue), (31, Ent.effect e_xValue), (33, Ent.effect e_RLeftE), (32, Ent.effect e_RErrE), (34, Ent.effect e_RFinishE), (35, Ent.effect e_xFinishE), (36, Ent.pure p_begun)]) (T := assoc [(11, [[], [], [], [], [], [], [], [], [], [], [], [], [], [], [9]]), (23, [[], [], [], [], [], [2], [], [], [], [], [], [2, 5, 8]]), (29, [[], [], [], [2], [], [], [2], [2, 6]]), (34, [[], [], [], [], [], [], [], [], [], [1, 5], [], [], [], [1]]), (8, [[0,3]]), (10, [[33]])]) mixed (TblOk.cons ok_write (TblOk.cons ok_New (TblOk.cons ok_Uint (TblOk.cons ok_xUint (TblOk.cons ok_RBool (TblOk.cons ok_xBool (TblOk.cons ok_RBytes (TblOk.cons ok_xBytes (TblOk.cons ok_RText (TblOk.cons ok_xText (TblOk.cons ok_RValue (TblOk.cons ok_xValue (TblOk.cons ok_RLeftE (TblOk.cons ok_RErrE (TblOk.cons ok_RFinishE (TblOk.cons ok_xFinishE (TblOk.cons ok_begun TblOk.nil))))))))))))))))) Try.func7 (by kernel_rfl) (by rfl) (rs := [.tmp 10]) (by rfl) (by kernel_rfl) (by simp only [Try.ntmps7, List.length_cons, List.length_nil]; decide) (Nat.le_refl _) fun hcl hlt => ?_
  change aw _ _ _ (KI Try.prog [(20, Ent.effect e_write), (21, Ent.effect e_New), (22, Ent.effect e_Uint), (23, Ent.effect e_xUint), (24, Ent.effect e_RBool), (25, Ent.effect e_xBool), (26, Ent.effect e_RBytes), (27, Ent.effect e_xBytes), (28, Ent.effect e_RText), (29, Ent.effect e_xText), (30, Ent.effect e_RValue), (31, Ent.effect e_xValue), (33, Ent.effect e_RLeftE), (32, Ent.effect e_RErrE), (34, Ent.effect e_RFinishE), (35, Ent.effect e_xFinishE), (36, Ent.pure p_begun)] (aEnd Try.prog [.tmp 10] H.nx _ _ (assoc [(11, [[], [], [], [], [], [], [], [], [], [], [], [], [], [], [9]]), (23, [[], [], [], [], [], [2], [], [], [], [], [], [2, 5, 8]]), (29, [[], [], [], [2], [], [], [2], [2, 6]]), (34, [[], [], [], [], [], [], [], [], [], [1, 5], [], [], [], [1]]), (8, [[0,3]]), (10, [[33]])])) []) _ _
  have hltl : ∀ n', H.nx ≤ n' → (AV.slice .any 6 (l.take (min (l.length : Int) 12).toNat)).lt n' := fun n' hn => lt_sub (hlt (AV.slice m 6 l) (by simp)) (fun x hx => List.mem_of_mem_take hx) hn
  clear hlt hK
  have hn12 : (min (l.length : Int) 12).toNat ≤ 12 := by omega
  have hn0 : (l.take (min (l.length : Int) 12).toNat).length = (min (l.length : Int) 12).toNat := by rw [List.length_take]; omega
  have hl0 : ∀ x ∈ l.take (min (l.length : Int) 12).toNat, isOp x := fun x hx => hl x (List.mem_of_mem_take hx)
  simp only [↓bwp, bwq, List.tail_nil, List.tail_cons, List.headD_nil, List.headD_cons, ne_eq, reduceCtorEq, Nat.reduceEqDiff, Nat.reduceAdd, Nat.reduceMul, Nat.reduceSub, Nat.reduceLeDiff, Nat.reduceLT, Int.reduceMul, Int.reduceAdd, Int.reduceSub, List.map_cons, List.map_nil, Option.map_some, Option.map_none, Option.elim_some, if_true, if_false, List.append_nil, List.nil_append, bvq, rEq, List.cons_append, Int.reduceToNat, List.getElem?_cons_zero, List.getElem?_cons_succ, TD.agg, List.drop_succ_cons, List.drop_zero, List.take_succ_cons, List.take_zero, List.take_nil, List.drop_nil, List.getD_cons_zero, List.getD_cons_succ, splice, zhb, zhc, Option.isSome_some, Option.isSome_none, List.getElem?_nil, zhd, zhe, rLen, rBin, rInt, rStr, rUn, zhf, zhg, zhh, zhi, zhj, rBox, zhk, zhl, zhm, zhn, zho, zhp, zhq, zhr, zhs, zht, zhu, zhv, zhw, zhx, zhy, zhz, zia, zib, zic, bound, addL, addT, grow, room, List.length_cons, List.length_nil, List.length_map, frOf, byq, ti_bytes, ti_int, ti_uint, ti_u8, ti_bool, ti_string, ti_u64, ti_val, ti_a16, ti_bits, ti_op, ti_ops, ti_reader, ti_errno, ti_preader, ti_rreader, ti_prreader, ti_rows, ↓blp, blq, hn0, List.drop_zero]
  generalize l.take (min (l.length : Int) 12).toNat = l0 at *
  generalize (min (l.length : Int) 12).toNat = n0 at *
  refine ⟨by omega, ?_⟩
  refine loop_introW (A := Nat) (fun k => [(29, .int .i64 (k : Int)), (28, .int .i64 (n0 : Int)), (27, .slice .any 6 l0), (0, .slice .any 6 l0), (1, .int .i64 at'), (2, .int .u8 by'), (3, .int .i64 cut), (4, .int .i64 most), (12, .slice .any 1 (bys (opsB (l0.take k)))), (11, .slice (.own H.nx) 1 (bys (opsB (l0.take k))))])
    (fun k => H.push (.buf 1 (opsB (l0.take k)).length)) (fun k => k ≤ n0) (fun k => n0 - k) 0 (by omega) ?_ fun k hk => ?_
  · have e0 : opsB (l0.take 0) = [] := by simp [opsB]
    have h1 := hltl (H.nx + 1) (by omega)
    rw [e0]
    (simp only [bkq, enterW, subW, ltF, ne_eq, Nat.reduceEqDiff, reduceCtorEq, zjq, zks, h1, zjj]; try simp (disch := first | assumption | omega | (simp; done) | (simp; omega) | (simp only [bt, and_true]; first | done | omega | (simp; done))) [↓zkt, beq, List.take_of_length_le, List.drop_append, List.take_append, endOk, wk, wk2, wk1, wkM, wkL, wkLL, List.drop_eq_nil_of_le, byq, hcl, zjq, zks, h1, zjj]; try (repeat' (first | assumption | omega | exact True.intro | refine And.intro ?_ ?_ | refine closed_buf ?_ | refine closed_set_buf ?_ | refine closed_cells ?_ ?_ | refine closed_set ?_ ?_ | refine closed_del ?_ | exact AHeap.Le.refl _ | refine AHeap.Le.push ?_ _ | refine AHeap.Le.del ?_ ?_ | (simp only [bt, and_true, true_and, zjq, zks, h1, zjj]; first | done | omega | (simp; done)))))
  simp only [↓bwp, bwq, List.tail_nil, List.tail_cons, List.headD_nil, List.headD_cons, ne_eq, reduceCtorEq, Nat.reduceEqDiff, Nat.reduceAdd, Nat.reduceMul, Nat.reduceSub, Nat.reduceLeDiff, Nat.reduceLT, Int.reduceMul, Int.reduceAdd, Int.reduceSub, List.map_cons, List.map_nil, Option.map_some, Option.map_none, Option.elim_some, if_true, if_false, List.append_nil, List.nil_append, bvq, rEq, List.cons_append, Int.reduceToNat, List.getElem?_cons_zero, List.getElem?_cons_succ, TD.agg, List.drop_succ_cons, List.drop_zero, List.take_succ_cons, List.take_zero, List.take_nil, List.drop_nil, List.getD_cons_zero, List.getD_cons_succ, splice, zhb, zhc, Option.isSome_some, Option.isSome_none, List.getElem?_nil, zhd, zhe, rLen, rBin, rInt, rStr, rUn, zhf, zhg, zhh, zhi, zhj, rBox, zhk, zhl, zhm, zhn, zho, zhp, zhq, zhr, zhs, zht, zhu, zhv, zhw, zhx, zhy, zhz, zia, zib, zic, bound, addL, addT, grow, room, List.length_cons, List.length_nil, List.length_map, frOf, byq, ti_bytes, ti_int, ti_uint, ti_u8, ti_bool, ti_string, ti_u64, ti_val, ti_a16, ti_bits, ti_op, ti_ops, ti_reader, ti_errno, ti_preader, ti_rreader, ti_prreader, ti_rows, ↓blp, blq]
  refine cond_split (fun hc => ?_) (fun hc => ?_)
  · have hk : k < n0 := by simp at hc; omega
    have e1 : IntKind.i64.wrap ((k : Int) + 1) = ((k + 1 : Nat) : Int) := by rw [wrap_i64] <;> omega
    have hx : l0.getD k .junk ∈ l0 := by simp [List.getD_eq_getElem?_getD, hn0, hk]
    obtain ⟨ka, n, most2, hi, lo, s, ex, hv, hs⟩ := hl0 _ hx
    have hst := opsB_step l0 k (by omega)
    rw [ex] at hst
    simp only [opB] at hst
    have hlen := opsB_len l0 hl0 k
    have hlen2 := opsB_len l0 hl0 (k + 1)
    have hst2 : (opsB (l0.take k)).length + (wOp ka n most2 (vOf hi.toNat lo.toNat) (unb s)).length = (opsB (l0.take (k + 1))).length := by rw [hst, List.length_append]
    simp only [↓bwp, bwq, List.tail_nil, List.tail_cons, List.headD_nil, List.headD_cons, ne_eq, reduceCtorEq, Nat.reduceEqDiff, Nat.reduceAdd, Nat.reduceMul, Nat.reduceSub, Nat.reduceLeDiff, Nat.reduceLT, Int.reduceMul, Int.reduceAdd, Int.reduceSub, List.map_cons, List.map_nil, Option.map_some, Option.map_none, Option.elim_some, if_true, if_false, List.append_nil, List.nil_append, bvq, rEq, List.cons_append, Int.reduceToNat, List.getElem?_cons_zero, List.getElem?_cons_succ, TD.agg, List.drop_succ_cons, List.drop_zero, List.take_succ_cons, List.take_zero, List.take_nil, List.drop_nil, List.getD_cons_zero, List.getD_cons_succ, splice, zhb, zhc, Option.isSome_some, Option.isSome_none, List.getElem?_nil, zhd, zhe, rLen, rBin, rInt, rStr, rUn, zhf, zhg, zhh, zhi, zhj, rBox, zhk, zhl, zhm, zhn, zho, zhp, zhq, zhr, zhs, zht, zhu, zhv, zhw, zhx, zhy, zhz, zia, zib, zic, bound, addL, addT, grow, room, List.length_cons, List.length_nil, List.length_map, frOf, byq, ti_bytes, ti_int, ti_uint, ti_u8, ti_bool, ti_string, ti_u64, ti_val, ti_a16, ti_bits, ti_op, ti_ops, ti_reader, ti_errno, ti_preader, ti_rreader, ti_prreader, ti_rows, ↓blp, blq, Int.toNat_natCast, ex, e_write, hn0, e1, hv, hs, ← hst, beq_self_eq_true, hst2]
    refine ⟨by omega, by omega, k + 1, by omega, by omega, ?_⟩
    have h1 := hltl (H.nx + 1) (by omega)
    (simp only [bkq, enterW, subW, ltF, ne_eq, Nat.reduceEqDiff, reduceCtorEq, zjq, zks, h1, zjj]; try simp (disch := first | assumption | omega | (simp; done) | (simp; omega) | (simp only [bt, and_true]; first | done | omega | (simp; done))) [↓zkt, beq, List.take_of_length_le, List.drop_append, List.take_append, endOk, wk, wk2, wk1, wkM, wkL, wkLL, List.drop_eq_nil_of_le, byq, hcl, zjq, zks, h1, zjj]; try (repeat' (first | assumption | omega | exact True.intro | refine And.intro ?_ ?_ | refine closed_buf ?_ | refine closed_set_buf ?_ | refine closed_cells ?_ ?_ | refine closed_set ?_ ?_ | refine closed_del ?_ | exact AHeap.Le.refl _ | refine AHeap.Le.push ?_ _ | refine AHeap.Le.del ?_ ?_ | (simp only [bt, and_true, true_and, zjq, zks, h1, zjj]; first | done | omega | (simp; done)))))
  · have hk : k = n0 := by simp at hc; omega
    subst hk
    have hlen := opsB_len l0 hl0 k
    have hbl : (opsB (l0.take k)).length ≤ 1200 := by omega
    generalize opsB (l0.take k) = bb at *
    obtain ⟨p1, q1, r1⟩ := iand_low at' 65535 (by decide)
    obtain ⟨p2, q2, r2⟩ := iand_low cut 65535 (by decide)
    have q1' : iand .i64 at' 65535 = (p1 : Int) := q1
    have q2' : iand .i64 cut 65535 = (p2 : Int) := q2
    have e1 : IntKind.i64.wrap ((bb.length : Int) + 1) = ((bb.length + 1 : Nat) : Int) := by rw [wrap_i64] <;> omega
    obtain ⟨ic, hic, hicl⟩ := @tmod_nat (p2 : Int) (bb.length + 1) (by omega) (by omega)
    have hcutl : ((bb.take ic).drop 0).length ≤ 1200 := by simp; omega
    have hmsz : maxStr = 9223372036854775807 := rfl
    rcases Classical.em (bb = []) with hnil | hne
    case' inl =>
      subst hnil
      simp only [↓bwp, bwq, List.tail_nil, List.tail_cons, List.headD_nil, List.headD_cons, ne_eq, reduceCtorEq, Nat.reduceEqDiff, Nat.reduceAdd, Nat.reduceMul, Nat.reduceSub, Nat.reduceLeDiff, Nat.reduceLT, Int.reduceMul, Int.reduceAdd, Int.reduceSub, List.map_cons, List.map_nil, Option.map_some, Option.map_none, Option.elim_some, if_true, if_false, List.append_nil, List.nil_append, bvq, rEq, List.cons_append, Int.reduceToNat, List.getElem?_cons_zero, List.getElem?_cons_succ, TD.agg, List.drop_succ_cons, List.drop_zero, List.take_succ_cons, List.take_zero, List.take_nil, List.drop_nil, List.getD_cons_zero, List.getD_cons_succ, splice, zhb, zhc, Option.isSome_some, Option.isSome_none, List.getElem?_nil, zhd, zhe, rLen, rBin, rInt, rStr, rUn, zhf, zhg, zhh, zhi, zhj, rBox, zhk, zhl, zhm, zhn, zho, zhp, zhq, zhr, zhs, zht, zhu, zhv, zhw, zhx, zhy, zhz, zia, zib, zic, bound, addL, addT, grow, room, List.length_cons, List.length_nil, List.length_map, frOf, byq, ti_bytes, ti_int, ti_uint, ti_u8, ti_bool, ti_string, ti_u64, ti_val, ti_a16, ti_bits, ti_op, ti_ops, ti_reader, ti_errno, ti_preader, ti_rreader, ti_prreader, ti_rows, ↓blp, blq, bhq, Nat.reduceMod, Nat.reduceDiv, stepH, stepM, toMs1, toMs, toMs0, strK, pubK, pubF, pubV, List.take_succ_cons, List.take_zero, List.drop_succ_cons, List.drop_zero, List.append_nil, List.length_nil, List.isEmpty_nil, decide_eq_true_eq, zmp]
      have w1 : IntKind.i64.wrap (((0 : Nat) : Int) + 1) = ((1 : Nat) : Int) := by decide
      obtain ⟨x, hx⟩ : ∃ x : UInt8, AV.int .u8 by' = ofByte x := ⟨_, bys_lit hby0 (by omega)⟩
      have hicz : ic = 0 := by simp at hicl; omega
      subst hicz
      have hic' : (p2 : Int).tmod ((1 : Nat) : Int) = ((0 : Nat) : Int) := hic
      refine ⟨fun z hz => (by cases hz), cond_ff (by decide) ?_⟩
      simp only [↓bwp, bwq, List.tail_nil, List.tail_cons, List.headD_nil, List.headD_cons, ne_eq, reduceCtorEq, Nat.reduceEqDiff, Nat.reduceAdd, Nat.reduceMul, Nat.reduceSub, Nat.reduceLeDiff, Nat.reduceLT, Int.reduceMul, Int.reduceAdd, Int.reduceSub, List.map_cons, List.map_nil, Option.map_some, Option.map_none, Option.elim_some, if_true, if_false, List.append_nil, List.nil_append, bvq, rEq, List.cons_append, Int.reduceToNat, List.getElem?_cons_zero, List.getElem?_cons_succ, TD.agg, List.drop_succ_cons, List.drop_zero, List.take_succ_cons, List.take_zero, List.take_nil, List.drop_nil, List.getD_cons_zero, List.getD_cons_succ, splice, zhb, zhc, Option.isSome_some, Option.isSome_none, List.getElem?_nil, zhd, zhe, rLen, rBin, rInt, rStr, rUn, zhf, zhg, zhh, zhi, zhj, rBox, zhk, zhl, zhm, zhn, zho, zhp, zhq, zhr, zhs, zht, zhu, zhv, zhw, zhx, zhy, zhz, zia, zib, zic, bound, addL, addT, grow, room, List.length_cons, List.length_nil, List.length_map, frOf, byq, ti_bytes, ti_int, ti_uint, ti_u8, ti_bool, ti_string, ti_u64, ti_val, ti_a16, ti_bits, ti_op, ti_ops, ti_reader, ti_errno, ti_preader, ti_rreader, ti_prreader, ti_rows, ↓blp, blq, bhq, Nat.reduceMod, Nat.reduceDiv, stepH, stepM, toMs1, toMs, toMs0, strK, pubK, pubF, pubV, List.take_succ_cons, List.take_zero, List.drop_succ_cons, List.drop_zero, q2', w1, hic', hx, List.isEmpty_cons, zki, zkj]
      refine ⟨by decide, ⟨by omega, by omega, by omega⟩, ?_⟩
      generalize hR : [AV.slice (Mark.own H.nx) 1 [], AV.slice Mark.full 1 [], AV.slice Mark.any 1 [], AV.slice (Mark.own (H.nx + 1 + 1 + 1)) 1 (bys [x])] = R
      have hR4 : R.length = 4 := by rw [← hR]; rfl
      have hRb : ∀ i, i < 4 → ∃ m s, R.getD i .junk = .slice m 1 (bys s) ∧ s.length ≤ 1300 := by
        intro i hi
        rw [← hR]
        rcases (by omega : i = 0 ∨ i = 1 ∨ i = 2 ∨ i = 3) with rfl | rfl | rfl | rfl
        · exact ⟨_, [], rfl, by simp⟩
        · exact ⟨_, [], rfl, by simp⟩
        · exact ⟨_, [], rfl, by simp⟩
        · exact ⟨_, [x], rfl, by simp⟩
      generalize hHx : (((((H.push (AObj.buf 1 0)).push (AObj.buf 1 0)).push (AObj.buf 1 1)).push (AObj.buf 1 1)).push (AObj.buf 1 4)) = Hx
      have hx1 : H.nx ≤ Hx.nx := by rw [← hHx]; simp only [zjj, heap_nx_del]; omega
      have hx2 : Hx.Closed := by rw [← hHx]; exact closed_buf (closed_buf (closed_buf (closed_buf (closed_buf hcl))))
      have hx0 : H.Le Hx := by rw [← hHx]; exact ((((((AHeap.Le.refl H).push _).push _).push _).push _).push _)
      have hx3 : (AV.slice .any 1 R).lt Hx.nx := by
        rw [← hR, ← hHx]; simp (disch := first | assumption | omega | (simp; done) | (simp; omega) | (simp only [bt, and_true]; first | done | omega | (simp; done))) [↓zkt, beq, List.take_of_length_le, List.drop_append, List.take_append, endOk, wk, wk2, wk1, wkM, wkL, wkLL, List.drop_eq_nil_of_le, lt_sliceL, zjj, heap_nx_del, zks]; try omega
    case' inr =>
      have hne0 : 0 < bb.length := List.length_pos_iff.2 hne
      have hbs : bys bb ≠ [] := fun e => hne (by rwa [zky] at e)
      have hbe : (bys bb).isEmpty = false := by cases bb <;> simp_all [bys]
      obtain ⟨ia, hia, hial⟩ := @tmod_nat (p1 : Int) bb.length (by omega) hne0
      simp only [↓bwp, bwq, List.tail_nil, List.tail_cons, List.headD_nil, List.headD_cons, ne_eq, reduceCtorEq, Nat.reduceEqDiff, Nat.reduceAdd, Nat.reduceMul, Nat.reduceSub, Nat.reduceLeDiff, Nat.reduceLT, Int.reduceMul, Int.reduceAdd, Int.reduceSub, List.map_cons, List.map_nil, Option.map_some, Option.map_none, Option.elim_some, if_true, if_false, List.append_nil, List.nil_append, bvq, rEq, List.cons_append, Int.reduceToNat, List.getElem?_cons_zero, List.getElem?_cons_succ, TD.agg, List.drop_succ_cons, List.drop_zero, List.take_succ_cons, List.take_zero, List.take_nil, List.drop_nil, List.getD_cons_zero, List.getD_cons_succ, splice, zhb, zhc, Option.isSome_some, Option.isSome_none, List.getElem?_nil, zhd, zhe, rLen, rBin, rInt, rStr, rUn, zhf, zhg, zhh, zhi, zhj, rBox, zhk, zhl, zhm, zhn, zho, zhp, zhq, zhr, zhs, zht, zhu, zhv, zhw, zhx, zhy, zhz, zia, zib, zic, bound, addL, addT, grow, room, List.length_cons, List.length_nil, List.length_map, frOf, byq, ti_bytes, ti_int, ti_uint, ti_u8, ti_bool, ti_string, ti_u64, ti_val, ti_a16, ti_bits, ti_op, ti_ops, ti_reader, ti_errno, ti_preader, ti_rreader, ti_prreader, ti_rows, ↓blp, blq, bhq, Nat.reduceMod, Nat.reduceDiv, stepH, stepM, toMs1, toMs, toMs0, strK, pubK, pubF, pubV, List.take_succ_cons, List.take_zero, List.drop_succ_cons, List.drop_zero, List.append_nil, List.length_nil, hbe]
      refine ⟨by omega, hbs, fun kk => cond_tt (by simp; omega) ?_⟩
      have hgd : (bys bb ++ List.replicate kk AV.junk).getD ia .junk = ofByte bb[ia] := by
        rw [List.getD_eq_getElem?_getD, List.getElem?_append_left (by rw [zjp]; exact hial), ← List.getD_eq_getElem?_getD, bys_get hial]
        simp [List.getD_eq_getElem?_getD, hial]
      obtain ⟨e, he⟩ : ∃ e : UInt8, AV.int .u8 (ixor .u8 ((bb[ia].toNat : Nat) : Int) by') = ofByte e := by unfold ixor; exact ⟨_, wrap_u8⟩
      have hsp : splice (bys bb ++ List.replicate kk AV.junk) ia (bys [e]) = bys (bb.set ia e) ++ List.replicate kk AV.junk := by
        show splice _ ia [ofByte e] = _
        rw [splice_one, List.set_append_left _ _ (by rw [zjp]; exact hial)]
        congr 1
        unfold bys; rw [List.map_set]
      have hrw : rowsOf 1 bb.length (bys (bb.set ia e) ++ List.replicate kk AV.junk) = bys (bb.set ia e) := rows_junk (by rw [List.length_set])
      generalize bb[ia] = c at *
      have hgd' : (bys bb ++ List.replicate kk AV.junk).getD ia .junk = .int .u8 ((c.toNat : Nat) : Int) := hgd
      have hlc : (bys bb ++ List.replicate kk AV.junk).length = bb.length + kk := by rw [List.length_append, zjp, List.length_replicate]
      have hle1 : (1 = 1 ∧ bb.length ≤ bb.length) = True := eq_true ⟨rfl, Nat.le_refl _⟩
      obtain ⟨x, hx⟩ : ∃ x : UInt8, AV.int .u8 by' = ofByte x := ⟨_, bys_lit hby0 (by omega)⟩
      simp only [↓bwp, bwq, List.tail_nil, List.tail_cons, List.headD_nil, List.headD_cons, ne_eq, reduceCtorEq, Nat.reduceEqDiff, Nat.reduceAdd, Nat.reduceMul, Nat.reduceSub, Nat.reduceLeDiff, Nat.reduceLT, Int.reduceMul, Int.reduceAdd, Int.reduceSub, List.map_cons, List.map_nil, Option.map_some, Option.map_none, Option.elim_some, if_true, if_false, List.append_nil, List.nil_append, bvq, rEq, List.cons_append, Int.reduceToNat, List.getElem?_cons_zero, List.getElem?_cons_succ, TD.agg, List.drop_succ_cons, List.drop_zero, List.take_succ_cons, List.take_zero, List.take_nil, List.drop_nil, List.getD_cons_zero, List.getD_cons_succ, splice, zhb, zhc, Option.isSome_some, Option.isSome_none, List.getElem?_nil, zhd, zhe, rLen, rBin, rInt, rStr, rUn, zhf, zhg, zhh, zhi, zhj, rBox, zhk, zhl, zhm, zhn, zho, zhp, zhq, zhr, zhs, zht, zhu, zhv, zhw, zhx, zhy, zhz, zia, zib, zic, bound, addL, addT, grow, room, List.length_cons, List.length_nil, List.length_map, frOf, byq, ti_bytes, ti_int, ti_uint, ti_u8, ti_bool, ti_string, ti_u64, ti_val, ti_a16, ti_bits, ti_op, ti_ops, ti_reader, ti_errno, ti_preader, ti_rreader, ti_prreader, ti_rows, ↓blp, blq, bhq, Nat.reduceMod, Nat.reduceDiv, stepH, stepM, toMs1, toMs, toMs0, strK, pubK, pubF, pubV, List.take_succ_cons, List.take_zero, List.drop_succ_cons, List.drop_zero, q1', q2', hia, hgd', he, hsp, hlc]
      refine ⟨by omega, by omega, by omega, by omega, by omega, 1, bb.length, ?_⟩
      simp only [↓bwp, bwq, List.tail_nil, List.tail_cons, List.headD_nil, List.headD_cons, ne_eq, reduceCtorEq, Nat.reduceEqDiff, Nat.reduceAdd, Nat.reduceMul, Nat.reduceSub, Nat.reduceLeDiff, Nat.reduceLT, Int.reduceMul, Int.reduceAdd, Int.reduceSub, List.map_cons, List.map_nil, Option.map_some, Option.map_none, Option.elim_some, if_true, if_false, List.append_nil, List.nil_append, bvq, rEq, List.cons_append, Int.reduceToNat, List.getElem?_cons_zero, List.getElem?_cons_succ, TD.agg, List.drop_succ_cons, List.drop_zero, List.take_succ_cons, List.take_zero, List.take_nil, List.drop_nil, List.getD_cons_zero, List.getD_cons_succ, splice, zhb, zhc, Option.isSome_some, Option.isSome_none, List.getElem?_nil, zhd, zhe, rLen, rBin, rInt, rStr, rUn, zhf, zhg, zhh, zhi, zhj, rBox, zhk, zhl, zhm, zhn, zho, zhp, zhq, zhr, zhs, zht, zhu, zhv, zhw, zhx, zhy, zhz, zia, zib, zic, bound, addL, addT, grow, room, List.length_cons, List.length_nil, List.length_map, frOf, byq, ti_bytes, ti_int, ti_uint, ti_u8, ti_bool, ti_string, ti_u64, ti_val, ti_a16, ti_bits, ti_op, ti_ops, ti_reader, ti_errno, ti_preader, ti_rreader, ti_prreader, ti_rows, ↓blp, blq, bhq, Nat.reduceMod, Nat.reduceDiv, stepH, stepM, toMs1, toMs, toMs0, strK, pubK, pubF, pubV, List.take_succ_cons, List.take_zero, List.drop_succ_cons, List.drop_zero, hle1, hrw, Nat.le_refl, eq_self, q2', e1, hic, hx, zki, zkj]
      refine ⟨by omega, ⟨by omega, by omega, by omega⟩, ⟨by rw [List.length_set], by rw [List.length_set]; omega, by rw [List.length_set]; omega⟩, ?_⟩
      generalize hR : [AV.slice (Mark.own H.nx) 1 (bys bb), AV.slice (Mark.own (H.nx + 1 + 1)) 1 (bys (bb.set ia e)), AV.slice Mark.any 1 (bys (List.take ic bb)), AV.slice (Mark.own (H.nx + 1 + 1)) 1 (bys (bb.set ia e ++ [x]))] = R
      have hR4 : R.length = 4 := by rw [← hR]; rfl
      have hRb : ∀ i, i < 4 → ∃ m s, R.getD i .junk = .slice m 1 (bys s) ∧ s.length ≤ 1300 := by
        intro i hi
        rw [← hR]
        rcases (by omega : i = 0 ∨ i = 1 ∨ i = 2 ∨ i = 3) with rfl | rfl | rfl | rfl
        · exact ⟨_, bb, rfl, by omega⟩
        · exact ⟨_, bb.set ia e, rfl, by rw [List.length_set]; omega⟩
        · exact ⟨_, bb.take ic, rfl, by rw [List.length_take]; omega⟩
        · exact ⟨_, bb.set ia e ++ [x], rfl, by rw [List.length_append, List.length_set]; simp; omega⟩
      generalize hHx : ((((((H.push (AObj.buf 1 bb.length)).push (AObj.cells (bys (bb.set ia e) ++ List.replicate kk AV.junk))).del (H.nx + 1)).push (AObj.buf 1 ((bb.set ia e).length + 1))).push (AObj.buf 1 1)).push (AObj.buf 1 4)) = Hx
      have hx1 : H.nx ≤ Hx.nx := by rw [← hHx]; simp only [zjj, heap_nx_del]; omega
      have hx2 : Hx.Closed := by rw [← hHx]; exact closed_buf (closed_buf (closed_buf (closed_del (closed_cells (closed_buf hcl) ltL_junked))))
      have hx0 : H.Le Hx := by rw [← hHx]; exact ((((((AHeap.Le.refl H).push _).push _).del (i := H.nx + 1) (Nat.le_succ _)).push _).push _).push _
      have hx3 : (AV.slice .any 1 R).lt Hx.nx := by
        rw [← hR, ← hHx]; simp (disch := first | assumption | omega | (simp; done) | (simp; omega) | (simp only [bt, and_true]; first | done | omega | (simp; done))) [↓zkt, beq, List.take_of_length_le, List.drop_append, List.take_append, endOk, wk, wk2, wk1, wkM, wkL, wkLL, List.drop_eq_nil_of_le, lt_sliceL, zjj, heap_nx_del, zks]; try omega
    all_goals
      have hlt2 := hltl Hx.nx hx1
      refine loop_introW (A := Nat) (fun j => [(0, .slice .any 6 l0), (4, .int .i64 most), (72, .slice .any 1 R), (73, .int .i64 4), (74, .int .i64 (j : Int))]) (fun _ => Hx) (fun j => j ≤ 4) (fun j => 4 - j) 0 (by omega) ?_ fun j hj => ?_
      · (simp only [bkq, enterW, subW, ltF, ne_eq, Nat.reduceEqDiff, reduceCtorEq, hx0, hx2, hx3, hlt2, hx1]; try simp (disch := first | assumption | omega | (simp; done) | (simp; omega) | (simp only [bt, and_true]; first | done | omega | (simp; done))) [↓zkt, beq, List.take_of_length_le, List.drop_append, List.take_append, endOk, wk, wk2, wk1, wkM, wkL, wkLL, List.drop_eq_nil_of_le, byq, hcl, hx0, hx2, hx3, hlt2, hx1]; try (repeat' (first | assumption | omega | exact True.intro | refine And.intro ?_ ?_ | refine closed_buf ?_ | refine closed_set_buf ?_ | refine closed_cells ?_ ?_ | refine closed_set ?_ ?_ | refine closed_del ?_ | exact AHeap.Le.refl _ | refine AHeap.Le.push ?_ _ | refine AHeap.Le.del ?_ ?_ | (simp only [bt, and_true, true_and, hx0, hx2, hx3, hlt2, hx1]; first | done | omega | (simp; done)))))
      simp only [↓bwp, bwq, List.tail_nil, List.tail_cons, List.headD_nil, List.headD_cons, ne_eq, reduceCtorEq, Nat.reduceEqDiff, Nat.reduceAdd, Nat.reduceMul, Nat.reduceSub, Nat.reduceLeDiff, Nat.reduceLT, Int.reduceMul, Int.reduceAdd, Int.reduceSub, List.map_cons, List.map_nil, Option.map_some, Option.map_none, Option.elim_some, if_true, if_false, List.append_nil, List.nil_append, bvq, rEq, List.cons_append, Int.reduceToNat, List.getElem?_cons_zero, List.getElem?_cons_succ, TD.agg, List.drop_succ_cons, List.drop_zero, List.take_succ_cons, List.take_zero, List.take_nil, List.drop_nil, List.getD_cons_zero, List.getD_cons_succ, splice, zhb, zhc, Option.isSome_some, Option.isSome_none, List.getElem?_nil, zhd, zhe, rLen, rBin, rInt, rStr, rUn, zhf, zhg, zhh, zhi, zhj, rBox, zhk, zhl, zhm, zhn, zho, zhp, zhq, zhr, zhs, zht, zhu, zhv, zhw, zhx, zhy, zhz, zia, zib, zic, bound, addL, addT, grow, room, List.length_cons, List.length_nil, List.length_map, frOf, byq, ti_bytes, ti_int, ti_uint, ti_u8, ti_bool, ti_string, ti_u64, ti_val, ti_a16, ti_bits, ti_op, ti_ops, ti_reader, ti_errno, ti_preader, ti_rreader, ti_prreader, ti_rows, ↓blp, blq]
      refine cond_split (fun hc2 => ?_) (fun hc2 => ?_)
      rotate_left
      · simp only [↓bwp, bwq, List.tail_nil, List.tail_cons, List.headD_nil, List.headD_cons, ne_eq, reduceCtorEq, Nat.reduceEqDiff, Nat.reduceAdd, Nat.reduceMul, Nat.reduceSub, Nat.reduceLeDiff, Nat.reduceLT, Int.reduceMul, Int.reduceAdd, Int.reduceSub, List.map_cons, List.map_nil, Option.map_some, Option.map_none, Option.elim_some, if_true, if_false, List.append_nil, List.nil_append, bvq, rEq, List.cons_append, Int.reduceToNat, List.getElem?_cons_zero, List.getElem?_cons_succ, TD.agg, List.drop_succ_cons, List.drop_zero, List.take_succ_cons, List.take_zero, List.take_nil, List.drop_nil, List.getD_cons_zero, List.getD_cons_succ, splice, zhb, zhc, Option.isSome_some, Option.isSome_none, List.getElem?_nil, zhd, zhe, rLen, rBin, rInt, rStr, rUn, zhf, zhg, zhh, zhi, zhj, rBox, zhk, zhl, zhm, zhn, zho, zhp, zhq, zhr, zhs, zht, zhu, zhv, zhw, zhx, zhy, zhz, zia, zib, zic, bound, addL, addT, grow, room, List.length_cons, List.length_nil, List.length_map, frOf, byq, ti_bytes, ti_int, ti_uint, ti_u8, ti_bool, ti_string, ti_u64, ti_val, ti_a16, ti_bits, ti_op, ti_ops, ti_reader, ti_errno, ti_preader, ti_rreader, ti_prreader, ti_rows, ↓blp, blq, p_begun]
        simp (disch := first | assumption | omega | (simp; done) | (simp; omega) | (simp only [bt, and_true]; first | done | omega | (simp; done))) [↓zkt, beq, List.take_of_length_le, List.drop_append, List.take_append, endOk, wk, wk2, wk1, wkM, wkL, wkLL, List.drop_eq_nil_of_le, hcl, hx0]
      have hj4 : j < 4 := by simp at hc2; omega
      obtain ⟨ms, s, hRj, hsl⟩ := hRb j hj4
      have ej : IntKind.i64.wrap ((j : Int) + 1) = ((j + 1 : Nat) : Int) := by rw [wrap_i64] <;> omega
      simp only [↓bwp, bwq, List.tail_nil, List.tail_cons, List.headD_nil, List.headD_cons, ne_eq, reduceCtorEq, Nat.reduceEqDiff, Nat.reduceAdd, Nat.reduceMul, Nat.reduceSub, Nat.reduceLeDiff, Nat.reduceLT, Int.reduceMul, Int.reduceAdd, Int.reduceSub, List.map_cons, List.map_nil, Option.map_some, Option.map_none, Option.elim_some, if_true, if_false, List.append_nil, List.nil_append, bvq, rEq, List.cons_append, Int.reduceToNat, List.getElem?_cons_zero, List.getElem?_cons_succ, TD.agg, List.drop_succ_cons, List.drop_zero, List.take_succ_cons, List.take_zero, List.take_nil, List.drop_nil, List.getD_cons_zero, List.getD_cons_succ, splice, zhb, zhc, Option.isSome_some, Option.isSome_none, List.getElem?_nil, zhd, zhe, rLen, rBin, rInt, rStr, rUn, zhf, zhg, zhh, zhi, zhj, rBox, zhk, zhl, zhm, zhn, zho, zhp, zhq, zhr, zhs, zht, zhu, zhv, zhw, zhx, zhy, zhz, zia, zib, zic, bound, addL, addT, grow, room, List.length_cons, List.length_nil, List.length_map, frOf, byq, ti_bytes, ti_int, ti_uint, ti_u8, ti_bool, ti_string, ti_u64, ti_val, ti_a16, ti_bits, ti_op, ti_ops, ti_reader, ti_errno, ti_preader, ti_rreader, ti_prreader, ti_rows, ↓blp, blq, Int.toNat_natCast, hR4, hRj, e_New]
      refine ⟨by omega, by omega, by omega, ?_⟩
      have hcs : ∀ (m2 : Mark) (la : List UInt8) (ea : Int) (q : Nat), (m2 = .any ∨ m2 = .own (Hx.nx + 1)) →
          (((Hx.push (.cells [.slice .any 1 (bys la), .int .i64 ea])).push (.buf 1 q)).push (.cells [.slice m2 1 (bys la), .int .i64 ea])).Closed := by
        intro m2 la ea q h2
        refine closed_cells (closed_buf (closed_cells hx2 ?_)) ?_
        · simp [ltL, zkx, zlk]
        · rcases h2 with rfl | rfl <;> simp [ltL, zkx, zlk, zjj]
      refine loop_introW (A := Nat × Mark × List UInt8 × Int) (fun a => [(87, .int .i64 (a.1 : Int)), (86, .int .i64 (l0.length : Int)), (85, .slice .any 6 l0), (19, .ptr (Hx.nx + 1 + 1) 0), (18, .ptr Hx.nx 0), (0, .slice .any 6 l0), (4, .int .i64 most), (72, .slice .any 1 R), (73, .int .i64 4), (74, .int .i64 (j : Int))])
        (fun a => ((Hx.push (.cells [.slice .any 1 (bys a.2.2.1), .int .i64 a.2.2.2])).push (.buf 1 s.length)).push (.cells [.slice a.2.1 1 (bys a.2.2.1), .int .i64 a.2.2.2]))
        (fun a => a.1 ≤ l0.length ∧ (a.2.1 = .any ∨ a.2.1 = .own (Hx.nx + 1)) ∧ a.2.2.1.length ≤ 1300) (fun a => l0.length - a.1) (0, .own (Hx.nx + 1), s, 0) ⟨by omega, .inr rfl, hsl⟩ ?_ fun a hk => ?_
      · have hcs' := hcs (.own (Hx.nx + 1)) s 0 s.length (.inr rfl)
        have hlt3 := hltl (Hx.nx + 1 + 1 + 1) (by omega)
        have hx4 := AV.lt_mono (show Hx.nx ≤ Hx.nx + 1 + 1 + 1 by omega) _ hx3
        (simp only [bkq, enterW, subW, ltF, ne_eq, Nat.reduceEqDiff, reduceCtorEq, hcs', hlt3, hx4, zjj]; try simp (disch := first | assumption | omega | (simp; done) | (simp; omega) | (simp only [bt, and_true]; first | done | omega | (simp; done))) [↓zkt, beq, List.take_of_length_le, List.drop_append, List.take_append, endOk, wk, wk2, wk1, wkM, wkL, wkLL, List.drop_eq_nil_of_le, byq, hcl, hcs', hlt3, hx4, zjj]; try (repeat' (first | assumption | omega | exact True.intro | refine And.intro ?_ ?_ | refine closed_buf ?_ | refine closed_set_buf ?_ | refine closed_cells ?_ ?_ | refine closed_set ?_ ?_ | refine closed_del ?_ | exact AHeap.Le.refl _ | refine AHeap.Le.push ?_ _ | refine AHeap.Le.del ?_ ?_ | (simp only [bt, and_true, true_and, hcs', hlt3, hx4, zjj]; first | done | omega | (simp; done)))))
      obtain ⟨k, m2, la, ea⟩ := a
      obtain ⟨hk, hm, hll⟩ := hk
      dsimp only at hk hm hll ⊢
      have hla : la.length ≤ 100000 := by omega
      simp only [↓bwp, bwq, List.tail_nil, List.tail_cons, List.headD_nil, List.headD_cons, ne_eq, reduceCtorEq, Nat.reduceEqDiff, Nat.reduceAdd, Nat.reduceMul, Nat.reduceSub, Nat.reduceLeDiff, Nat.reduceLT, Int.reduceMul, Int.reduceAdd, Int.reduceSub, List.map_cons, List.map_nil, Option.map_some, Option.map_none, Option.elim_some, if_true, if_false, List.append_nil, List.nil_append, bvq, rEq, List.cons_append, Int.reduceToNat, List.getElem?_cons_zero, List.getElem?_cons_succ, TD.agg, List.drop_succ_cons, List.drop_zero, List.take_succ_cons, List.take_zero, List.take_nil, List.drop_nil, List.getD_cons_zero, List.getD_cons_succ, splice, zhb, zhc, Option.isSome_some, Option.isSome_none, List.getElem?_nil, zhd, zhe, rLen, rBin, rInt, rStr, rUn, zhf, zhg, zhh, zhi, zhj, rBox, zhk, zhl, zhm, zhn, zho, zhp, zhq, zhr, zhs, zht, zhu, zhv, zhw, zhx, zhy, zhz, zia, zib, zic, bound, addL, addT, grow, room, List.length_cons, List.length_nil, List.length_map, frOf, byq, ti_bytes, ti_int, ti_uint, ti_u8, ti_bool, ti_string, ti_u64, ti_val, ti_a16, ti_bits, ti_op, ti_ops, ti_reader, ti_errno, ti_preader, ti_rreader, ti_prreader, ti_rows, ↓blp, blq]
      refine cond_split (fun hc => ?_) (fun hc => ?_)
      · have hk : k < l0.length := by simp at hc; omega
        have e1 : IntKind.i64.wrap ((k : Int) + 1) = ((k + 1 : Nat) : Int) := by rw [wrap_i64] <;> omega
        have hx : l0.getD k .junk ∈ l0 := by simp [List.getD_eq_getElem?_getD, hk]
        obtain ⟨ka, n, most2, hi, lo, sv, ex, hv, hs⟩ := hl0 _ hx

        by_cases c0 : ka.tmod 6 = 0
        case pos =>
          have d0 : (ka.tmod 6 == 0) = true := by simpa using c0
          have t1 := uintR_v m2 la ea (IntKind.i64.wrap (1 + iand .i64 most2 3))
          have s1 := uintR_s m2 la ea (IntKind.i64.wrap (1 + iand .i64 most2 3))
          have k1 := uintR_m .any la ea (IntKind.i64.wrap (1 + iand .i64 most2 3))
          have k2 := uintR_m m2 la ea (IntKind.i64.wrap (1 + iand .i64 most2 3))
          have l2 := uintR_l m2 la ea (IntKind.i64.wrap (1 + iand .i64 most2 3))
          generalize hq1 : uintR (.any, la, ea) (IntKind.i64.wrap (1 + iand .i64 most2 3)) = q1 at *
          generalize hq2 : uintR (m2, la, ea) (IntKind.i64.wrap (1 + iand .i64 most2 3)) = q2 at *
          have hl2 : q2.2.2.1.length ≤ 100000 := by omega
          have k1' : q1.2.1 = .any := k1.elim id id
          simp only [↓bwp, bwq, List.tail_nil, List.tail_cons, List.headD_nil, List.headD_cons, ne_eq, reduceCtorEq, Nat.reduceEqDiff, Nat.reduceAdd, Nat.reduceMul, Nat.reduceSub, Nat.reduceLeDiff, Nat.reduceLT, Int.reduceMul, Int.reduceAdd, Int.reduceSub, List.map_cons, List.map_nil, Option.map_some, Option.map_none, Option.elim_some, if_true, if_false, List.append_nil, List.nil_append, zau, zat, bvq, rEq, List.cons_append, Int.reduceToNat, List.getElem?_cons_zero, List.getElem?_cons_succ, TD.agg, List.drop_succ_cons, List.drop_zero, List.take_succ_cons, List.take_zero, List.take_nil, List.drop_nil, List.getD_cons_zero, List.getD_cons_succ, splice, zhb, zhc, Option.isSome_some, Option.isSome_none, List.getElem?_nil, zhd, zhe, rLen, rBin, rInt, rStr, rUn, zhf, zhg, zhh, zhi, zhj, rBox, zhk, zhl, zhm, zhn, zho, zhp, zhq, zhr, zhs, zht, zhu, zhv, zhw, zhx, zhy, zhz, zia, zib, zic, bound, addL, addT, grow, room, List.length_cons, List.length_nil, List.length_map, frOf, byq, ti_bytes, ti_int, ti_uint, ti_u8, ti_bool, ti_string, ti_u64, ti_val, ti_a16, ti_bits, ti_op, ti_ops, ti_reader, ti_errno, ti_preader, ti_rreader, ti_prreader, ti_rows, ↓blp, blq, Int.toNat_natCast, ex, onR, onRo_some, onRo_nil, zmp, hn0, e_Uint, e_xUint, d0, hla, hq1, hq2, cellR, k1', ← s1, ← t1, e_RErrE, p_RErr, e_RLeftE, p_RLeft, hl2, e1, beq_self_eq_true, bne_self_eq_false, vv, teq_val, eqg_val, Nat.reduceLeDiff]
          refine ⟨by omega, by omega, (k + 1, q2.2.1, q2.2.2.1, q2.2.2.2), ⟨by dsimp only; omega, ?_, by dsimp only; omega⟩, by dsimp only; omega, ?_⟩
          · rcases k2 with e | e
            · rw [e]; exact hm
            · exact .inl e
          · have hcs' := hcs q2.2.1 q2.2.2.1 q2.2.2.2 s.length (by rcases k2 with e | e <;> rw [e] <;> simp [hm])
            have hlt3 := hltl (Hx.nx + 1 + 1 + 1) (by omega)
            have hx4 := AV.lt_mono (show Hx.nx ≤ Hx.nx + 1 + 1 + 1 by omega) _ hx3
            (simp only [bkq, enterW, subW, ltF, ne_eq, Nat.reduceEqDiff, reduceCtorEq, hcs', hlt3, hx4, zjj]; try simp (disch := first | assumption | omega | (simp; done) | (simp; omega) | (simp only [bt, and_true]; first | done | omega | (simp; done))) [↓zkt, beq, List.take_of_length_le, List.drop_append, List.take_append, endOk, wk, wk2, wk1, wkM, wkL, wkLL, List.drop_eq_nil_of_le, byq, hcl, hcs', hlt3, hx4, zjj]; try (repeat' (first | assumption | omega | exact True.intro | refine And.intro ?_ ?_ | refine closed_buf ?_ | refine closed_set_buf ?_ | refine closed_cells ?_ ?_ | refine closed_set ?_ ?_ | refine closed_del ?_ | exact AHeap.Le.refl _ | refine AHeap.Le.push ?_ _ | refine AHeap.Le.del ?_ ?_ | (simp only [bt, and_true, true_and, hcs', hlt3, hx4, zjj]; first | done | omega | (simp; done)))))
        have d0 : (ka.tmod 6 == 0) = false := by simpa using c0
        by_cases c1 : ka.tmod 6 = 1
        case pos =>
          have d1 : (ka.tmod 6 == 1) = true := by simpa using c1
          have t1 := uintR_v m2 la ea (IntKind.i64.wrap (1 + iand .i64 most2 3))
          have s1 := uintR_s m2 la ea (IntKind.i64.wrap (1 + iand .i64 most2 3))
          have k1 := uintR_m .any la ea (IntKind.i64.wrap (1 + iand .i64 most2 3))
          have k2 := uintR_m m2 la ea (IntKind.i64.wrap (1 + iand .i64 most2 3))
          have l2 := uintR_l m2 la ea (IntKind.i64.wrap (1 + iand .i64 most2 3))
          generalize hq1 : uintR (.any, la, ea) (IntKind.i64.wrap (1 + iand .i64 most2 3)) = q1 at *
          generalize hq2 : uintR (m2, la, ea) (IntKind.i64.wrap (1 + iand .i64 most2 3)) = q2 at *
          have hl2 : q2.2.2.1.length ≤ 100000 := by omega
          have k1' : q1.2.1 = .any := k1.elim id id
          simp only [↓bwp, bwq, List.tail_nil, List.tail_cons, List.headD_nil, List.headD_cons, ne_eq, reduceCtorEq, Nat.reduceEqDiff, Nat.reduceAdd, Nat.reduceMul, Nat.reduceSub, Nat.reduceLeDiff, Nat.reduceLT, Int.reduceMul, Int.reduceAdd, Int.reduceSub, List.map_cons, List.map_nil, Option.map_some, Option.map_none, Option.elim_some, if_true, if_false, List.append_nil, List.nil_append, zau, zat, bvq, rEq, List.cons_append, Int.reduceToNat, List.getElem?_cons_zero, List.getElem?_cons_succ, TD.agg, List.drop_succ_cons, List.drop_zero, List.take_succ_cons, List.take_zero, List.take_nil, List.drop_nil, List.getD_cons_zero, List.getD_cons_succ, splice, zhb, zhc, Option.isSome_some, Option.isSome_none, List.getElem?_nil, zhd, zhe, rLen, rBin, rInt, rStr, rUn, zhf, zhg, zhh, zhi, zhj, rBox, zhk, zhl, zhm, zhn, zho, zhp, zhq, zhr, zhs, zht, zhu, zhv, zhw, zhx, zhy, zhz, zia, zib, zic, bound, addL, addT, grow, room, List.length_cons, List.length_nil, List.length_map, frOf, byq, ti_bytes, ti_int, ti_uint, ti_u8, ti_bool, ti_string, ti_u64, ti_val, ti_a16, ti_bits, ti_op, ti_ops, ti_reader, ti_errno, ti_preader, ti_rreader, ti_prreader, ti_rows, ↓blp, blq, Int.toNat_natCast, ex, onR, onRo_some, onRo_nil, zmp, hn0, e_Uint, e_xUint, d0, d1, hla, hq1, hq2, cellR, k1', ← s1, ← t1, e_RErrE, p_RErr, e_RLeftE, p_RLeft, hl2, e1, beq_self_eq_true, bne_self_eq_false, vv, teq_val, eqg_val, Nat.reduceLeDiff]
          refine ⟨by omega, by omega, (k + 1, q2.2.1, q2.2.2.1, q2.2.2.2), ⟨by dsimp only; omega, ?_, by dsimp only; omega⟩, by dsimp only; omega, ?_⟩
          · rcases k2 with e | e
            · rw [e]; exact hm
            · exact .inl e
          · have hcs' := hcs q2.2.1 q2.2.2.1 q2.2.2.2 s.length (by rcases k2 with e | e <;> rw [e] <;> simp [hm])
            have hlt3 := hltl (Hx.nx + 1 + 1 + 1) (by omega)
            have hx4 := AV.lt_mono (show Hx.nx ≤ Hx.nx + 1 + 1 + 1 by omega) _ hx3
            (simp only [bkq, enterW, subW, ltF, ne_eq, Nat.reduceEqDiff, reduceCtorEq, hcs', hlt3, hx4, zjj]; try simp (disch := first | assumption | omega | (simp; done) | (simp; omega) | (simp only [bt, and_true]; first | done | omega | (simp; done))) [↓zkt, beq, List.take_of_length_le, List.drop_append, List.take_append, endOk, wk, wk2, wk1, wkM, wkL, wkLL, List.drop_eq_nil_of_le, byq, hcl, hcs', hlt3, hx4, zjj]; try (repeat' (first | assumption | omega | exact True.intro | refine And.intro ?_ ?_ | refine closed_buf ?_ | refine closed_set_buf ?_ | refine closed_cells ?_ ?_ | refine closed_set ?_ ?_ | refine closed_del ?_ | exact AHeap.Le.refl _ | refine AHeap.Le.push ?_ _ | refine AHeap.Le.del ?_ ?_ | (simp only [bt, and_true, true_and, hcs', hlt3, hx4, zjj]; first | done | omega | (simp; done)))))
        have d1 : (ka.tmod 6 == 1) = false := by simpa using c1
        by_cases c2 : ka.tmod 6 = 2
        case pos =>
          have d2 : (ka.tmod 6 == 2) = true := by simpa using c2
          have t1 := boolR_v m2 la ea
          have s1 := boolR_s m2 la ea
          have k1 := boolR_m .any la ea
          have k2 := boolR_m m2 la ea
          have l2 := boolR_l m2 la ea
          generalize hq1 : boolR (.any, la, ea) = q1 at *
          generalize hq2 : boolR (m2, la, ea) = q2 at *
          have hl2 : q2.2.2.1.length ≤ 100000 := by omega
          have k1' : q1.2.1 = .any := k1.elim id id
          simp only [↓bwp, bwq, List.tail_nil, List.tail_cons, List.headD_nil, List.headD_cons, ne_eq, reduceCtorEq, Nat.reduceEqDiff, Nat.reduceAdd, Nat.reduceMul, Nat.reduceSub, Nat.reduceLeDiff, Nat.reduceLT, Int.reduceMul, Int.reduceAdd, Int.reduceSub, List.map_cons, List.map_nil, Option.map_some, Option.map_none, Option.elim_some, if_true, if_false, List.append_nil, List.nil_append, zau, zat, bvq, rEq, List.cons_append, Int.reduceToNat, List.getElem?_cons_zero, List.getElem?_cons_succ, TD.agg, List.drop_succ_cons, List.drop_zero, List.take_succ_cons, List.take_zero, List.take_nil, List.drop_nil, List.getD_cons_zero, List.getD_cons_succ, splice, zhb, zhc, Option.isSome_some, Option.isSome_none, List.getElem?_nil, zhd, zhe, rLen, rBin, rInt, rStr, rUn, zhf, zhg, zhh, zhi, zhj, rBox, zhk, zhl, zhm, zhn, zho, zhp, zhq, zhr, zhs, zht, zhu, zhv, zhw, zhx, zhy, zhz, zia, zib, zic, bound, addL, addT, grow, room, List.length_cons, List.length_nil, List.length_map, frOf, byq, ti_bytes, ti_int, ti_uint, ti_u8, ti_bool, ti_string, ti_u64, ti_val, ti_a16, ti_bits, ti_op, ti_ops, ti_reader, ti_errno, ti_preader, ti_rreader, ti_prreader, ti_rows, ↓blp, blq, Int.toNat_natCast, ex, onR, onRo_some, onRo_nil, zmp, hn0, e_RBool, e_xBool, d0, d1, d2, hla, hq1, hq2, cellR, k1', ← s1, ← t1, e_RErrE, p_RErr, e_RLeftE, p_RLeft, hl2, e1, beq_self_eq_true, bne_self_eq_false, vv, teq_val, eqg_val, Nat.reduceLeDiff]
          refine ⟨by omega, by omega, (k + 1, q2.2.1, q2.2.2.1, q2.2.2.2), ⟨by dsimp only; omega, ?_, by dsimp only; omega⟩, by dsimp only; omega, ?_⟩
          · rcases k2 with e | e
            · rw [e]; exact hm
            · exact .inl e
          · have hcs' := hcs q2.2.1 q2.2.2.1 q2.2.2.2 s.length (by rcases k2 with e | e <;> rw [e] <;> simp [hm])
            have hlt3 := hltl (Hx.nx + 1 + 1 + 1) (by omega)
            have hx4 := AV.lt_mono (show Hx.nx ≤ Hx.nx + 1 + 1 + 1 by omega) _ hx3
            (simp only [bkq, enterW, subW, ltF, ne_eq, Nat.reduceEqDiff, reduceCtorEq, hcs', hlt3, hx4, zjj]; try simp (disch := first | assumption | omega | (simp; done) | (simp; omega) | (simp only [bt, and_true]; first | done | omega | (simp; done))) [↓zkt, beq, List.take_of_length_le, List.drop_append, List.take_append, endOk, wk, wk2, wk1, wkM, wkL, wkLL, List.drop_eq_nil_of_le, byq, hcl, hcs', hlt3, hx4, zjj]; try (repeat' (first | assumption | omega | exact True.intro | refine And.intro ?_ ?_ | refine closed_buf ?_ | refine closed_set_buf ?_ | refine closed_cells ?_ ?_ | refine closed_set ?_ ?_ | refine closed_del ?_ | exact AHeap.Le.refl _ | refine AHeap.Le.push ?_ _ | refine AHeap.Le.del ?_ ?_ | (simp only [bt, and_true, true_and, hcs', hlt3, hx4, zjj]; first | done | omega | (simp; done)))))
        have d2 : (ka.tmod 6 == 2) = false := by simpa using c2
        by_cases c3 : ka.tmod 6 = 3
        case pos =>
          have d3 : (ka.tmod 6 == 3) = true := by simpa using c3
          have t1 := bytesR_v m2 la ea most
          have s1 := bytesR_s m2 la ea most
          have k1 := bytesR_m .any la ea most
          have k2 := bytesR_m m2 la ea most
          have l2 := bytesR_l m2 la ea most
          generalize hq1 : bytesR (.any, la, ea) most = q1 at *
          generalize hq2 : bytesR (m2, la, ea) most = q2 at *
          have hl2 : q2.2.2.1.length ≤ 100000 := by omega
          have k1' : q1.2.1 = .any := k1.elim id id
          simp only [↓bwp, bwq, List.tail_nil, List.tail_cons, List.headD_nil, List.headD_cons, ne_eq, reduceCtorEq, Nat.reduceEqDiff, Nat.reduceAdd, Nat.reduceMul, Nat.reduceSub, Nat.reduceLeDiff, Nat.reduceLT, Int.reduceMul, Int.reduceAdd, Int.reduceSub, List.map_cons, List.map_nil, Option.map_some, Option.map_none, Option.elim_some, if_true, if_false, List.append_nil, List.nil_append, zau, zat, bvq, rEq, List.cons_append, Int.reduceToNat, List.getElem?_cons_zero, List.getElem?_cons_succ, TD.agg, List.drop_succ_cons, List.drop_zero, List.take_succ_cons, List.take_zero, List.take_nil, List.drop_nil, List.getD_cons_zero, List.getD_cons_succ, splice, zhb, zhc, Option.isSome_some, Option.isSome_none, List.getElem?_nil, zhd, zhe, rLen, rBin, rInt, rStr, rUn, zhf, zhg, zhh, zhi, zhj, rBox, zhk, zhl, zhm, zhn, zho, zhp, zhq, zhr, zhs, zht, zhu, zhv, zhw, zhx, zhy, zhz, zia, zib, zic, bound, addL, addT, grow, room, List.length_cons, List.length_nil, List.length_map, frOf, byq, ti_bytes, ti_int, ti_uint, ti_u8, ti_bool, ti_string, ti_u64, ti_val, ti_a16, ti_bits, ti_op, ti_ops, ti_reader, ti_errno, ti_preader, ti_rreader, ti_prreader, ti_rows, ↓blp, blq, Int.toNat_natCast, ex, onR, onRo_some, onRo_nil, zmp, hn0, e_RBytes, e_xBytes, d0, d1, d2, d3, hla, hq1, hq2, cellR, k1', ← s1, ← t1, e_RErrE, p_RErr, e_RLeftE, p_RLeft, hl2, e1, beq_self_eq_true, bne_self_eq_false, vv, teq_val, eqg_val, Nat.reduceLeDiff]
          refine ⟨by omega, by omega, (k + 1, q2.2.1, q2.2.2.1, q2.2.2.2), ⟨by dsimp only; omega, ?_, by dsimp only; omega⟩, by dsimp only; omega, ?_⟩
          · rcases k2 with e | e
            · rw [e]; exact hm
            · exact .inl e
          · have hcs' := hcs q2.2.1 q2.2.2.1 q2.2.2.2 s.length (by rcases k2 with e | e <;> rw [e] <;> simp [hm])
            have hlt3 := hltl (Hx.nx + 1 + 1 + 1) (by omega)
            have hx4 := AV.lt_mono (show Hx.nx ≤ Hx.nx + 1 + 1 + 1 by omega) _ hx3
            (simp only [bkq, enterW, subW, ltF, ne_eq, Nat.reduceEqDiff, reduceCtorEq, hcs', hlt3, hx4, zjj]; try simp (disch := first | assumption | omega | (simp; done) | (simp; omega) | (simp only [bt, and_true]; first | done | omega | (simp; done))) [↓zkt, beq, List.take_of_length_le, List.drop_append, List.take_append, endOk, wk, wk2, wk1, wkM, wkL, wkLL, List.drop_eq_nil_of_le, byq, hcl, hcs', hlt3, hx4, zjj]; try (repeat' (first | assumption | omega | exact True.intro | refine And.intro ?_ ?_ | refine closed_buf ?_ | refine closed_set_buf ?_ | refine closed_cells ?_ ?_ | refine closed_set ?_ ?_ | refine closed_del ?_ | exact AHeap.Le.refl _ | refine AHeap.Le.push ?_ _ | refine AHeap.Le.del ?_ ?_ | (simp only [bt, and_true, true_and, hcs', hlt3, hx4, zjj]; first | done | omega | (simp; done)))))
        have d3 : (ka.tmod 6 == 3) = false := by simpa using c3
        by_cases c4 : ka.tmod 6 = 4
        case pos =>
          have d4 : (ka.tmod 6 == 4) = true := by simpa using c4
          have t1 := textR_v m2 la ea 40
          have s1 := textR_s m2 la ea 40
          have k1 := textR_m .any la ea 40
          have k2 := textR_m m2 la ea 40
          have l2 := textR_l m2 la ea 40
          generalize hq1 : textR (.any, la, ea) 40 = q1 at *
          generalize hq2 : textR (m2, la, ea) 40 = q2 at *
          have hl2 : q2.2.2.1.length ≤ 100000 := by omega
          have k1' : q1.2.1 = .any := k1.elim id id
          simp only [↓bwp, bwq, List.tail_nil, List.tail_cons, List.headD_nil, List.headD_cons, ne_eq, reduceCtorEq, Nat.reduceEqDiff, Nat.reduceAdd, Nat.reduceMul, Nat.reduceSub, Nat.reduceLeDiff, Nat.reduceLT, Int.reduceMul, Int.reduceAdd, Int.reduceSub, List.map_cons, List.map_nil, Option.map_some, Option.map_none, Option.elim_some, if_true, if_false, List.append_nil, List.nil_append, zau, zat, bvq, rEq, List.cons_append, Int.reduceToNat, List.getElem?_cons_zero, List.getElem?_cons_succ, TD.agg, List.drop_succ_cons, List.drop_zero, List.take_succ_cons, List.take_zero, List.take_nil, List.drop_nil, List.getD_cons_zero, List.getD_cons_succ, splice, zhb, zhc, Option.isSome_some, Option.isSome_none, List.getElem?_nil, zhd, zhe, rLen, rBin, rInt, rStr, rUn, zhf, zhg, zhh, zhi, zhj, rBox, zhk, zhl, zhm, zhn, zho, zhp, zhq, zhr, zhs, zht, zhu, zhv, zhw, zhx, zhy, zhz, zia, zib, zic, bound, addL, addT, grow, room, List.length_cons, List.length_nil, List.length_map, frOf, byq, ti_bytes, ti_int, ti_uint, ti_u8, ti_bool, ti_string, ti_u64, ti_val, ti_a16, ti_bits, ti_op, ti_ops, ti_reader, ti_errno, ti_preader, ti_rreader, ti_prreader, ti_rows, ↓blp, blq, Int.toNat_natCast, ex, onR, onRo_some, onRo_nil, zmp, hn0, e_RText, e_xText, d0, d1, d2, d3, d4, hla, hq1, hq2, cellR, k1', ← s1, ← t1, e_RErrE, p_RErr, e_RLeftE, p_RLeft, hl2, e1, beq_self_eq_true, bne_self_eq_false, vv, teq_val, eqg_val, Nat.reduceLeDiff]
          refine ⟨by omega, by omega, (k + 1, q2.2.1, q2.2.2.1, q2.2.2.2), ⟨by dsimp only; omega, ?_, by dsimp only; omega⟩, by dsimp only; omega, ?_⟩
          · rcases k2 with e | e
            · rw [e]; exact hm
            · exact .inl e
          · have hcs' := hcs q2.2.1 q2.2.2.1 q2.2.2.2 s.length (by rcases k2 with e | e <;> rw [e] <;> simp [hm])
            have hlt3 := hltl (Hx.nx + 1 + 1 + 1) (by omega)
            have hx4 := AV.lt_mono (show Hx.nx ≤ Hx.nx + 1 + 1 + 1 by omega) _ hx3
            (simp only [bkq, enterW, subW, ltF, ne_eq, Nat.reduceEqDiff, reduceCtorEq, hcs', hlt3, hx4, zjj]; try simp (disch := first | assumption | omega | (simp; done) | (simp; omega) | (simp only [bt, and_true]; first | done | omega | (simp; done))) [↓zkt, beq, List.take_of_length_le, List.drop_append, List.take_append, endOk, wk, wk2, wk1, wkM, wkL, wkLL, List.drop_eq_nil_of_le, byq, hcl, hcs', hlt3, hx4, zjj]; try (repeat' (first | assumption | omega | exact True.intro | refine And.intro ?_ ?_ | refine closed_buf ?_ | refine closed_set_buf ?_ | refine closed_cells ?_ ?_ | refine closed_set ?_ ?_ | refine closed_del ?_ | exact AHeap.Le.refl _ | refine AHeap.Le.push ?_ _ | refine AHeap.Le.del ?_ ?_ | (simp only [bt, and_true, true_and, hcs', hlt3, hx4, zjj]; first | done | omega | (simp; done)))))
        have d4 : (ka.tmod 6 == 4) = false := by simpa using c4
        have t1 := valueR_v m2 la ea
        have s1 := valueR_s m2 la ea
        have k1 := valueR_m .any la ea
        have k2 := valueR_m m2 la ea
        have l2 := valueR_l m2 la ea
        generalize hq1 : valueR (.any, la, ea) = q1 at *
        generalize hq2 : valueR (m2, la, ea) = q2 at *
        have hl2 : q2.2.2.1.length ≤ 100000 := by omega
        have k1' : q1.2.1 = .any := k1.elim id id
        simp only [↓bwp, bwq, List.tail_nil, List.tail_cons, List.headD_nil, List.headD_cons, ne_eq, reduceCtorEq, Nat.reduceEqDiff, Nat.reduceAdd, Nat.reduceMul, Nat.reduceSub, Nat.reduceLeDiff, Nat.reduceLT, Int.reduceMul, Int.reduceAdd, Int.reduceSub, List.map_cons, List.map_nil, Option.map_some, Option.map_none, Option.elim_some, if_true, if_false, List.append_nil, List.nil_append, zau, zat, bvq, rEq, List.cons_append, Int.reduceToNat, List.getElem?_cons_zero, List.getElem?_cons_succ, TD.agg, List.drop_succ_cons, List.drop_zero, List.take_succ_cons, List.take_zero, List.take_nil, List.drop_nil, List.getD_cons_zero, List.getD_cons_succ, splice, zhb, zhc, Option.isSome_some, Option.isSome_none, List.getElem?_nil, zhd, zhe, rLen, rBin, rInt, rStr, rUn, zhf, zhg, zhh, zhi, zhj, rBox, zhk, zhl, zhm, zhn, zho, zhp, zhq, zhr, zhs, zht, zhu, zhv, zhw, zhx, zhy, zhz, zia, zib, zic, bound, addL, addT, grow, room, List.length_cons, List.length_nil, List.length_map, frOf, byq, ti_bytes, ti_int, ti_uint, ti_u8, ti_bool, ti_string, ti_u64, ti_val, ti_a16, ti_bits, ti_op, ti_ops, ti_reader, ti_errno, ti_preader, ti_rreader, ti_prreader, ti_rows, ↓blp, blq, Int.toNat_natCast, ex, onR, onRo_some, onRo_nil, zmp, hn0, e_RValue, e_xValue, d0, d1, d2, d3, d4, hla, hq1, hq2, cellR, k1', ← s1, ← t1, e_RErrE, p_RErr, e_RLeftE, p_RLeft, hl2, e1, beq_self_eq_true, bne_self_eq_false, vv, teq_val, eqg_val, Nat.reduceLeDiff]
        refine ⟨by omega, by omega, (k + 1, q2.2.1, q2.2.2.1, q2.2.2.2), ⟨by dsimp only; omega, ?_, by dsimp only; omega⟩, by dsimp only; omega, ?_⟩
        · rcases k2 with e | e
          · rw [e]; exact hm
          · exact .inl e
        · have hcs' := hcs q2.2.1 q2.2.2.1 q2.2.2.2 s.length (by rcases k2 with e | e <;> rw [e] <;> simp [hm])
          have hlt3 := hltl (Hx.nx + 1 + 1 + 1) (by omega)
          have hx4 := AV.lt_mono (show Hx.nx ≤ Hx.nx + 1 + 1 + 1 by omega) _ hx3
          (simp only [bkq, enterW, subW, ltF, ne_eq, Nat.reduceEqDiff, reduceCtorEq, hcs', hlt3, hx4, zjj]; try simp (disch := first | assumption | omega | (simp; done) | (simp; omega) | (simp only [bt, and_true]; first | done | omega | (simp; done))) [↓zkt, beq, List.take_of_length_le, List.drop_append, List.take_append, endOk, wk, wk2, wk1, wkM, wkL, wkLL, List.drop_eq_nil_of_le, byq, hcl, hcs', hlt3, hx4, zjj]; try (repeat' (first | assumption | omega | exact True.intro | refine And.intro ?_ ?_ | refine closed_buf ?_ | refine closed_set_buf ?_ | refine closed_cells ?_ ?_ | refine closed_set ?_ ?_ | refine closed_del ?_ | exact AHeap.Le.refl _ | refine AHeap.Le.push ?_ _ | refine AHeap.Le.del ?_ ?_ | (simp only [bt, and_true, true_and, hcs', hlt3, hx4, zjj]; first | done | omega | (simp; done)))))
      · have hf : ∀ (m' : Mark) (l : List UInt8) (e : Int), (finishR (.any, l, e) != finishR (m', l, e)) = false := fun m' l e => by
          have : finishR (.any, l, e) = finishR (m', l, e) := rfl
          rw [this, bne_self_eq_false]
        simp only [↓bwp, bwq, List.tail_nil, List.tail_cons, List.headD_nil, List.headD_cons, ne_eq, reduceCtorEq, Nat.reduceEqDiff, Nat.reduceAdd, Nat.reduceMul, Nat.reduceSub, Nat.reduceLeDiff, Nat.reduceLT, Int.reduceMul, Int.reduceAdd, Int.reduceSub, List.map_cons, List.map_nil, Option.map_some, Option.map_none, Option.elim_some, if_true, if_false, List.append_nil, List.nil_append, zau, zat, bvq, rEq, List.cons_append, Int.reduceToNat, List.getElem?_cons_zero, List.getElem?_cons_succ, TD.agg, List.drop_succ_cons, List.drop_zero, List.take_succ_cons, List.take_zero, List.take_nil, List.drop_nil, List.getD_cons_zero, List.getD_cons_succ, splice, zhb, zhc, Option.isSome_some, Option.isSome_none, List.getElem?_nil, zhd, zhe, rLen, rBin, rInt, rStr, rUn, zhf, zhg, zhh, zhi, zhj, rBox, zhk, zhl, zhm, zhn, zho, zhp, zhq, zhr, zhs, zht, zhu, zhv, zhw, zhx, zhy, zhz, zia, zib, zic, bound, addL, addT, grow, room, List.length_cons, List.length_nil, List.length_map, frOf, byq, ti_bytes, ti_int, ti_uint, ti_u8, ti_bool, ti_string, ti_u64, ti_val, ti_a16, ti_bits, ti_op, ti_ops, ti_reader, ti_errno, ti_preader, ti_rreader, ti_prreader, ti_rows, ↓blp, blq, Int.toNat_natCast, onR, onRo_some, onRo_nil, hla, e_RFinishE, p_RFinish, e_xFinishE, p_xFinish, hf, ej]
        refine ⟨j + 1, by omega, by omega, ?_⟩
        (simp only [bkq, enterW, subW, ltF, ne_eq, Nat.reduceEqDiff, reduceCtorEq, hx0, hx2, hx3, hlt2, hx1, zjj]; try simp (disch := first | assumption | omega | (simp; done) | (simp; omega) | (simp only [bt, and_true]; first | done | omega | (simp; done))) [↓zkt, beq, List.take_of_length_le, List.drop_append, List.take_append, endOk, wk, wk2, wk1, wkM, wkL, wkLL, List.drop_eq_nil_of_le, byq, hcl, hx0, hx2, hx3, hlt2, hx1, zjj]; try (repeat' (first | assumption | omega | exact True.intro | refine And.intro ?_ ?_ | refine closed_buf ?_ | refine closed_set_buf ?_ | refine closed_cells ?_ ?_ | refine closed_set ?_ ?_ | refine closed_del ?_ | exact AHeap.Le.refl _ | refine AHeap.Le.push ?_ _ | refine AHeap.Le.del ?_ ?_ | (simp only [bt, and_true, true_and, hx0, hx2, hx3, hlt2, hx1, zjj]; first | done | omega | (simp; done)))))
end Go.AL
