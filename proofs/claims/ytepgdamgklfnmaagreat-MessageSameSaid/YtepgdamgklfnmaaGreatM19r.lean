/- Contracts and plain laws, a part of the proof; no condition of its own. -/
import Derived.Test.YtepgdamgklfnmaaGreatM19p
open List renaming length_cons → yaz, length_nil → yba, take_succ_cons → yaq, take_zero → yar, drop_succ_cons → yao, drop_zero → yap, take_nil → yas, length_map → ybb, map_cons → yae, map_nil → yaf, cons_append → yal, nil_append → yak
open Go Go.AL Go.Proofs
namespace Go.AL
set_option linter.all false
set_option maxRecDepth 10000

def p_bentR : List AV → AHeap → (AV → Prop) → Prop
  | [.agg l, .int .i64 a, .int .i64 n, .agg [.int .u64 hi, .int .u64 lo]], _, K => ∃ (r : SReq) (v : Nat), (l = reqC r ∧ ROk r ∧ r.ups.length ≤ 500 ∧ v < 2 ^ 128 ∧ hi = ((v / 2 ^ 64 : Nat) : Int) ∧ lo = ((v % 2 ^ 64 : Nat) : Int) ∧ -9223372036854775808 ≤ a ∧ a ≤ 9223372036854775807) ∧ K (reqAV (bentQ (a % 10) n v r))
  | _, _, _ => False
set_option maxHeartbeats 8000000 in
theorem ok_bentR : EntOk Tryz.prog 14 (Ent.pure p_bentR) := by
  refine EntOk.pure fun args H K h => ?_
  unfold p_bentR at h
  split at h
  rotate_left
  · exact h.elim
  rename_i l a n hi lo
  obtain ⟨r, v, ⟨rfl, hr, hul, hv, rfl, rfl, ha1, ha2⟩, hK⟩ := h
  refine ⟨_, hK, ?_⟩
  clear hK
  obtain ⟨w, hw⟩ : ∃ w, a % 10 = w := ⟨_, rfl⟩
  have hw10 : w = 0 ∨ w = 1 ∨ w = 2 ∨ w = 3 ∨ w = 4 ∨ w = 5 ∨ w = 6 ∨ w = 7 ∨ w = 8 ∨ w = 9 := by omega
  rw [hw]
  have h3 := iand3 n
  obtain ⟨Q, hQ⟩ : ∃ Q, bentQ w n v r = Q := ⟨_, rfl⟩
  rw [hQ]
  unfold bentQ at hQ
  refine ACalls.of_aw (Ω := [(22, Ent.pure p_ZMod)]) (T := assoc [(6, [[], [], [], [], [], [], [3, 5], [1, 3, 5], [], [1, 3, 5]]), (22, [[0]]), (24, [[19]])]) mixed (TblOk.cons ok_ZMod TblOk.nil) Tryz.func14 (by kernel_rfl) (by rfl) (rs := [.cell 8 28]) (by rfl) (by kernel_rfl) (by simp only [Tryz.ntmps14, yaz, yba]; decide) (Nat.le_refl _) fun hcl hlt => ?_
  change aw _ _ _ (KI Tryz.prog [(22, Ent.pure p_ZMod)] (aEnd Tryz.prog [.cell 8 28] H.nx _ _ (assoc [(6, [[], [], [], [], [], [], [3, 5], [1, 3, 5], [], [1, 3, 5]]), (22, [[0]]), (24, [[19]])])) []) _ _
  clear hlt
  simp only [blkE, blkP, bhq, Nat.reduceMod, Nat.reduceDiv, stepH, stepM, toMs1, toMs, toMs0, strK, pubK, pubF, pubV, yaq, yar, yao, yap, go_sem, reduceCtorEq, Nat.reduceEqDiff, Nat.reduceAdd, Nat.reduceMul, Nat.reduceSub, Nat.reduceLeDiff, Nat.reduceLT, Int.reduceMul, Int.reduceAdd, Int.reduceSub, Int.reduceToNat, byq, reqC, p_ZMod, hw]
  refine ⟨⟨by omega, by omega, fun z hz => by obtain ⟨u, _, rfl⟩ := List.mem_map.1 hz; rfl⟩, ⟨by omega, by omega, by decide, by decide⟩, ?_⟩
  have e318 : IntKind.i64.wrap (318 + iand .i64 n 3) = 318 + iand .i64 n 3 := by rw [wrap_i64] <;> omega
  have e30 : IntKind.i64.wrap (30 + iand .i64 n 3) = 30 + iand .i64 n 3 := by rw [wrap_i64] <;> omega
  rcases hw10 with hw0 | hw0 | hw0 | hw0 | hw0 | hw0 | hw0 | hw0 | hw0 | hw0
  · subst hw0
    simp only [Int.reduceEq, if_true, if_false, reduceCtorEq] at hQ
    subst hQ
    simp only [blkE, blkP, bhq, Nat.reduceMod, Nat.reduceDiv, stepH, stepM, toMs1, toMs, toMs0, strK, pubK, pubF, pubV, yaq, yar, yao, yap, go_sem, reduceCtorEq, Nat.reduceEqDiff, Nat.reduceAdd, Nat.reduceMul, Nat.reduceSub, Nat.reduceLeDiff, Nat.reduceLT, Int.reduceMul, Int.reduceAdd, Int.reduceSub, Int.reduceToNat, byq, Int.reduceBEq, Int.toNat_natCast, e318, e30]
    refine ⟨?_, by repeat (first | exact AHeap.Le.refl _ | refine AHeap.Le.push ?_ _), hcl, lt_req _⟩
    simp [wk, wk2, wkL, wk1, wkM, reqAV, reqC, zReq, zkt, updAV, updC, entryC, zlc]
  skip
  · subst hw0
    simp only [Int.reduceEq, if_true, if_false, reduceCtorEq] at hQ
    subst hQ
    simp only [blkE, blkP, bhq, Nat.reduceMod, Nat.reduceDiv, stepH, stepM, toMs1, toMs, toMs0, strK, pubK, pubF, pubV, yaq, yar, yao, yap, go_sem, reduceCtorEq, Nat.reduceEqDiff, Nat.reduceAdd, Nat.reduceMul, Nat.reduceSub, Nat.reduceLeDiff, Nat.reduceLT, Int.reduceMul, Int.reduceAdd, Int.reduceSub, Int.reduceToNat, byq, Int.reduceBEq, Int.toNat_natCast, e318, e30]
    refine ⟨?_, by repeat (first | exact AHeap.Le.refl _ | refine AHeap.Le.push ?_ _), hcl, lt_req _⟩
    simp [wk, wk2, wkL, wk1, wkM, reqAV, reqC, zReq, zkt, updAV, updC, entryC, zlc]
  skip
  · subst hw0
    simp only [Int.reduceEq, if_true, if_false, reduceCtorEq] at hQ
    subst hQ
    simp only [blkE, blkP, bhq, Nat.reduceMod, Nat.reduceDiv, stepH, stepM, toMs1, toMs, toMs0, strK, pubK, pubF, pubV, yaq, yar, yao, yap, go_sem, reduceCtorEq, Nat.reduceEqDiff, Nat.reduceAdd, Nat.reduceMul, Nat.reduceSub, Nat.reduceLeDiff, Nat.reduceLT, Int.reduceMul, Int.reduceAdd, Int.reduceSub, Int.reduceToNat, byq, Int.reduceBEq, Int.toNat_natCast, e318, e30]
    refine ⟨?_, by repeat (first | exact AHeap.Le.refl _ | refine AHeap.Le.push ?_ _), hcl, lt_req _⟩
    simp [wk, wk2, wkL, wk1, wkM, reqAV, reqC, zReq, zkt, updAV, updC, entryC, zlc]
  skip
  · subst hw0
    simp only [Int.reduceEq, if_true, if_false, reduceCtorEq] at hQ
    subst hQ
    simp only [blkE, blkP, bhq, Nat.reduceMod, Nat.reduceDiv, stepH, stepM, toMs1, toMs, toMs0, strK, pubK, pubF, pubV, yaq, yar, yao, yap, go_sem, reduceCtorEq, Nat.reduceEqDiff, Nat.reduceAdd, Nat.reduceMul, Nat.reduceSub, Nat.reduceLeDiff, Nat.reduceLT, Int.reduceMul, Int.reduceAdd, Int.reduceSub, Int.reduceToNat, byq, Int.reduceBEq, Int.toNat_natCast, e318, e30]
    refine ⟨?_, by repeat (first | exact AHeap.Le.refl _ | refine AHeap.Le.push ?_ _), hcl, lt_req _⟩
    simp [wk, wk2, wkL, wk1, wkM, reqAV, reqC, zReq, zkt, updAV, updC, entryC, zlc]
  skip
  · subst hw0
    simp only [Int.reduceEq, if_true, if_false, reduceCtorEq] at hQ
    subst hQ
    simp only [blkE, blkP, bhq, Nat.reduceMod, Nat.reduceDiv, stepH, stepM, toMs1, toMs, toMs0, strK, pubK, pubF, pubV, yaq, yar, yao, yap, go_sem, reduceCtorEq, Nat.reduceEqDiff, Nat.reduceAdd, Nat.reduceMul, Nat.reduceSub, Nat.reduceLeDiff, Nat.reduceLT, Int.reduceMul, Int.reduceAdd, Int.reduceSub, Int.reduceToNat, byq, Int.reduceBEq, Int.toNat_natCast, e318, e30]
    refine ⟨?_, by repeat (first | exact AHeap.Le.refl _ | refine AHeap.Le.push ?_ _), hcl, lt_req _⟩
    simp [wk, wk2, wkL, wk1, wkM, reqAV, reqC, zReq, zkt, updAV, updC, entryC, zlc]
  skip
  · subst hw0
    simp only [Int.reduceEq, if_true, if_false, reduceCtorEq] at hQ
    subst hQ
    simp only [blkE, blkP, bhq, Nat.reduceMod, Nat.reduceDiv, stepH, stepM, toMs1, toMs, toMs0, strK, pubK, pubF, pubV, yaq, yar, yao, yap, go_sem, reduceCtorEq, Nat.reduceEqDiff, Nat.reduceAdd, Nat.reduceMul, Nat.reduceSub, Nat.reduceLeDiff, Nat.reduceLT, Int.reduceMul, Int.reduceAdd, Int.reduceSub, Int.reduceToNat, byq, Int.reduceBEq, Int.toNat_natCast, e318, e30]
    refine ⟨?_, by repeat (first | exact AHeap.Le.refl _ | refine AHeap.Le.push ?_ _), hcl, lt_req _⟩
    simp [wk, wk2, wkL, wk1, wkM, reqAV, reqC, zReq, zkt, updAV, updC, entryC, zlc]
  skip
  · subst hw0
    simp only [Int.reduceEq, if_true, if_false, reduceCtorEq] at hQ
    subst hQ
    simp only [blkE, blkP, bhq, Nat.reduceMod, Nat.reduceDiv, stepH, stepM, toMs1, toMs, toMs0, strK, pubK, pubF, pubV, yaq, yar, yao, yap, go_sem, reduceCtorEq, Nat.reduceEqDiff, Nat.reduceAdd, Nat.reduceMul, Nat.reduceSub, Nat.reduceLeDiff, Nat.reduceLT, Int.reduceMul, Int.reduceAdd, Int.reduceSub, Int.reduceToNat, byq, Int.reduceBEq, Int.toNat_natCast, e318, e30]
    refine ⟨?_, by repeat (first | exact AHeap.Le.refl _ | refine AHeap.Le.push ?_ _), hcl, lt_req _⟩
    simp [wk, wk2, wkL, wk1, wkM, reqAV, reqC, zReq, zkt, updAV, updC, entryC, zlc]
  skip
  · subst hw0
    simp only [Int.reduceEq, if_true, if_false, reduceCtorEq] at hQ
    subst hQ
    simp only [blkE, blkP, bhq, Nat.reduceMod, Nat.reduceDiv, stepH, stepM, toMs1, toMs, toMs0, strK, pubK, pubF, pubV, yaq, yar, yao, yap, go_sem, reduceCtorEq, Nat.reduceEqDiff, Nat.reduceAdd, Nat.reduceMul, Nat.reduceSub, Nat.reduceLeDiff, Nat.reduceLT, Int.reduceMul, Int.reduceAdd, Int.reduceSub, Int.reduceToNat, byq, Int.reduceBEq, Int.toNat_natCast, e318, e30]
    refine ⟨⟨by omega, by omega⟩, ?_⟩
    refine ⟨?_, by repeat (first | exact AHeap.Le.refl _ | refine AHeap.Le.push ?_ _), hcl, lt_req _⟩
    simp [wk, wk2, wkL, wk1, wkM, reqAV, reqC, zReq, zkt, updAV, updC, entryC, zlc]
    simp [bys, ofByte]
  skip
  · subst hw0
    simp only [Int.reduceEq, if_true, if_false, reduceCtorEq] at hQ
    subst hQ
    simp only [blkE, blkP, bhq, Nat.reduceMod, Nat.reduceDiv, stepH, stepM, toMs1, toMs, toMs0, strK, pubK, pubF, pubV, yaq, yar, yao, yap, go_sem, reduceCtorEq, Nat.reduceEqDiff, Nat.reduceAdd, Nat.reduceMul, Nat.reduceSub, Nat.reduceLeDiff, Nat.reduceLT, Int.reduceMul, Int.reduceAdd, Int.reduceSub, Int.reduceToNat, byq, Int.reduceBEq, Int.toNat_natCast, e318, e30]
    refine weak_slot 82 (updAV (n, ⟨0, [], n, 0, []⟩)) ?_ ?_
    · simp [Fr.get, updAV, updC, entryC, wkD_agg, wkD_slice, wkDL_cons, wkDL_nil, wkDR_cons, wkDR_nil, wkD_int, wkM, wkDR_same]
    simp only [blkE, blkP, bhq, Nat.reduceMod, Nat.reduceDiv, stepH, stepM, toMs1, toMs, toMs0, strK, pubK, pubF, pubV, yaq, yar, yao, yap, go_sem, reduceCtorEq, Nat.reduceEqDiff, Nat.reduceAdd, Nat.reduceMul, Nat.reduceSub, Nat.reduceLeDiff, Nat.reduceLT, Int.reduceMul, Int.reduceAdd, Int.reduceSub, Int.reduceToNat, byq, Int.reduceBEq, Int.toNat_natCast, e318, e30, updAV, updC, entryC]
    refine ⟨⟨by omega, by omega, fun z hz => by rw [List.mem_singleton] at hz; subst hz; rfl⟩, ?_⟩
    refine ⟨?_, by repeat (first | exact AHeap.Le.refl _ | refine AHeap.Le.push ?_ _), hcl, lt_req _⟩
    simp [wk, wk2, wkL, wk1, wkM, reqAV, reqC, updAV, updC, entryC]
  skip
  · subst hw0
    simp only [Int.reduceEq, if_true, if_false, reduceCtorEq] at hQ
    subst hQ
    simp only [blkE, blkP, bhq, Nat.reduceMod, Nat.reduceDiv, stepH, stepM, toMs1, toMs, toMs0, strK, pubK, pubF, pubV, yaq, yar, yao, yap, go_sem, reduceCtorEq, Nat.reduceEqDiff, Nat.reduceAdd, Nat.reduceMul, Nat.reduceSub, Nat.reduceLeDiff, Nat.reduceLT, Int.reduceMul, Int.reduceAdd, Int.reduceSub, Int.reduceToNat, byq, Int.reduceBEq, Int.toNat_natCast, e318, e30]
    obtain ⟨KK, hKK⟩ : ∃ KK : Nat, (30 + iand .i64 n 3) = (KK : Int) := ⟨(30 + iand .i64 n 3).toNat, by omega⟩
    rw [hKK, Int.toNat_natCast]
    have hKb : KK ≤ 33 := by omega
    obtain ⟨US, hUS⟩ : ∃ US : Nat → List (Int × SEntry), US = fun k => r.ups ++ (List.range k).flatMap fun _ => r.ups.take 1 := ⟨_, rfl⟩
    have hwK : IntKind.i64.wrap (KK : Int) = KK := by rw [wrap_i64] <;> omega
    have hnil : ∀ k : Nat, ((List.range k).flatMap fun _ => ([] : List (Int × SEntry))) = [] := fun k => List.flatMap_eq_nil_iff.2 fun _ _ => rfl
    have hU0 : US 0 = r.ups := by rw [hUS]; simp
    have hUS1 : ∀ k, US (k + 1) = US k ++ r.ups.take 1 := fun k => by rw [hUS]; simp [List.range_succ, List.append_assoc]
    have hUl : ∀ k, (US k).length ≤ r.ups.length + k := fun k => by
      induction k with
      | zero => rw [hU0]; omega
      | succ k ih => rw [hUS1, List.length_append, List.length_take]; omega
    have hcR : ∀ k : Nat, ((((H.push (.cells [.int .i64 r.kind, .int .i64 r.role, .int .u64 ((r.el / 2 ^ 64 : Nat) : Int), .int .u64 ((r.el % 2 ^ 64 : Nat) : Int), .slice (.own (H.nx + 1 + 1 + 1)) 6 ((US k).map updAV), .int .i64 r.table, .int .i64 r.frm, .int .i64 r.count, .int .i64 r.port, .slice .any 1 (bys r.data)])).push (.cells [.int .u64 ((v / 2 ^ 64 : Nat) : Int), .int .u64 ((v % 2 ^ 64 : Nat) : Int)])).push (.cells [.int .i64 0, .int .i64 0, .int .u64 0, .int .u64 0, .slice .nil 1 [], .int .i64 0, .int .i64 0, .int .i64 0, .int .i64 0, .slice .nil 1 []])).push (.buf 6 (US k).length)).Closed := fun k => by
      have h0 : ((((H.push (.cells [])).push (.cells [.int .u64 ((v / 2 ^ 64 : Nat) : Int), .int .u64 ((v % 2 ^ 64 : Nat) : Int)])).push (.cells [.int .i64 0, .int .i64 0, .int .u64 0, .int .u64 0, .slice .nil 1 [], .int .i64 0, .int .i64 0, .int .i64 0, .int .i64 0, .slice .nil 1 []])).push (.buf 6 (US k).length)).Closed := by
        repeat' (first | exact hcl | refine closed_buf ?_ | refine closed_cells ?_ ?_)
        · trivial
        · simp [znc, znd, zmn]
        · simp [lt_sliceL, znc, znd, zmn]
      have h1 := closed_set (i := H.nx) (cs := [.int .i64 r.kind, .int .i64 r.role, .int .u64 ((r.el / 2 ^ 64 : Nat) : Int), .int .u64 ((r.el % 2 ^ 64 : Nat) : Int), .slice (.own (H.nx + 1 + 1 + 1)) 6 ((US k).map updAV), .int .i64 r.table, .int .i64 r.frm, .int .i64 r.count, .int .i64 r.port, .slice .any 1 (bys r.data)]) h0 (by
        simp [znc, znd, zmn, zkm, zkn, lt_sliceL, zlx]
        exact ltL_iff.2 fun j hj => by rw [List.getElem_map]; exact lt_upd _)
      simp only [go_sem] at h1
      exact h1
    have hrd : reqAV { r with ups := r.ups ++ (List.range KK).flatMap fun _ => r.ups.take 1 } = reqAV { r with ups := US KK } := by rw [hUS]
    rw [hrd]
    refine loop_introW (A := Nat) (fun k => [(2, .int .i64 n), (4, .ptr H.nx 0), (8, .ptr (H.nx + 1 + 1) 0), (9, .int .i64 (k : Int))]) (fun k => ((((H.push (.cells [.int .i64 r.kind, .int .i64 r.role, .int .u64 ((r.el / 2 ^ 64 : Nat) : Int), .int .u64 ((r.el % 2 ^ 64 : Nat) : Int), .slice (.own (H.nx + 1 + 1 + 1)) 6 ((US k).map updAV), .int .i64 r.table, .int .i64 r.frm, .int .i64 r.count, .int .i64 r.port, .slice .any 1 (bys r.data)])).push (.cells [.int .u64 ((v / 2 ^ 64 : Nat) : Int), .int .u64 ((v % 2 ^ 64 : Nat) : Int)])).push (.cells [.int .i64 0, .int .i64 0, .int .u64 0, .int .u64 0, .slice .nil 1 [], .int .i64 0, .int .i64 0, .int .i64 0, .int .i64 0, .slice .nil 1 []])).push (.buf 6 (US k).length))) (fun k => k ≤ KK) (fun k => KK - k) 0 (by omega) ?_ fun k hk => ?_
    · rw [hU0]
      refine ⟨by simp only [zjy, zkd, zkm, zkn]; omega, AHeap.Le.refl _, by rw [← hU0]; exact hcR 0, ?_, ?_⟩
      · simp [ltF, zmn, zmv, zkm, zkn]
        try omega
      · simp [subW, wk2, wk1, wkM, Fr.get]
    have hkl := hUl k
    have e5 : IntKind.i64.wrap ((k : Int) + 1) = ((k + 1 : Nat) : Int) := by rw [wrap_i64] <;> omega
    have d2 : decide (((US k).length : Int) > 0) = !r.ups.isEmpty := by
      rw [Bool.eq_iff_iff]
      have : (US k).length = 0 ↔ r.ups = [] := by
        constructor
        · intro h
          rw [hUS] at h
          simp only [List.length_append] at h
          exact List.eq_nil_of_length_eq_zero (by omega)
        · intro h
          rw [hUS, h]; dsimp only; rw [yas, hnil]; rfl
      cases hr : r.ups with
      | nil => simp; exact List.eq_nil_of_length_eq_zero (this.2 hr)
      | cons x y => simp [hr] at this ⊢; exact List.length_pos_iff.2 this
    simp only [go_sem, reduceCtorEq, Nat.reduceEqDiff, Nat.reduceAdd, Nat.reduceMul, Nat.reduceSub, Nat.reduceLeDiff, Nat.reduceLT, Int.reduceMul, Int.reduceAdd, Int.reduceSub, Int.reduceToNat, byq, Int.reduceBEq, Int.toNat_natCast, e318, e30, hKK, hwK, ybb, d2]
    have hend : k = KK ∨ r.ups = [] → US k = US KK := fun h => by
      rcases h with rfl | h
      · rfl
      · rw [hUS, h]; dsimp only; rw [yas, hnil, hnil]
    refine both_split (fun h1 => ?_) (fun h1 => ?_)
    · have h1' : k < KK := by simp at h1; omega
      refine cond_split (fun h2 => ?_) (fun h2 => ?_)
      · obtain ⟨⟨uk, ue⟩, T, hT⟩ : ∃ u T, r.ups = u :: T := by
          cases hr : r.ups with
          | nil => simp [hr] at h2
          | cons u T => exact ⟨u, T, rfl⟩
        have hlpos : 0 < (US k).length := by
          rw [hUS]; simp [hT]
        have hg : ((US k).map updAV).getD 0 .junk = updAV (uk, ue) := by rw [hUS]; simp [hT]
        have ht1 : r.ups.take 1 = [(uk, ue)] := by rw [hT]; rfl
        simp only [go_sem, reduceCtorEq, Nat.reduceEqDiff, Nat.reduceAdd, Nat.reduceMul, Nat.reduceSub, Nat.reduceLeDiff, Nat.reduceLT, Int.reduceMul, Int.reduceAdd, Int.reduceSub, Int.reduceToNat, byq, Int.reduceBEq, Int.toNat_natCast, e318, e30, hKK, hwK, ybb, hg, updAV, updC, entryC, e5, Int.reduceToNat, Int.toNat_zero]
        have hUk : US (k + 1) = US k ++ [(uk, ue)] := by rw [hUS1, ht1]
        refine ⟨⟨by decide, by omega⟩, ⟨by omega, by omega, fun z hz => by rw [List.mem_singleton] at hz; subst hz; rfl⟩, k + 1, by omega, by omega, ?_⟩
        refine ⟨by simp only [zkm, zkn]; omega, ?_, hcR _, ?_, ?_⟩
        · rw [hUk]
          simp only [List.map_append, yae, yaf, updAV, updC, entryC, List.length_append, yaz, yba, yal, yak]
          repeat (first | exact AHeap.Le.refl _ | refine AHeap.Le.push ?_ _)
        · simp [ltF, zmn, zmv, zkm, zkn]
          try omega
        · simp [subW, wk2, wk1, wkM, Fr.get]
      · have h2' : r.ups = [] := by simpa using h2
        have hek := hend (.inr h2')
        simp only [go_sem, reduceCtorEq, Nat.reduceEqDiff, Nat.reduceAdd, Nat.reduceMul, Nat.reduceSub, Nat.reduceLeDiff, Nat.reduceLT, Int.reduceMul, Int.reduceAdd, Int.reduceSub, Int.reduceToNat, byq, Int.reduceBEq, Int.toNat_natCast, e318, e30, hKK, hwK, ybb, hek]
        refine ⟨?_, by repeat (first | exact AHeap.Le.refl _ | refine AHeap.Le.push ?_ _), hcl, lt_req _⟩
        simp [wk, wk2, wkL, wk1, wkM, reqAV, reqC]
    · have h1' : k = KK := by simp at h1; omega
      have hek := hend (.inl h1')
      simp only [go_sem, reduceCtorEq, Nat.reduceEqDiff, Nat.reduceAdd, Nat.reduceMul, Nat.reduceSub, Nat.reduceLeDiff, Nat.reduceLT, Int.reduceMul, Int.reduceAdd, Int.reduceSub, Int.reduceToNat, byq, Int.reduceBEq, Int.toNat_natCast, e318, e30, hKK, hwK, ybb, hek]
      refine ⟨?_, by repeat (first | exact AHeap.Le.refl _ | refine AHeap.Le.push ?_ _), hcl, lt_req _⟩
      simp [wk, wk2, wkL, wk1, wkM, reqAV, reqC]
end Go.AL


open Go Go.AL Go.Proofs
namespace Go.AL
set_option linter.all false
set_option maxRecDepth 10000
theorem ti_lrequest : ti Tryz.prog 46 = some ⟨.slice 28, 1, 24, .slice .nil 1 []⟩ := by kernel_rfl
attribute [go_sem] ti_lrequest
theorem gEntry_cok {S : Sch} (hG : GenS S) {b : List UInt8} {v : Nat} {n : Int} : COk (gEntry S b v n).1 := by
  have hE := gEntry_ok hG (b := b) (v := v) (n := n)
  have hkl := hG.kl _ (tableAt_mem (S := S) (n := n) hG.t1)
  exact ⟨hE.ok hkl hG.pl, fun x hx => Nat.lt_of_lt_of_le (hE.ao x hx) (by decide)⟩
theorem gUpd_cok {S : Sch} (hG : GenS S) {b : List UInt8} {v : Nat} : COk (gUpd S b v).1.2 := by
  have h := gEntry_cok hG (b := b) (v := cp v 2) (n := (cv b (cp v 1) 4 : Nat))
  unfold gUpd
  dsimp only
  split
  · exact ⟨⟨h.ok.ml, Nat.zero_le _, h.ok.mo⟩, fun x hx => by cases hx⟩
  · exact h
theorem gUps_ok {S : Sch} (hG : GenS S) {b : List UInt8} : ∀ (n v : Nat), (gUps S b n v).1.length = n ∧ ∀ u ∈ (gUps S b n v).1, COk u.2
  | 0, v => ⟨rfl, fun u hu => by cases hu⟩
  | n + 1, v => by
    obtain ⟨h1, h2⟩ := gUps_ok hG n (gUpd S b (min v b.length)).2 (b := b)
    refine ⟨by simp only [gUps, yaz, h1], fun u hu => ?_⟩
    simp only [gUps, List.mem_cons] at hu
    rcases hu with rfl | hu
    · exact gUpd_cok hG
    · exact h2 u hu
theorem gReq_ok {S : Sch} (hG : GenS S) {b : List UInt8} {v : Nat} : ROk (gReq S b v).1 ∧ (gReq S b v).1.ups.length ≤ 5 := by
  have z : ∀ u : Int × SEntry, u ∈ ([] : List (Int × SEntry)) → COk u.2 := fun u hu => by cases hu
  have h5 := cv_lt (b := b) (v := cp v 2) (n := 5) (by decide)
  have h6 := cv_lt (b := b) (v := cp v 3) (n := 5) (by decide)
  have hp : 5 < 2 ^ 128 := by decide
  have h0 : 0 < 2 ^ 128 := by decide
  obtain ⟨g1, g2⟩ := gUps_ok hG (b := b) (cv b (cp v 3) 5) (cp v 4)
  have hf := gFrame_len (b := b) (v := min (cp v 3) b.length)
  unfold gReq
  dsimp only
  repeat' split
  · exact ⟨⟨by dsimp only; omega, Nat.zero_le _, Nat.zero_le _, z⟩, Nat.zero_le _⟩
  · exact ⟨⟨by dsimp only; omega, by dsimp only; omega, Nat.zero_le _, g2⟩, by dsimp only; omega⟩
  · exact ⟨⟨h0, Nat.zero_le _, Nat.zero_le _, z⟩, Nat.zero_le _⟩
  · exact ⟨⟨h0, Nat.zero_le _, Nat.zero_le _, z⟩, Nat.zero_le _⟩
  · exact ⟨⟨h0, Nat.zero_le _, by dsimp only; omega, z⟩, Nat.zero_le _⟩
  · exact ⟨⟨h0, Nat.zero_le _, Nat.zero_le _, z⟩, Nat.zero_le _⟩
end Go.AL

