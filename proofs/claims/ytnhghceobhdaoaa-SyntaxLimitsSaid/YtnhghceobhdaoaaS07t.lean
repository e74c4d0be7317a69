/- Contracts and plain laws, a part of the proof; no condition of its own. -/
import Derived.Test.YtnhghceobhdaoaaS07s
open List renaming length_cons → yaz, length_nil → yba, tail_nil → yaa, tail_cons → yab, headD_nil → yac, headD_cons → yad, map_cons → yae, map_nil → yaf, append_nil → yaj, nil_append → yak, cons_append → yal, getElem?_cons_zero → yam, getElem?_cons_succ → yan, drop_succ_cons → yao, drop_zero → yap, take_succ_cons → yaq, take_zero → yar, take_nil → yas, drop_nil → yat, getD_cons_zero → yau, getD_cons_succ → yav, getElem?_nil → yay, length_map → ybb, take_of_length_le → ybc, drop_append → ybd, take_append → ybe, drop_eq_nil_of_le → ybf
open Option renaming map_some → yag, map_none → yah, elim_some → yai, isSome_some → yaw, isSome_none → yax
open Go Go.AL Go.Proofs
namespace Go.AL
set_option linter.all false
set_option maxRecDepth 10000
theorem opOf_cons {l : List Tok} {p k : Nat} {s : List UInt8} {r : List (Nat × List UInt8)} : opOf l p ((k, s) :: r) = if isS l p s then some k else opOf l p r := rfl
theorem opsC_s : [AV.str [61, 61], AV.str [33, 61], AV.str [60], AV.str [60, 61], AV.str [62], AV.str [62, 61]] = sAV (opsC.map Prod.snd) := rfl
theorem opsC_at {i : Nat} (h : i < 6) : ∃ s, opsC.drop i = (8 + i, s) :: opsC.drop (i + 1) ∧ (sAV (opsC.map Prod.snd)).getD i .junk = .str s := by
  rcases (by omega : i = 0 ∨ i = 1 ∨ i = 2 ∨ i = 3 ∨ i = 4 ∨ i = 5) with rfl | rfl | rfl | rfl | rfl | rfl
  all_goals exact ⟨_, rfl, rfl⟩
set_option maxHeartbeats 4000000 in
theorem sr_zCmp {A : Prop} {f : Nat} (h_zSum : EntOk Try.prog 147 (Ent.some (s_zSum A f))) : EntOk Try.prog 145 (Ent.some (s_zCmp A (f + 1))) := by
  refine EntOk.some fun args H K h => ?_
  unfold s_zCmp s_rule at h
  split at h
  rotate_left
  · exact h.elim
  rename_i id
  obtain ⟨m, l, p, b, tb, t, hg, ⟨rfl, hpre, hfree⟩, hK⟩ := h
  cases ho : run l (f + 1) .cmp p t with
  | none => rw [ho] at hK; exact hK.elim
  | some r =>
  rw [ho] at hK
  rw [run] at ho
  simp only [step] at ho
  have hpre' := hpre
  obtain ⟨hne, htb, ht, hp, hl, hgl, hgt⟩ := hpre
  have hid := AHeap.get_lt hg
  have htbl := AHeap.get_lt htb
  have f1 := far_of hid
  have f2 := far_of htbl
  have hl5 : l.length ≤ 100000 := by omega
  have i1 := @Int.natCast_nonneg
  have hne' : (id = tb) = False := eq_false hne
  have hnx : ∀ X Y, H.nx ≤ ((H.set id X).set tb Y).nx := fun X Y => Nat.le_refl _
  refine ACallsP.of_aw (Ω := [(147, Ent.some (s_zSum A f)), (128, Ent.effect e_zTake), (129, Ent.effect e_zNode)]) (T := assoc []) mixed (TblOk.cons h_zSum (TblOk.cons ok_zTake (TblOk.cons ok_zNode TblOk.nil))) Try.func145 (by kernel_rfl) (by rfl) (rs := [.tmp 2]) (by rfl) (by kernel_rfl) (by simp only [Try.ntmps145, yaz, yba]; decide) fun hcl hlt => ?_
  change aw _ _ _ (KI Try.prog [(147, Ent.some (s_zSum A f)), (128, Ent.effect e_zTake), (129, Ent.effect e_zNode)] (aEndP Try.prog [.tmp 2] H.nx _) []) _ _
  clear hlt
  obtain ⟨hgi, hgt', hsi, hcl2, hst⟩ := pre_factsR hg hpre' hcl
  have hsl : (sAV (opsC.map Prod.snd)).length = 6 := rfl
  rcases thenR_some ho with ⟨q, h1, rfl⟩ | ⟨a, p1, t1, h1, h2⟩
  · obtain ⟨hq1, hq2⟩ := run_post _ h1 hgt trivial hp
    rw [endS_bad] at hK
    simp only [↓bwp, bwq, yaa, yab, yac, yad, ne_eq, reduceCtorEq, Nat.reduceEqDiff, Nat.reduceAdd, Nat.reduceMul, Nat.reduceSub, Nat.reduceLeDiff, Nat.reduceLT, Int.reduceMul, Int.reduceAdd, Int.reduceSub, yae, yaf, yag, yah, yai, if_true, if_false, yaj, yak, bvq, rEq, yal, Int.reduceToNat, yam, yan, TD.agg, yao, yap, yaq, yar, yas, yat, yau, yav, splice, zhb, zhc, yaw, yax, yay, zhd, zhe, rLen, rBin, rInt, rStr, rUn, zhf, zhg, zhh, zhi, zhj, rBox, zhk, zhl, zhm, zhn, zho, zhp, zhq, zhr, zhs, zht, zhu, zhv, zhw, zhx, zhy, zhz, zia, zib, zic, bound, addL, addT, grow, room, yaz, yba, ybb, frOf, ytb7, ↓blp, blq, hfree, f1, f2, hgi, hgt', hsi, hst, onQ_some, endS_bad, endS_ok, e_zTake, p_zSee, e_zNode, s_rule, hne, ne_eq, hne', hl5, Int.toNat_natCast, vOf00, isV00, i1, Int.reduceLE, eq_self, not_false_eq_true, Bool.not_true, Bool.not_false, Bool.true_and, Bool.false_and, List.length_append, yaz, yba, Nat.zero_add, s_zSum, hg, hpre', h1]
    intro a t' hb
    try simp only [blkS, ↓bwp, bwq, yaa, yab, yac, yad, ne_eq, reduceCtorEq, Nat.reduceEqDiff, Nat.reduceAdd, Nat.reduceMul, Nat.reduceSub, Nat.reduceLeDiff, Nat.reduceLT, Int.reduceMul, Int.reduceAdd, Int.reduceSub, yae, yaf, yag, yah, yai, if_true, if_false, yaj, yak, bvq, rEq, yal, Int.reduceToNat, yam, yan, TD.agg, yao, yap, yaq, yar, yas, yat, yau, yav, splice, zhb, zhc, yaw, yax, yay, zhd, zhe, rLen, rBin, rInt, rStr, rUn, zhf, zhg, zhh, zhi, zhj, rBox, zhk, zhl, zhm, zhn, zho, zhp, zhq, zhr, zhs, zht, zhu, zhv, zhw, zhx, zhy, zhz, zia, zib, zic, bound, addL, addT, grow, room, yaz, yba, ybb, frOf, ytb7, ↓blp, blq, hfree, f1, f2, hgi, hgt', hsi, hst, onQ_some, endS_bad, endS_ok, e_zTake, p_zSee, e_zNode, s_rule, hne, ne_eq, hne', hl5, Int.toNat_natCast, vOf00, isV00, i1, Int.reduceLE, eq_self, not_false_eq_true, Bool.not_true, Bool.not_false, Bool.true_and, Bool.false_and, List.length_append, yaz, yba, Nat.zero_add, opsC_s]
    refine loop_introW (A := Nat) (fun i => [(0, .ptr id 0), (3, .int .i64 (a : Int)), (9, .slice .any 1 (sAV (opsC.map Prod.snd))), (10, .int .i64 6), (11, .int .i64 (i : Int))]) (fun _ => (H.set id (rst m l q true tb t')).set tb (.buf 7 t'.length)) (fun i => i ≤ 6) (fun i => 6 - i) 0 (by omega) ?_ fun i hi => ?_
    · (simp only [bkq, enterW, subW, ltF, ne_eq, Nat.reduceEqDiff, reduceCtorEq, hcl2, hid, sAV_lt]; try simp (disch := first | assumption | omega | (simp; done) | (simp; omega) | (simp only [bt, and_true]; first | done | omega | (simp; done))) [↓zkt, beq, ybc, ybd, ybe, endOk, wk, wk2, wk1, wkM, wkL, wkLL, ybf, byq, biq, isDs_ints, hcl, hcl2, hid, sAV_lt]; try (repeat' (first | assumption | omega | exact True.intro | refine And.intro ?_ ?_ | refine closed_buf ?_ | refine closed_set_buf ?_ | refine closed_cells ?_ ?_ | refine closed_set ?_ ?_ | refine closed_del ?_ | exact AHeap.Le.refl _ | refine AHeap.Le.push ?_ _ | refine AHeap.Le.del ?_ ?_ | (simp only [bt, and_true, true_and, hcl2, hid, sAV_lt]; first | done | omega | (simp; done)))))
    simp only [↓bwp, bwq, yaa, yab, yac, yad, ne_eq, reduceCtorEq, Nat.reduceEqDiff, Nat.reduceAdd, Nat.reduceMul, Nat.reduceSub, Nat.reduceLeDiff, Nat.reduceLT, Int.reduceMul, Int.reduceAdd, Int.reduceSub, yae, yaf, yag, yah, yai, if_true, if_false, yaj, yak, bvq, rEq, yal, Int.reduceToNat, yam, yan, TD.agg, yao, yap, yaq, yar, yas, yat, yau, yav, splice, zhb, zhc, yaw, yax, yay, zhd, zhe, rLen, rBin, rInt, rStr, rUn, zhf, zhg, zhh, zhi, zhj, rBox, zhk, zhl, zhm, zhn, zho, zhp, zhq, zhr, zhs, zht, zhu, zhv, zhw, zhx, zhy, zhz, zia, zib, zic, bound, addL, addT, grow, room, yaz, yba, ybb, frOf, ytb7, ↓blp, blq, hfree, f1, f2, hgi, hgt', hsi, hst, onQ_some, endS_bad, endS_ok, e_zTake, p_zSee, e_zNode, s_rule, hne, ne_eq, hne', hl5, Int.toNat_natCast, vOf00, isV00, i1, Int.reduceLE, eq_self, not_false_eq_true, Bool.not_true, Bool.not_false, Bool.true_and, Bool.false_and, List.length_append, yaz, yba, Nat.zero_add]
    refine cond_split (fun hc => ?_) (fun hc => ?_)
    · have hi6 : i < 6 := by simp at hc; omega
      obtain ⟨s, e1, e2⟩ := opsC_at hi6
      have e5 : IntKind.i64.wrap ((i : Int) + 1) = ((i + 1 : Nat) : Int) := by rw [wrap_i64] <;> omega
      simp only [↓bwp, bwq, yaa, yab, yac, yad, ne_eq, reduceCtorEq, Nat.reduceEqDiff, Nat.reduceAdd, Nat.reduceMul, Nat.reduceSub, Nat.reduceLeDiff, Nat.reduceLT, Int.reduceMul, Int.reduceAdd, Int.reduceSub, yae, yaf, yag, yah, yai, if_true, if_false, yaj, yak, bvq, rEq, yal, Int.reduceToNat, yam, yan, TD.agg, yao, yap, yaq, yar, yas, yat, yau, yav, splice, zhb, zhc, yaw, yax, yay, zhd, zhe, rLen, rBin, rInt, rStr, rUn, zhf, zhg, zhh, zhi, zhj, rBox, zhk, zhl, zhm, zhn, zho, zhp, zhq, zhr, zhs, zht, zhu, zhv, zhw, zhx, zhy, zhz, zia, zib, zic, bound, addL, addT, grow, room, yaz, yba, ybb, frOf, ytb7, ↓blp, blq, hfree, f1, f2, hgi, hgt', hsi, hst, onQ_some, endS_bad, endS_ok, e_zTake, p_zSee, e_zNode, s_rule, hne, ne_eq, hne', hl5, Int.toNat_natCast, vOf00, isV00, i1, Int.reduceLE, eq_self, not_false_eq_true, Bool.not_true, Bool.not_false, Bool.true_and, Bool.false_and, List.length_append, yaz, yba, Nat.zero_add, hsl, e2, e5, hq1, if_false]
      refine ⟨by omega, i + 1, by omega, by omega, ?_⟩
      (simp only [bkq, enterW, subW, ltF, ne_eq, Nat.reduceEqDiff, reduceCtorEq, hcl2, hid, sAV_lt]; try simp (disch := first | assumption | omega | (simp; done) | (simp; omega) | (simp only [bt, and_true]; first | done | omega | (simp; done))) [↓zkt, beq, ybc, ybd, ybe, endOk, wk, wk2, wk1, wkM, wkL, wkLL, ybf, byq, biq, isDs_ints, hcl, hcl2, hid, sAV_lt]; try (repeat' (first | assumption | omega | exact True.intro | refine And.intro ?_ ?_ | refine closed_buf ?_ | refine closed_set_buf ?_ | refine closed_cells ?_ ?_ | refine closed_set ?_ ?_ | refine closed_del ?_ | exact AHeap.Le.refl _ | refine AHeap.Le.push ?_ _ | refine AHeap.Le.del ?_ ?_ | (simp only [bt, and_true, true_and, hcl2, hid, sAV_lt]; first | done | omega | (simp; done)))))
    · simp only [↓bwp, bwq, yaa, yab, yac, yad, ne_eq, reduceCtorEq, Nat.reduceEqDiff, Nat.reduceAdd, Nat.reduceMul, Nat.reduceSub, Nat.reduceLeDiff, Nat.reduceLT, Int.reduceMul, Int.reduceAdd, Int.reduceSub, yae, yaf, yag, yah, yai, if_true, if_false, yaj, yak, bvq, rEq, yal, Int.reduceToNat, yam, yan, TD.agg, yao, yap, yaq, yar, yas, yat, yau, yav, splice, zhb, zhc, yaw, yax, yay, zhd, zhe, rLen, rBin, rInt, rStr, rUn, zhf, zhg, zhh, zhi, zhj, rBox, zhk, zhl, zhm, zhn, zho, zhp, zhq, zhr, zhs, zht, zhu, zhv, zhw, zhx, zhy, zhz, zia, zib, zic, bound, addL, addT, grow, room, yaz, yba, ybb, frOf, ytb7, ↓blp, blq, hfree, f1, f2, hgi, hgt', hsi, hst, onQ_some, endS_bad, endS_ok, e_zTake, p_zSee, e_zNode, s_rule, hne, ne_eq, hne', hl5, Int.toNat_natCast, vOf00, isV00, i1, Int.reduceLE, eq_self, not_false_eq_true, Bool.not_true, Bool.not_false, Bool.true_and, Bool.false_and, List.length_append, yaz, yba, Nat.zero_add]
      exact endP_of (hK a t' hb) (hnx _ _) (AHeap.Le.refl _) (hcl2 _ _ _)
  clear ho
  obtain ⟨k1, k2, k3, k4, k5, k6⟩ := run_post _ h1 hgt trivial hp
  simp only [Rl.isL, Bool.false_eq_true, if_false] at k4
  simp only [↓bwp, bwq, yaa, yab, yac, yad, ne_eq, reduceCtorEq, Nat.reduceEqDiff, Nat.reduceAdd, Nat.reduceMul, Nat.reduceSub, Nat.reduceLeDiff, Nat.reduceLT, Int.reduceMul, Int.reduceAdd, Int.reduceSub, yae, yaf, yag, yah, yai, if_true, if_false, yaj, yak, bvq, rEq, yal, Int.reduceToNat, yam, yan, TD.agg, yao, yap, yaq, yar, yas, yat, yau, yav, splice, zhb, zhc, yaw, yax, yay, zhd, zhe, rLen, rBin, rInt, rStr, rUn, zhf, zhg, zhh, zhi, zhj, rBox, zhk, zhl, zhm, zhn, zho, zhp, zhq, zhr, zhs, zht, zhu, zhv, zhw, zhx, zhy, zhz, zia, zib, zic, bound, addL, addT, grow, room, yaz, yba, ybb, frOf, ytb7, ↓blp, blq, hfree, f1, f2, hgi, hgt', hsi, hst, onQ_some, endS_bad, endS_ok, e_zTake, p_zSee, e_zNode, s_rule, hne, ne_eq, hne', hl5, Int.toNat_natCast, vOf00, isV00, i1, Int.reduceLE, eq_self, not_false_eq_true, Bool.not_true, Bool.not_false, Bool.true_and, Bool.false_and, List.length_append, yaz, yba, Nat.zero_add, s_zSum, hg, hpre', h1]
  try simp only [opsC_s]
  refine loop_introW (A := Nat) (fun i => [(0, .ptr id 0), (3, .int .i64 (a : Int)), (9, .slice .any 1 (sAV (opsC.map Prod.snd))), (10, .int .i64 6), (11, .int .i64 (i : Int))]) (fun _ => (H.set id (rst m l p1 false tb t1)).set tb (.buf 7 t1.length)) (fun i => i ≤ 6 ∧ opOf l p1 (opsC.drop i) = opOf l p1 opsC) (fun i => 6 - i) 0 ⟨by omega, rfl⟩ ?_ fun i hi => ?_
  · (simp only [bkq, enterW, subW, ltF, ne_eq, Nat.reduceEqDiff, reduceCtorEq, hcl2, hid, sAV_lt]; try simp (disch := first | assumption | omega | (simp; done) | (simp; omega) | (simp only [bt, and_true]; first | done | omega | (simp; done))) [↓zkt, beq, ybc, ybd, ybe, endOk, wk, wk2, wk1, wkM, wkL, wkLL, ybf, byq, biq, isDs_ints, hcl, hcl2, hid, sAV_lt]; try (repeat' (first | assumption | omega | exact True.intro | refine And.intro ?_ ?_ | refine closed_buf ?_ | refine closed_set_buf ?_ | refine closed_cells ?_ ?_ | refine closed_set ?_ ?_ | refine closed_del ?_ | exact AHeap.Le.refl _ | refine AHeap.Le.push ?_ _ | refine AHeap.Le.del ?_ ?_ | (simp only [bt, and_true, true_and, hcl2, hid, sAV_lt]; first | done | omega | (simp; done)))))
  obtain ⟨hi, hop⟩ := hi
  simp only [↓bwp, bwq, yaa, yab, yac, yad, ne_eq, reduceCtorEq, Nat.reduceEqDiff, Nat.reduceAdd, Nat.reduceMul, Nat.reduceSub, Nat.reduceLeDiff, Nat.reduceLT, Int.reduceMul, Int.reduceAdd, Int.reduceSub, yae, yaf, yag, yah, yai, if_true, if_false, yaj, yak, bvq, rEq, yal, Int.reduceToNat, yam, yan, TD.agg, yao, yap, yaq, yar, yas, yat, yau, yav, splice, zhb, zhc, yaw, yax, yay, zhd, zhe, rLen, rBin, rInt, rStr, rUn, zhf, zhg, zhh, zhi, zhj, rBox, zhk, zhl, zhm, zhn, zho, zhp, zhq, zhr, zhs, zht, zhu, zhv, zhw, zhx, zhy, zhz, zia, zib, zic, bound, addL, addT, grow, room, yaz, yba, ybb, frOf, ytb7, ↓blp, blq, hfree, f1, f2, hgi, hgt', hsi, hst, onQ_some, endS_bad, endS_ok, e_zTake, p_zSee, e_zNode, s_rule, hne, ne_eq, hne', hl5, Int.toNat_natCast, vOf00, isV00, i1, Int.reduceLE, eq_self, not_false_eq_true, Bool.not_true, Bool.not_false, Bool.true_and, Bool.false_and, List.length_append, yaz, yba, Nat.zero_add]
  refine cond_split (fun hc => ?_) (fun hc => ?_)
  · have hi6 : i < 6 := by simp at hc; omega
    obtain ⟨s, e1, e2⟩ := opsC_at hi6
    have e5 : IntKind.i64.wrap ((i : Int) + 1) = ((i + 1 : Nat) : Int) := by rw [wrap_i64] <;> omega
    have e6 : IntKind.i64.wrap (8 + (i : Int)) = ((8 + i : Nat) : Int) := by rw [wrap_i64] <;> omega
    rw [e1, opOf_cons] at hop
    cases hs : isS l p1 s with
    | false =>
      rw [hs, if_neg (by simp)] at hop
      simp only [↓bwp, bwq, yaa, yab, yac, yad, ne_eq, reduceCtorEq, Nat.reduceEqDiff, Nat.reduceAdd, Nat.reduceMul, Nat.reduceSub, Nat.reduceLeDiff, Nat.reduceLT, Int.reduceMul, Int.reduceAdd, Int.reduceSub, yae, yaf, yag, yah, yai, if_true, if_false, yaj, yak, bvq, rEq, yal, Int.reduceToNat, yam, yan, TD.agg, yao, yap, yaq, yar, yas, yat, yau, yav, splice, zhb, zhc, yaw, yax, yay, zhd, zhe, rLen, rBin, rInt, rStr, rUn, zhf, zhg, zhh, zhi, zhj, rBox, zhk, zhl, zhm, zhn, zho, zhp, zhq, zhr, zhs, zht, zhu, zhv, zhw, zhx, zhy, zhz, zia, zib, zic, bound, addL, addT, grow, room, yaz, yba, ybb, frOf, ytb7, ↓blp, blq, hfree, f1, f2, hgi, hgt', hsi, hst, onQ_some, endS_bad, endS_ok, e_zTake, p_zSee, e_zNode, s_rule, hne, ne_eq, hne', hl5, Int.toNat_natCast, vOf00, isV00, i1, Int.reduceLE, eq_self, not_false_eq_true, Bool.not_true, Bool.not_false, Bool.true_and, Bool.false_and, List.length_append, yaz, yba, Nat.zero_add, hsl, e2, e5, k2, hs, if_false]
      refine ⟨by omega, i + 1, ⟨by omega, hop⟩, by omega, ?_⟩
      (simp only [bkq, enterW, subW, ltF, ne_eq, Nat.reduceEqDiff, reduceCtorEq, hcl2, hid, sAV_lt]; try simp (disch := first | assumption | omega | (simp; done) | (simp; omega) | (simp only [bt, and_true]; first | done | omega | (simp; done))) [↓zkt, beq, ybc, ybd, ybe, endOk, wk, wk2, wk1, wkM, wkL, wkLL, ybf, byq, biq, isDs_ints, hcl, hcl2, hid, sAV_lt]; try (repeat' (first | assumption | omega | exact True.intro | refine And.intro ?_ ?_ | refine closed_buf ?_ | refine closed_set_buf ?_ | refine closed_cells ?_ ?_ | refine closed_set ?_ ?_ | refine closed_del ?_ | exact AHeap.Le.refl _ | refine AHeap.Le.push ?_ _ | refine AHeap.Le.del ?_ ?_ | (simp only [bt, and_true, true_and, hcl2, hid, sAV_lt]; first | done | omega | (simp; done)))))
    | true =>
      rw [hs, if_pos rfl] at hop
      rw [← hop] at h2
      dsimp only at h2
      have hlt1 := isS_lt hs
      have hp2 : preP ((H.set id (rst m l (p1 + 1) false tb t1)).set tb (.buf 7 t1.length)) id tb l (p1 + 1) t1 := preP_setR hpre' hlt1 (by omega) k5
      rcases thenR_some h2 with ⟨q, h3, rfl⟩ | ⟨b, p2, t2, h3, h4⟩
      · obtain ⟨hq1, hq2⟩ := run_post _ h3 k5 trivial hlt1
        rw [endS_bad] at hK
        simp only [↓bwp, bwq, yaa, yab, yac, yad, ne_eq, reduceCtorEq, Nat.reduceEqDiff, Nat.reduceAdd, Nat.reduceMul, Nat.reduceSub, Nat.reduceLeDiff, Nat.reduceLT, Int.reduceMul, Int.reduceAdd, Int.reduceSub, yae, yaf, yag, yah, yai, if_true, if_false, yaj, yak, bvq, rEq, yal, Int.reduceToNat, yam, yan, TD.agg, yao, yap, yaq, yar, yas, yat, yau, yav, splice, zhb, zhc, yaw, yax, yay, zhd, zhe, rLen, rBin, rInt, rStr, rUn, zhf, zhg, zhh, zhi, zhj, rBox, zhk, zhl, zhm, zhn, zho, zhp, zhq, zhr, zhs, zht, zhu, zhv, zhw, zhx, zhy, zhz, zia, zib, zic, bound, addL, addT, grow, room, yaz, yba, ybb, frOf, ytb7, ↓blp, blq, hfree, f1, f2, hgi, hgt', hsi, hst, onQ_some, endS_bad, endS_ok, e_zTake, p_zSee, e_zNode, s_rule, hne, ne_eq, hne', hl5, Int.toNat_natCast, vOf00, isV00, i1, Int.reduceLE, eq_self, not_false_eq_true, Bool.not_true, Bool.not_false, Bool.true_and, Bool.false_and, List.length_append, yaz, yba, Nat.zero_add, s_zSum, hsl, e2, k2, hs, if_true, hp2, h3]
        refine ⟨by omega, fun b t' hb => ?_⟩
        have ht2 : t'.length ≤ 100000 := by omega
        simp only [blkS, ↓bwp, bwq, yaa, yab, yac, yad, ne_eq, reduceCtorEq, Nat.reduceEqDiff, Nat.reduceAdd, Nat.reduceMul, Nat.reduceSub, Nat.reduceLeDiff, Nat.reduceLT, Int.reduceMul, Int.reduceAdd, Int.reduceSub, yae, yaf, yag, yah, yai, if_true, if_false, yaj, yak, bvq, rEq, yal, Int.reduceToNat, yam, yan, TD.agg, yao, yap, yaq, yar, yas, yat, yau, yav, splice, zhb, zhc, yaw, yax, yay, zhd, zhe, rLen, rBin, rInt, rStr, rUn, zhf, zhg, zhh, zhi, zhj, rBox, zhk, zhl, zhm, zhn, zho, zhp, zhq, zhr, zhs, zht, zhu, zhv, zhw, zhx, zhy, zhz, zia, zib, zic, bound, addL, addT, grow, room, yaz, yba, ybb, frOf, ytb7, ↓blp, blq, hfree, f1, f2, hgi, hgt', hsi, hst, onQ_some, endS_bad, endS_ok, e_zTake, p_zSee, e_zNode, s_rule, hne, ne_eq, hne', hl5, Int.toNat_natCast, vOf00, isV00, i1, Int.reduceLE, eq_self, not_false_eq_true, Bool.not_true, Bool.not_false, Bool.true_and, Bool.false_and, List.length_append, yaz, yba, Nat.zero_add, ht2, e6]
        have hK' := hK t'.length (t' ++ [⟨8 + i, a, b, [], [], 0⟩]) (by simp; omega)
        have hc3 := hcl2 q true (t' ++ [⟨8 + i, a, b, [], [], 0⟩])
        simp only [List.length_append, yaz, yba, Nat.zero_add] at hK' hc3
        exact endP_of hK' (hnx _ _) (AHeap.Le.refl _) hc3
      cases h4
      obtain ⟨k1b, k2b, k3b, k4b, k5b, k6b⟩ := run_post _ h3 k5 trivial hlt1
      simp only [Rl.isL, Bool.false_eq_true, if_false] at k4b
      have ht2 : t2.length ≤ 100000 := by omega
      simp only [↓bwp, bwq, yaa, yab, yac, yad, ne_eq, reduceCtorEq, Nat.reduceEqDiff, Nat.reduceAdd, Nat.reduceMul, Nat.reduceSub, Nat.reduceLeDiff, Nat.reduceLT, Int.reduceMul, Int.reduceAdd, Int.reduceSub, yae, yaf, yag, yah, yai, if_true, if_false, yaj, yak, bvq, rEq, yal, Int.reduceToNat, yam, yan, TD.agg, yao, yap, yaq, yar, yas, yat, yau, yav, splice, zhb, zhc, yaw, yax, yay, zhd, zhe, rLen, rBin, rInt, rStr, rUn, zhf, zhg, zhh, zhi, zhj, rBox, zhk, zhl, zhm, zhn, zho, zhp, zhq, zhr, zhs, zht, zhu, zhv, zhw, zhx, zhy, zhz, zia, zib, zic, bound, addL, addT, grow, room, yaz, yba, ybb, frOf, ytb7, ↓blp, blq, hfree, f1, f2, hgi, hgt', hsi, hst, onQ_some, endS_bad, endS_ok, e_zTake, p_zSee, e_zNode, s_rule, hne, ne_eq, hne', hl5, Int.toNat_natCast, vOf00, isV00, i1, Int.reduceLE, eq_self, not_false_eq_true, Bool.not_true, Bool.not_false, Bool.true_and, Bool.false_and, List.length_append, yaz, yba, Nat.zero_add, s_zSum, hsl, e2, k2, hs, if_true, hp2, h3, ht2, nd2, e6]
      refine ⟨by omega, ?_⟩
      have hc3 := hcl2 p2 false (t2 ++ [⟨8 + i, a, b, [], [], 0⟩])
      simp only [List.length_append, yaz, yba, Nat.zero_add, endS_ok, nd2] at hK hc3
      exact endP_of hK (hnx _ _) (AHeap.Le.refl _) hc3
  · have hi6 : i = 6 := by simp at hc; omega
    subst hi6
    have hno : opOf l p1 opsC = none := by rw [← hop]; rfl
    rw [hno] at h2
    cases h2
    rw [endS_ok] at hK
    simp only [↓bwp, bwq, yaa, yab, yac, yad, ne_eq, reduceCtorEq, Nat.reduceEqDiff, Nat.reduceAdd, Nat.reduceMul, Nat.reduceSub, Nat.reduceLeDiff, Nat.reduceLT, Int.reduceMul, Int.reduceAdd, Int.reduceSub, yae, yaf, yag, yah, yai, if_true, if_false, yaj, yak, bvq, rEq, yal, Int.reduceToNat, yam, yan, TD.agg, yao, yap, yaq, yar, yas, yat, yau, yav, splice, zhb, zhc, yaw, yax, yay, zhd, zhe, rLen, rBin, rInt, rStr, rUn, zhf, zhg, zhh, zhi, zhj, rBox, zhk, zhl, zhm, zhn, zho, zhp, zhq, zhr, zhs, zht, zhu, zhv, zhw, zhx, zhy, zhz, zia, zib, zic, bound, addL, addT, grow, room, yaz, yba, ybb, frOf, ytb7, ↓blp, blq, hfree, f1, f2, hgi, hgt', hsi, hst, onQ_some, endS_bad, endS_ok, e_zTake, p_zSee, e_zNode, s_rule, hne, ne_eq, hne', hl5, Int.toNat_natCast, vOf00, isV00, i1, Int.reduceLE, eq_self, not_false_eq_true, Bool.not_true, Bool.not_false, Bool.true_and, Bool.false_and, List.length_append, yaz, yba, Nat.zero_add]
    exact endP_of hK (hnx _ _) (AHeap.Le.refl _) (hcl2 _ _ _)
end Go.AL

