/- Contracts and plain laws, a part of the proof; no condition of its own. -/
import Derived.Test.YtnhghceobhdaoaaS07l
open List renaming length_cons → yaz, length_nil → yba, tail_nil → yaa, tail_cons → yab, headD_nil → yac, headD_cons → yad, map_cons → yae, map_nil → yaf, append_nil → yaj, nil_append → yak, cons_append → yal, getElem?_cons_zero → yam, getElem?_cons_succ → yan, drop_succ_cons → yao, drop_zero → yap, take_succ_cons → yaq, take_zero → yar, take_nil → yas, drop_nil → yat, getD_cons_zero → yau, getD_cons_succ → yav, getElem?_nil → yay, length_map → ybb, take_of_length_le → ybc, drop_append → ybd, take_append → ybe, drop_eq_nil_of_le → ybf
open Option renaming map_some → yag, map_none → yah, elim_some → yai, isSome_some → yaw, isSome_none → yax
/- Plain law of SyntaxLimits: the fifteen texts. -/
open Go Go.AL
namespace Go.AL
set_option linter.all false
def wideT (k : Nat) : List UInt8 := 97 :: (List.replicate k [43, 98]).flatten
def deepT (k : Nat) : List UInt8 := List.replicate k 33 ++ [97]
def rightT (k : Nat) : List UInt8 := 97 :: (List.replicate k [45, 62, 97]).flatten
def chk (s : List UInt8) (b : Bool) : Bool := match run (scanned s).1 120 .imp 0 [] with
  | some r => ((treeOf (scanned s).1 r).isSome == b) && (scanned s).1.all fun x => x.1 != 1
  | none => false
set_option maxRecDepth 100000
theorem chk_deep : ∀ r, r < 5 → chk (deepT (10 + r)) (decide (r ≤ 2)) = true := by decide +kernel
theorem chk_right : ∀ r, r < 5 → (chk (rightT (10 + r)) true || chk (rightT (10 + r)) false) = true := by decide +kernel
theorem chk_wide : ∀ r, r < 5 → chk (wideT (57 + r)) (decide (r ≤ 2)) = true := by decide +kernel
end Go.AL


open Go Go.AL Go.Proofs
namespace Go.AL
set_option linter.all false
set_option maxRecDepth 10000
theorem ok_parsed0 : EntOk Try.prog 38 (Ent.some (s_parsed False 0)) := s_ok_parsed (s_ok_zParse noVal)
theorem chk_out {s : List UInt8} {b : Bool} (h : chk s b = true) : ∃ f r, run (scanned s).1 f .imp 0 [] = some r ∧ (treeOf (scanned s).1 r).isSome = b ∧ litFree False (scanned s).1 := by
  unfold chk at h
  split at h
  · rename_i r hr
    rw [Bool.and_eq_true, beq_iff_eq, List.all_eq_true] at h
    refine ⟨120, r, hr, h.1, fun p hk => ?_⟩
    unfold kindAt at hk
    split at hk
    · cases hk
    · rename_i k x z hp
      have := h.2 _ (List.mem_of_getElem? hp)
      subst hk
      simp at this
  · cases h
theorem wideT_len (k : Nat) : (wideT k).length = 2 * k + 1 := by
  unfold wideT
  induction k with
  | zero => rfl
  | succ k ih => rw [List.replicate_succ, List.flatten_cons]; simp only [yaz, List.length_append, yba] at *; omega
theorem rightT_len (k : Nat) : (rightT k).length = 3 * k + 1 := by
  unfold rightT
  induction k with
  | zero => rfl
  | succ k ih => rw [List.replicate_succ, List.flatten_cons]; simp only [yaz, List.length_append, yba] at *; omega
theorem wideT_succ (k : Nat) : wideT k ++ [43, 98] = wideT (k + 1) := by
  unfold wideT; rw [List.replicate_succ', List.flatten_append]; simp
theorem rightT_succ (k : Nat) : rightT k ++ [45, 62, 97] = rightT (k + 1) := by
  unfold rightT; rw [List.replicate_succ', List.flatten_append]; simp
theorem deepT_succ (k : Nat) : [33] ++ deepT k = deepT (k + 1) := by
  unfold deepT; rw [List.replicate_succ]; rfl
theorem deepT_len (k : Nat) : (deepT k).length = k + 1 := by simp [deepT]
/-- what parsed gives -/
theorem parsed_of {o : Option (List Nd)} : ∃ u, parsedAV o = .tup [.slice .any 7 u, .slice .any 7 u, .bool true, .bool o.isSome] := by
  cases o with
  | none => exact ⟨_, rfl⟩
  | some t => exact ⟨_, rfl⟩
def p_SyntaxLimits : List AV → AHeap → (AV → Prop) → Prop
  | [.int .i64 n], _, K => (-9223372036854775808 ≤ n ∧ n < 9223372036854775808) ∧ K (.bool true)
  | _, _, _ => False
set_option maxHeartbeats 4000000 in
theorem ok_SyntaxLimits : EntOk Try.prog 9 (Ent.pure p_SyntaxLimits) := by
  refine EntOk.pure fun args H K h => ?_
  unfold p_SyntaxLimits at h
  split at h
  rotate_left
  · exact h.elim
  rename_i n
  obtain ⟨⟨hn1, hn2⟩, hK⟩ := h
  refine ⟨_, hK, ?_⟩
  clear hK
  have h_parsed := ok_parsed0
  refine ACalls.of_aw (Ω := [(14, Ent.pure p_Mod), (38, Ent.some (s_parsed False 0)), (39, Ent.pure p_begun07)]) (T := assoc []) mixed (TblOk.cons ok_Mod (TblOk.cons h_parsed (TblOk.cons ok_begun07 TblOk.nil))) Try.func9 (by kernel_rfl) (by rfl) (rs := [.tmp 2]) (by rfl) (by kernel_rfl) (by simp only [Try.ntmps9, yaz, yba]; decide) (Nat.le_refl _) fun hcl hlt => ?_
  change aw _ _ _ (KI Try.prog [(14, Ent.pure p_Mod), (38, Ent.some (s_parsed False 0)), (39, Ent.pure p_begun07)] (aEnd Try.prog [.tmp 2] H.nx _ _) []) _ _
  clear hlt
  simp only [↓bwp, bwq, yaa, yab, yac, yad, ne_eq, reduceCtorEq, Nat.reduceEqDiff, Nat.reduceAdd, Nat.reduceMul, Nat.reduceSub, Nat.reduceLeDiff, Nat.reduceLT, Int.reduceMul, Int.reduceAdd, Int.reduceSub, yae, yaf, yag, yah, yai, if_true, if_false, yaj, yak, bvq, rEq, yal, Int.reduceToNat, yam, yan, TD.agg, yao, yap, yaq, yar, yas, yat, yau, yav, splice, zhb, zhc, yaw, yax, yay, zhd, zhe, rLen, rBin, rInt, rStr, rUn, zhf, zhg, zhh, zhi, zhj, rBox, zhk, zhl, zhm, zhn, zho, zhp, zhq, zhr, zhs, zht, zhu, zhv, zhw, zhx, zhy, zhz, zia, zib, zic, bound, addL, addT, grow, room, yaz, yba, ybb, frOf, ytb9, ↓blp, blq]
  obtain ⟨r, hr, hr5⟩ : ∃ r : Nat, (n.tmod 5 + 5).tmod 5 = (r : Int) ∧ r < 5 := by
    obtain ⟨h1, h2⟩ := @mod_lt n 5 (by omega)
    exact ⟨((n.tmod 5 + 5).tmod 5).toNat, by omega, by omega⟩
  simp only [p_Mod, hr]
  refine ⟨by omega, ?_⟩
  simp only [blkP, ↓bwp, bwq, yaa, yab, yac, yad, ne_eq, reduceCtorEq, Nat.reduceEqDiff, Nat.reduceAdd, Nat.reduceMul, Nat.reduceSub, Nat.reduceLeDiff, Nat.reduceLT, Int.reduceMul, Int.reduceAdd, Int.reduceSub, yae, yaf, yag, yah, yai, if_true, if_false, yaj, yak, bvq, rEq, yal, Int.reduceToNat, yam, yan, TD.agg, yao, yap, yaq, yar, yas, yat, yau, yav, splice, zhb, zhc, yaw, yax, yay, zhd, zhe, rLen, rBin, rInt, rStr, rUn, zhf, zhg, zhh, zhi, zhj, rBox, zhk, zhl, zhm, zhn, zho, zhp, zhq, zhr, zhs, zht, zhu, zhv, zhw, zhx, zhy, zhz, zia, zib, zic, bound, addL, addT, grow, room, yaz, yba, ybb, frOf, ytb9, ↓blp, blq]
  have hms : maxStr = 9223372036854775807 := rfl
  have e1 : IntKind.i64.wrap (57 + (r : Int)) = ((57 + r : Nat) : Int) := by rw [wrap_i64] <;> omega
  have e2 : IntKind.i64.wrap (10 + (r : Int)) = ((10 + r : Nat) : Int) := by rw [wrap_i64] <;> omega
  refine loop_introW (A := Nat) (fun k => [(0, .int .i64 (r : Int)), (3, .str (wideT k)), (4, .str [97]), (5, .str [97]), (6, .int .i64 (k : Int))]) (fun k => H) (fun k => k ≤ 57 + r) (fun k => 57 + r - k) 0 (by omega) ?_ fun k hk => ?_
  · have e0 : wideT 0 = [97] := rfl
    (simp only [bkq, enterW, subW, ltF, ne_eq, Nat.reduceEqDiff, reduceCtorEq, e0]; try simp (disch := first | assumption | omega | (simp; done) | (simp; omega) | (simp only [bt, and_true]; first | done | omega | (simp; done))) [↓zkt, beq, ybc, ybd, ybe, endOk, wk, wk2, wk1, wkM, wkL, wkLL, ybf, byq, biq, isDs_ints, hcl, e0]; try (repeat' (first | assumption | omega | exact True.intro | refine And.intro ?_ ?_ | refine closed_buf ?_ | refine closed_set_buf ?_ | refine closed_cells ?_ ?_ | refine closed_set ?_ ?_ | refine closed_del ?_ | exact AHeap.Le.refl _ | refine AHeap.Le.push ?_ _ | refine AHeap.Le.del ?_ ?_ | (simp only [bt, and_true, true_and, e0]; first | done | omega | (simp; done)))))
  simp only [↓bwp, bwq, yaa, yab, yac, yad, ne_eq, reduceCtorEq, Nat.reduceEqDiff, Nat.reduceAdd, Nat.reduceMul, Nat.reduceSub, Nat.reduceLeDiff, Nat.reduceLT, Int.reduceMul, Int.reduceAdd, Int.reduceSub, yae, yaf, yag, yah, yai, if_true, if_false, yaj, yak, bvq, rEq, yal, Int.reduceToNat, yam, yan, TD.agg, yao, yap, yaq, yar, yas, yat, yau, yav, splice, zhb, zhc, yaw, yax, yay, zhd, zhe, rLen, rBin, rInt, rStr, rUn, zhf, zhg, zhh, zhi, zhj, rBox, zhk, zhl, zhm, zhn, zho, zhp, zhq, zhr, zhs, zht, zhu, zhv, zhw, zhx, zhy, zhz, zia, zib, zic, bound, addL, addT, grow, room, yaz, yba, ybb, frOf, ytb9, ↓blp, blq, e1]
  refine cond_split (fun h1 => ?_) (fun h1 => ?_)
  · have hk1 : k < 57 + r := by simp at h1; omega
    have e5 : IntKind.i64.wrap ((k : Int) + 1) = ((k + 1 : Nat) : Int) := by rw [wrap_i64] <;> omega
    simp only [↓bwp, bwq, yaa, yab, yac, yad, ne_eq, reduceCtorEq, Nat.reduceEqDiff, Nat.reduceAdd, Nat.reduceMul, Nat.reduceSub, Nat.reduceLeDiff, Nat.reduceLT, Int.reduceMul, Int.reduceAdd, Int.reduceSub, yae, yaf, yag, yah, yai, if_true, if_false, yaj, yak, bvq, rEq, yal, Int.reduceToNat, yam, yan, TD.agg, yao, yap, yaq, yar, yas, yat, yau, yav, splice, zhb, zhc, yaw, yax, yay, zhd, zhe, rLen, rBin, rInt, rStr, rUn, zhf, zhg, zhh, zhi, zhj, rBox, zhk, zhl, zhm, zhn, zho, zhp, zhq, zhr, zhs, zht, zhu, zhv, zhw, zhx, zhy, zhz, zia, zib, zic, bound, addL, addT, grow, room, yaz, yba, ybb, frOf, ytb9, ↓blp, blq, e5, wideT_succ, wideT_len]
    refine ⟨by rw [hms]; omega, k + 1, by omega, by omega, ?_⟩
    (simp only [bkq, enterW, subW, ltF, ne_eq, Nat.reduceEqDiff, reduceCtorEq]; try simp (disch := first | assumption | omega | (simp; done) | (simp; omega) | (simp only [bt, and_true]; first | done | omega | (simp; done))) [↓zkt, beq, ybc, ybd, ybe, endOk, wk, wk2, wk1, wkM, wkL, wkLL, ybf, byq, biq, isDs_ints, hcl]; try (repeat' (first | assumption | omega | exact True.intro | refine And.intro ?_ ?_ | refine closed_buf ?_ | refine closed_set_buf ?_ | refine closed_cells ?_ ?_ | refine closed_set ?_ ?_ | refine closed_del ?_ | exact AHeap.Le.refl _ | refine AHeap.Le.push ?_ _ | refine AHeap.Le.del ?_ ?_ | (simp only [bt, and_true, true_and]; first | done | omega | (simp; done)))))
  have hk1 : k = 57 + r := by simp at h1; omega
  subst hk1
  simp only [↓bwp, bwq, yaa, yab, yac, yad, ne_eq, reduceCtorEq, Nat.reduceEqDiff, Nat.reduceAdd, Nat.reduceMul, Nat.reduceSub, Nat.reduceLeDiff, Nat.reduceLT, Int.reduceMul, Int.reduceAdd, Int.reduceSub, yae, yaf, yag, yah, yai, if_true, if_false, yaj, yak, bvq, rEq, yal, Int.reduceToNat, yam, yan, TD.agg, yao, yap, yaq, yar, yas, yat, yau, yav, splice, zhb, zhc, yaw, yax, yay, zhd, zhe, rLen, rBin, rInt, rStr, rUn, zhf, zhg, zhh, zhi, zhj, rBox, zhk, zhl, zhm, zhn, zho, zhp, zhq, zhr, zhs, zht, zhu, zhv, zhw, zhx, zhy, zhz, zia, zib, zic, bound, addL, addT, grow, room, yaz, yba, ybb, frOf, ytb9, ↓blp, blq]
  refine loop_introW (A := Nat) (fun k => [(0, .int .i64 (r : Int)), (3, .str (wideT (57 + r))), (4, .str (deepT k)), (5, .str (rightT k)), (7, .int .i64 (k : Int))]) (fun k => H) (fun k => k ≤ 10 + r) (fun k => 10 + r - k) 0 (by omega) ?_ fun k hk => ?_
  · have e0 : rightT 0 = [97] := rfl
    have e00 : deepT 0 = [97] := rfl
    (simp only [bkq, enterW, subW, ltF, ne_eq, Nat.reduceEqDiff, reduceCtorEq, e0, e00]; try simp (disch := first | assumption | omega | (simp; done) | (simp; omega) | (simp only [bt, and_true]; first | done | omega | (simp; done))) [↓zkt, beq, ybc, ybd, ybe, endOk, wk, wk2, wk1, wkM, wkL, wkLL, ybf, byq, biq, isDs_ints, hcl, e0, e00]; try (repeat' (first | assumption | omega | exact True.intro | refine And.intro ?_ ?_ | refine closed_buf ?_ | refine closed_set_buf ?_ | refine closed_cells ?_ ?_ | refine closed_set ?_ ?_ | refine closed_del ?_ | exact AHeap.Le.refl _ | refine AHeap.Le.push ?_ _ | refine AHeap.Le.del ?_ ?_ | (simp only [bt, and_true, true_and, e0, e00]; first | done | omega | (simp; done)))))
  simp only [↓bwp, bwq, yaa, yab, yac, yad, ne_eq, reduceCtorEq, Nat.reduceEqDiff, Nat.reduceAdd, Nat.reduceMul, Nat.reduceSub, Nat.reduceLeDiff, Nat.reduceLT, Int.reduceMul, Int.reduceAdd, Int.reduceSub, yae, yaf, yag, yah, yai, if_true, if_false, yaj, yak, bvq, rEq, yal, Int.reduceToNat, yam, yan, TD.agg, yao, yap, yaq, yar, yas, yat, yau, yav, splice, zhb, zhc, yaw, yax, yay, zhd, zhe, rLen, rBin, rInt, rStr, rUn, zhf, zhg, zhh, zhi, zhj, rBox, zhk, zhl, zhm, zhn, zho, zhp, zhq, zhr, zhs, zht, zhu, zhv, zhw, zhx, zhy, zhz, zia, zib, zic, bound, addL, addT, grow, room, yaz, yba, ybb, frOf, ytb9, ↓blp, blq, e2]
  refine cond_split (fun h2 => ?_) (fun h2 => ?_)
  · have hk1 : k < 10 + r := by simp at h2; omega
    have e5 : IntKind.i64.wrap ((k : Int) + 1) = ((k + 1 : Nat) : Int) := by rw [wrap_i64] <;> omega
    have e6 : [33] ++ deepT k = deepT (k + 1) := deepT_succ k
    have e7 : 33 :: deepT k = deepT (k + 1) := deepT_succ k
    simp only [↓bwp, bwq, yaa, yab, yac, yad, ne_eq, reduceCtorEq, Nat.reduceEqDiff, Nat.reduceAdd, Nat.reduceMul, Nat.reduceSub, Nat.reduceLeDiff, Nat.reduceLT, Int.reduceMul, Int.reduceAdd, Int.reduceSub, yae, yaf, yag, yah, yai, if_true, if_false, yaj, yak, bvq, rEq, yal, Int.reduceToNat, yam, yan, TD.agg, yao, yap, yaq, yar, yas, yat, yau, yav, splice, zhb, zhc, yaw, yax, yay, zhd, zhe, rLen, rBin, rInt, rStr, rUn, zhf, zhg, zhh, zhi, zhj, rBox, zhk, zhl, zhm, zhn, zho, zhp, zhq, zhr, zhs, zht, zhu, zhv, zhw, zhx, zhy, zhz, zia, zib, zic, bound, addL, addT, grow, room, yaz, yba, ybb, frOf, ytb9, ↓blp, blq, e5, rightT_succ, rightT_len, deepT_len, e6, e7]
    refine ⟨by rw [hms]; omega, by rw [hms]; omega, k + 1, by omega, by omega, ?_⟩
    (simp only [bkq, enterW, subW, ltF, ne_eq, Nat.reduceEqDiff, reduceCtorEq]; try simp (disch := first | assumption | omega | (simp; done) | (simp; omega) | (simp only [bt, and_true]; first | done | omega | (simp; done))) [↓zkt, beq, ybc, ybd, ybe, endOk, wk, wk2, wk1, wkM, wkL, wkLL, ybf, byq, biq, isDs_ints, hcl]; try (repeat' (first | assumption | omega | exact True.intro | refine And.intro ?_ ?_ | refine closed_buf ?_ | refine closed_set_buf ?_ | refine closed_cells ?_ ?_ | refine closed_set ?_ ?_ | refine closed_del ?_ | exact AHeap.Le.refl _ | refine AHeap.Le.push ?_ _ | refine AHeap.Le.del ?_ ?_ | (simp only [bt, and_true, true_and]; first | done | omega | (simp; done)))))
  have hk1 : k = 10 + r := by simp at h2; omega
  subst hk1
  simp only [↓bwp, bwq, yaa, yab, yac, yad, ne_eq, reduceCtorEq, Nat.reduceEqDiff, Nat.reduceAdd, Nat.reduceMul, Nat.reduceSub, Nat.reduceLeDiff, Nat.reduceLT, Int.reduceMul, Int.reduceAdd, Int.reduceSub, yae, yaf, yag, yah, yai, if_true, if_false, yaj, yak, bvq, rEq, yal, Int.reduceToNat, yam, yan, TD.agg, yao, yap, yaq, yar, yas, yat, yau, yav, splice, zhb, zhc, yaw, yax, yay, zhd, zhe, rLen, rBin, rInt, rStr, rUn, zhf, zhg, zhh, zhi, zhj, rBox, zhk, zhl, zhm, zhn, zho, zhp, zhq, zhr, zhs, zht, zhu, zhv, zhw, zhx, zhy, zhz, zia, zib, zic, bound, addL, addT, grow, room, yaz, yba, ybb, frOf, ytb9, ↓blp, blq]
  obtain ⟨fw, rw', hw1, hw2, hw3⟩ := chk_out (chk_wide r hr5)
  obtain ⟨fd, rd, hd1, hd2, hd3⟩ := chk_out (chk_deep r hr5)
  have hright : ∃ f r', run (scanned (rightT (10 + r))).1 f .imp 0 [] = some r' ∧ litFree False (scanned (rightT (10 + r))).1 := by
    have := chk_right r hr5
    rw [Bool.or_eq_true] at this
    rcases this with h | h
    · obtain ⟨f, r', h1, _, h3⟩ := chk_out h; exact ⟨f, r', h1, h3⟩
    · obtain ⟨f, r', h1, _, h3⟩ := chk_out h; exact ⟨f, r', h1, h3⟩
  have hlw := wideT_len (57 + r)
  have hld := deepT_len (10 + r)
  have hlr := rightT_len (10 + r)
  generalize hW : wideT (57 + r) = W at *
  generalize hD : deepT (10 + r) = D at *
  generalize hR : rightT (10 + r) = R at *
  have hsl : [AV.str W, AV.str D, AV.str R] = sAV [W, D, R] := rfl
  have hall : ∀ k, k < 3 → ∃ s, (sAV [W, D, R]).getD k .junk = .str s ∧ s.length ≤ 1000 ∧ ∃ f r', run (scanned s).1 f .imp 0 [] = some r' ∧ litFree False (scanned s).1 := by
    intro k hk
    rcases (by omega : k = 0 ∨ k = 1 ∨ k = 2) with rfl | rfl | rfl
    · exact ⟨W, rfl, by omega, fw, rw', hw1, hw3⟩
    · exact ⟨D, rfl, by omega, fd, rd, hd1, hd3⟩
    · obtain ⟨f, r', g1, g2⟩ := hright; exact ⟨R, rfl, by omega, f, r', g1, g2⟩
  have hsn : (sAV [W, D, R]).length = 3 := rfl
  rw [hsl]
  refine loop_introW (A := Nat) (fun k => [(0, .int .i64 (r : Int)), (3, .str W), (4, .str D), (45, .slice .any 1 (sAV [W, D, R])), (46, .int .i64 3), (47, .int .i64 (k : Int))]) (fun k => H) (fun k => k ≤ 3) (fun k => 3 - k) 0 (by omega) ?_ fun k hk => ?_
  · (simp only [bkq, enterW, subW, ltF, ne_eq, Nat.reduceEqDiff, reduceCtorEq, sAV_lt]; try simp (disch := first | assumption | omega | (simp; done) | (simp; omega) | (simp only [bt, and_true]; first | done | omega | (simp; done))) [↓zkt, beq, ybc, ybd, ybe, endOk, wk, wk2, wk1, wkM, wkL, wkLL, ybf, byq, biq, isDs_ints, hcl, sAV_lt]; try (repeat' (first | assumption | omega | exact True.intro | refine And.intro ?_ ?_ | refine closed_buf ?_ | refine closed_set_buf ?_ | refine closed_cells ?_ ?_ | refine closed_set ?_ ?_ | refine closed_del ?_ | exact AHeap.Le.refl _ | refine AHeap.Le.push ?_ _ | refine AHeap.Le.del ?_ ?_ | (simp only [bt, and_true, true_and, sAV_lt]; first | done | omega | (simp; done)))))
  simp only [↓bwp, bwq, yaa, yab, yac, yad, ne_eq, reduceCtorEq, Nat.reduceEqDiff, Nat.reduceAdd, Nat.reduceMul, Nat.reduceSub, Nat.reduceLeDiff, Nat.reduceLT, Int.reduceMul, Int.reduceAdd, Int.reduceSub, yae, yaf, yag, yah, yai, if_true, if_false, yaj, yak, bvq, rEq, yal, Int.reduceToNat, yam, yan, TD.agg, yao, yap, yaq, yar, yas, yat, yau, yav, splice, zhb, zhc, yaw, yax, yay, zhd, zhe, rLen, rBin, rInt, rStr, rUn, zhf, zhg, zhh, zhi, zhj, rBox, zhk, zhl, zhm, zhn, zho, zhp, zhq, zhr, zhs, zht, zhu, zhv, zhw, zhx, zhy, zhz, zia, zib, zic, bound, addL, addT, grow, room, yaz, yba, ybb, frOf, ytb9, ↓blp, blq]
  refine cond_split (fun h3 => ?_) (fun h3 => ?_)
  · have hk1 : k < 3 := by simp at h3; omega
    have e5 : IntKind.i64.wrap ((k : Int) + 1) = ((k + 1 : Nat) : Int) := by rw [wrap_i64] <;> omega
    obtain ⟨s, hgs, hsl', f, r', g1, g2⟩ := hall k hk1
    simp only [↓bwp, bwq, yaa, yab, yac, yad, ne_eq, reduceCtorEq, Nat.reduceEqDiff, Nat.reduceAdd, Nat.reduceMul, Nat.reduceSub, Nat.reduceLeDiff, Nat.reduceLT, Int.reduceMul, Int.reduceAdd, Int.reduceSub, yae, yaf, yag, yah, yai, if_true, if_false, yaj, yak, bvq, rEq, yal, Int.reduceToNat, yam, yan, TD.agg, yao, yap, yaq, yar, yas, yat, yau, yav, splice, zhb, zhc, yaw, yax, yay, zhd, zhe, rLen, rBin, rInt, rStr, rUn, zhf, zhg, zhh, zhi, zhj, rBox, zhk, zhl, zhm, zhn, zho, zhp, zhq, zhr, zhs, zht, zhu, zhv, zhw, zhx, zhy, zhz, zia, zib, zic, bound, addL, addT, grow, room, yaz, yba, ybb, frOf, ytb9, ↓blp, blq, hsn, hgs, Int.toNat_natCast, s_parsed]
    refine ⟨by omega, f, r', ⟨g1, by omega, g2⟩, ?_⟩
    obtain ⟨u, hu⟩ := parsed_of (o := treeOf (scanned s).1 r')
    rw [hu]
    generalize (treeOf (scanned s).1 r').isSome = ok
    try simp only [blkS, ↓bwp, bwq, yaa, yab, yac, yad, ne_eq, reduceCtorEq, Nat.reduceEqDiff, Nat.reduceAdd, Nat.reduceMul, Nat.reduceSub, Nat.reduceLeDiff, Nat.reduceLT, Int.reduceMul, Int.reduceAdd, Int.reduceSub, yae, yaf, yag, yah, yai, if_true, if_false, yaj, yak, bvq, rEq, yal, Int.reduceToNat, yam, yan, TD.agg, yao, yap, yaq, yar, yas, yat, yau, yav, splice, zhb, zhc, yaw, yax, yay, zhd, zhe, rLen, rBin, rInt, rStr, rUn, zhf, zhg, zhh, zhi, zhj, rBox, zhk, zhl, zhm, zhn, zho, zhp, zhq, zhr, zhs, zht, zhu, zhv, zhw, zhx, zhy, zhz, zia, zib, zic, bound, addL, addT, grow, room, yaz, yba, ybb, frOf, ytb9, ↓blp, blq, e5]
    refine ⟨k + 1, by omega, by omega, ?_⟩
    (simp only [bkq, enterW, subW, ltF, ne_eq, Nat.reduceEqDiff, reduceCtorEq, sAV_lt]; try simp (disch := first | assumption | omega | (simp; done) | (simp; omega) | (simp only [bt, and_true]; first | done | omega | (simp; done))) [↓zkt, beq, ybc, ybd, ybe, endOk, wk, wk2, wk1, wkM, wkL, wkLL, ybf, byq, biq, isDs_ints, hcl, sAV_lt]; try (repeat' (first | assumption | omega | exact True.intro | refine And.intro ?_ ?_ | refine closed_buf ?_ | refine closed_set_buf ?_ | refine closed_cells ?_ ?_ | refine closed_set ?_ ?_ | refine closed_del ?_ | exact AHeap.Le.refl _ | refine AHeap.Le.push ?_ _ | refine AHeap.Le.del ?_ ?_ | (simp only [bt, and_true, true_and, sAV_lt]; first | done | omega | (simp; done)))))
  have w2 : IntKind.i64.wrap (2 * ((57 + r : Nat) : Int)) = ((2 * (57 + r) : Nat) : Int) := by rw [wrap_i64] <;> omega
  have w3 : IntKind.i64.wrap (((2 * (57 + r) : Nat) : Int) + 1) = ((2 * (57 + r) + 1 : Nat) : Int) := by rw [wrap_i64] <;> omega
  have d1 : decide (((2 * (57 + r) + 1 : Nat) : Int) ≤ 120) = decide (r ≤ 2) := by rw [decide_eq_decide]; omega
  have d2 : decide ((r : Int) ≤ 2) = decide (r ≤ 2) := by rw [decide_eq_decide]; omega
  obtain ⟨u, hu⟩ := parsed_of (o := treeOf (scanned W).1 rw')
  obtain ⟨v, hv⟩ := parsed_of (o := treeOf (scanned D).1 rd)
  rw [hw2] at hu
  rw [hd2] at hv
  try simp only [↓bwp, bwq, yaa, yab, yac, yad, ne_eq, reduceCtorEq, Nat.reduceEqDiff, Nat.reduceAdd, Nat.reduceMul, Nat.reduceSub, Nat.reduceLeDiff, Nat.reduceLT, Int.reduceMul, Int.reduceAdd, Int.reduceSub, yae, yaf, yag, yah, yai, if_true, if_false, yaj, yak, bvq, rEq, yal, Int.reduceToNat, yam, yan, TD.agg, yao, yap, yaq, yar, yas, yat, yau, yav, splice, zhb, zhc, yaw, yax, yay, zhd, zhe, rLen, rBin, rInt, rStr, rUn, zhf, zhg, zhh, zhi, zhj, rBox, zhk, zhl, zhm, zhn, zho, zhp, zhq, zhr, zhs, zht, zhu, zhv, zhw, zhx, zhy, zhz, zia, zib, zic, bound, addL, addT, grow, room, yaz, yba, ybb, frOf, ytb9, ↓blp, blq, s_parsed]
  refine ⟨fw, rw', ⟨hw1, by omega, hw3⟩, ?_⟩
  rw [hu]
  try simp only [blkS, ↓bwp, bwq, yaa, yab, yac, yad, ne_eq, reduceCtorEq, Nat.reduceEqDiff, Nat.reduceAdd, Nat.reduceMul, Nat.reduceSub, Nat.reduceLeDiff, Nat.reduceLT, Int.reduceMul, Int.reduceAdd, Int.reduceSub, yae, yaf, yag, yah, yai, if_true, if_false, yaj, yak, bvq, rEq, yal, Int.reduceToNat, yam, yan, TD.agg, yao, yap, yaq, yar, yas, yat, yau, yav, splice, zhb, zhc, yaw, yax, yay, zhd, zhe, rLen, rBin, rInt, rStr, rUn, zhf, zhg, zhh, zhi, zhj, rBox, zhk, zhl, zhm, zhn, zho, zhp, zhq, zhr, zhs, zht, zhu, zhv, zhw, zhx, zhy, zhz, zia, zib, zic, bound, addL, addT, grow, room, yaz, yba, ybb, frOf, ytb9, ↓blp, blq, s_parsed]
  refine ⟨fd, rd, ⟨hd1, by omega, hd3⟩, ?_⟩
  rw [hv]
  simp only [blkS, ↓bwp, bwq, yaa, yab, yac, yad, ne_eq, reduceCtorEq, Nat.reduceEqDiff, Nat.reduceAdd, Nat.reduceMul, Nat.reduceSub, Nat.reduceLeDiff, Nat.reduceLT, Int.reduceMul, Int.reduceAdd, Int.reduceSub, yae, yaf, yag, yah, yai, if_true, if_false, yaj, yak, bvq, rEq, yal, Int.reduceToNat, yam, yan, TD.agg, yao, yap, yaq, yar, yas, yat, yau, yav, splice, zhb, zhc, yaw, yax, yay, zhd, zhe, rLen, rBin, rInt, rStr, rUn, zhf, zhg, zhh, zhi, zhj, rBox, zhk, zhl, zhm, zhn, zho, zhp, zhq, zhr, zhs, zht, zhu, zhv, zhw, zhx, zhy, zhz, zia, zib, zic, bound, addL, addT, grow, room, yaz, yba, ybb, frOf, ytb9, ↓blp, blq, e1, w2, w3, d1, d2, p_begun07]
  have db : ((decide (r ≤ 2) == decide (r ≤ 2)) != false) = true := by simp
  refine both_tt db (both_tt db ?_)
  simp (disch := first | assumption | omega | (simp; done) | (simp; omega) | (simp only [bt, and_true]; first | done | omega | (simp; done))) [↓zkt, beq, ybc, ybd, ybe, endOk, wk, wk2, wk1, wkM, wkL, wkLL, ybf, hcl]
end Go.AL

