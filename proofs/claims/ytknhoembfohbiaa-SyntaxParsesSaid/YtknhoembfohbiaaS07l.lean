/- Contracts and plain laws, a part of the proof; no condition of its own. -/
import Derived.Test.YtknhoembfohbiaaS07q
import Derived.Test.YtknhoembfohbiaaE06
open Go Go.AL Go.Proofs
namespace Go.AL
set_option linter.all false
set_option maxRecDepth 10000

theorem eqg_nodeR : Try.prog.eqGuardType Try.prog.depth 67 = false := by kernel_rfl
theorem eqg_node : Try.prog.eqGuardType Try.prog.depth 66 = false := by kernel_rfl
theorem teq_nodeR {a b c hi lo : Int} {n m : List UInt8} : teq Try.prog 9 67 (.agg [.int .i64 a, .int .i64 b, .int .i64 c, .str n, .str m, .int .u64 hi, .int .u64 lo]) (.agg [.int .i64 a, .int .i64 b, .int .i64 c, .str n, .str m, .int .u64 hi, .int .u64 lo]) = some true := by
  have g1 : Try.prog.stoodInHeld 67 = false := by kernel_rfl
  have g2 : Try.prog.stoodInHeld 64 = false := by kernel_rfl
  simp [ti_nodeR, ti_value, teq, teq.go, teq.part, ti_u64, ti_int, ti_string, ceq, g1, g2, TD.agg]
theorem teq_node {a b c hi lo : Int} {n m : List UInt8} : teq Try.prog 9 66 (.agg [.int .i64 a, .int .i64 b, .int .i64 c, .str n, .str m, .int .u64 hi, .int .u64 lo]) (.agg [.int .i64 a, .int .i64 b, .int .i64 c, .str n, .str m, .int .u64 hi, .int .u64 lo]) = some true := by
  have g1 : Try.prog.stoodInHeld 66 = false := by kernel_rfl
  have g2 : Try.prog.stoodInHeld 64 = false := by kernel_rfl
  simp [ti_node, ti_value, teq, teq.go, teq.part, ti_u64, ti_int, ti_string, ceq, g1, g2, TD.agg]
def p_same07 : List AV → AHeap → (AV → Prop) → Prop
  | [.slice _ 7 x, .slice _ 7 y], _, K => ∃ t, (x = nds t ∧ y = nds t ∧ t.length ≤ 100000) ∧ K (.bool true)
  | _, _, _ => False
set_option maxHeartbeats 4000000 in
theorem ok_same07 : EntOk Try.prog 74 (Ent.pure p_same07) := by
  refine EntOk.pure fun args H K h => ?_
  unfold p_same07 at h
  split at h
  rotate_left
  · exact h.elim
  rename_i m x m' y
  obtain ⟨t, ⟨rfl, rfl, hl⟩, hK⟩ := h
  refine ⟨_, hK, ?_⟩
  clear hK
  refine ACalls.of_aw (Ω := []) (T := assoc []) mixed TblOk.nil Try.func74 (by kernel_rfl) (by rfl) (rs := [.tmp 4]) (by rfl) (by kernel_rfl) (by simp only [Try.ntmps74, List.length_cons, List.length_nil]; decide) (Nat.le_refl _) fun hcl hlt => ?_
  change aw _ _ _ (KI Try.prog [] (aEnd Try.prog [.tmp 4] H.nx _ _ (assoc [])) []) _ _
  have hm : ∀ n', H.nx ≤ n' → AV.lt n' (.slice m 7 (nds t)) := fun n' hn => AV.lt_mono hn _ (hlt (.slice m 7 (nds t)) (by simp))
  have hm' : ∀ n', H.nx ≤ n' → AV.lt n' (.slice m' 7 (nds t)) := fun n' hn => AV.lt_mono hn _ (hlt (.slice m' 7 (nds t)) (by simp))
  clear hlt
  simp only [go_sem, reduceCtorEq, Nat.reduceEqDiff, Nat.reduceAdd, Nat.reduceMul, Nat.reduceSub, Nat.reduceLeDiff, Nat.reduceLT, Int.reduceMul, Int.reduceAdd, Int.reduceSub, Int.reduceToNat, nds_length]
  refine cond_split (fun hc => by simp at hc) (fun hc => ?_)
  simp only [go_sem, reduceCtorEq, Nat.reduceEqDiff, Nat.reduceAdd, Nat.reduceMul, Nat.reduceSub, Nat.reduceLeDiff, Nat.reduceLT, Int.reduceMul, Int.reduceAdd, Int.reduceSub, Int.reduceToNat, nds_length]
  refine loop_introW (A := Nat) (fun k => [(1, .slice m' 7 (nds t)), (12, .slice m 7 (nds t)), (13, .int .i64 (t.length : Int)), (14, .int .i64 (k : Int))]) (fun k => H) (fun k => k ≤ t.length) (fun k => t.length - k) 0 (by omega) ?_ fun k hk => ?_
  · (simp only [bkq, enterW, subW, ltF, ne_eq, Nat.reduceEqDiff, reduceCtorEq, hm, hm']; try simp (disch := first | assumption | omega | (simp; done) | (simp; omega) | (simp only [bt, and_true]; first | done | omega | (simp; done))) [↓zlf, beq, List.take_of_length_le, List.drop_append, List.take_append, endOk, wk, wk2, wk1, wkM, wkL, wkLL, List.drop_eq_nil_of_le, byq, biq, isDs_ints, hcl, hm, hm']; try (repeat' (first | assumption | omega | exact True.intro | refine And.intro ?_ ?_ | refine closed_buf ?_ | refine closed_set_buf ?_ | refine closed_cells ?_ ?_ | refine closed_set ?_ ?_ | refine closed_del ?_ | exact AHeap.Le.refl _ | refine AHeap.Le.push ?_ _ | refine AHeap.Le.del ?_ ?_ | (simp only [bt, and_true, true_and, hm, hm']; first | done | omega | (simp; done)))))
  simp only [go_sem, reduceCtorEq, Nat.reduceEqDiff, Nat.reduceAdd, Nat.reduceMul, Nat.reduceSub, Nat.reduceLeDiff, Nat.reduceLT, Int.reduceMul, Int.reduceAdd, Int.reduceSub, Int.reduceToNat]
  refine cond_split (fun hc => ?_) (fun hc => ?_)
  · have hk1 : k < t.length := by simp at hc; omega
    have e5 : IntKind.i64.wrap ((k : Int) + 1) = ((k + 1 : Nat) : Int) := by rw [wrap_i64] <;> omega
    simp only [go_sem, reduceCtorEq, Nat.reduceEqDiff, Nat.reduceAdd, Nat.reduceMul, Nat.reduceSub, Nat.reduceLeDiff, Nat.reduceLT, Int.reduceMul, Int.reduceAdd, Int.reduceSub, Int.reduceToNat, nds_length, nds_get hk1, Int.toNat_natCast, e5, teq_nodeR, eqg_nodeR, bne_self_eq_false]
    refine ⟨by omega, by omega, k + 1, by omega, by omega, ?_⟩
    (simp only [bkq, enterW, subW, ltF, ne_eq, Nat.reduceEqDiff, reduceCtorEq, hm, hm']; try simp (disch := first | assumption | omega | (simp; done) | (simp; omega) | (simp only [bt, and_true]; first | done | omega | (simp; done))) [↓zlf, beq, List.take_of_length_le, List.drop_append, List.take_append, endOk, wk, wk2, wk1, wkM, wkL, wkLL, List.drop_eq_nil_of_le, byq, biq, isDs_ints, hcl, hm, hm']; try (repeat' (first | assumption | omega | exact True.intro | refine And.intro ?_ ?_ | refine closed_buf ?_ | refine closed_set_buf ?_ | refine closed_cells ?_ ?_ | refine closed_set ?_ ?_ | refine closed_del ?_ | exact AHeap.Le.refl _ | refine AHeap.Le.push ?_ _ | refine AHeap.Le.del ?_ ?_ | (simp only [bt, and_true, true_and, hm, hm']; first | done | omega | (simp; done)))))
  · simp only [go_sem, reduceCtorEq, Nat.reduceEqDiff, Nat.reduceAdd, Nat.reduceMul, Nat.reduceSub, Nat.reduceLeDiff, Nat.reduceLT, Int.reduceMul, Int.reduceAdd, Int.reduceSub, Int.reduceToNat]
    simp (disch := first | assumption | omega | (simp; done) | (simp; omega) | (simp only [bt, and_true]; first | done | omega | (simp; done))) [↓zlf, beq, List.take_of_length_le, List.drop_append, List.take_append, endOk, wk, wk2, wk1, wkM, wkL, wkLL, List.drop_eq_nil_of_le, hcl]
def treeOf (l : List Tok) : PR → Option (List Nd)
  | .ok _ p t => if p < l.length then none else if bigT t = true then none else some t
  | .bad _ => none
def parsedAV : Option (List Nd) → AV
  | some t => .tup [.slice .any 7 (nds t), .slice .any 7 (nds t), .bool true, .bool true]
  | none => .tup [.slice .any 7 [], .slice .any 7 [], .bool true, .bool false]
theorem run_nil {f : Nat} {r : PR} (h : run [] f .imp 0 [] = some r) : treeOf [] r = none := by
  have hw := run_post f h Good.nil trivial (Nat.zero_le _)
  cases r with
  | bad q => rfl
  | ok a p t =>
    obtain ⟨k1, k2, k3, _⟩ := hw
    simp at k2 k3
    omega
theorem scanned_err {s : List UInt8} : (scanned s).2.2 = 0 ∨ ((scanned s).1 = [] ∧ ((scanned s).2.2 = 3 ∨ (scanned s).2.2 = 10)) := by
  unfold scanned
  split
  · exact .inr ⟨rfl, .inl rfl⟩
  · split
    · exact .inl rfl
    · exact .inr ⟨rfl, .inr rfl⟩
theorem parse_cases (l : List Tok) (r : PR) : ∃ (u : List Nd) (i e : Int), parseAV l r = .tup [.slice .any 7 (nds u), .int .i64 i, .int .i64 e] ∧ u.length ≤ 120 ∧ ((treeOf l r = some u ∧ e = 0) ∨ (treeOf l r = none ∧ u = [] ∧ (e == 0) = false)) := by
  cases r with
  | bad q => exact ⟨[], _, 10, rfl, by simp, .inr ⟨rfl, rfl, rfl⟩⟩
  | ok a p t =>
    by_cases hp : p < l.length
    · exact ⟨[], (p : Int), 10, by simp only [parseAV]; rw [if_pos hp]; rfl, by simp, .inr ⟨by simp only [treeOf]; rw [if_pos hp], rfl, rfl⟩⟩
    · by_cases hb : bigT t = true
      · exact ⟨[], 0, 11, by simp only [parseAV]; rw [if_neg hp, if_pos hb]; rfl, by simp, .inr ⟨by simp only [treeOf]; rw [if_neg hp, if_pos hb], rfl, rfl⟩⟩
      · refine ⟨t, 0, 0, by simp only [parseAV]; rw [if_neg hp, if_neg hb], ?_, .inl ⟨by simp only [treeOf]; rw [if_neg hp, if_neg hb], rfl⟩⟩
        unfold bigT at hb
        simp at hb
        omega
def s_parsed (A : Prop) (_g : Nat) : List AV → AHeap → (AV → AHeap → Prop) → Prop
  | [.str s], H, K => ∃ f r, (run (scanned s).1 f .imp 0 [] = some r ∧ s.length ≤ 140737488355328 ∧ litFree A (scanned s).1) ∧ K (parsedAV (treeOf (scanned s).1 r)) H
  | _, _, _ => False
theorem finishP_4 {P : Program} {t s u w n0 : Nat} {fr : Fr} {H : AHeap} {Q : AV → AHeap → Prop} : finishP P [.tmp t, .tmp s, .tmp u, .tmp w] n0 Q fr H = endP n0 Q (.tup [Fr.get fr t, Fr.get fr s, Fr.get fr u, Fr.get fr w]) H := by simp [finishP, resL, resA, one, endP]
theorem pd_end {P : Program} {H X : AHeap} {K : AV → AHeap → Prop} {fr : Fr} {m m' : Mark} {t : List Nd} {a b : Bool} (hK : K (.tup [.slice .any 7 (nds t), .slice .any 7 (nds t), .bool a, .bool b]) H) (hcl : H.Closed) (hle : H.Le X)
    (f2 : Fr.get fr 2 = .slice m 7 (nds t)) (f3 : Fr.get fr 3 = .slice m' 7 (nds t)) (f4 : Fr.get fr 4 = .bool a) (f5 : Fr.get fr 5 = .bool b) : finishP P [.tmp 2, .tmp 3, .tmp 4, .tmp 5] H.nx K fr X := by
  rw [finishP_4, f2, f3, f4, f5]
  refine ⟨_, H, hK, Nat.le_refl _, ?_, hle, hcl, ?_⟩
  · simp [wk, wkLL, wk2, wk1, wkM]
  · simp [zmj, zml, zmm, zlx, nds_lt]
set_option maxHeartbeats 4000000 in
theorem s_ok_parsed {A : Prop} {g : Nat} (h_zParse : EntOk Try.prog 24 (Ent.some (s_zParse A g))) : EntOk Try.prog 20 (Ent.some (s_parsed A g)) := by
  refine EntOk.some fun args H K h => ?_
  unfold s_parsed at h
  split at h
  rotate_left
  · exact h.elim
  rename_i s
  obtain ⟨f, r, ⟨hr, hs, hfree⟩, hK⟩ := h
  refine ACallsP.of_aw (Ω := [(15, Ent.pure p_xScan), (22, Ent.pure p_fScan), (23, Ent.pure p_yParse), (24, Ent.some (s_zParse A g)), (74, Ent.pure p_same07)]) (T := assoc []) mixed (TblOk.cons ok_xScan (TblOk.cons ok_fScan (TblOk.cons ok_yParse (TblOk.cons h_zParse (TblOk.cons ok_same07 TblOk.nil))))) Try.func20 (by kernel_rfl) (by rfl) (rs := [.tmp 2,.tmp 3,.tmp 4,.tmp 5]) (by rfl) (by kernel_rfl) (by simp only [Try.ntmps20, List.length_cons, List.length_nil]; decide) fun hcl hlt => ?_
  change aw _ _ _ (KI Try.prog [(15, Ent.pure p_xScan), (22, Ent.pure p_fScan), (23, Ent.pure p_yParse), (24, Ent.some (s_zParse A g)), (74, Ent.pure p_same07)] (aEndP Try.prog [.tmp 2,.tmp 3,.tmp 4,.tmp 5] H.nx _ (assoc [])) []) _ _
  clear hlt
  obtain ⟨hg1, hg2⟩ := scanned_good s
  simp only [go_sem, reduceCtorEq, Nat.reduceEqDiff, Nat.reduceAdd, Nat.reduceMul, Nat.reduceSub, Nat.reduceLeDiff, Nat.reduceLT, Int.reduceMul, Int.reduceAdd, Int.reduceSub, Int.reduceToNat, p_xScan, p_fScan, scanAV, hs]
  rcases scanned_err (s := s) with he | ⟨hl, he⟩
  · have d1 : ((((scanned s).2.2 : Nat) : Int) != (((scanned s).2.2 : Nat) : Int)) = false := by simp
    have d2 : ((((scanned s).2.2 : Nat) : Int) != 0) = false := by rw [he]; rfl
    simp only [go_sem, reduceCtorEq, Nat.reduceEqDiff, Nat.reduceAdd, Nat.reduceMul, Nat.reduceSub, Nat.reduceLeDiff, Nat.reduceLT, Int.reduceMul, Int.reduceAdd, Int.reduceSub, Int.reduceToNat, d1, d2, p_yParse]
    refine ⟨(scanned s).1, f, r, ⟨rfl, hr, by omega, hg2⟩, ?_⟩
    obtain ⟨u, i, e, hpa, hul, hue⟩ := parse_cases (scanned s).1 r
    simp only [go_sem, reduceCtorEq, Nat.reduceEqDiff, Nat.reduceAdd, Nat.reduceMul, Nat.reduceSub, Nat.reduceLeDiff, Nat.reduceLT, Int.reduceMul, Int.reduceAdd, Int.reduceSub, Int.reduceToNat, hpa, s_zParse]
    refine ⟨(scanned s).1, f, r, ⟨rfl, hr, by omega, hg2, hfree⟩, ?_⟩
    have d3 : (i == i) = true := by simp
    have d4 : (e == e) = true := by simp
    simp only [blkS, go_sem, reduceCtorEq, Nat.reduceEqDiff, Nat.reduceAdd, Nat.reduceMul, Nat.reduceSub, Nat.reduceLeDiff, Nat.reduceLT, Int.reduceMul, Int.reduceAdd, Int.reduceSub, Int.reduceToNat, hpa, d3, d4, p_same07]
    refine ⟨u, ⟨rfl, rfl, by omega⟩, ?_⟩
    try simp only [go_sem, reduceCtorEq, Nat.reduceEqDiff, Nat.reduceAdd, Nat.reduceMul, Nat.reduceSub, Nat.reduceLeDiff, Nat.reduceLT, Int.reduceMul, Int.reduceAdd, Int.reduceSub, Int.reduceToNat]
    rcases hue with ⟨ht, rfl⟩ | ⟨ht, rfl, he0⟩
    · rw [ht] at hK
      exact pd_end hK hcl (((((AHeap.Le.refl H).push _).push _))) rfl rfl rfl rfl
    · rw [ht] at hK
      exact pd_end (t := []) hK hcl (((((AHeap.Le.refl H).push _).push _))) rfl rfl rfl (by simp [Fr.get, he0])
  · rw [hl] at hr hK
    rw [run_nil hr] at hK
    have d1 : ((((scanned s).2.2 : Nat) : Int) != (((scanned s).2.2 : Nat) : Int)) = false := by simp
    have d2 : ((((scanned s).2.2 : Nat) : Int) != 0) = true := by rcases he with he | he <;> rw [he] <;> rfl
    simp only [go_sem, reduceCtorEq, Nat.reduceEqDiff, Nat.reduceAdd, Nat.reduceMul, Nat.reduceSub, Nat.reduceLeDiff, Nat.reduceLT, Int.reduceMul, Int.reduceAdd, Int.reduceSub, Int.reduceToNat, d1, d2]
    exact pd_end (t := []) hK hcl (((((AHeap.Le.refl H).push _).push _).push _).push _) rfl rfl rfl rfl
theorem scan_b07 : scanned [33, 97, 32, 38, 38, 32, 98, 32, 45, 62, 32, 99] = ([(3, [33], 0), (2, [97], 1), (3, [38, 38], 3), (2, [98], 6), (3, [45, 62], 8), (2, [99], 11)], 0, 0) := by decide +kernel
def tree07 : List Nd := [⟨3, 0, 0, [97], [], 0⟩, ⟨5, 0, 0, [], [], 0⟩, ⟨3, 0, 0, [98], [], 0⟩, ⟨14, 1, 2, [], [], 0⟩, ⟨3, 0, 0, [99], [], 0⟩, ⟨16, 3, 4, [], [], 0⟩]
theorem run_b07 : run [(3, [33], 0), (2, [97], 1), (3, [38, 38], 3), (2, [98], 6), (3, [45, 62], 8), (2, [99], 11)] 20 .imp 0 [] = some (.ok 5 6 tree07) := by kernel_rfl
def p_begun07 : List AV → AHeap → (AV → Prop) → Prop
  | [], _, K => K (.bool true)
  | _, _, _ => False
theorem ok_begun07 : EntOk Try.prog 21 (Ent.pure p_begun07) := by
  refine EntOk.pure fun args H K h => ?_
  unfold p_begun07 at h
  split at h
  rotate_left
  · exact h.elim
  refine ⟨_, h, ?_⟩
  clear h
  refine ACalls.of_aw (Ω := [(15, Ent.pure p_xScan), (23, Ent.pure p_yParse)]) (T := assoc []) mixed (TblOk.cons ok_xScan (TblOk.cons ok_yParse TblOk.nil)) Try.func21 (by kernel_rfl) (by rfl) (rs := [.tmp 0]) (by rfl) (by kernel_rfl) (by simp only [Try.ntmps21, List.length_cons, List.length_nil]; decide) (Nat.le_refl _) fun hcl hlt => ?_
  change aw _ _ _ (KI Try.prog [(15, Ent.pure p_xScan), (23, Ent.pure p_yParse)] (aEnd Try.prog [.tmp 0] H.nx _ _) []) _ _
  clear hlt
  simp only [go_sem, reduceCtorEq, Nat.reduceEqDiff, Nat.reduceAdd, Nat.reduceMul, Nat.reduceSub, Nat.reduceLeDiff, Nat.reduceLT, Int.reduceMul, Int.reduceAdd, Int.reduceSub, Int.reduceToNat, p_xScan, scanAV, scan_b07, p_yParse]
  refine ⟨_, 20, _, ⟨rfl, run_b07, by decide, ?_⟩, ?_⟩
  · have := (scanned_good [33, 97, 32, 38, 38, 32, 98, 32, 45, 62, 32, 99]).2
    rw [scan_b07] at this
    exact this
  have hpa : parseAV [(3, [33], 0), (2, [97], 1), (3, [38, 38], 3), (2, [98], 6), (3, [45, 62], 8), (2, [99], 11)] (.ok 5 6 tree07) = .tup [.slice .any 7 (nds tree07), .int .i64 0, .int .i64 0] := by
    have hb : bigT tree07 = false := by decide +kernel
    simp only [parseAV]; rw [if_neg (by decide), hb]; rfl
  have hl6 : (nds tree07).length = 6 := rfl
  have q1 : (nds tree07).getD 1 .junk = .agg [.int .i64 5, .int .i64 0, .int .i64 0, .str [], .str [], .int .u64 0, .int .u64 0] := rfl
  have q3 : (nds tree07).getD 3 .junk = .agg [.int .i64 14, .int .i64 1, .int .i64 2, .str [], .str [], .int .u64 0, .int .u64 0] := rfl
  have q5 : (nds tree07).getD 5 .junk = .agg [.int .i64 16, .int .i64 3, .int .i64 4, .str [], .str [], .int .u64 0, .int .u64 0] := rfl
  simp only [go_sem, reduceCtorEq, Nat.reduceEqDiff, Nat.reduceAdd, Nat.reduceMul, Nat.reduceSub, Nat.reduceLeDiff, Nat.reduceLT, Int.reduceMul, Int.reduceAdd, Int.reduceSub, Int.reduceToNat, hpa, hl6, q1, q3, q5, teq_node, eqg_node]
  refine both_tt rfl (both_tt rfl ⟨by omega, both_tt rfl ⟨by omega, both_tt rfl ⟨by omega, ?_⟩⟩⟩)
  simp (disch := first | assumption | omega | (simp; done) | (simp; omega) | (simp only [bt, and_true]; first | done | omega | (simp; done))) [↓zlf, beq, List.take_of_length_le, List.drop_append, List.take_append, endOk, wk, wk2, wk1, wkM, wkL, wkLL, List.drop_eq_nil_of_le, hcl]
end Go.AL

