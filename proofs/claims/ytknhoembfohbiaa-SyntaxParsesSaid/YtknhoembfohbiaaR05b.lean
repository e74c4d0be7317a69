/- Contracts and plain laws, a part of the proof; no condition of its own. -/
import Derived.Test.YtknhoembfohbiaaR05
open List renaming length_cons → yaz, length_nil → yba, take_of_length_le → ybc, drop_append → ybd, take_append → ybe, drop_eq_nil_of_le → ybf
open Go Go.AL Go.Proofs
namespace Go.AL
set_option linter.all false
set_option maxRecDepth 10000

/-- an integer in memory -/
def zAV (a : Int) : AV := .agg [.bool (decide (a < 0)), .slice .any 1 (ints (digs a.natAbs))]
theorem rAV_int (m : Bool) (n : Nat) : rAV m n = zAV (if m = true then -(n : Int) else n) := by
  unfold rAV zAV
  cases m
  · simp
  · simp only [Bool.true_and, if_true, Int.natAbs_neg, Int.natAbs_natCast]
    congr 3
    rw [Bool.eq_iff_iff]; simp; omega
/-- an integer of at most 200 digits -/
def small (a : Int) : Prop := a.natAbs < 10 ^ 200
theorem small_len {a : Int} (h : small a) : (digs a.natAbs).length ≤ 200 := digs_len_le h
theorem small_le {a b : Int} (h : small a) (hb : b.natAbs ≤ a.natAbs) : small b := Nat.lt_of_le_of_lt hb h
theorem dv_first_all {k n : Nat} (h : n < 10 ^ k) : dv (first k n) = n := by rw [dv_first, Nat.mod_eq_of_lt h]
theorem lt_pow_len (n : Nat) : n < 10 ^ (digs n).length := by have := dv_lt (digs_isD n); rwa [dv_digs] at this
theorem lt_pow_of_len {n k : Nat} (h : (digs n).length ≤ k) : n < 10 ^ k := Nat.lt_of_lt_of_le (lt_pow_len n) (Nat.pow_le_pow_right (by decide) h)
theorem sum_fits (a b : Nat) : a + b < 10 ^ (max (digs a).length (digs b).length + 1) := by
  have h1 := @lt_pow_of_len a (max (digs a).length (digs b).length) (Nat.le_max_left _ _)
  have h2 := @lt_pow_of_len b (max (digs a).length (digs b).length) (Nat.le_max_right _ _)
  rw [Nat.pow_succ]; omega
def p_rAdd : List AV → AHeap → (AV → Prop) → Prop
  | [x, y], _, K => ∃ a b, (x = zAV a ∧ y = zAV b ∧ small a ∧ small b) ∧ K (zAV (a + b))
  | _, _, _ => False
set_option maxHeartbeats 1000000 in
theorem ok_rAdd : EntOk Try.prog 148 (Ent.pure p_rAdd) := by
  refine EntOk.pure fun args H K h => ?_
  unfold p_rAdd at h
  split at h
  rotate_left
  · exact h.elim
  obtain ⟨a, b, ⟨rfl, rfl, ha, hb⟩, hK⟩ := h
  refine ⟨_, hK, ?_⟩
  clear hK
  refine ACalls.of_aw (Ω := [(193, Ent.pure p_rPlus), (195, Ent.pure p_rMinus), (194, Ent.pure p_rCompare), (192, Ent.pure p_rTrim)]) (T := assoc [(2, [[], [], [], [], [], [], [3, 5], [1, 3, 5, 6], [1, 3, 5, 6, 7]]), (4, [[], [], [], [], [], [], [3, 5], [1, 3, 5, 6], [1, 3, 5, 6, 7]]), (5, [[], [], [], [], [], [], [3, 5], [1, 3, 5, 6], [1, 3, 5, 6, 7]])]) mixed (TblOk.cons ok_rPlus (TblOk.cons ok_rMinus (TblOk.cons ok_rCompare (TblOk.cons ok_rTrim TblOk.nil)))) Try.func148 (by kernel_rfl) (by rfl) (rs := [.cell 4 146]) (by rfl) (by kernel_rfl) (by simp only [Try.ntmps148, yaz, yba]; decide) (Nat.le_refl _) fun hcl hlt => ?_
  change aw _ _ _ (KI Try.prog [(193, Ent.pure p_rPlus), (195, Ent.pure p_rMinus), (194, Ent.pure p_rCompare), (192, Ent.pure p_rTrim)] (aEnd Try.prog [.cell 4 146] H.nx _ _ (assoc [(2, [[], [], [], [], [], [], [3, 5], [1, 3, 5, 6], [1, 3, 5, 6, 7]]), (4, [[], [], [], [], [], [], [3, 5], [1, 3, 5, 6], [1, 3, 5, 6, 7]]), (5, [[], [], [], [], [], [], [3, 5], [1, 3, 5, 6], [1, 3, 5, 6, 7]])])) []) _ _
  clear hlt
  have la := small_len ha
  have lb := small_len hb
  have ia := digs_isD a.natAbs
  have ib := digs_isD b.natAbs
  have fi : ∀ k n, isD (first k n) := first_isD
  simp only [go_sem, reduceCtorEq, Nat.reduceEqDiff, Nat.reduceAdd, Nat.reduceMul, Nat.reduceSub, Nat.reduceLeDiff, Nat.reduceLT, Int.reduceMul, Int.reduceAdd, Int.reduceSub, Int.reduceToNat, biq, isDs_ints, zAV]
  refine cond_split (fun h1 => ?_) (fun h1 => ?_)
  · have e1 : rAV (decide (a < 0)) (dv (first (max (digs a.natAbs).length (digs b.natAbs).length + 1) (a.natAbs + b.natAbs))) = .agg [.bool (decide (a + b < 0)), .slice .any 1 (ints (digs (a + b).natAbs))] := by
      rw [dv_first_all (sum_fits _ _), rAV_int]
      show zAV _ = zAV (a + b)
      congr 1
      have h1' : decide (a < 0) = decide (b < 0) := by simpa using h1
      by_cases hn : a < 0
      · have : b < 0 := by rw [decide_eq_true hn] at h1'; simpa using h1'.symm
        rw [decide_eq_true hn, if_pos rfl]; omega
      · have : ¬ b < 0 := by rw [decide_eq_false hn] at h1'; simpa using h1'.symm
        rw [decide_eq_false hn, if_neg (by simp)]; omega
    simp only [go_sem, reduceCtorEq, Nat.reduceEqDiff, Nat.reduceAdd, Nat.reduceMul, Nat.reduceSub, Nat.reduceLeDiff, Nat.reduceLT, Int.reduceMul, Int.reduceAdd, Int.reduceSub, Int.reduceToNat, biq, isDs_ints, p_rPlus, p_rTrim, dv_digs, first_len, ia, ib, fi, e1]
    refine ⟨by omega, by omega, ?_⟩
    simp (disch := first | assumption | omega | (simp; done) | (simp; omega) | (simp only [bt, and_true]; first | done | omega | (simp; done))) [↓zlf, beq, ybc, ybd, ybe, endOk, wk, wk2, wk1, wkM, wkL, wkLL, ybf, hcl]
  · simp only [go_sem, reduceCtorEq, Nat.reduceEqDiff, Nat.reduceAdd, Nat.reduceMul, Nat.reduceSub, Nat.reduceLeDiff, Nat.reduceLT, Int.reduceMul, Int.reduceAdd, Int.reduceSub, Int.reduceToNat, biq, isDs_ints, p_rCompare]
    refine ⟨a.natAbs, b.natAbs, ⟨rfl, rfl, by omega, by omega⟩, cond_split (fun h2 => ?_) (fun h2 => ?_)⟩
    · have hab : b.natAbs ≤ a.natAbs := by
        simp only [decide_eq_true_eq] at h2
        split at h2
        · omega
        · split at h2 <;> omega
      have e1 : rAV (decide (a < 0)) (dv (first (digs a.natAbs).length (a.natAbs - b.natAbs))) = .agg [.bool (decide (a + b < 0)), .slice .any 1 (ints (digs (a + b).natAbs))] := by
        rw [dv_first_all (Nat.lt_of_le_of_lt (Nat.sub_le _ _) (lt_pow_len _)), rAV_int]
        show zAV _ = zAV (a + b)
        congr 1
        by_cases hn : a < 0
        · have : ¬ b < 0 := by rw [decide_eq_true hn] at h1; simpa using h1
          rw [decide_eq_true hn, if_pos rfl]; omega
        · have : b < 0 := by rw [decide_eq_false hn] at h1; simpa using h1
          rw [decide_eq_false hn, if_neg (by simp)]; omega
      simp only [go_sem, reduceCtorEq, Nat.reduceEqDiff, Nat.reduceAdd, Nat.reduceMul, Nat.reduceSub, Nat.reduceLeDiff, Nat.reduceLT, Int.reduceMul, Int.reduceAdd, Int.reduceSub, Int.reduceToNat, biq, isDs_ints, p_rMinus, p_rTrim, dv_digs, first_len, ia, ib, fi, e1]
      refine ⟨by omega, by omega, ?_⟩
      simp (disch := first | assumption | omega | (simp; done) | (simp; omega) | (simp only [bt, and_true]; first | done | omega | (simp; done))) [↓zlf, beq, ybc, ybd, ybe, endOk, wk, wk2, wk1, wkM, wkL, wkLL, ybf, hcl]
    · have hab : a.natAbs < b.natAbs := by
        simp only [decide_eq_false_iff_not] at h2
        split at h2
        · omega
        · split at h2 <;> omega
      have e1 : rAV (decide (b < 0)) (dv (first (digs b.natAbs).length (b.natAbs - a.natAbs))) = .agg [.bool (decide (a + b < 0)), .slice .any 1 (ints (digs (a + b).natAbs))] := by
        rw [dv_first_all (Nat.lt_of_le_of_lt (Nat.sub_le _ _) (lt_pow_len _)), rAV_int]
        show zAV _ = zAV (a + b)
        congr 1
        by_cases hn : b < 0
        · have : ¬ a < 0 := fun h => by simp [h, hn] at h1
          rw [decide_eq_true hn, if_pos rfl]; omega
        · have : a < 0 := by
            by_cases h : a < 0
            · exact h
            · simp [h, hn] at h1
          rw [decide_eq_false hn, if_neg (by simp)]; omega
      simp only [go_sem, reduceCtorEq, Nat.reduceEqDiff, Nat.reduceAdd, Nat.reduceMul, Nat.reduceSub, Nat.reduceLeDiff, Nat.reduceLT, Int.reduceMul, Int.reduceAdd, Int.reduceSub, Int.reduceToNat, biq, isDs_ints, p_rMinus, p_rTrim, dv_digs, first_len, ia, ib, fi, e1]
      refine ⟨by omega, by omega, ?_⟩
      simp (disch := first | assumption | omega | (simp; done) | (simp; omega) | (simp only [bt, and_true]; first | done | omega | (simp; done))) [↓zlf, beq, ybc, ybd, ybe, endOk, wk, wk2, wk1, wkM, wkL, wkLL, ybf, hcl]

def p_rNeg : List AV → AHeap → (AV → Prop) → Prop
  | [x], _, K => ∃ a, (x = zAV a ∧ small a) ∧ K (zAV (-a))
  | _, _, _ => False
theorem ok_rNeg : EntOk Try.prog 225 (Ent.pure p_rNeg) := by
  refine EntOk.pure fun args H K h => ?_
  unfold p_rNeg at h
  split at h
  rotate_left
  · exact h.elim
  obtain ⟨a, ⟨rfl, ha⟩, hK⟩ := h
  refine ⟨_, hK, ?_⟩
  clear hK
  refine ACalls.of_aw (Ω := [(192, Ent.pure p_rTrim)]) (T := assoc []) mixed (TblOk.cons ok_rTrim TblOk.nil) Try.func225 (by kernel_rfl) (by rfl) (rs := [.cell 2 146]) (by rfl) (by kernel_rfl) (by simp only [Try.ntmps225, yaz, yba]; decide) (Nat.le_refl _) fun hcl hlt => ?_
  change aw _ _ _ (KI Try.prog [(192, Ent.pure p_rTrim)] (aEnd Try.prog [.cell 2 146] H.nx _ _ (assoc [])) []) _ _
  clear hlt
  have la := small_len ha
  have ia := digs_isD a.natAbs
  have e1 : rAV (!decide (a < 0)) a.natAbs = .agg [.bool (decide (-a < 0)), .slice .any 1 (ints (digs (-a).natAbs))] := by
    rw [rAV_int]
    show zAV _ = zAV (-a)
    congr 1
    by_cases hn : a < 0
    · simp [hn]; omega
    · simp [hn]; omega
  simp only [go_sem, reduceCtorEq, Nat.reduceEqDiff, Nat.reduceAdd, Nat.reduceMul, Nat.reduceSub, Nat.reduceLeDiff, Nat.reduceLT, Int.reduceMul, Int.reduceAdd, Int.reduceSub, Int.reduceToNat, biq, isDs_ints, zAV, p_rTrim, dv_digs, ia, e1]
  refine ⟨by omega, ?_⟩
  simp (disch := first | assumption | omega | (simp; done) | (simp; omega) | (simp only [bt, and_true]; first | done | omega | (simp; done))) [↓zlf, beq, ybc, ybd, ybe, endOk, wk, wk2, wk1, wkM, wkL, wkLL, ybf, hcl]

def p_rSub : List AV → AHeap → (AV → Prop) → Prop
  | [x, y], _, K => ∃ a b, (x = zAV a ∧ y = zAV b ∧ small a ∧ small b) ∧ K (zAV (a - b))
  | _, _, _ => False
theorem ok_rSub : EntOk Try.prog 221 (Ent.pure p_rSub) := by
  refine EntOk.pure fun args H K h => ?_
  unfold p_rSub at h
  split at h
  rotate_left
  · exact h.elim
  obtain ⟨a, b, ⟨rfl, rfl, ha, hb⟩, hK⟩ := h
  refine ⟨_, hK, ?_⟩
  clear hK
  refine ACalls.of_aw (Ω := [(225, Ent.pure p_rNeg), (148, Ent.pure p_rAdd)]) (T := assoc [(1, [[], [], [1], [0, 1, 2], [0, 1, 2, 3]])]) mixed (TblOk.cons ok_rNeg (TblOk.cons ok_rAdd TblOk.nil)) Try.func221 (by kernel_rfl) (by rfl) (rs := [.cell 4 146]) (by rfl) (by kernel_rfl) (by simp only [Try.ntmps221, yaz, yba]; decide) (Nat.le_refl _) fun hcl hlt => ?_
  change aw _ _ _ (KI Try.prog [(225, Ent.pure p_rNeg), (148, Ent.pure p_rAdd)] (aEnd Try.prog [.cell 4 146] H.nx _ _ (assoc [(1, [[], [], [1], [0, 1, 2], [0, 1, 2, 3]])])) []) _ _
  clear hlt
  simp only [go_sem, reduceCtorEq, Nat.reduceEqDiff, Nat.reduceAdd, Nat.reduceMul, Nat.reduceSub, Nat.reduceLeDiff, Nat.reduceLT, Int.reduceMul, Int.reduceAdd, Int.reduceSub, Int.reduceToNat, biq, isDs_ints, zAV, p_rNeg]
  refine ⟨b, ⟨rfl, hb⟩, ?_⟩
  simp only [go_sem, reduceCtorEq, Nat.reduceEqDiff, Nat.reduceAdd, Nat.reduceMul, Nat.reduceSub, Nat.reduceLeDiff, Nat.reduceLT, Int.reduceMul, Int.reduceAdd, Int.reduceSub, Int.reduceToNat, biq, isDs_ints, zAV, p_rAdd]
  refine ⟨a, -b, ⟨rfl, rfl, ha, small_le hb (by omega)⟩, ?_⟩
  have en : a + -b = a - b := by omega
  simp only [go_sem, reduceCtorEq, Nat.reduceEqDiff, Nat.reduceAdd, Nat.reduceMul, Nat.reduceSub, Nat.reduceLeDiff, Nat.reduceLT, Int.reduceMul, Int.reduceAdd, Int.reduceSub, Int.reduceToNat, biq, isDs_ints, zAV, en]
  simp (disch := first | assumption | omega | (simp; done) | (simp; omega) | (simp only [bt, and_true]; first | done | omega | (simp; done))) [↓zlf, beq, ybc, ybd, ybe, endOk, wk, wk2, wk1, wkM, wkL, wkLL, ybf, hcl]

def p_rCmp : List AV → AHeap → (AV → Prop) → Prop
  | [x, y], _, K => ∃ a b, (x = zAV a ∧ y = zAV b ∧ small a ∧ small b) ∧ K (.int .i64 (if a = b then 0 else if a < b then -1 else 1))
  | _, _, _ => False
theorem ok_rCmp : EntOk Try.prog 196 (Ent.pure p_rCmp) := by
  refine EntOk.pure fun args H K h => ?_
  unfold p_rCmp at h
  split at h
  rotate_left
  · exact h.elim
  obtain ⟨a, b, ⟨rfl, rfl, ha, hb⟩, hK⟩ := h
  refine ⟨_, hK, ?_⟩
  clear hK
  refine ACalls.of_aw (Ω := [(221, Ent.pure p_rSub)]) (T := assoc []) mixed (TblOk.cons ok_rSub TblOk.nil) Try.func196 (by kernel_rfl) (by rfl) (rs := [.tmp 4]) (by rfl) (by kernel_rfl) (by simp only [Try.ntmps196, yaz, yba]; decide) (Nat.le_refl _) fun hcl hlt => ?_
  change aw _ _ _ (KI Try.prog [(221, Ent.pure p_rSub)] (aEnd Try.prog [.tmp 4] H.nx _ _) []) _ _
  clear hlt
  simp only [go_sem, reduceCtorEq, Nat.reduceEqDiff, Nat.reduceAdd, Nat.reduceMul, Nat.reduceSub, Nat.reduceLeDiff, Nat.reduceLT, Int.reduceMul, Int.reduceAdd, Int.reduceSub, Int.reduceToNat, biq, isDs_ints, zAV, p_rSub]
  refine ⟨a, b, ⟨rfl, rfl, ha, hb⟩, ?_⟩
  try simp only [go_sem, reduceCtorEq, Nat.reduceEqDiff, Nat.reduceAdd, Nat.reduceMul, Nat.reduceSub, Nat.reduceLeDiff, Nat.reduceLT, Int.reduceMul, Int.reduceAdd, Int.reduceSub, Int.reduceToNat, biq, isDs_ints, zAV]
  refine cond_split (fun h1 => ?_) (fun h1 => ?_)
  · have h1' : a < b := by simp at h1; omega
    simp only [go_sem, reduceCtorEq, Nat.reduceEqDiff, Nat.reduceAdd, Nat.reduceMul, Nat.reduceSub, Nat.reduceLeDiff, Nat.reduceLT, Int.reduceMul, Int.reduceAdd, Int.reduceSub, Int.reduceToNat, biq, isDs_ints, if_neg (show ¬ a = b by omega), if_pos h1']
    simp (disch := first | assumption | omega | (simp; done) | (simp; omega) | (simp only [bt, and_true]; first | done | omega | (simp; done))) [↓zlf, beq, ybc, ybd, ybe, endOk, wk, wk2, wk1, wkM, wkL, wkLL, ybf, hcl]
  · have h1' : b ≤ a := by simp at h1; omega
    simp only [go_sem, reduceCtorEq, Nat.reduceEqDiff, Nat.reduceAdd, Nat.reduceMul, Nat.reduceSub, Nat.reduceLeDiff, Nat.reduceLT, Int.reduceMul, Int.reduceAdd, Int.reduceSub, Int.reduceToNat, biq, isDs_ints]
    refine cond_split (fun h2 => ?_) (fun h2 => ?_)
    · have h2' : a ≠ b := fun h => by subst h; simp [digs_zero] at h2
      simp only [go_sem, reduceCtorEq, Nat.reduceEqDiff, Nat.reduceAdd, Nat.reduceMul, Nat.reduceSub, Nat.reduceLeDiff, Nat.reduceLT, Int.reduceMul, Int.reduceAdd, Int.reduceSub, Int.reduceToNat, biq, isDs_ints, if_neg h2', if_neg (show ¬ a < b by omega)]
      simp (disch := first | assumption | omega | (simp; done) | (simp; omega) | (simp only [bt, and_true]; first | done | omega | (simp; done))) [↓zlf, beq, ybc, ybd, ybe, endOk, wk, wk2, wk1, wkM, wkL, wkLL, ybf, hcl]
    · have h2' : a = b := by
        by_cases h : (a - b).natAbs = 0
        · omega
        · rw [digs_pos h] at h2; simp at h2
      simp only [go_sem, reduceCtorEq, Nat.reduceEqDiff, Nat.reduceAdd, Nat.reduceMul, Nat.reduceSub, Nat.reduceLeDiff, Nat.reduceLT, Int.reduceMul, Int.reduceAdd, Int.reduceSub, Int.reduceToNat, biq, isDs_ints, if_pos h2']
      simp (disch := first | assumption | omega | (simp; done) | (simp; omega) | (simp only [bt, and_true]; first | done | omega | (simp; done))) [↓zlf, beq, ybc, ybd, ybe, endOk, wk, wk2, wk1, wkM, wkL, wkLL, ybf, hcl]

def p_rOf : List AV → AHeap → (AV → Prop) → Prop
  | [.int .i64 n], _, K => (-9223372036854775808 ≤ n ∧ n < 9223372036854775808) ∧ K (zAV n)
  | _, _, _ => False
theorem ok_rOf : EntOk Try.prog 146 (Ent.pure p_rOf) := by
  refine EntOk.pure fun args H K h => ?_
  unfold p_rOf at h
  split at h
  rotate_left
  · exact h.elim
  rename_i n
  obtain ⟨⟨h0, h1⟩, hK⟩ := h
  refine ⟨_, hK, ?_⟩
  clear hK
  refine ACalls.of_aw (Ω := [(192, Ent.pure p_rTrim)]) (T := assoc []) mixed (TblOk.cons ok_rTrim TblOk.nil) Try.func146 (by kernel_rfl) (by rfl) (rs := [.cell 2 146]) (by rfl) (by kernel_rfl) (by simp only [Try.ntmps146, yaz, yba]; decide) (Nat.le_refl _) fun hcl hlt => ?_
  change aw _ _ _ (KI Try.prog [(192, Ent.pure p_rTrim)] (aEnd Try.prog [.cell 2 146] H.nx _ _) []) _ _
  clear hlt
  simp only [go_sem, reduceCtorEq, Nat.reduceEqDiff, Nat.reduceAdd, Nat.reduceMul, Nat.reduceSub, Nat.reduceLeDiff, Nat.reduceLT, Int.reduceMul, Int.reduceAdd, Int.reduceSub, Int.reduceToNat, biq, isDs_ints]
  refine loop_introW (A := Nat × List Nat) (fun x => [(0, .int .i64 (if n < 0 then -(x.1 : Int) else x.1)), (2, .ptr H.nx 0), (3, .bool (decide (n < 0))), (4, .slice (.own (H.nx + 1)) 1 (ints x.2))])
    (fun x => (H.push (.cells [.bool false, .slice .nil 1 []])).push (.buf 1 x.2.length)) (fun x => n.natAbs = dv x.2 + 10 ^ x.2.length * x.1 ∧ isD x.2 ∧ x.2.length ≤ 20 ∧ x.1 < 10 ^ (20 - x.2.length)) (fun x => x.1) (n.natAbs, []) ⟨by simp [dv], fun d hd => (by cases hd), by simp, by simp; omega⟩ ?_ fun x hI => ?_
  · have e0 : (if n < 0 then -((n.natAbs : Nat) : Int) else ((n.natAbs : Nat) : Int)) = n := by split <;> omega
    (simp only [bkq, enterW, subW, ltF, ne_eq, Nat.reduceEqDiff, reduceCtorEq, e0]; try simp (disch := first | assumption | omega | (simp; done) | (simp; omega) | (simp only [bt, and_true]; first | done | omega | (simp; done))) [↓zlf, beq, ybc, ybd, ybe, endOk, wk, wk2, wk1, wkM, wkL, wkLL, ybf, byq, biq, isDs_ints, hcl, e0]; try (repeat' (first | assumption | omega | exact True.intro | refine And.intro ?_ ?_ | refine closed_buf ?_ | refine closed_set_buf ?_ | refine closed_cells ?_ ?_ | refine closed_set ?_ ?_ | refine closed_del ?_ | exact AHeap.Le.refl _ | refine AHeap.Le.push ?_ _ | refine AHeap.Le.del ?_ ?_ | (simp only [bt, and_true, true_and, e0]; first | done | omega | (simp; done)))))
  obtain ⟨m, l⟩ := x
  obtain ⟨hn, hl, hle, hm⟩ := hI
  dsimp only at *
  have hmb : m ≤ 9223372036854775808 := by
    have : 1 ≤ 10 ^ l.length := Nat.pow_pos (by decide)
    have := Nat.mul_le_mul_right m this
    omega
  by_cases hs : n < 0
  · skip
    have er : (-(m : Int)).tmod 10 = -((m % 10 : Nat) : Int) := by rw [Int.neg_tmod, Int.tmod_eq_emod_of_nonneg (by omega)]; omega
    have eq : IntKind.i64.wrap ((-(m : Int)).tdiv 10) = -((m / 10 : Nat) : Int) := by rw [Int.neg_tdiv, Int.tdiv_eq_ediv_of_nonneg (by omega), wrap_i64] <;> omega
    simp only [go_sem, reduceCtorEq, Nat.reduceEqDiff, Nat.reduceAdd, Nat.reduceMul, Nat.reduceSub, Nat.reduceLeDiff, Nat.reduceLT, Int.reduceMul, Int.reduceAdd, Int.reduceSub, Int.reduceToNat, biq, isDs_ints, if_pos hs, er, eq]
    refine cond_split (fun h2 => ?_) (fun h2 => ?_)
    · have h2' : m ≠ 0 := by simp at h2; omega
      have hl20 : l.length < 20 := by
        by_cases hc : l.length < 20
        · exact hc
        · rw [show 20 - l.length = 0 by omega] at hm; omega
      have hq : m / 10 < 10 ^ (20 - (l.length + 1)) := Nat.div_lt_of_lt_mul (by rw [Nat.mul_comm, ← Nat.pow_succ, show (20 - (l.length + 1)).succ = 20 - l.length by omega]; exact hm)
      simp only [go_sem, reduceCtorEq, Nat.reduceEqDiff, Nat.reduceAdd, Nat.reduceMul, Nat.reduceSub, Nat.reduceLeDiff, Nat.reduceLT, Int.reduceMul, Int.reduceAdd, Int.reduceSub, Int.reduceToNat, biq, isDs_ints, if_pos hs, er, eq]
      refine ⟨by omega, cond_split (fun h3 => ?_) (fun h3 => ?_)⟩
      · have en : IntKind.i64.wrap (0 - -((m % 10 : Nat) : Int)) = ((m % 10 : Nat) : Int) := by rw [wrap_i64] <;> omega
        simp only [go_sem, reduceCtorEq, Nat.reduceEqDiff, Nat.reduceAdd, Nat.reduceMul, Nat.reduceSub, Nat.reduceLeDiff, Nat.reduceLT, Int.reduceMul, Int.reduceAdd, Int.reduceSub, Int.reduceToNat, biq, isDs_ints, if_pos hs, er, eq, en]
        refine ⟨⟨by omega, by omega⟩, by omega, (m / 10, l ++ [m % 10]), ⟨?_, ?_, by simp; omega, by simpa using hq⟩, by omega, ?_⟩
        · rw [hn, dv_append, List.length_append, List.length_singleton, Nat.pow_succ, Nat.mul_assoc, Nat.add_assoc, ← Nat.mul_add]
          congr 2; simp [dv]; omega
        · exact fun d hd => by
            rcases List.mem_append.1 hd with hd | hd
            · exact hl d hd
            · rw [List.mem_singleton.1 hd]; omega
        · (simp only [bkq, enterW, subW, ltF, ne_eq, Nat.reduceEqDiff, reduceCtorEq, if_pos hs]; try simp (disch := first | assumption | omega | (simp; done) | (simp; omega) | (simp only [bt, and_true]; first | done | omega | (simp; done))) [↓zlf, beq, ybc, ybd, ybe, endOk, wk, wk2, wk1, wkM, wkL, wkLL, ybf, byq, biq, isDs_ints, hcl, if_pos hs]; try (repeat' (first | assumption | omega | exact True.intro | refine And.intro ?_ ?_ | refine closed_buf ?_ | refine closed_set_buf ?_ | refine closed_cells ?_ ?_ | refine closed_set ?_ ?_ | refine closed_del ?_ | exact AHeap.Le.refl _ | refine AHeap.Le.push ?_ _ | refine AHeap.Le.del ?_ ?_ | (simp only [bt, and_true, true_and, if_pos hs]; first | done | omega | (simp; done)))))
      · have en : -((m % 10 : Nat) : Int) = ((m % 10 : Nat) : Int) := by simp at h3; omega
        simp only [go_sem, reduceCtorEq, Nat.reduceEqDiff, Nat.reduceAdd, Nat.reduceMul, Nat.reduceSub, Nat.reduceLeDiff, Nat.reduceLT, Int.reduceMul, Int.reduceAdd, Int.reduceSub, Int.reduceToNat, biq, isDs_ints, if_pos hs, er, eq, en]
        refine ⟨⟨by omega, by omega⟩, by omega, (m / 10, l ++ [m % 10]), ⟨?_, ?_, by simp; omega, by simpa using hq⟩, by omega, ?_⟩
        · rw [hn, dv_append, List.length_append, List.length_singleton, Nat.pow_succ, Nat.mul_assoc, Nat.add_assoc, ← Nat.mul_add]
          congr 2; simp [dv]; omega
        · exact fun d hd => by
            rcases List.mem_append.1 hd with hd | hd
            · exact hl d hd
            · rw [List.mem_singleton.1 hd]; omega
        · (simp only [bkq, enterW, subW, ltF, ne_eq, Nat.reduceEqDiff, reduceCtorEq, if_pos hs]; try simp (disch := first | assumption | omega | (simp; done) | (simp; omega) | (simp only [bt, and_true]; first | done | omega | (simp; done))) [↓zlf, beq, ybc, ybd, ybe, endOk, wk, wk2, wk1, wkM, wkL, wkLL, ybf, byq, biq, isDs_ints, hcl, if_pos hs]; try (repeat' (first | assumption | omega | exact True.intro | refine And.intro ?_ ?_ | refine closed_buf ?_ | refine closed_set_buf ?_ | refine closed_cells ?_ ?_ | refine closed_set ?_ ?_ | refine closed_del ?_ | exact AHeap.Le.refl _ | refine AHeap.Le.push ?_ _ | refine AHeap.Le.del ?_ ?_ | (simp only [bt, and_true, true_and, if_pos hs]; first | done | omega | (simp; done)))))
    · have h2' : m = 0 := by simp at h2; omega
      have ev : rAV (decide (n < 0)) (dv l) = .agg [.bool (decide (n < 0)), .slice .any 1 (ints (digs n.natAbs))] := by
        have : n.natAbs = dv l := by rw [hn, h2']; simp
        rw [← this, rAV_int]
        show zAV _ = zAV n
        congr 1
        simp [hs]; omega
      simp only [go_sem, reduceCtorEq, Nat.reduceEqDiff, Nat.reduceAdd, Nat.reduceMul, Nat.reduceSub, Nat.reduceLeDiff, Nat.reduceLT, Int.reduceMul, Int.reduceAdd, Int.reduceSub, Int.reduceToNat, biq, isDs_ints, if_pos hs, p_rTrim, hl, ev, zAV]
      refine ⟨by omega, ?_⟩
      simp (disch := first | assumption | omega | (simp; done) | (simp; omega) | (simp only [bt, and_true]; first | done | omega | (simp; done))) [↓zlf, beq, ybc, ybd, ybe, endOk, wk, wk2, wk1, wkM, wkL, wkLL, ybf, hcl]
  · skip
    have er : ((m : Int)).tmod 10 = ((m % 10 : Nat) : Int) := by rw [Int.tmod_eq_emod_of_nonneg (by omega)]; omega
    have eq : IntKind.i64.wrap (((m : Int)).tdiv 10) = ((m / 10 : Nat) : Int) := by rw [Int.tdiv_eq_ediv_of_nonneg (by omega), wrap_i64] <;> omega
    simp only [go_sem, reduceCtorEq, Nat.reduceEqDiff, Nat.reduceAdd, Nat.reduceMul, Nat.reduceSub, Nat.reduceLeDiff, Nat.reduceLT, Int.reduceMul, Int.reduceAdd, Int.reduceSub, Int.reduceToNat, biq, isDs_ints, if_neg hs, er, eq]
    refine cond_split (fun h2 => ?_) (fun h2 => ?_)
    · have h2' : m ≠ 0 := by simp at h2; omega
      have hl20 : l.length < 20 := by
        by_cases hc : l.length < 20
        · exact hc
        · rw [show 20 - l.length = 0 by omega] at hm; omega
      have hq : m / 10 < 10 ^ (20 - (l.length + 1)) := Nat.div_lt_of_lt_mul (by rw [Nat.mul_comm, ← Nat.pow_succ, show (20 - (l.length + 1)).succ = 20 - l.length by omega]; exact hm)
      simp only [go_sem, reduceCtorEq, Nat.reduceEqDiff, Nat.reduceAdd, Nat.reduceMul, Nat.reduceSub, Nat.reduceLeDiff, Nat.reduceLT, Int.reduceMul, Int.reduceAdd, Int.reduceSub, Int.reduceToNat, biq, isDs_ints, if_neg hs, er, eq]
      have hd3 : decide (((m % 10 : Nat) : Int) < 0) = false := decide_eq_false (by omega)
      simp only [go_sem, reduceCtorEq, Nat.reduceEqDiff, Nat.reduceAdd, Nat.reduceMul, Nat.reduceSub, Nat.reduceLeDiff, Nat.reduceLT, Int.reduceMul, Int.reduceAdd, Int.reduceSub, Int.reduceToNat, biq, isDs_ints, if_neg hs, er, eq, zau, hd3]
      refine ⟨by omega, ?_⟩
      refine ⟨⟨by omega, by omega⟩, by omega, (m / 10, l ++ [m % 10]), ⟨?_, ?_, by simp; omega, by simpa using hq⟩, by omega, ?_⟩
      · rw [hn, dv_append, List.length_append, List.length_singleton, Nat.pow_succ, Nat.mul_assoc, Nat.add_assoc, ← Nat.mul_add]
        congr 2; simp [dv]; omega
      · exact fun d hd => by
          rcases List.mem_append.1 hd with hd | hd
          · exact hl d hd
          · rw [List.mem_singleton.1 hd]; omega
      · (simp only [bkq, enterW, subW, ltF, ne_eq, Nat.reduceEqDiff, reduceCtorEq, if_neg hs]; try simp (disch := first | assumption | omega | (simp; done) | (simp; omega) | (simp only [bt, and_true]; first | done | omega | (simp; done))) [↓zlf, beq, ybc, ybd, ybe, endOk, wk, wk2, wk1, wkM, wkL, wkLL, ybf, byq, biq, isDs_ints, hcl, if_neg hs]; try (repeat' (first | assumption | omega | exact True.intro | refine And.intro ?_ ?_ | refine closed_buf ?_ | refine closed_set_buf ?_ | refine closed_cells ?_ ?_ | refine closed_set ?_ ?_ | refine closed_del ?_ | exact AHeap.Le.refl _ | refine AHeap.Le.push ?_ _ | refine AHeap.Le.del ?_ ?_ | (simp only [bt, and_true, true_and, if_neg hs]; first | done | omega | (simp; done)))))
    · have h2' : m = 0 := by simp at h2; omega
      have ev : rAV (decide (n < 0)) (dv l) = .agg [.bool (decide (n < 0)), .slice .any 1 (ints (digs n.natAbs))] := by
        have : n.natAbs = dv l := by rw [hn, h2']; simp
        rw [← this, rAV_int]
        show zAV _ = zAV n
        congr 1
        simp [hs]; omega
      simp only [go_sem, reduceCtorEq, Nat.reduceEqDiff, Nat.reduceAdd, Nat.reduceMul, Nat.reduceSub, Nat.reduceLeDiff, Nat.reduceLT, Int.reduceMul, Int.reduceAdd, Int.reduceSub, Int.reduceToNat, biq, isDs_ints, if_neg hs, p_rTrim, hl, ev, zAV]
      refine ⟨by omega, ?_⟩
      simp (disch := first | assumption | omega | (simp; done) | (simp; omega) | (simp only [bt, and_true]; first | done | omega | (simp; done))) [↓zlf, beq, ybc, ybd, ybe, endOk, wk, wk2, wk1, wkM, wkL, wkLL, ybf, hcl]
end Go.AL

