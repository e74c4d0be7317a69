/- Contracts and plain laws, a part of the proof; no condition of its own. -/
import Derived.Test.YtknhoembfohbiaaS07x
open List renaming length_cons → yaz, length_nil → yba, take_of_length_le → ybc, drop_append → ybd, take_append → ybe, drop_eq_nil_of_le → ybf
open Go Go.AL Go.Proofs
namespace Go.AL
set_option linter.all false
set_option maxRecDepth 10000
def p_yDepth : List AV → AHeap → (AV → Prop) → Prop
  | [.slice _ 7 x], _, K => ∃ t, (x = nds t ∧ Good t ∧ t.length ≤ 1000) ∧ K (.int .i64 ((depthOf t : Nat) : Int))
  | _, _, _ => False
set_option maxHeartbeats 4000000 in
theorem ok_yDepth : EntOk Try.prog 79 (Ent.pure p_yDepth) := by
  refine EntOk.pure fun args H K h => ?_
  unfold p_yDepth at h
  split at h
  rotate_left
  · exact h.elim
  rename_i m x
  obtain ⟨t, ⟨rfl, hgt, hl⟩, hK⟩ := h
  refine ⟨_, hK, ?_⟩
  clear hK
  refine ACalls.of_aw (Ω := [(153, Ent.pure p_yOperand)]) (T := assoc [(7, [[], [], [], [], [2], [], [], [], [], [2, 4, 7]])]) mixed (TblOk.cons ok_yOperand TblOk.nil) Try.func79 (by kernel_rfl) (by rfl) (rs := [.tmp 2]) (by rfl) (by kernel_rfl) (by simp only [Try.ntmps79, yaz, yba]; decide) (Nat.le_refl _) fun hcl hlt => ?_
  change aw _ _ _ (KI Try.prog [(153, Ent.pure p_yOperand)] (aEnd Try.prog [.tmp 2] H.nx _ _ (assoc [(7, [[], [], [], [], [2], [], [], [], [], [2, 4, 7]])])) []) _ _
  have hm : ∀ n', H.nx ≤ n' → AV.lt n' (.slice m 7 (nds t)) := fun n' hn => AV.lt_mono hn _ (hlt (.slice m 7 (nds t)) (by simp))
  clear hlt
  by_cases ht0 : t = []
  · subst ht0
    have hd0 : depthOf [] = 0 := rfl
    have hkk : ((((0 : Nat) : Int)) == 0) = true := rfl
    simp only [go_sem, reduceCtorEq, Nat.reduceEqDiff, Nat.reduceAdd, Nat.reduceMul, Nat.reduceSub, Nat.reduceLeDiff, Nat.reduceLT, Int.reduceMul, Int.reduceAdd, Int.reduceSub, Int.reduceToNat, hd0, yba, nds_length, zat, hkk]
    simp (disch := first | assumption | omega | (simp; done) | (simp; omega) | (simp only [bt, and_true]; first | done | omega | (simp; done))) [↓zlf, beq, ybc, ybd, ybe, endOk, wk, wk2, wk1, wkM, wkL, wkLL, ybf, hcl]
  have htp := List.length_pos_iff.2 ht0
  have d1 : ((t.length : Int) == 0) = false := by simp; omega
  simp only [go_sem, reduceCtorEq, Nat.reduceEqDiff, Nat.reduceAdd, Nat.reduceMul, Nat.reduceSub, Nat.reduceLeDiff, Nat.reduceLT, Int.reduceMul, Int.reduceAdd, Int.reduceSub, Int.reduceToNat, nds_length, Int.toNat_natCast, d1]
  refine loop_introW (A := Nat) (fun k => [(3, .slice (.own H.nx) 1 (its (deps (t.take k)))), (11, .slice m 7 (nds t)), (12, .int .i64 (t.length : Int)), (13, .int .i64 (k : Int))]) (fun k => H.push (.buf 1 k)) (fun k => k ≤ t.length) (fun k => t.length - k) 0 (by omega) ?_ fun k hk => ?_
  · have e0 : its (deps (t.take 0)) = [] := rfl
    (simp only [bkq, enterW, subW, ltF, ne_eq, Nat.reduceEqDiff, reduceCtorEq, hm, e0]; try simp (disch := first | assumption | omega | (simp; done) | (simp; omega) | (simp only [bt, and_true]; first | done | omega | (simp; done))) [↓zlf, beq, ybc, ybd, ybe, endOk, wk, wk2, wk1, wkM, wkL, wkLL, ybf, byq, biq, isDs_ints, hcl, hm, e0]; try (repeat' (first | assumption | omega | exact True.intro | refine And.intro ?_ ?_ | refine closed_buf ?_ | refine closed_set_buf ?_ | refine closed_cells ?_ ?_ | refine closed_set ?_ ?_ | refine closed_del ?_ | exact AHeap.Le.refl _ | refine AHeap.Le.push ?_ _ | refine AHeap.Le.del ?_ ?_ | (simp only [bt, and_true, true_and, hm, e0]; first | done | omega | (simp; done)))))
  have hcl1 : ∀ k, (H.push (.buf 1 k)).Closed := fun k => closed_buf hcl
  have hil : (its (deps (t.take k))).length = k := by rw [its_length, deps_len_take hk]
  simp only [go_sem, reduceCtorEq, Nat.reduceEqDiff, Nat.reduceAdd, Nat.reduceMul, Nat.reduceSub, Nat.reduceLeDiff, Nat.reduceLT, Int.reduceMul, Int.reduceAdd, Int.reduceSub, Int.reduceToNat]
  refine cond_split (fun hc => ?_) (fun hc => ?_)
  · have hk1 : k < t.length := by simp at hc; omega
    have e5 : IntKind.i64.wrap ((k : Int) + 1) = ((k + 1 : Nat) : Int) := by rw [wrap_i64] <;> omega
    obtain ⟨g1, g2, g3, g4⟩ := hgt k t[k] (by simp [hk1])
    have hkn : (H.nx = H.nx + 1) = False := eq_false (by omega)
    have hdl : ∀ a, (deps (t.take k)).getD a 0 ≤ k := fun a => getD_le (deps_le (by omega)) a
    have w1 : ∀ a, IntKind.i64.wrap ((((deps (t.take k)).getD a 0 : Nat) : Int) + 1) = ((1 + (deps (t.take k)).getD a 0 : Nat) : Int) := fun a => by
      have := hdl a
      rw [wrap_i64] <;> omega
    simp only [go_sem, reduceCtorEq, Nat.reduceEqDiff, Nat.reduceAdd, Nat.reduceMul, Nat.reduceSub, Nat.reduceLeDiff, Nat.reduceLT, Int.reduceMul, Int.reduceAdd, Int.reduceSub, Int.reduceToNat, nds_length, nds_get hk1, Int.toNat_natCast, hkn, p_yOperand]
    refine ⟨by omega, deps (t.take k), ⟨rfl, by omega, by rw [deps_len_take hk], by rw [deps_len_take hk]; omega⟩, deps (t.take k), ⟨rfl, by omega, by rw [deps_len_take hk], by rw [deps_len_take hk]; omega⟩, ?_⟩
    have hsn : ∀ d : Nat, d = dAt (deps (t.take k)) t[k] → its (deps (t.take k)) ++ [AV.int .i64 (d : Int)] = its (deps (t.take (k + 1))) := fun d hd => by rw [deps_take hk1, ← hd, its_snoc]
    have hsz : dAt (deps (t.take k)) t[k] = 0 → its (deps (t.take k)) ++ [AV.int .i64 0] = its (deps (t.take (k + 1))) := fun hd => hsn 0 hd.symm
    have hb := hdl t[k].a
    generalize hop : t[k].op = op at g1 g2 g4
    rcases (by omega : op = 1 ∨ op = 2 ∨ op = 3 ∨ op = 4 ∨ op = 5 ∨ op = 16 ∨ (6 ≤ op ∧ op ≤ 15)) with ho | ho | ho | ho | ho | ho | ho
    · subst ho
      have b1 : ((((1 : Nat) : Int)) == 1) = true := rfl
      have b2 : ((((1 : Nat) : Int)) == 2) = false := rfl
      have b3 : ((((1 : Nat) : Int)) == 3) = false := rfl
      have b4 : ((((1 : Nat) : Int)) == 4) = false := rfl
      have b5 : ((((1 : Nat) : Int)) == 5) = false := rfl
      have b16 : ((((1 : Nat) : Int)) == 16) = false := rfl
      have hv : 0 = dAt (deps (t.take k)) t[k] := by unfold dAt; rw [if_pos (by omega)]
      simp only [go_sem, reduceCtorEq, Nat.reduceEqDiff, Nat.reduceAdd, Nat.reduceMul, Nat.reduceSub, Nat.reduceLeDiff, Nat.reduceLT, Int.reduceMul, Int.reduceAdd, Int.reduceSub, Int.reduceToNat, nds_length, Int.toNat_natCast, hkn, hop, zat, zau, b1, b2, b3, b4, b5, b16, hil, w1, imax, e5, hsz hv.symm]
      refine ⟨⟨by omega, by omega, by simp [allOne, AV.cells, AV.one]⟩, k + 1, by omega, by omega, ?_⟩
      (simp only [bkq, enterW, subW, ltF, ne_eq, Nat.reduceEqDiff, reduceCtorEq, hm, its_lt]; try simp (disch := first | assumption | omega | (simp; done) | (simp; omega) | (simp only [bt, and_true]; first | done | omega | (simp; done))) [↓zlf, beq, ybc, ybd, ybe, endOk, wk, wk2, wk1, wkM, wkL, wkLL, ybf, byq, biq, isDs_ints, hcl, hm, its_lt]; try (repeat' (first | assumption | omega | exact True.intro | refine And.intro ?_ ?_ | refine closed_buf ?_ | refine closed_set_buf ?_ | refine closed_cells ?_ ?_ | refine closed_set ?_ ?_ | refine closed_del ?_ | exact AHeap.Le.refl _ | refine AHeap.Le.push ?_ _ | refine AHeap.Le.del ?_ ?_ | (simp only [bt, and_true, true_and, hm, its_lt]; first | done | omega | (simp; done)))))
    · subst ho
      have b1 : ((((2 : Nat) : Int)) == 1) = false := rfl
      have b2 : ((((2 : Nat) : Int)) == 2) = true := rfl
      have b3 : ((((2 : Nat) : Int)) == 3) = false := rfl
      have b4 : ((((2 : Nat) : Int)) == 4) = false := rfl
      have b5 : ((((2 : Nat) : Int)) == 5) = false := rfl
      have b16 : ((((2 : Nat) : Int)) == 16) = false := rfl
      have hv : 0 = dAt (deps (t.take k)) t[k] := by unfold dAt; rw [if_pos (by omega)]
      simp only [go_sem, reduceCtorEq, Nat.reduceEqDiff, Nat.reduceAdd, Nat.reduceMul, Nat.reduceSub, Nat.reduceLeDiff, Nat.reduceLT, Int.reduceMul, Int.reduceAdd, Int.reduceSub, Int.reduceToNat, nds_length, Int.toNat_natCast, hkn, hop, zat, zau, b1, b2, b3, b4, b5, b16, hil, w1, imax, e5, hsz hv.symm]
      refine ⟨⟨by omega, by omega, by simp [allOne, AV.cells, AV.one]⟩, k + 1, by omega, by omega, ?_⟩
      (simp only [bkq, enterW, subW, ltF, ne_eq, Nat.reduceEqDiff, reduceCtorEq, hm, its_lt]; try simp (disch := first | assumption | omega | (simp; done) | (simp; omega) | (simp only [bt, and_true]; first | done | omega | (simp; done))) [↓zlf, beq, ybc, ybd, ybe, endOk, wk, wk2, wk1, wkM, wkL, wkLL, ybf, byq, biq, isDs_ints, hcl, hm, its_lt]; try (repeat' (first | assumption | omega | exact True.intro | refine And.intro ?_ ?_ | refine closed_buf ?_ | refine closed_set_buf ?_ | refine closed_cells ?_ ?_ | refine closed_set ?_ ?_ | refine closed_del ?_ | exact AHeap.Le.refl _ | refine AHeap.Le.push ?_ _ | refine AHeap.Le.del ?_ ?_ | (simp only [bt, and_true, true_and, hm, its_lt]; first | done | omega | (simp; done)))))
    · subst ho
      have b1 : ((((3 : Nat) : Int)) == 1) = false := rfl
      have b2 : ((((3 : Nat) : Int)) == 2) = false := rfl
      have b3 : ((((3 : Nat) : Int)) == 3) = true := rfl
      have b4 : ((((3 : Nat) : Int)) == 4) = false := rfl
      have b5 : ((((3 : Nat) : Int)) == 5) = false := rfl
      have b16 : ((((3 : Nat) : Int)) == 16) = false := rfl
      have hv : 0 = dAt (deps (t.take k)) t[k] := by unfold dAt; rw [if_pos (by omega)]
      simp only [go_sem, reduceCtorEq, Nat.reduceEqDiff, Nat.reduceAdd, Nat.reduceMul, Nat.reduceSub, Nat.reduceLeDiff, Nat.reduceLT, Int.reduceMul, Int.reduceAdd, Int.reduceSub, Int.reduceToNat, nds_length, Int.toNat_natCast, hkn, hop, zat, zau, b1, b2, b3, b4, b5, b16, hil, w1, imax, e5, hsz hv.symm]
      refine ⟨⟨by omega, by omega, by simp [allOne, AV.cells, AV.one]⟩, k + 1, by omega, by omega, ?_⟩
      (simp only [bkq, enterW, subW, ltF, ne_eq, Nat.reduceEqDiff, reduceCtorEq, hm, its_lt]; try simp (disch := first | assumption | omega | (simp; done) | (simp; omega) | (simp only [bt, and_true]; first | done | omega | (simp; done))) [↓zlf, beq, ybc, ybd, ybe, endOk, wk, wk2, wk1, wkM, wkL, wkLL, ybf, byq, biq, isDs_ints, hcl, hm, its_lt]; try (repeat' (first | assumption | omega | exact True.intro | refine And.intro ?_ ?_ | refine closed_buf ?_ | refine closed_set_buf ?_ | refine closed_cells ?_ ?_ | refine closed_set ?_ ?_ | refine closed_del ?_ | exact AHeap.Le.refl _ | refine AHeap.Le.push ?_ _ | refine AHeap.Le.del ?_ ?_ | (simp only [bt, and_true, true_and, hm, its_lt]; first | done | omega | (simp; done)))))
    · subst ho
      have b1 : ((((4 : Nat) : Int)) == 1) = false := rfl
      have b2 : ((((4 : Nat) : Int)) == 2) = false := rfl
      have b3 : ((((4 : Nat) : Int)) == 3) = false := rfl
      have b4 : ((((4 : Nat) : Int)) == 4) = true := rfl
      have b5 : ((((4 : Nat) : Int)) == 5) = false := rfl
      have b16 : ((((4 : Nat) : Int)) == 16) = false := rfl
      have hv : 1 + (deps (t.take k)).getD t[k].a 0 = dAt (deps (t.take k)) t[k] := by unfold dAt; rw [if_neg (by omega), if_pos (by omega)]
      simp only [go_sem, reduceCtorEq, Nat.reduceEqDiff, Nat.reduceAdd, Nat.reduceMul, Nat.reduceSub, Nat.reduceLeDiff, Nat.reduceLT, Int.reduceMul, Int.reduceAdd, Int.reduceSub, Int.reduceToNat, nds_length, Int.toNat_natCast, hkn, hop, zat, zau, b1, b2, b3, b4, b5, b16, hil, w1, imax, e5, hsn _ hv]
      refine ⟨⟨by omega, by omega, by simp [allOne, AV.cells, AV.one]⟩, k + 1, by omega, by omega, ?_⟩
      (simp only [bkq, enterW, subW, ltF, ne_eq, Nat.reduceEqDiff, reduceCtorEq, hm, its_lt]; try simp (disch := first | assumption | omega | (simp; done) | (simp; omega) | (simp only [bt, and_true]; first | done | omega | (simp; done))) [↓zlf, beq, ybc, ybd, ybe, endOk, wk, wk2, wk1, wkM, wkL, wkLL, ybf, byq, biq, isDs_ints, hcl, hm, its_lt]; try (repeat' (first | assumption | omega | exact True.intro | refine And.intro ?_ ?_ | refine closed_buf ?_ | refine closed_set_buf ?_ | refine closed_cells ?_ ?_ | refine closed_set ?_ ?_ | refine closed_del ?_ | exact AHeap.Le.refl _ | refine AHeap.Le.push ?_ _ | refine AHeap.Le.del ?_ ?_ | (simp only [bt, and_true, true_and, hm, its_lt]; first | done | omega | (simp; done)))))
    · subst ho
      have b1 : ((((5 : Nat) : Int)) == 1) = false := rfl
      have b2 : ((((5 : Nat) : Int)) == 2) = false := rfl
      have b3 : ((((5 : Nat) : Int)) == 3) = false := rfl
      have b4 : ((((5 : Nat) : Int)) == 4) = false := rfl
      have b5 : ((((5 : Nat) : Int)) == 5) = true := rfl
      have b16 : ((((5 : Nat) : Int)) == 16) = false := rfl
      have hv : 1 + (deps (t.take k)).getD t[k].a 0 = dAt (deps (t.take k)) t[k] := by unfold dAt; rw [if_neg (by omega), if_pos (by omega)]
      simp only [go_sem, reduceCtorEq, Nat.reduceEqDiff, Nat.reduceAdd, Nat.reduceMul, Nat.reduceSub, Nat.reduceLeDiff, Nat.reduceLT, Int.reduceMul, Int.reduceAdd, Int.reduceSub, Int.reduceToNat, nds_length, Int.toNat_natCast, hkn, hop, zat, zau, b1, b2, b3, b4, b5, b16, hil, w1, imax, e5, hsn _ hv]
      refine ⟨⟨by omega, by omega, by simp [allOne, AV.cells, AV.one]⟩, k + 1, by omega, by omega, ?_⟩
      (simp only [bkq, enterW, subW, ltF, ne_eq, Nat.reduceEqDiff, reduceCtorEq, hm, its_lt]; try simp (disch := first | assumption | omega | (simp; done) | (simp; omega) | (simp only [bt, and_true]; first | done | omega | (simp; done))) [↓zlf, beq, ybc, ybd, ybe, endOk, wk, wk2, wk1, wkM, wkL, wkLL, ybf, byq, biq, isDs_ints, hcl, hm, its_lt]; try (repeat' (first | assumption | omega | exact True.intro | refine And.intro ?_ ?_ | refine closed_buf ?_ | refine closed_set_buf ?_ | refine closed_cells ?_ ?_ | refine closed_set ?_ ?_ | refine closed_del ?_ | exact AHeap.Le.refl _ | refine AHeap.Le.push ?_ _ | refine AHeap.Le.del ?_ ?_ | (simp only [bt, and_true, true_and, hm, its_lt]; first | done | omega | (simp; done)))))
    · subst ho
      have b1 : ((((16 : Nat) : Int)) == 1) = false := rfl
      have b2 : ((((16 : Nat) : Int)) == 2) = false := rfl
      have b3 : ((((16 : Nat) : Int)) == 3) = false := rfl
      have b4 : ((((16 : Nat) : Int)) == 4) = false := rfl
      have b5 : ((((16 : Nat) : Int)) == 5) = false := rfl
      have b16 : ((((16 : Nat) : Int)) == 16) = true := rfl
      have hv : max ((deps (t.take k)).getD t[k].a 0) (1 + (deps (t.take k)).getD t[k].b 0) = dAt (deps (t.take k)) t[k] := by unfold dAt; rw [if_neg (by omega), if_neg (by omega), if_pos (by omega)]
      simp only [go_sem, reduceCtorEq, Nat.reduceEqDiff, Nat.reduceAdd, Nat.reduceMul, Nat.reduceSub, Nat.reduceLeDiff, Nat.reduceLT, Int.reduceMul, Int.reduceAdd, Int.reduceSub, Int.reduceToNat, nds_length, Int.toNat_natCast, hkn, hop, zat, zau, b1, b2, b3, b4, b5, b16, hil, w1, imax, e5, hsn _ hv]
      refine ⟨⟨by omega, by omega, by simp [allOne, AV.cells, AV.one]⟩, k + 1, by omega, by omega, ?_⟩
      (simp only [bkq, enterW, subW, ltF, ne_eq, Nat.reduceEqDiff, reduceCtorEq, hm, its_lt]; try simp (disch := first | assumption | omega | (simp; done) | (simp; omega) | (simp only [bt, and_true]; first | done | omega | (simp; done))) [↓zlf, beq, ybc, ybd, ybe, endOk, wk, wk2, wk1, wkM, wkL, wkLL, ybf, byq, biq, isDs_ints, hcl, hm, its_lt]; try (repeat' (first | assumption | omega | exact True.intro | refine And.intro ?_ ?_ | refine closed_buf ?_ | refine closed_set_buf ?_ | refine closed_cells ?_ ?_ | refine closed_set ?_ ?_ | refine closed_del ?_ | exact AHeap.Le.refl _ | refine AHeap.Le.push ?_ _ | refine AHeap.Le.del ?_ ?_ | (simp only [bt, and_true, true_and, hm, its_lt]; first | done | omega | (simp; done)))))
    · have b1 : ((op : Int) == 1) = false := by simp; omega
      have b2 : ((op : Int) == 2) = false := by simp; omega
      have b3 : ((op : Int) == 3) = false := by simp; omega
      have b4 : ((op : Int) == 4) = false := by simp; omega
      have b5 : ((op : Int) == 5) = false := by simp; omega
      have b16 : ((op : Int) == 16) = false := by simp; omega
      have hv : max ((deps (t.take k)).getD t[k].a 0) ((deps (t.take k)).getD t[k].b 0) = dAt (deps (t.take k)) t[k] := by unfold dAt; rw [if_neg (by omega), if_neg (by omega), if_neg (by omega)]
      simp only [go_sem, reduceCtorEq, Nat.reduceEqDiff, Nat.reduceAdd, Nat.reduceMul, Nat.reduceSub, Nat.reduceLeDiff, Nat.reduceLT, Int.reduceMul, Int.reduceAdd, Int.reduceSub, Int.reduceToNat, nds_length, Int.toNat_natCast, hkn, hop, zat, zau, b1, b2, b3, b4, b5, b16, hil, w1, imax, e5, hsn _ hv]
      refine ⟨⟨by omega, by omega, by simp [allOne, AV.cells, AV.one]⟩, k + 1, by omega, by omega, ?_⟩
      (simp only [bkq, enterW, subW, ltF, ne_eq, Nat.reduceEqDiff, reduceCtorEq, hm, its_lt]; try simp (disch := first | assumption | omega | (simp; done) | (simp; omega) | (simp only [bt, and_true]; first | done | omega | (simp; done))) [↓zlf, beq, ybc, ybd, ybe, endOk, wk, wk2, wk1, wkM, wkL, wkLL, ybf, byq, biq, isDs_ints, hcl, hm, its_lt]; try (repeat' (first | assumption | omega | exact True.intro | refine And.intro ?_ ?_ | refine closed_buf ?_ | refine closed_set_buf ?_ | refine closed_cells ?_ ?_ | refine closed_set ?_ ?_ | refine closed_del ?_ | exact AHeap.Le.refl _ | refine AHeap.Le.push ?_ _ | refine AHeap.Le.del ?_ ?_ | (simp only [bt, and_true, true_and, hm, its_lt]; first | done | omega | (simp; done)))))
  · have hk1 : k = t.length := by simp at hc; omega
    subst hk1
    have e6 : IntKind.i64.wrap ((t.length : Int) - 1) = ((t.length - 1 : Nat) : Int) := by rw [wrap_i64] <;> omega
    have hge := its_get (d := deps t) (a := t.length - 1) (by rw [deps_len]; omega)
    rw [show (deps t).getD (t.length - 1) 0 = depthOf t from rfl] at hge
    rw [List.take_length] at hil
    simp only [go_sem, reduceCtorEq, Nat.reduceEqDiff, Nat.reduceAdd, Nat.reduceMul, Nat.reduceSub, Nat.reduceLeDiff, Nat.reduceLT, Int.reduceMul, Int.reduceAdd, Int.reduceSub, Int.reduceToNat, nds_length, List.take_length, hil, e6, hge, Int.toNat_natCast]
    refine ⟨by omega, ?_⟩
    simp (disch := first | assumption | omega | (simp; done) | (simp; omega) | (simp only [bt, and_true]; first | done | omega | (simp; done))) [↓zlf, beq, ybc, ybd, ybe, endOk, wk, wk2, wk1, wkM, wkL, wkLL, ybf, hcl, hcl1]
end Go.AL

