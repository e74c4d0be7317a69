/- Contracts and plain laws, a part of the proof; no condition of its own. -/
import Derived.Test.YtknhoembfohbiaaN05
import Derived.Test.YtknhoembfohbiaaLNum
open List renaming length_cons → yaz, length_nil → yba, take_of_length_le → ybc, drop_append → ybd, take_append → ybe, drop_eq_nil_of_le → ybf, map_nil → yaf, drop_zero → yap
open Go Go.AL Go.Proofs
namespace Go.AL
set_option linter.all false
set_option maxRecDepth 10000
theorem ti_bool : ti Try.prog 4 = some ⟨.bool, 1, 1, .bool false⟩ := by kernel_rfl
theorem ti_ints : ti Try.prog 92 = some ⟨.slice 3, 1, 24, .slice .nil 1 []⟩ := by kernel_rfl
theorem ti_Int : ti Try.prog 146 = some ⟨.struct [(0, 4, false), (1, 92, false)], 2, 32, .agg [.bool false, .slice .nil 1 []]⟩ := by kernel_rfl
attribute [go_sem] ti_bool ti_ints ti_Int

def isDs (l : List AV) : Prop := isI l ∧ isD (uni l)
theorem isDs_ints {l : List Nat} : isDs (ints l) = isD l := by unfold isDs; rw [isI_ints, uni_ints]; simp
theorem isDs_out {l : List AV} (h : isDs l) : ∃ xs, l = ints xs ∧ isD xs := ⟨_, h.1, h.2⟩

def p_rAt : List AV → AHeap → (AV → Prop) → Prop
  | [.slice _ 1 l, .int .i64 i], _, K => (isI l ∧ 0 ≤ i) ∧ K (.int .i64 ((uni l).getD i.toNat 0 : Nat))
  | _, _, _ => False
theorem ok_rAt : EntOk Try.prog 220 (Ent.pure p_rAt) := by
  refine EntOk.pure fun args H K h => ?_
  unfold p_rAt at h
  split at h
  rotate_left
  · exact h.elim
  rename_i m l i
  obtain ⟨⟨c1, h0⟩, hK⟩ := h
  refine ⟨_, hK, ?_⟩
  obtain ⟨xs, rfl⟩ := isI_out c1
  obtain ⟨j, rfl⟩ := Int.eq_ofNat_of_zero_le h0
  rw [uni_ints, Int.toNat_natCast]
  clear hK c1 h0
  refine ACalls.of_aw (Ω := []) (T := assoc []) mixed TblOk.nil Try.func220 (by kernel_rfl) (by rfl) (rs := [.tmp 4]) (by rfl) (by kernel_rfl) (by simp only [Try.ntmps220, yaz, yba]; decide) (Nat.le_refl _) fun hcl hlt => ?_
  change aw _ _ _ (KI Try.prog [] (aEnd Try.prog [.tmp 4] H.nx _ _) []) _ _
  clear hlt
  simp only [go_sem, reduceCtorEq, Nat.reduceEqDiff, Nat.reduceAdd, Nat.reduceMul, Nat.reduceSub, Nat.reduceLeDiff, Nat.reduceLT, Int.reduceMul, Int.reduceAdd, Int.reduceSub, Int.reduceToNat, ints_length, Int.toNat_natCast]
  refine cond_split (fun h1 => ?_) (fun h1 => ?_)
  · have h1' : j < xs.length := by simpa using h1
    simp only [go_sem, reduceCtorEq, Nat.reduceEqDiff, Nat.reduceAdd, Nat.reduceMul, Nat.reduceSub, Nat.reduceLeDiff, Nat.reduceLT, Int.reduceMul, Int.reduceAdd, Int.reduceSub, Int.reduceToNat, ints_length, Int.toNat_natCast, ints_cells h1', ints_get h1']
    refine ⟨by omega, ?_⟩
    simp (disch := first | assumption | omega | (simp; done) | (simp; omega) | (simp only [bt, and_true]; first | done | omega | (simp; done))) [↓zlf, beq, ybc, ybd, ybe, endOk, wk, wk2, wk1, wkM, wkL, wkLL, ybf, hcl]
  · have h1' : xs.length ≤ j := by simpa using h1
    have e : xs.getD j 0 = 0 := by simp [List.getD_eq_getElem?_getD, h1']
    simp only [go_sem, reduceCtorEq, Nat.reduceEqDiff, Nat.reduceAdd, Nat.reduceMul, Nat.reduceSub, Nat.reduceLeDiff, Nat.reduceLT, Int.reduceMul, Int.reduceAdd, Int.reduceSub, Int.reduceToNat, ints_length, Int.toNat_natCast, e]
    simp (disch := first | assumption | omega | (simp; done) | (simp; omega) | (simp only [bt, and_true]; first | done | omega | (simp; done))) [↓zlf, beq, ybc, ybd, ybe, endOk, wk, wk2, wk1, wkM, wkL, wkLL, ybf, hcl]

def p_rPlus : List AV → AHeap → (AV → Prop) → Prop
  | [.slice _ 1 l, .slice _ 1 m], _, K => (isDs l ∧ isDs m ∧ l.length ≤ 1000 ∧ m.length ≤ 1000) ∧ K (.slice .any 1 (ints (first (max l.length m.length + 1) (dv (uni l) + dv (uni m)))))
  | _, _, _ => False
set_option maxHeartbeats 1000000 in
theorem ok_rPlus : EntOk Try.prog 193 (Ent.pure p_rPlus) := by
  refine EntOk.pure fun args H K h => ?_
  unfold p_rPlus at h
  split at h
  rotate_left
  · exact h.elim
  rename_i ma l mb m
  obtain ⟨⟨c1, c2, l1, l2⟩, hK⟩ := h
  refine ⟨_, hK, ?_⟩
  obtain ⟨xs, rfl, hx⟩ := isDs_out c1
  obtain ⟨ys, rfl, hy⟩ := isDs_out c2
  rw [uni_ints, uni_ints]
  rw [ints_length] at l1 l2 ⊢
  rw [ints_length]
  clear hK c1 c2
  refine ACalls.of_aw (Ω := [(220, Ent.pure p_rAt)]) (T := assoc []) mixed (TblOk.cons ok_rAt TblOk.nil) Try.func193 (by kernel_rfl) (by rfl) (rs := [.tmp 4]) (by rfl) (by kernel_rfl) (by simp only [Try.ntmps193, yaz, yba]; decide) (Nat.le_refl _) fun hcl hlt => ?_
  change aw _ _ _ (KI Try.prog [(220, Ent.pure p_rAt)] (aEnd Try.prog [.tmp 4] H.nx _ _) []) _ _
  clear hlt
  generalize hn : max xs.length ys.length + 1 = n
  have hw : IntKind.i64.wrap (max (xs.length : Int) (ys.length : Int) + 1) = (n : Int) := by rw [wrap_i64] <;> omega
  simp only [go_sem, reduceCtorEq, Nat.reduceEqDiff, Nat.reduceAdd, Nat.reduceMul, Nat.reduceSub, Nat.reduceLeDiff, Nat.reduceLT, Int.reduceMul, Int.reduceAdd, Int.reduceSub, Int.reduceToNat, ints_length]
  refine loop_introW (A := Nat) (fun k => [(7, .int .i64 (k : Int)), (6, .int .i64 (cry (dv xs) (dv ys) k : Nat)), (5, .slice (.own (H.nx + 1)) 1 (ints (first k (dv xs + dv ys)))), (1, .slice .any 1 (ints ys)), (0, .slice .any 1 (ints xs))])
    (fun k => (H.push (.buf 1 0)).push (.buf 1 k)) (fun k => k ≤ n) (fun k => n - k) 0 (by omega) ?_ fun k hk => ?_
  · (simp only [bkq, enterW, subW, ltF, ne_eq, Nat.reduceEqDiff, reduceCtorEq, cry_zero, first, List.range_zero, yaf, ints_nil]; try simp (disch := first | assumption | omega | (simp; done) | (simp; omega) | (simp only [bt, and_true]; first | done | omega | (simp; done))) [↓zlf, beq, ybc, ybd, ybe, endOk, wk, wk2, wk1, wkM, wkL, wkLL, ybf, byq, biq, isDs_ints, hcl, cry_zero, first, List.range_zero, yaf, ints_nil]; try (repeat' (first | assumption | omega | exact True.intro | refine And.intro ?_ ?_ | refine closed_buf ?_ | refine closed_set_buf ?_ | refine closed_cells ?_ ?_ | refine closed_set ?_ ?_ | refine closed_del ?_ | exact AHeap.Le.refl _ | refine AHeap.Le.push ?_ _ | refine AHeap.Le.del ?_ ?_ | (simp only [bt, and_true, true_and, cry_zero, first, List.range_zero, yaf, ints_nil]; first | done | omega | (simp; done)))))
  simp only [go_sem, reduceCtorEq, Nat.reduceEqDiff, Nat.reduceAdd, Nat.reduceMul, Nat.reduceSub, Nat.reduceLeDiff, Nat.reduceLT, Int.reduceMul, Int.reduceAdd, Int.reduceSub, Int.reduceToNat, ints_length, hw]
  refine cond_split (fun h1 => ?_) (fun h1 => ?_)
  · have h1' : k < n := by simpa using h1
    have d1 := dig_lt (dv xs) k
    have d2 := dig_lt (dv ys) k
    have hc := cry_le (dv xs) (dv ys) k
    have e1 : IntKind.i64.wrap ((dig (dv xs) k : Nat) + (dig (dv ys) k : Nat) : Int) = ((dig (dv xs) k + dig (dv ys) k : Nat) : Int) := by rw [wrap_i64] <;> omega
    have e2 : IntKind.i64.wrap (((dig (dv xs) k + dig (dv ys) k : Nat) : Int) + (cry (dv xs) (dv ys) k : Nat)) = ((dig (dv xs) k + dig (dv ys) k + cry (dv xs) (dv ys) k : Nat) : Int) := by rw [wrap_i64] <;> omega
    have e3 : (((dig (dv xs) k + dig (dv ys) k + cry (dv xs) (dv ys) k : Nat) : Int)).tmod 10 = (dig (dv xs + dv ys) k : Nat) := by
      rw [Int.tmod_eq_emod_of_nonneg (by omega), ← add_dig]; omega
    have e4 : IntKind.i64.wrap ((((dig (dv xs) k + dig (dv ys) k + cry (dv xs) (dv ys) k : Nat) : Int)).tdiv 10) = (cry (dv xs) (dv ys) (k + 1) : Nat) := by
      rw [Int.tdiv_eq_ediv_of_nonneg (by omega), ← add_cry, wrap_i64] <;> omega
    have e5 : IntKind.i64.wrap ((k : Int) + 1) = ((k + 1 : Nat) : Int) := by rw [wrap_i64] <;> omega
    simp only [go_sem, reduceCtorEq, Nat.reduceEqDiff, Nat.reduceAdd, Nat.reduceMul, Nat.reduceSub, Nat.reduceLeDiff, Nat.reduceLT, Int.reduceMul, Int.reduceAdd, Int.reduceSub, Int.reduceToNat, biq, isDs_ints, p_rAt, getD_dig hx, getD_dig hy, e1, e2, e3, e4, e5, first_len, ← first_succ]
    refine ⟨by omega, by omega, by omega, ⟨by omega, by omega⟩, by omega, k + 1, by omega, by omega, ?_⟩
    (simp only [bkq, enterW, subW, ltF, ne_eq, Nat.reduceEqDiff, reduceCtorEq]; try simp (disch := first | assumption | omega | (simp; done) | (simp; omega) | (simp only [bt, and_true]; first | done | omega | (simp; done))) [↓zlf, beq, ybc, ybd, ybe, endOk, wk, wk2, wk1, wkM, wkL, wkLL, ybf, byq, biq, isDs_ints, hcl]; try (repeat' (first | assumption | omega | exact True.intro | refine And.intro ?_ ?_ | refine closed_buf ?_ | refine closed_set_buf ?_ | refine closed_cells ?_ ?_ | refine closed_set ?_ ?_ | refine closed_del ?_ | exact AHeap.Le.refl _ | refine AHeap.Le.push ?_ _ | refine AHeap.Le.del ?_ ?_ | (simp only [bt, and_true, true_and]; first | done | omega | (simp; done)))))
  · have h1' : k = n := by simp at h1; omega
    subst h1'
    simp only [go_sem, reduceCtorEq, Nat.reduceEqDiff, Nat.reduceAdd, Nat.reduceMul, Nat.reduceSub, Nat.reduceLeDiff, Nat.reduceLT, Int.reduceMul, Int.reduceAdd, Int.reduceSub, Int.reduceToNat, biq, isDs_ints]
    simp (disch := first | assumption | omega | (simp; done) | (simp; omega) | (simp only [bt, and_true]; first | done | omega | (simp; done))) [↓zlf, beq, ybc, ybd, ybe, endOk, wk, wk2, wk1, wkM, wkL, wkLL, ybf, hcl]

def p_rMinus : List AV → AHeap → (AV → Prop) → Prop
  | [.slice _ 1 l, .slice _ 1 m], _, K => (isDs l ∧ isDs m ∧ l.length ≤ 1000 ∧ m.length ≤ 1000 ∧ dv (uni m) ≤ dv (uni l)) ∧ K (.slice .any 1 (ints (first l.length (dv (uni l) - dv (uni m)))))
  | _, _, _ => False
set_option maxHeartbeats 1000000 in
theorem ok_rMinus : EntOk Try.prog 195 (Ent.pure p_rMinus) := by
  refine EntOk.pure fun args H K h => ?_
  unfold p_rMinus at h
  split at h
  rotate_left
  · exact h.elim
  rename_i ma l mb m
  obtain ⟨⟨c1, c2, l1, l2, hle⟩, hK⟩ := h
  refine ⟨_, hK, ?_⟩
  obtain ⟨xs, rfl, hx⟩ := isDs_out c1
  obtain ⟨ys, rfl, hy⟩ := isDs_out c2
  rw [uni_ints, uni_ints] at hle ⊢
  rw [ints_length] at l1 l2 ⊢
  clear hK c1 c2
  refine ACalls.of_aw (Ω := [(220, Ent.pure p_rAt)]) (T := assoc []) mixed (TblOk.cons ok_rAt TblOk.nil) Try.func195 (by kernel_rfl) (by rfl) (rs := [.tmp 4]) (by rfl) (by kernel_rfl) (by simp only [Try.ntmps195, yaz, yba]; decide) (Nat.le_refl _) fun hcl hlt => ?_
  change aw _ _ _ (KI Try.prog [(220, Ent.pure p_rAt)] (aEnd Try.prog [.tmp 4] H.nx _ _) []) _ _
  clear hlt
  generalize hn : xs.length = n at *
  simp only [go_sem, reduceCtorEq, Nat.reduceEqDiff, Nat.reduceAdd, Nat.reduceMul, Nat.reduceSub, Nat.reduceLeDiff, Nat.reduceLT, Int.reduceMul, Int.reduceAdd, Int.reduceSub, Int.reduceToNat, biq, isDs_ints, hn]
  refine loop_introW (A := Nat) (fun k => [(11, .int .i64 (k : Int)), (10, .int .i64 (n : Int)), (6, .int .i64 (bor (dv xs) (dv ys) k : Nat)), (5, .slice (.own (H.nx + 1)) 1 (ints (first k (dv xs - dv ys)))), (1, .slice .any 1 (ints ys)), (0, .slice .any 1 (ints xs))])
    (fun k => (H.push (.buf 1 0)).push (.buf 1 k)) (fun k => k ≤ n) (fun k => n - k) 0 (by omega) ?_ fun k hk => ?_
  · (simp only [bkq, enterW, subW, ltF, ne_eq, Nat.reduceEqDiff, reduceCtorEq, bor_zero, first, List.range_zero, yaf, ints_nil]; try simp (disch := first | assumption | omega | (simp; done) | (simp; omega) | (simp only [bt, and_true]; first | done | omega | (simp; done))) [↓zlf, beq, ybc, ybd, ybe, endOk, wk, wk2, wk1, wkM, wkL, wkLL, ybf, byq, biq, isDs_ints, hcl, bor_zero, first, List.range_zero, yaf, ints_nil]; try (repeat' (first | assumption | omega | exact True.intro | refine And.intro ?_ ?_ | refine closed_buf ?_ | refine closed_set_buf ?_ | refine closed_cells ?_ ?_ | refine closed_set ?_ ?_ | refine closed_del ?_ | exact AHeap.Le.refl _ | refine AHeap.Le.push ?_ _ | refine AHeap.Le.del ?_ ?_ | (simp only [bt, and_true, true_and, bor_zero, first, List.range_zero, yaf, ints_nil]; first | done | omega | (simp; done)))))
  simp only [go_sem, reduceCtorEq, Nat.reduceEqDiff, Nat.reduceAdd, Nat.reduceMul, Nat.reduceSub, Nat.reduceLeDiff, Nat.reduceLT, Int.reduceMul, Int.reduceAdd, Int.reduceSub, Int.reduceToNat, biq, isDs_ints]
  refine cond_split (fun h1 => ?_) (fun h1 => ?_)
  · have h1' : k < n := by simpa using h1
    have d1 := dig_lt (dv xs) k
    have d2 := dig_lt (dv ys) k
    have d3 := dig_lt (dv xs - dv ys) k
    have hc : bor (dv xs) (dv ys) k ≤ 1 := by unfold bor; split <;> omega
    have hc2 : bor (dv xs) (dv ys) (k + 1) ≤ 1 := by unfold bor; split <;> omega
    have hs := sub_dig (dv xs) (dv ys) k hle
    have hkx : k < xs.length := by omega
    have e1 : IntKind.i64.wrap ((dig (dv xs) k : Nat) - (dig (dv ys) k : Nat) : Int) = (dig (dv xs) k : Nat) - (dig (dv ys) k : Nat) := by rw [wrap_i64] <;> omega
    have e2 : IntKind.i64.wrap ((dig (dv xs) k : Nat) - (dig (dv ys) k : Nat) - (bor (dv xs) (dv ys) k : Nat) : Int) = (dig (dv xs - dv ys) k : Nat) - 10 * (bor (dv xs) (dv ys) (k + 1) : Nat) := by rw [hs, wrap_i64] <;> omega
    have e5 : IntKind.i64.wrap ((k : Int) + 1) = ((k + 1 : Nat) : Int) := by rw [wrap_i64] <;> omega
    simp only [go_sem, reduceCtorEq, Nat.reduceEqDiff, Nat.reduceAdd, Nat.reduceMul, Nat.reduceSub, Nat.reduceLeDiff, Nat.reduceLT, Int.reduceMul, Int.reduceAdd, Int.reduceSub, Int.reduceToNat, biq, isDs_ints, p_rAt, ints_cells hkx, ints_get hkx, hn, getD_dig hx, getD_dig hy, e1, e2]
    refine ⟨by omega, by omega, cond_split (fun h2 => ?_) (fun h2 => ?_)⟩
    · have h2' : bor (dv xs) (dv ys) (k + 1) = 1 := by simp at h2; omega
      have e3 : IntKind.i64.wrap ((dig (dv xs - dv ys) k : Nat) - 10 * (bor (dv xs) (dv ys) (k + 1) : Nat) + 10 : Int) = (dig (dv xs - dv ys) k : Nat) := by rw [wrap_i64] <;> omega
      have e4 : (1 : Int) = (bor (dv xs) (dv ys) (k + 1) : Nat) := by omega
      simp only [go_sem, reduceCtorEq, Nat.reduceEqDiff, Nat.reduceAdd, Nat.reduceMul, Nat.reduceSub, Nat.reduceLeDiff, Nat.reduceLT, Int.reduceMul, Int.reduceAdd, Int.reduceSub, Int.reduceToNat, biq, isDs_ints, e3, e5, first_len, ← first_succ]
      refine ⟨⟨by omega, by omega⟩, k + 1, by omega, by omega, ?_⟩
      (simp only [bkq, enterW, subW, ltF, ne_eq, Nat.reduceEqDiff, reduceCtorEq, h2']; try simp (disch := first | assumption | omega | (simp; done) | (simp; omega) | (simp only [bt, and_true]; first | done | omega | (simp; done))) [↓zlf, beq, ybc, ybd, ybe, endOk, wk, wk2, wk1, wkM, wkL, wkLL, ybf, byq, biq, isDs_ints, hcl, h2']; try (repeat' (first | assumption | omega | exact True.intro | refine And.intro ?_ ?_ | refine closed_buf ?_ | refine closed_set_buf ?_ | refine closed_cells ?_ ?_ | refine closed_set ?_ ?_ | refine closed_del ?_ | exact AHeap.Le.refl _ | refine AHeap.Le.push ?_ _ | refine AHeap.Le.del ?_ ?_ | (simp only [bt, and_true, true_and, h2']; first | done | omega | (simp; done)))))
    · have h2' : bor (dv xs) (dv ys) (k + 1) = 0 := by simp at h2; omega
      have e3 : ((dig (dv xs - dv ys) k : Nat) - 10 * (bor (dv xs) (dv ys) (k + 1) : Nat) : Int) = (dig (dv xs - dv ys) k : Nat) := by omega
      simp only [go_sem, reduceCtorEq, Nat.reduceEqDiff, Nat.reduceAdd, Nat.reduceMul, Nat.reduceSub, Nat.reduceLeDiff, Nat.reduceLT, Int.reduceMul, Int.reduceAdd, Int.reduceSub, Int.reduceToNat, biq, isDs_ints, e3, e5, first_len, ← first_succ]
      refine ⟨⟨by omega, by omega⟩, k + 1, by omega, by omega, ?_⟩
      (simp only [bkq, enterW, subW, ltF, ne_eq, Nat.reduceEqDiff, reduceCtorEq, h2']; try simp (disch := first | assumption | omega | (simp; done) | (simp; omega) | (simp only [bt, and_true]; first | done | omega | (simp; done))) [↓zlf, beq, ybc, ybd, ybe, endOk, wk, wk2, wk1, wkM, wkL, wkLL, ybf, byq, biq, isDs_ints, hcl, h2']; try (repeat' (first | assumption | omega | exact True.intro | refine And.intro ?_ ?_ | refine closed_buf ?_ | refine closed_set_buf ?_ | refine closed_cells ?_ ?_ | refine closed_set ?_ ?_ | refine closed_del ?_ | exact AHeap.Le.refl _ | refine AHeap.Le.push ?_ _ | refine AHeap.Le.del ?_ ?_ | (simp only [bt, and_true, true_and, h2']; first | done | omega | (simp; done)))))
  · have h1' : k = n := by simp at h1; omega
    subst h1'
    simp only [go_sem, reduceCtorEq, Nat.reduceEqDiff, Nat.reduceAdd, Nat.reduceMul, Nat.reduceSub, Nat.reduceLeDiff, Nat.reduceLT, Int.reduceMul, Int.reduceAdd, Int.reduceSub, Int.reduceToNat, biq, isDs_ints]
    simp (disch := first | assumption | omega | (simp; done) | (simp; omega) | (simp only [bt, and_true]; first | done | omega | (simp; done))) [↓zlf, beq, ybc, ybd, ybe, endOk, wk, wk2, wk1, wkM, wkL, wkLL, ybf, hcl]

/-- the order of two rows of digits without leading zeros -/
def p_rCompare : List AV → AHeap → (AV → Prop) → Prop
  | [.slice _ 1 l, .slice _ 1 m], _, K => ∃ a b, (l = ints (digs a) ∧ m = ints (digs b) ∧ l.length ≤ 1000 ∧ m.length ≤ 1000) ∧ K (.int .i64 (if a = b then 0 else if a < b then -1 else 1))
  | _, _, _ => False
set_option maxHeartbeats 1000000 in
theorem ok_rCompare : EntOk Try.prog 194 (Ent.pure p_rCompare) := by
  refine EntOk.pure fun args H K h => ?_
  unfold p_rCompare at h
  split at h
  rotate_left
  · exact h.elim
  rename_i ma l mb m
  obtain ⟨a, b, ⟨rfl, rfl, l1, l2⟩, hK⟩ := h
  refine ⟨_, hK, ?_⟩
  rw [ints_length] at l1 l2
  clear hK
  refine ACalls.of_aw (Ω := []) (T := assoc []) mixed TblOk.nil Try.func194 (by kernel_rfl) (by rfl) (rs := [.tmp 4]) (by rfl) (by kernel_rfl) (by simp only [Try.ntmps194, yaz, yba]; decide) (Nat.le_refl _) fun hcl hlt => ?_
  change aw _ _ _ (KI Try.prog [] (aEnd Try.prog [.tmp 4] H.nx _ _) []) _ _
  clear hlt
  simp only [go_sem, reduceCtorEq, Nat.reduceEqDiff, Nat.reduceAdd, Nat.reduceMul, Nat.reduceSub, Nat.reduceLeDiff, Nat.reduceLT, Int.reduceMul, Int.reduceAdd, Int.reduceSub, Int.reduceToNat, biq, isDs_ints]
  refine cond_split (fun h1 => ?_) (fun h1 => ?_)
  · have h1' : (digs a).length ≠ (digs b).length := by simp at h1; omega
    have hne : a ≠ b := fun h => h1' (by rw [h])
    simp only [go_sem, reduceCtorEq, Nat.reduceEqDiff, Nat.reduceAdd, Nat.reduceMul, Nat.reduceSub, Nat.reduceLeDiff, Nat.reduceLT, Int.reduceMul, Int.reduceAdd, Int.reduceSub, Int.reduceToNat, biq, isDs_ints, if_neg hne]
    refine cond_split (fun h2 => ?_) (fun h2 => ?_)
    · have h2' : (digs a).length < (digs b).length := by simpa using h2
      simp only [go_sem, reduceCtorEq, Nat.reduceEqDiff, Nat.reduceAdd, Nat.reduceMul, Nat.reduceSub, Nat.reduceLeDiff, Nat.reduceLT, Int.reduceMul, Int.reduceAdd, Int.reduceSub, Int.reduceToNat, biq, isDs_ints, if_pos (lt_of_len h2')]
      simp (disch := first | assumption | omega | (simp; done) | (simp; omega) | (simp only [bt, and_true]; first | done | omega | (simp; done))) [↓zlf, beq, ybc, ybd, ybe, endOk, wk, wk2, wk1, wkM, wkL, wkLL, ybf, hcl]
    · have h2' : ¬ (digs a).length < (digs b).length := by simpa using h2
      have := lt_of_len (show (digs b).length < (digs a).length by omega)
      simp only [go_sem, reduceCtorEq, Nat.reduceEqDiff, Nat.reduceAdd, Nat.reduceMul, Nat.reduceSub, Nat.reduceLeDiff, Nat.reduceLT, Int.reduceMul, Int.reduceAdd, Int.reduceSub, Int.reduceToNat, biq, isDs_ints, if_neg (show ¬ a < b by omega)]
      simp (disch := first | assumption | omega | (simp; done) | (simp; omega) | (simp only [bt, and_true]; first | done | omega | (simp; done))) [↓zlf, beq, ybc, ybd, ybe, endOk, wk, wk2, wk1, wkM, wkL, wkLL, ybf, hcl]
  have h1' : (digs a).length = (digs b).length := by simp at h1; omega
  have ew : IntKind.i64.wrap (((digs a).length : Int) - 1) = ((digs a).length : Int) - 1 := by rw [wrap_i64] <;> omega
  simp only [go_sem, reduceCtorEq, Nat.reduceEqDiff, Nat.reduceAdd, Nat.reduceMul, Nat.reduceSub, Nat.reduceLeDiff, Nat.reduceLT, Int.reduceMul, Int.reduceAdd, Int.reduceSub, Int.reduceToNat, biq, isDs_ints, ew]
  refine loop_intro (A := Nat) (fun k => [(5, .int .i64 ((k : Int) - 1)), (1, .slice mb 1 (ints (digs b))), (0, .slice ma 1 (ints (digs a)))])
    (fun k => H) (fun k => k ≤ (digs a).length ∧ a / 10 ^ k = b / 10 ^ k) (fun k => k) (digs a).length ⟨Nat.le_refl _, by rw [above_all (Nat.le_refl _), above_all (by omega)]⟩ ?_ fun k hk => ?_
  · simp only [bnq, enter, subF, ltF, ne_eq, Nat.reduceEqDiff, reduceCtorEq, true_or, and_true]
  obtain ⟨hk, hab⟩ := hk
  simp only [go_sem, reduceCtorEq, Nat.reduceEqDiff, Nat.reduceAdd, Nat.reduceMul, Nat.reduceSub, Nat.reduceLeDiff, Nat.reduceLT, Int.reduceMul, Int.reduceAdd, Int.reduceSub, Int.reduceToNat, biq, isDs_ints]
  refine cond_split (fun h2 => ?_) (fun h2 => ?_)
  · obtain ⟨j, rfl⟩ : ∃ j, k = j + 1 := ⟨k - 1, by simp at h2; omega⟩
    have ej : (((j + 1 : Nat) : Int) - 1) = (j : Int) := by omega
    have eg1 := getD_dig (digs_isD a) j
    have eg2 := getD_dig (digs_isD b) j
    rw [dv_digs] at eg1 eg2
    have e3 : IntKind.i64.wrap ((j : Int) - 1) = (j : Int) - 1 := by rw [wrap_i64] <;> omega
    simp only [go_sem, reduceCtorEq, Nat.reduceEqDiff, Nat.reduceAdd, Nat.reduceMul, Nat.reduceSub, Nat.reduceLeDiff, Nat.reduceLT, Int.reduceMul, Int.reduceAdd, Int.reduceSub, Int.reduceToNat, biq, isDs_ints, ej, ints_cells (show j < (digs a).length by omega), ints_get (show j < (digs a).length by omega), ints_cells (show j < (digs b).length by omega), ints_get (show j < (digs b).length by omega), eg1, eg2, e3]
    refine ⟨by omega, by omega, cond_split (fun h3 => ?_) (fun h3 => ?_)⟩
    · have h3' : dig a j ≠ dig b j := by simp at h3; omega
      have hne : a ≠ b := fun h => h3' (by rw [h])
      simp only [go_sem, reduceCtorEq, Nat.reduceEqDiff, Nat.reduceAdd, Nat.reduceMul, Nat.reduceSub, Nat.reduceLeDiff, Nat.reduceLT, Int.reduceMul, Int.reduceAdd, Int.reduceSub, Int.reduceToNat, biq, isDs_ints, if_neg hne, ints_cells (show j < (digs a).length by omega), ints_get (show j < (digs a).length by omega), ints_cells (show j < (digs b).length by omega), ints_get (show j < (digs b).length by omega), eg1, eg2]
      refine ⟨by omega, by omega, cond_split (fun h4 => ?_) (fun h4 => ?_)⟩
      · have := lt_of_dig hab (show dig a j < dig b j by simpa using h4)
        simp only [go_sem, reduceCtorEq, Nat.reduceEqDiff, Nat.reduceAdd, Nat.reduceMul, Nat.reduceSub, Nat.reduceLeDiff, Nat.reduceLT, Int.reduceMul, Int.reduceAdd, Int.reduceSub, Int.reduceToNat, biq, isDs_ints, if_pos this]
        simp (disch := first | assumption | omega | (simp; done) | (simp; omega) | (simp only [bt, and_true]; first | done | omega | (simp; done))) [↓zlf, beq, ybc, ybd, ybe, endOk, wk, wk2, wk1, wkM, wkL, wkLL, ybf, hcl]
      · have := lt_of_dig hab.symm (show dig b j < dig a j by simp at h4; omega)
        simp only [go_sem, reduceCtorEq, Nat.reduceEqDiff, Nat.reduceAdd, Nat.reduceMul, Nat.reduceSub, Nat.reduceLeDiff, Nat.reduceLT, Int.reduceMul, Int.reduceAdd, Int.reduceSub, Int.reduceToNat, biq, isDs_ints, if_neg (show ¬ a < b by omega)]
        simp (disch := first | assumption | omega | (simp; done) | (simp; omega) | (simp only [bt, and_true]; first | done | omega | (simp; done))) [↓zlf, beq, ybc, ybd, ybe, endOk, wk, wk2, wk1, wkM, wkL, wkLL, ybf, hcl]
    · have h3' : dig a j = dig b j := by simp at h3; omega
      simp only [go_sem, reduceCtorEq, Nat.reduceEqDiff, Nat.reduceAdd, Nat.reduceMul, Nat.reduceSub, Nat.reduceLeDiff, Nat.reduceLT, Int.reduceMul, Int.reduceAdd, Int.reduceSub, Int.reduceToNat, biq, isDs_ints, e3]
      refine ⟨j, ⟨by omega, same_above hab h3'⟩, by omega, ?_⟩
      simp only [bnq, enter, subF, ltF, ne_eq, Nat.reduceEqDiff, reduceCtorEq, true_or, and_true]
  · have h2' : k = 0 := by simp at h2; omega
    subst h2'
    have he : a = b := by simpa using hab
    simp only [go_sem, reduceCtorEq, Nat.reduceEqDiff, Nat.reduceAdd, Nat.reduceMul, Nat.reduceSub, Nat.reduceLeDiff, Nat.reduceLT, Int.reduceMul, Int.reduceAdd, Int.reduceSub, Int.reduceToNat, biq, isDs_ints, if_pos he]
    simp (disch := first | assumption | omega | (simp; done) | (simp; omega) | (simp only [bt, and_true]; first | done | omega | (simp; done))) [↓zlf, beq, ybc, ybd, ybe, endOk, wk, wk2, wk1, wkM, wkL, wkLL, ybf, hcl]

/-- a number with its sign in memory -/
def rAV (m : Bool) (n : Nat) : AV := .agg [.bool (m && n != 0), .slice .any 1 (ints (digs n))]
theorem rAV_done {m mm : Bool} {x : List Nat} (h1 : isD x) (h2 : x.getLast? ≠ some 0) (h3 : mm = (m && x != [])) : AV.agg [AV.bool mm, AV.slice .any 1 (ints x)] = rAV m (dv x) := by
  have e := digs_self h1 h2
  unfold rAV
  rw [e, h3]
  have : (x != []) = (dv x != 0) := by
    cases x with
    | nil => rfl
    | cons a x =>
      have : dv (a :: x) ≠ 0 := fun h0 => by rw [h0, digs_zero] at e; cases e
      rw [bne_iff_ne.2 this]; rfl
  rw [this]
def p_rTrim : List AV → AHeap → (AV → Prop) → Prop
  | [.bool m, .slice _ 1 l], _, K => (isDs l ∧ l.length ≤ 100000) ∧ K (rAV m (dv (uni l)))
  | _, _, _ => False
set_option maxHeartbeats 1000000 in
theorem ok_rTrim : EntOk Try.prog 192 (Ent.pure p_rTrim) := by
  refine EntOk.pure fun args H K h => ?_
  unfold p_rTrim at h
  split at h
  rotate_left
  · exact h.elim
  rename_i m mk l
  obtain ⟨⟨c1, l1⟩, hK⟩ := h
  refine ⟨_, hK, ?_⟩
  obtain ⟨xs, rfl, hx⟩ := isDs_out c1
  rw [uni_ints]
  rw [ints_length] at l1
  clear hK c1
  refine ACalls.of_aw (Ω := []) (T := assoc []) mixed TblOk.nil Try.func192 (by kernel_rfl) (by rfl) (rs := [.cell 4 146]) (by rfl) (by kernel_rfl) (by simp only [Try.ntmps192, yaz, yba]; decide) (Nat.le_refl _) fun hcl hlt => ?_
  change aw _ _ _ (KI Try.prog [] (aEnd Try.prog [.cell 4 146] H.nx _ _) []) _ _
  clear hlt
  simp only [go_sem, reduceCtorEq, Nat.reduceEqDiff, Nat.reduceAdd, Nat.reduceMul, Nat.reduceSub, Nat.reduceLeDiff, Nat.reduceLT, Int.reduceMul, Int.reduceAdd, Int.reduceSub, Int.reduceToNat, biq, isDs_ints]
  refine loop_introW (A := List Nat) (fun x => [(1, .slice .any 1 (ints x)), (0, .bool m), (4, .ptr H.nx 0)])
    (fun x => H.push (.cells [.bool false, .slice .nil 1 []])) (fun x => isD x ∧ dv x = dv xs ∧ x.length ≤ 100000) (fun x => x.length) xs ⟨hx, rfl, l1⟩ ?_ fun x hI => ?_
  · (simp only [bkq, enterW, subW, ltF, ne_eq, Nat.reduceEqDiff, reduceCtorEq]; try simp (disch := first | assumption | omega | (simp; done) | (simp; omega) | (simp only [bt, and_true]; first | done | omega | (simp; done))) [↓zlf, beq, ybc, ybd, ybe, endOk, wk, wk2, wk1, wkM, wkL, wkLL, ybf, byq, biq, isDs_ints, hcl]; try (repeat' (first | assumption | omega | exact True.intro | refine And.intro ?_ ?_ | refine closed_buf ?_ | refine closed_set_buf ?_ | refine closed_cells ?_ ?_ | refine closed_set ?_ ?_ | refine closed_del ?_ | exact AHeap.Le.refl _ | refine AHeap.Le.push ?_ _ | refine AHeap.Le.del ?_ ?_ | (simp only [bt, and_true, true_and]; first | done | omega | (simp; done)))))
  obtain ⟨hxd, hdv, hxl⟩ := hI
  rw [← hdv]
  rcases List.eq_nil_or_concat x with rfl | ⟨y, d, rfl⟩
  · have hd : decide (((0 : Nat) : Int) > 0) = false := rfl
    have ff : AV.agg [AV.bool false, AV.slice .any 1 []] = rAV m (dv []) := rAV_done hxd (by simp) (by cases m <;> rfl)
    simp only [go_sem, reduceCtorEq, Nat.reduceEqDiff, Nat.reduceAdd, Nat.reduceMul, Nat.reduceSub, Nat.reduceLeDiff, Nat.reduceLT, Int.reduceMul, Int.reduceAdd, Int.reduceSub, Int.reduceToNat, biq, isDs_ints, zau, hd]
    refine both_split (fun h1 => ?_) (fun h1 => ?_)
    all_goals
      try simp only [go_sem, reduceCtorEq, Nat.reduceEqDiff, Nat.reduceAdd, Nat.reduceMul, Nat.reduceSub, Nat.reduceLeDiff, Nat.reduceLT, Int.reduceMul, Int.reduceAdd, Int.reduceSub, Int.reduceToNat, biq, isDs_ints, zau, hd]
      rw [← ff]
      simp (disch := first | assumption | omega | (simp; done) | (simp; omega) | (simp only [bt, and_true]; first | done | omega | (simp; done))) [↓zlf, beq, ybc, ybd, ybe, endOk, wk, wk2, wk1, wkM, wkL, wkLL, ybf, hcl]
  · rw [List.concat_eq_append] at *
    rw [List.length_append, List.length_singleton] at hxl
    have e1 : IntKind.i64.wrap (((y ++ [d]).length : Int) - 1) = ((y.length : Nat) : Int) := by simp; rw [wrap_i64] <;> omega
    have hlen : y.length < (y ++ [d]).length := by simp
    have hd : decide (((y ++ [d]).length : Int) > 0) = true := decide_eq_true (by simp)
    have eg : (y ++ [d]).getD y.length 0 = d := by simp [List.getD_eq_getElem?_getD]
    have et : (y ++ [d]).take y.length = y := by simp
    simp only [go_sem, reduceCtorEq, Nat.reduceEqDiff, Nat.reduceAdd, Nat.reduceMul, Nat.reduceSub, Nat.reduceLeDiff, Nat.reduceLT, Int.reduceMul, Int.reduceAdd, Int.reduceSub, Int.reduceToNat, biq, isDs_ints, hd, e1, ints_cells hlen, eg]
    refine ⟨by omega, cond_split (fun h1 => ?_) (fun h1 => ?_)⟩
    · have h1' : d = 0 := by simp at h1; omega
      simp only [go_sem, reduceCtorEq, Nat.reduceEqDiff, Nat.reduceAdd, Nat.reduceMul, Nat.reduceSub, Nat.reduceLeDiff, Nat.reduceLT, Int.reduceMul, Int.reduceAdd, Int.reduceSub, Int.reduceToNat, biq, isDs_ints, e1, et, yap]
      refine ⟨by omega, y, ⟨fun x hx => hxd x (by simp [hx]), ?_, by omega⟩, by simp, ?_⟩
      · rw [dv_append, h1']; simp [dv]
      · (simp only [bkq, enterW, subW, ltF, ne_eq, Nat.reduceEqDiff, reduceCtorEq]; try simp (disch := first | assumption | omega | (simp; done) | (simp; omega) | (simp only [bt, and_true]; first | done | omega | (simp; done))) [↓zlf, beq, ybc, ybd, ybe, endOk, wk, wk2, wk1, wkM, wkL, wkLL, ybf, byq, biq, isDs_ints, hcl]; try (repeat' (first | assumption | omega | exact True.intro | refine And.intro ?_ ?_ | refine closed_buf ?_ | refine closed_set_buf ?_ | refine closed_cells ?_ ?_ | refine closed_set ?_ ?_ | refine closed_del ?_ | exact AHeap.Le.refl _ | refine AHeap.Le.push ?_ _ | refine AHeap.Le.del ?_ ?_ | (simp only [bt, and_true, true_and]; first | done | omega | (simp; done)))))
    · have h1' : d ≠ 0 := by simp at h1; omega
      have ff : AV.agg [AV.bool (m && true), AV.slice .any 1 (ints (y ++ [d]))] = rAV m (dv (y ++ [d])) := rAV_done hxd (by simp; exact h1') (by simp)
      simp only [go_sem, reduceCtorEq, Nat.reduceEqDiff, Nat.reduceAdd, Nat.reduceMul, Nat.reduceSub, Nat.reduceLeDiff, Nat.reduceLT, Int.reduceMul, Int.reduceAdd, Int.reduceSub, Int.reduceToNat, biq, isDs_ints, hd, zau, h1]
      rw [← ff]
      refine both_split (fun h1 => ?_) (fun h1 => ?_)
      all_goals
        subst h1
        try simp only [go_sem, reduceCtorEq, Nat.reduceEqDiff, Nat.reduceAdd, Nat.reduceMul, Nat.reduceSub, Nat.reduceLeDiff, Nat.reduceLT, Int.reduceMul, Int.reduceAdd, Int.reduceSub, Int.reduceToNat, biq, isDs_ints]
        simp (disch := first | assumption | omega | (simp; done) | (simp; omega) | (simp only [bt, and_true]; first | done | omega | (simp; done))) [↓zlf, beq, ybc, ybd, ybe, endOk, wk, wk2, wk1, wkM, wkL, wkLL, ybf, hcl]
end Go.AL

