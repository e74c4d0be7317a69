/- Contracts and plain laws, a part of the proof; no condition of its own. -/
import Derived.Test.YtepgdamgklfnmaaS10j
open List renaming length_cons → yaz, length_nil → yba, cons_append → yal, nil_append → yak, take_of_length_le → ybc, drop_append → ybd, take_append → ybe, drop_eq_nil_of_le → ybf
open Go Go.AL Go.Proofs
namespace Go.AL
set_option linter.all false
set_option maxRecDepth 10000

def coversM (m : SMatch) (kind bits : Int) (v : Nat) : Bool :=
  if m.present = false then decide (1 ≤ kind ∧ kind ≤ 4)
  else if kind = 1 then decide (v = m.value)
  else if kind = 2 then decide (v &&& leadN bits m.pfx = m.value &&& leadN bits m.pfx)
  else if kind = 3 then decide (v &&& m.mask = m.value)
  else if kind = 4 then decide (m.value ≤ v ∧ v ≤ m.high)
  else false
structure MOk (m : SMatch) : Prop where
  v : m.value < 2 ^ 128
  k : m.mask < 2 ^ 128
  h : m.high < 2 ^ 128
theorem isV_out {a b : Int} (h : isV a b) : ∃ x : Nat, x < 2 ^ 128 ∧ a = ((x / 2 ^ 64 : Nat) : Int) ∧ b = ((x % 2 ^ 64 : Nat) : Int) ∧ vOf a.toNat b.toNat = x := by
  obtain ⟨h0, h1, h2, h3⟩ := h
  obtain ⟨x, rfl⟩ := u64_lift h0
  obtain ⟨y, rfl⟩ := u64_lift h2
  have hy : y < 2 ^ 64 := by omega
  refine ⟨vOf x y, vOf_lt (by omega) hy, by rw [vOf_hi hy], by rw [vOf_lo hy], by simp only [Int.toNat_natCast]⟩
theorem val_eq {x y : Nat} : ((((x / 2 ^ 64 : Nat) : Int) == ((y / 2 ^ 64 : Nat) : Int)) && ((((x % 2 ^ 64 : Nat) : Int) == ((y % 2 ^ 64 : Nat) : Int)) && true)) = decide (x = y) := by
  rw [Bool.eq_iff_iff]
  simp only [Bool.and_eq_true, beq_iff_eq, decide_eq_true_eq, and_true]
  omega
theorem val_eq' {x y : Nat} : ((((x / 2 ^ 64 : Nat) : Int) == ((y / 2 ^ 64 : Nat) : Int)) && (((x % 2 ^ 64 : Nat) : Int) == ((y % 2 ^ 64 : Nat) : Int))) = decide (x = y) := by
  rw [← val_eq, Bool.and_true]
theorem isV_of {x : Nat} (h : x < 2 ^ 128) : isV ((x / 2 ^ 64 : Nat) : Int) ((x % 2 ^ 64 : Nat) : Int) = True := eq_true (by unfold isV; omega)
theorem cmpN_le {x y : Nat} : decide (cmpN x y ≤ 0) = decide (x ≤ y) := by
  unfold cmpN
  rw [decide_eq_decide]
  split
  · simp; omega
  · split <;> simp <;> omega
def p_eCovers : List AV → AHeap → (AV → Prop) → Prop
  | [.agg l, .int .i64 k, .int .i64 w, .agg [.int .u64 a, .int .u64 b]], _, K => ∃ m : SMatch, (l = matchC m ∧ MOk m ∧ isV a b) ∧ K (.bool (coversM m k w (vOf a.toNat b.toNat)))
  | _, _, _ => False
set_option maxHeartbeats 4000000 in
theorem ok_eCovers : EntOk Try.prog 49 (Ent.pure p_eCovers) := by
  refine EntOk.pure fun args H K h => ?_
  unfold p_eCovers at h
  split at h
  rotate_left
  · exact h.elim
  rename_i l k w a b
  obtain ⟨m, ⟨rfl, ⟨hv, hk, hh⟩, hab⟩, hK⟩ := h
  refine ⟨_, hK, ?_⟩
  clear hK
  obtain ⟨x, hx, rfl, rfl, e⟩ := isV_out hab
  rw [e]
  clear e hab
  obtain ⟨pr, v, mk, pf, hi⟩ := m
  dsimp only at hv hk hh
  have i1 := isV_of hx
  have i2 := isV_of hv
  have i3 := isV_of hk
  have i4 := isV_of hh
  have hL := leadN_lt w pf
  have i5 := isV_of hL
  cases pr
  · have e1 : coversM ⟨false, v, mk, pf, hi⟩ k w x = decide (1 ≤ k ∧ k ≤ 4) := rfl
    rw [e1]
    by_cases h1 : 1 ≤ k
    · have d1 : decide (k ≥ 1) = true := decide_eq_true h1
      have d2 : decide (1 ≤ k ∧ k ≤ 4) = decide (k ≤ 4) := by rw [decide_eq_decide]; omega
      rw [d2]
      refine ACalls.of_aw (Ω := [(79, Ent.pure p_vLeading), (80, Ent.pure p_vAnd), (42, Ent.pure p_vCompare)]) (T := assoc [(8, [[], [], [0, 1], [], [], [], [0, 1, 2, 4, 5]]), (10, [[], [], [], [0, 2]])]) mixed (TblOk.cons ok_vLeading (TblOk.cons ok_vAnd (TblOk.cons ok_vCompare TblOk.nil))) Try.func49 (by kernel_rfl) (by rfl) (rs := [.tmp 8]) (by rfl) (by kernel_rfl) (by simp only [Try.ntmps49, yaz, yba]; decide) (Nat.le_refl _) fun hcl hlt => ?_
      change aw _ _ _ (KI Try.prog [(79, Ent.pure p_vLeading), (80, Ent.pure p_vAnd), (42, Ent.pure p_vCompare)] (aEnd Try.prog [.tmp 8] H.nx _ _ (assoc [(8, [[], [], [0, 1], [], [], [], [0, 1, 2, 4, 5]]), (10, [[], [], [], [0, 2]])])) []) _ _
      clear hlt
      simp only [go_sem, reduceCtorEq, Nat.reduceEqDiff, Nat.reduceAdd, Nat.reduceMul, Nat.reduceSub, Nat.reduceLeDiff, Nat.reduceLT, Int.reduceMul, Int.reduceAdd, Int.reduceSub, Int.reduceToNat, matchC, vc, yal, yak, d1]
      simp (disch := first | assumption | omega | (simp; done) | (simp; omega) | (simp only [bt, and_true]; first | done | omega | (simp; done))) [↓zlu, beq, ybc, ybd, ybe, endOk, wk, wk2, wk1, wkM, wkL, wkLL, ybf, hcl]
    · have d1 : decide (k ≥ 1) = false := decide_eq_false h1
      have d2 : decide (1 ≤ k ∧ k ≤ 4) = false := decide_eq_false (by omega)
      rw [d2]
      refine ACalls.of_aw (Ω := [(79, Ent.pure p_vLeading), (80, Ent.pure p_vAnd), (42, Ent.pure p_vCompare)]) (T := assoc [(8, [[], [], [0, 1], [], [], [], [0, 1, 2, 4, 5]]), (10, [[], [], [], [0, 2]])]) mixed (TblOk.cons ok_vLeading (TblOk.cons ok_vAnd (TblOk.cons ok_vCompare TblOk.nil))) Try.func49 (by kernel_rfl) (by rfl) (rs := [.tmp 8]) (by rfl) (by kernel_rfl) (by simp only [Try.ntmps49, yaz, yba]; decide) (Nat.le_refl _) fun hcl hlt => ?_
      change aw _ _ _ (KI Try.prog [(79, Ent.pure p_vLeading), (80, Ent.pure p_vAnd), (42, Ent.pure p_vCompare)] (aEnd Try.prog [.tmp 8] H.nx _ _ (assoc [(8, [[], [], [0, 1], [], [], [], [0, 1, 2, 4, 5]]), (10, [[], [], [], [0, 2]])])) []) _ _
      clear hlt
      simp only [go_sem, reduceCtorEq, Nat.reduceEqDiff, Nat.reduceAdd, Nat.reduceMul, Nat.reduceSub, Nat.reduceLeDiff, Nat.reduceLT, Int.reduceMul, Int.reduceAdd, Int.reduceSub, Int.reduceToNat, matchC, vc, yal, yak, d1]
      simp (disch := first | assumption | omega | (simp; done) | (simp; omega) | (simp only [bt, and_true]; first | done | omega | (simp; done))) [↓zlu, beq, ybc, ybd, ybe, endOk, wk, wk2, wk1, wkM, wkL, wkLL, ybf, hcl]
  have e1 : coversM ⟨true, v, mk, pf, hi⟩ k w x = if k = 1 then decide (x = v) else if k = 2 then decide (x &&& leadN w pf = v &&& leadN w pf) else if k = 3 then decide (x &&& mk = v) else if k = 4 then decide (v ≤ x ∧ x ≤ hi) else false := rfl
  rw [e1]
  by_cases k1 : k = 1
  · subst k1
    rw [if_pos rfl]
    refine ACalls.of_aw (Ω := [(79, Ent.pure p_vLeading), (80, Ent.pure p_vAnd), (42, Ent.pure p_vCompare)]) (T := assoc [(8, [[], [], [0, 1], [], [], [], [0, 1, 2, 4, 5]]), (10, [[], [], [], [0, 2]])]) mixed (TblOk.cons ok_vLeading (TblOk.cons ok_vAnd (TblOk.cons ok_vCompare TblOk.nil))) Try.func49 (by kernel_rfl) (by rfl) (rs := [.tmp 8]) (by rfl) (by kernel_rfl) (by simp only [Try.ntmps49, yaz, yba]; decide) (Nat.le_refl _) fun hcl hlt => ?_
    change aw _ _ _ (KI Try.prog [(79, Ent.pure p_vLeading), (80, Ent.pure p_vAnd), (42, Ent.pure p_vCompare)] (aEnd Try.prog [.tmp 8] H.nx _ _ (assoc [(8, [[], [], [0, 1], [], [], [], [0, 1, 2, 4, 5]]), (10, [[], [], [], [0, 2]])])) []) _ _
    clear hlt
    simp only [go_sem, reduceCtorEq, Nat.reduceEqDiff, Nat.reduceAdd, Nat.reduceMul, Nat.reduceSub, Nat.reduceLeDiff, Nat.reduceLT, Int.reduceMul, Int.reduceAdd, Int.reduceSub, Int.reduceToNat, matchC, vc, yal, yak, beq_self_eq_true, teq_valV, eqg_valV, Bool.bne_false, val_eq, val_eq']
    simp (disch := first | assumption | omega | (simp; done) | (simp; omega) | (simp only [bt, and_true]; first | done | omega | (simp; done))) [↓zlu, beq, ybc, ybd, ybe, endOk, wk, wk2, wk1, wkM, wkL, wkLL, ybf, hcl]
  rw [if_neg k1]
  have b1 : (k == 1) = false := by simpa using k1
  by_cases k2 : k = 2
  · subst k2
    rw [if_pos rfl]
    have c1 : ((2 : Int) == 1) = false := rfl
    refine ACalls.of_aw (Ω := [(79, Ent.pure p_vLeading), (80, Ent.pure p_vAnd), (42, Ent.pure p_vCompare)]) (T := assoc [(8, [[], [], [0, 1], [], [], [], [0, 1, 2, 4, 5]]), (10, [[], [], [], [0, 2]])]) mixed (TblOk.cons ok_vLeading (TblOk.cons ok_vAnd (TblOk.cons ok_vCompare TblOk.nil))) Try.func49 (by kernel_rfl) (by rfl) (rs := [.tmp 8]) (by rfl) (by kernel_rfl) (by simp only [Try.ntmps49, yaz, yba]; decide) (Nat.le_refl _) fun hcl hlt => ?_
    change aw _ _ _ (KI Try.prog [(79, Ent.pure p_vLeading), (80, Ent.pure p_vAnd), (42, Ent.pure p_vCompare)] (aEnd Try.prog [.tmp 8] H.nx _ _ (assoc [(8, [[], [], [0, 1], [], [], [], [0, 1, 2, 4, 5]]), (10, [[], [], [], [0, 2]])])) []) _ _
    clear hlt
    simp only [go_sem, reduceCtorEq, Nat.reduceEqDiff, Nat.reduceAdd, Nat.reduceMul, Nat.reduceSub, Nat.reduceLeDiff, Nat.reduceLT, Int.reduceMul, Int.reduceAdd, Int.reduceSub, Int.reduceToNat, matchC, vc, yal, yak, c1, beq_self_eq_true, teq_valV, eqg_valV, Bool.bne_false, val_eq, val_eq', p_vLeading, p_vAnd, p2V, vv, i1, i2, i5, Int.toNat_natCast, vOf_back]
    (repeat with_reducible refine And.intro (by first | exact True.intro | decide | omega | (simp [zib, zge, zgf, zgg, zgi, zgh, zgm]; first | done | omega)) ?_)
    simp (disch := first | assumption | omega | (simp; done) | (simp; omega) | (simp only [bt, and_true]; first | done | omega | (simp; done))) [↓zlu, beq, ybc, ybd, ybe, endOk, wk, wk2, wk1, wkM, wkL, wkLL, ybf, hcl]
  rw [if_neg k2]
  have b2 : (k == 2) = false := by simpa using k2
  by_cases k3 : k = 3
  · subst k3
    rw [if_pos rfl]
    have c1 : ((3 : Int) == 1) = false := rfl
    have c2 : ((3 : Int) == 2) = false := rfl
    refine ACalls.of_aw (Ω := [(79, Ent.pure p_vLeading), (80, Ent.pure p_vAnd), (42, Ent.pure p_vCompare)]) (T := assoc [(8, [[], [], [0, 1], [], [], [], [0, 1, 2, 4, 5]]), (10, [[], [], [], [0, 2]])]) mixed (TblOk.cons ok_vLeading (TblOk.cons ok_vAnd (TblOk.cons ok_vCompare TblOk.nil))) Try.func49 (by kernel_rfl) (by rfl) (rs := [.tmp 8]) (by rfl) (by kernel_rfl) (by simp only [Try.ntmps49, yaz, yba]; decide) (Nat.le_refl _) fun hcl hlt => ?_
    change aw _ _ _ (KI Try.prog [(79, Ent.pure p_vLeading), (80, Ent.pure p_vAnd), (42, Ent.pure p_vCompare)] (aEnd Try.prog [.tmp 8] H.nx _ _ (assoc [(8, [[], [], [0, 1], [], [], [], [0, 1, 2, 4, 5]]), (10, [[], [], [], [0, 2]])])) []) _ _
    clear hlt
    simp only [go_sem, reduceCtorEq, Nat.reduceEqDiff, Nat.reduceAdd, Nat.reduceMul, Nat.reduceSub, Nat.reduceLeDiff, Nat.reduceLT, Int.reduceMul, Int.reduceAdd, Int.reduceSub, Int.reduceToNat, matchC, vc, yal, yak, c1, c2, beq_self_eq_true, teq_valV, eqg_valV, Bool.bne_false, val_eq, val_eq', p_vLeading, p_vAnd, p2V, vv, i1, i2, i3, i5, Int.toNat_natCast, vOf_back]
    (repeat with_reducible refine And.intro (by first | exact True.intro | decide | omega | (simp [zib, zge, zgf, zgg, zgi, zgh, zgm]; first | done | omega)) ?_)
    simp (disch := first | assumption | omega | (simp; done) | (simp; omega) | (simp only [bt, and_true]; first | done | omega | (simp; done))) [↓zlu, beq, ybc, ybd, ybe, endOk, wk, wk2, wk1, wkM, wkL, wkLL, ybf, hcl]
  rw [if_neg k3]
  have b3 : (k == 3) = false := by simpa using k3
  by_cases k4 : k = 4
  · subst k4
    rw [if_pos rfl]
    have c1 : ((4 : Int) == 1) = false := rfl
    have c2 : ((4 : Int) == 2) = false := rfl
    have c3 : ((4 : Int) == 3) = false := rfl
    by_cases hvx : v ≤ x
    · have d1 : decide (cmpN v x ≤ 0) = true := by rw [cmpN_le]; exact decide_eq_true hvx
      have d2 : decide (v ≤ x ∧ x ≤ hi) = decide (x ≤ hi) := by rw [decide_eq_decide]; omega
      rw [d2]
      refine ACalls.of_aw (Ω := [(79, Ent.pure p_vLeading), (80, Ent.pure p_vAnd), (42, Ent.pure p_vCompare)]) (T := assoc [(8, [[], [], [0, 1], [], [], [], [0, 1, 2, 4, 5]]), (10, [[], [], [], [0, 2]])]) mixed (TblOk.cons ok_vLeading (TblOk.cons ok_vAnd (TblOk.cons ok_vCompare TblOk.nil))) Try.func49 (by kernel_rfl) (by rfl) (rs := [.tmp 8]) (by rfl) (by kernel_rfl) (by simp only [Try.ntmps49, yaz, yba]; decide) (Nat.le_refl _) fun hcl hlt => ?_
      change aw _ _ _ (KI Try.prog [(79, Ent.pure p_vLeading), (80, Ent.pure p_vAnd), (42, Ent.pure p_vCompare)] (aEnd Try.prog [.tmp 8] H.nx _ _ (assoc [(8, [[], [], [0, 1], [], [], [], [0, 1, 2, 4, 5]]), (10, [[], [], [], [0, 2]])])) []) _ _
      clear hlt
      simp only [go_sem, reduceCtorEq, Nat.reduceEqDiff, Nat.reduceAdd, Nat.reduceMul, Nat.reduceSub, Nat.reduceLeDiff, Nat.reduceLT, Int.reduceMul, Int.reduceAdd, Int.reduceSub, Int.reduceToNat, matchC, vc, yal, yak, c1, c2, c3, beq_self_eq_true, p_vCompare, p2V, i1, i2, i4, Int.toNat_natCast, vOf_back, d1, cmpN_le]
      (repeat with_reducible refine And.intro (by first | exact True.intro | decide | omega | (simp [zib, zge, zgf, zgg, zgi, zgh, zgm]; first | done | omega)) ?_)
      simp (disch := first | assumption | omega | (simp; done) | (simp; omega) | (simp only [bt, and_true]; first | done | omega | (simp; done))) [↓zlu, beq, ybc, ybd, ybe, endOk, wk, wk2, wk1, wkM, wkL, wkLL, ybf, hcl]
    · have d1 : decide (cmpN v x ≤ 0) = false := by rw [cmpN_le]; exact decide_eq_false hvx
      have d2 : decide (v ≤ x ∧ x ≤ hi) = false := decide_eq_false (by omega)
      rw [d2]
      refine ACalls.of_aw (Ω := [(79, Ent.pure p_vLeading), (80, Ent.pure p_vAnd), (42, Ent.pure p_vCompare)]) (T := assoc [(8, [[], [], [0, 1], [], [], [], [0, 1, 2, 4, 5]]), (10, [[], [], [], [0, 2]])]) mixed (TblOk.cons ok_vLeading (TblOk.cons ok_vAnd (TblOk.cons ok_vCompare TblOk.nil))) Try.func49 (by kernel_rfl) (by rfl) (rs := [.tmp 8]) (by rfl) (by kernel_rfl) (by simp only [Try.ntmps49, yaz, yba]; decide) (Nat.le_refl _) fun hcl hlt => ?_
      change aw _ _ _ (KI Try.prog [(79, Ent.pure p_vLeading), (80, Ent.pure p_vAnd), (42, Ent.pure p_vCompare)] (aEnd Try.prog [.tmp 8] H.nx _ _ (assoc [(8, [[], [], [0, 1], [], [], [], [0, 1, 2, 4, 5]]), (10, [[], [], [], [0, 2]])])) []) _ _
      clear hlt
      simp only [go_sem, reduceCtorEq, Nat.reduceEqDiff, Nat.reduceAdd, Nat.reduceMul, Nat.reduceSub, Nat.reduceLeDiff, Nat.reduceLT, Int.reduceMul, Int.reduceAdd, Int.reduceSub, Int.reduceToNat, matchC, vc, yal, yak, c1, c2, c3, beq_self_eq_true, p_vCompare, p2V, i1, i2, i4, Int.toNat_natCast, vOf_back, d1, cmpN_le]
      (repeat with_reducible refine And.intro (by first | exact True.intro | decide | omega | (simp [zib, zge, zgf, zgg, zgi, zgh, zgm]; first | done | omega)) ?_)
      simp (disch := first | assumption | omega | (simp; done) | (simp; omega) | (simp only [bt, and_true]; first | done | omega | (simp; done))) [↓zlu, beq, ybc, ybd, ybe, endOk, wk, wk2, wk1, wkM, wkL, wkLL, ybf, hcl]
  rw [if_neg k4]
  have b4 : (k == 4) = false := by simpa using k4
  refine ACalls.of_aw (Ω := [(79, Ent.pure p_vLeading), (80, Ent.pure p_vAnd), (42, Ent.pure p_vCompare)]) (T := assoc [(8, [[], [], [0, 1], [], [], [], [0, 1, 2, 4, 5]]), (10, [[], [], [], [0, 2]])]) mixed (TblOk.cons ok_vLeading (TblOk.cons ok_vAnd (TblOk.cons ok_vCompare TblOk.nil))) Try.func49 (by kernel_rfl) (by rfl) (rs := [.tmp 8]) (by rfl) (by kernel_rfl) (by simp only [Try.ntmps49, yaz, yba]; decide) (Nat.le_refl _) fun hcl hlt => ?_
  change aw _ _ _ (KI Try.prog [(79, Ent.pure p_vLeading), (80, Ent.pure p_vAnd), (42, Ent.pure p_vCompare)] (aEnd Try.prog [.tmp 8] H.nx _ _ (assoc [(8, [[], [], [0, 1], [], [], [], [0, 1, 2, 4, 5]]), (10, [[], [], [], [0, 2]])])) []) _ _
  clear hlt
  simp only [go_sem, reduceCtorEq, Nat.reduceEqDiff, Nat.reduceAdd, Nat.reduceMul, Nat.reduceSub, Nat.reduceLeDiff, Nat.reduceLT, Int.reduceMul, Int.reduceAdd, Int.reduceSub, Int.reduceToNat, matchC, vc, yal, yak, b1, b2, b3, b4]
  simp (disch := first | assumption | omega | (simp; done) | (simp; omega) | (simp only [bt, and_true]; first | done | omega | (simp; done))) [↓zlu, beq, ybc, ybd, ybe, endOk, wk, wk2, wk1, wkM, wkL, wkLL, ybf, hcl]
end Go.AL


open Go Go.AL Go.Proofs
namespace Go.AL
set_option linter.all false
set_option maxRecDepth 10000

/-- entries and points as functions take them -/
structure EOk (e : SEntry) : Prop where
  ml : e.ms.length ≤ 140737488355328
  al : e.args.length ≤ 140737488355328
  mo : ∀ m ∈ e.ms, MOk m
end Go.AL

