/- Contracts and plain laws, a part of the proof; no condition of its own. -/
import Derived.Test.YtepgdamgklfnmaaS10l
open List renaming length_cons → yaz, length_nil → yba, take_of_length_le → ybc, drop_append → ybd, take_append → ybe, drop_eq_nil_of_le → ybf, map_nil → yaf, length_map → ybb, cons_append → yal, nil_append → yak, append_nil → yaj, take_succ_cons → yaq, take_zero → yar, drop_succ_cons → yao, drop_zero → yap, take_nil → yas
open Go Go.AL Go.Proofs
namespace Go.AL
set_option linter.all false
set_option maxRecDepth 10000

def usedM (m : SMatch) (kind : Int) : SMatch := ⟨true, m.value, if kind = 3 then m.mask else 0, if kind = 2 then m.pfx else 0, if kind = 4 then m.high else 0⟩
def formedM (m : SMatch) (kind : Int) : Bool := if m.present = false then decide (m = noMatch) && decide (kind ≠ 1) else decide (m = usedM m kind)
theorem eqg_matchV : Try.prog.eqGuardType Try.prog.depth 88 = false := by kernel_rfl
theorem teq_matchV {m n : SMatch} : teq Try.prog 9 88 (.agg [.bool m.present, .int .u64 ((m.value / 2 ^ 64 : Nat) : Int), .int .u64 ((m.value % 2 ^ 64 : Nat) : Int), .int .u64 ((m.mask / 2 ^ 64 : Nat) : Int), .int .u64 ((m.mask % 2 ^ 64 : Nat) : Int), .int .i64 m.pfx, .int .u64 ((m.high / 2 ^ 64 : Nat) : Int), .int .u64 ((m.high % 2 ^ 64 : Nat) : Int)])
    (.agg [.bool n.present, .int .u64 ((n.value / 2 ^ 64 : Nat) : Int), .int .u64 ((n.value % 2 ^ 64 : Nat) : Int), .int .u64 ((n.mask / 2 ^ 64 : Nat) : Int), .int .u64 ((n.mask % 2 ^ 64 : Nat) : Int), .int .i64 n.pfx, .int .u64 ((n.high / 2 ^ 64 : Nat) : Int), .int .u64 ((n.high % 2 ^ 64 : Nat) : Int)]) = some (decide (m = n)) := by
  have g1 : Try.prog.stoodInHeld 88 = false := by kernel_rfl
  have g2 : Try.prog.stoodInHeld 29 = false := by kernel_rfl
  by_cases h : m = n
  · subst h
    simp [ti_smatch, ti_zvalue, teq, teq.go, teq.part, ti_zu64, ti_zint, ti_zbool, ceq, g1, g2, TD.agg]
  · rw [decide_eq_false h]
    obtain ⟨p, v, k, f, hh⟩ := m
    obtain ⟨p', v', k', f', h'⟩ := n
    dsimp only
    generalize h1 : v / 2 ^ 64 = a1
    generalize h2 : v % 2 ^ 64 = a2
    generalize h3 : v' / 2 ^ 64 = b1
    generalize h4 : v' % 2 ^ 64 = b2
    generalize h5 : k / 2 ^ 64 = a3
    generalize h6 : k % 2 ^ 64 = a4
    generalize h7 : k' / 2 ^ 64 = b3
    generalize h8 : k' % 2 ^ 64 = b4
    generalize h9 : hh / 2 ^ 64 = a5
    generalize h10 : hh % 2 ^ 64 = a6
    generalize h11 : h' / 2 ^ 64 = b5
    generalize h12 : h' % 2 ^ 64 = b6
    simp [ti_smatch, ti_zvalue, teq, teq.go, teq.part, ti_zu64, ti_zint, ti_zbool, ceq, g1, g2, TD.agg]
    intro q1 q2 q3 q4 q5 q6 q7 q8
    apply h
    rw [q1, q6, show v = v' by omega, show k = k' by omega, show hh = h' by omega]
def mAV8 (m : SMatch) : List AV := [.bool m.present, .int .u64 ((m.value / 2 ^ 64 : Nat) : Int), .int .u64 ((m.value % 2 ^ 64 : Nat) : Int), .int .u64 ((m.mask / 2 ^ 64 : Nat) : Int), .int .u64 ((m.mask % 2 ^ 64 : Nat) : Int), .int .i64 m.pfx, .int .u64 ((m.high / 2 ^ 64 : Nat) : Int), .int .u64 ((m.high % 2 ^ 64 : Nat) : Int)]
theorem matchC8 (m : SMatch) : matchC m = mAV8 m := rfl
def p_eUsed : List AV → AHeap → (AV → Prop) → Prop
  | [.agg l, .int .i64 k], _, K => ∃ m : SMatch, l = matchC m ∧ K (.agg (mAV8 (usedM m k)))
  | _, _, _ => False
theorem ok_eUsed : EntOk Try.prog 94 (Ent.pure p_eUsed) := by
  refine EntOk.pure fun args H K h => ?_
  unfold p_eUsed at h
  split at h
  rotate_left
  · exact h.elim
  rename_i l k
  obtain ⟨m, rfl, hK⟩ := h
  refine ⟨_, hK, ?_⟩
  clear hK
  rw [matchC8]
  unfold usedM mAV8
  by_cases k2 : k = 2
  · subst k2
    have c3 : ((2 : Int) = 3) = False := eq_false (by decide)
    have c4 : ((2 : Int) = 4) = False := eq_false (by decide)
    simp only [c3, c4, if_true, if_false]
    refine ACalls.of_aw (Ω := []) (T := assoc []) mixed TblOk.nil Try.func94 (by kernel_rfl) (by rfl) (rs := [.cell 4 88]) (by rfl) (by kernel_rfl) (by simp only [Try.ntmps94, yaz, yba]; decide) (Nat.le_refl _) fun hcl hlt => ?_
    change aw _ _ _ (KI Try.prog [] (aEnd Try.prog [.cell 4 88] H.nx _ _) []) _ _
    clear hlt
    simp only [go_sem, reduceCtorEq, Nat.reduceEqDiff, Nat.reduceAdd, Nat.reduceMul, Nat.reduceSub, Nat.reduceLeDiff, Nat.reduceLT, Int.reduceMul, Int.reduceAdd, Int.reduceSub, Int.reduceToNat, beq_self_eq_true]
    simp (disch := first | assumption | omega | (simp; done) | (simp; omega) | (simp only [bt, and_true]; first | done | omega | (simp; done))) [↓zlu, beq, ybc, ybd, ybe, endOk, wk, wk2, wk1, wkM, wkL, wkLL, ybf, hcl]
  by_cases k3 : k = 3
  · subst k3
    have c2 : ((3 : Int) == 2) = false := rfl
    have c2' : ((3 : Int) = 2) = False := eq_false (by decide)
    have c4 : ((3 : Int) = 4) = False := eq_false (by decide)
    simp only [c2', c4, if_true, if_false]
    refine ACalls.of_aw (Ω := []) (T := assoc []) mixed TblOk.nil Try.func94 (by kernel_rfl) (by rfl) (rs := [.cell 4 88]) (by rfl) (by kernel_rfl) (by simp only [Try.ntmps94, yaz, yba]; decide) (Nat.le_refl _) fun hcl hlt => ?_
    change aw _ _ _ (KI Try.prog [] (aEnd Try.prog [.cell 4 88] H.nx _ _) []) _ _
    clear hlt
    simp only [go_sem, reduceCtorEq, Nat.reduceEqDiff, Nat.reduceAdd, Nat.reduceMul, Nat.reduceSub, Nat.reduceLeDiff, Nat.reduceLT, Int.reduceMul, Int.reduceAdd, Int.reduceSub, Int.reduceToNat, c2, beq_self_eq_true]
    simp (disch := first | assumption | omega | (simp; done) | (simp; omega) | (simp only [bt, and_true]; first | done | omega | (simp; done))) [↓zlu, beq, ybc, ybd, ybe, endOk, wk, wk2, wk1, wkM, wkL, wkLL, ybf, hcl]
  by_cases k4 : k = 4
  · subst k4
    have c2 : ((4 : Int) == 2) = false := rfl
    have c3 : ((4 : Int) == 3) = false := rfl
    have c2' : ((4 : Int) = 2) = False := eq_false (by decide)
    have c3' : ((4 : Int) = 3) = False := eq_false (by decide)
    simp only [c2', c3', if_true, if_false]
    refine ACalls.of_aw (Ω := []) (T := assoc []) mixed TblOk.nil Try.func94 (by kernel_rfl) (by rfl) (rs := [.cell 4 88]) (by rfl) (by kernel_rfl) (by simp only [Try.ntmps94, yaz, yba]; decide) (Nat.le_refl _) fun hcl hlt => ?_
    change aw _ _ _ (KI Try.prog [] (aEnd Try.prog [.cell 4 88] H.nx _ _) []) _ _
    clear hlt
    simp only [go_sem, reduceCtorEq, Nat.reduceEqDiff, Nat.reduceAdd, Nat.reduceMul, Nat.reduceSub, Nat.reduceLeDiff, Nat.reduceLT, Int.reduceMul, Int.reduceAdd, Int.reduceSub, Int.reduceToNat, c2, c3, beq_self_eq_true]
    simp (disch := first | assumption | omega | (simp; done) | (simp; omega) | (simp only [bt, and_true]; first | done | omega | (simp; done))) [↓zlu, beq, ybc, ybd, ybe, endOk, wk, wk2, wk1, wkM, wkL, wkLL, ybf, hcl]
  have b2 : (k == 2) = false := by simpa using k2
  have b3 : (k == 3) = false := by simpa using k3
  have b4 : (k == 4) = false := by simpa using k4
  rw [if_neg k2, if_neg k3, if_neg k4]
  refine ACalls.of_aw (Ω := []) (T := assoc []) mixed TblOk.nil Try.func94 (by kernel_rfl) (by rfl) (rs := [.cell 4 88]) (by rfl) (by kernel_rfl) (by simp only [Try.ntmps94, yaz, yba]; decide) (Nat.le_refl _) fun hcl hlt => ?_
  change aw _ _ _ (KI Try.prog [] (aEnd Try.prog [.cell 4 88] H.nx _ _) []) _ _
  clear hlt
  simp only [go_sem, reduceCtorEq, Nat.reduceEqDiff, Nat.reduceAdd, Nat.reduceMul, Nat.reduceSub, Nat.reduceLeDiff, Nat.reduceLT, Int.reduceMul, Int.reduceAdd, Int.reduceSub, Int.reduceToNat, b2, b3, b4]
  simp (disch := first | assumption | omega | (simp; done) | (simp; omega) | (simp only [bt, and_true]; first | done | omega | (simp; done))) [↓zlu, beq, ybc, ybd, ybe, endOk, wk, wk2, wk1, wkM, wkL, wkLL, ybf, hcl]
def p_eFormed : List AV → AHeap → (AV → Prop) → Prop
  | [.agg l, .int .i64 k], _, K => ∃ m : SMatch, l = matchC m ∧ K (.bool (formedM m k))
  | _, _, _ => False
theorem ok_eFormed : EntOk Try.prog 75 (Ent.pure p_eFormed) := by
  refine EntOk.pure fun args H K h => ?_
  unfold p_eFormed at h
  split at h
  rotate_left
  · exact h.elim
  rename_i l k
  obtain ⟨m, rfl, hK⟩ := h
  refine ⟨_, hK, ?_⟩
  clear hK
  rw [matchC8]
  unfold formedM
  have tz := teq_matchV (m := m) (n := noMatch)
  have tu := teq_matchV (m := m) (n := usedM m k)
  change teq Try.prog 9 88 (.agg [.bool m.present, .int .u64 ((m.value / 2 ^ 64 : Nat) : Int), .int .u64 ((m.value % 2 ^ 64 : Nat) : Int), .int .u64 ((m.mask / 2 ^ 64 : Nat) : Int), .int .u64 ((m.mask % 2 ^ 64 : Nat) : Int), .int .i64 m.pfx, .int .u64 ((m.high / 2 ^ 64 : Nat) : Int), .int .u64 ((m.high % 2 ^ 64 : Nat) : Int)])
    (.agg [.bool false, .int .u64 0, .int .u64 0, .int .u64 0, .int .u64 0, .int .i64 0, .int .u64 0, .int .u64 0]) = _ at tz
  have kne : (k != 1) = decide (k ≠ 1) := by rw [Bool.eq_iff_iff]; simp
  cases hp : m.present
  · rw [if_pos rfl]
    rw [hp] at tz
    cases hz : decide (m = noMatch)
    · rw [Bool.false_and]
      rw [hz] at tz
      refine ACalls.of_aw (Ω := [(94, Ent.pure p_eUsed)]) (T := assoc [(3, [[], [], [], [1]])]) mixed (TblOk.cons ok_eUsed TblOk.nil) Try.func75 (by kernel_rfl) (by rfl) (rs := [.tmp 4]) (by rfl) (by kernel_rfl) (by simp only [Try.ntmps75, yaz, yba]; decide) (Nat.le_refl _) fun hcl hlt => ?_
      change aw _ _ _ (KI Try.prog [(94, Ent.pure p_eUsed)] (aEnd Try.prog [.tmp 4] H.nx _ _ (assoc [(3, [[], [], [], [1]])])) []) _ _
      clear hlt
      simp only [go_sem, reduceCtorEq, Nat.reduceEqDiff, Nat.reduceAdd, Nat.reduceMul, Nat.reduceSub, Nat.reduceLeDiff, Nat.reduceLT, Int.reduceMul, Int.reduceAdd, Int.reduceSub, Int.reduceToNat, mAV8, hp, tz, eqg_matchV, Bool.bne_false]
      (repeat with_reducible refine And.intro (by first | exact True.intro | decide | omega | (simp [zib, zge, zgf, zgg, zgi, zgh, zgm]; first | done | omega)) ?_)
      simp (disch := first | assumption | omega | (simp; done) | (simp; omega) | (simp only [bt, and_true]; first | done | omega | (simp; done))) [↓zlu, beq, ybc, ybd, ybe, endOk, wk, wk2, wk1, wkM, wkL, wkLL, ybf, hcl]
    · rw [Bool.true_and]
      rw [hz] at tz
      refine ACalls.of_aw (Ω := [(94, Ent.pure p_eUsed)]) (T := assoc [(3, [[], [], [], [1]])]) mixed (TblOk.cons ok_eUsed TblOk.nil) Try.func75 (by kernel_rfl) (by rfl) (rs := [.tmp 4]) (by rfl) (by kernel_rfl) (by simp only [Try.ntmps75, yaz, yba]; decide) (Nat.le_refl _) fun hcl hlt => ?_
      change aw _ _ _ (KI Try.prog [(94, Ent.pure p_eUsed)] (aEnd Try.prog [.tmp 4] H.nx _ _ (assoc [(3, [[], [], [], [1]])])) []) _ _
      clear hlt
      simp only [go_sem, reduceCtorEq, Nat.reduceEqDiff, Nat.reduceAdd, Nat.reduceMul, Nat.reduceSub, Nat.reduceLeDiff, Nat.reduceLT, Int.reduceMul, Int.reduceAdd, Int.reduceSub, Int.reduceToNat, mAV8, hp, tz, eqg_matchV, Bool.bne_false, kne]
      (repeat with_reducible refine And.intro (by first | exact True.intro | decide | omega | (simp [zib, zge, zgf, zgg, zgi, zgh, zgm]; first | done | omega)) ?_)
      simp (disch := first | assumption | omega | (simp; done) | (simp; omega) | (simp only [bt, and_true]; first | done | omega | (simp; done))) [↓zlu, beq, ybc, ybd, ybe, endOk, wk, wk2, wk1, wkM, wkL, wkLL, ybf, hcl]
  · rw [if_neg (by decide)]
    rw [hp] at tu
    refine ACalls.of_aw (Ω := [(94, Ent.pure p_eUsed)]) (T := assoc [(3, [[], [], [], [1]])]) mixed (TblOk.cons ok_eUsed TblOk.nil) Try.func75 (by kernel_rfl) (by rfl) (rs := [.tmp 4]) (by rfl) (by kernel_rfl) (by simp only [Try.ntmps75, yaz, yba]; decide) (Nat.le_refl _) fun hcl hlt => ?_
    change aw _ _ _ (KI Try.prog [(94, Ent.pure p_eUsed)] (aEnd Try.prog [.tmp 4] H.nx _ _ (assoc [(3, [[], [], [], [1]])])) []) _ _
    clear hlt
    simp only [go_sem, reduceCtorEq, Nat.reduceEqDiff, Nat.reduceAdd, Nat.reduceMul, Nat.reduceSub, Nat.reduceLeDiff, Nat.reduceLT, Int.reduceMul, Int.reduceAdd, Int.reduceSub, Int.reduceToNat, mAV8, hp, p_eUsed]
    (repeat with_reducible refine And.intro (by first | exact True.intro | decide | omega | (simp [zib, zge, zgf, zgg, zgi, zgh, zgm]; first | done | omega)) ?_)
    refine ⟨m, by rw [matchC8]; unfold mAV8; rw [hp], ?_⟩
    simp only [blkP, go_sem, reduceCtorEq, Nat.reduceEqDiff, Nat.reduceAdd, Nat.reduceMul, Nat.reduceSub, Nat.reduceLeDiff, Nat.reduceLT, Int.reduceMul, Int.reduceAdd, Int.reduceSub, Int.reduceToNat, mAV8, tu, eqg_matchV, Bool.bne_false]
    (repeat with_reducible refine And.intro (by first | exact True.intro | decide | omega | (simp [zib, zge, zgf, zgg, zgi, zgh, zgm]; first | done | omega)) ?_)
    simp (disch := first | assumption | omega | (simp; done) | (simp; omega) | (simp only [bt, and_true]; first | done | omega | (simp; done))) [↓zlu, beq, ybc, ybd, ybe, endOk, wk, wk2, wk1, wkM, wkL, wkLL, ybf, hcl]
def properM (m : SMatch) (k w : Int) : Bool :=
  if ((bl m.value : Nat) : Int) ≤ w ∧ ((bl m.mask : Nat) : Int) ≤ w ∧ ((bl m.high : Nat) : Int) ≤ w then
    (if k = 2 then decide (m.pfx ≥ 1 ∧ m.pfx ≤ w ∧ m.value &&& leadN w m.pfx = m.value)
    else if k = 3 then decide (m.mask ≠ 0 ∧ m.value &&& m.mask = m.value)
    else if k = 4 then decide (m.value ≤ m.high ∧ ¬ (m.value = 0 ∧ m.high = onesN w))
    else true)
  else false
def p_eProper : List AV → AHeap → (AV → Prop) → Prop
  | [.agg l, .int .i64 k, .int .i64 w], _, K => ∃ m : SMatch, (l = matchC m ∧ MOk m) ∧ K (.bool (properM m k w))
  | _, _, _ => False
theorem val_ne0 {x : Nat} (h : x < 2 ^ 128) : ((((x / 2 ^ 64 : Nat) : Int) == 0) && ((((x % 2 ^ 64 : Nat) : Int) == 0) && true)) = decide (x = 0) := by
  rw [Bool.eq_iff_iff]
  simp only [Bool.and_eq_true, beq_iff_eq, decide_eq_true_eq, and_true]
  omega
set_option maxHeartbeats 4000000 in
theorem ok_eProper : EntOk Try.prog 76 (Ent.pure p_eProper) := by
  refine EntOk.pure fun args H K h => ?_
  unfold p_eProper at h
  split at h
  rotate_left
  · exact h.elim
  rename_i l k w
  obtain ⟨m, ⟨rfl, hv, hk, hh⟩, hK⟩ := h
  refine ⟨_, hK, ?_⟩
  clear hK
  rw [matchC8]
  obtain ⟨pr, v, mk, pf, hi⟩ := m
  dsimp only at hv hk hh
  unfold properM
  dsimp only
  have i2 := isV_of hv
  have i3 := isV_of hk
  have i4 := isV_of hh
  have hL := leadN_lt w pf
  have i5 := isV_of hL
  have hO := onesN_lt w
  have i6 := isV_of hO
  have z2 := val_ne0 hv
  have z3 := val_ne0 hk
  rw [Bool.and_true] at z2 z3
  have bt1 : (true != true) = false := rfl
  have bf1 : (false != true) = true := rfl
  by_cases b1 : ((bl v : Nat) : Int) ≤ w
  rotate_left
  · rw [if_neg (fun h => b1 h.1)]
    have d1 : decide (((bl v : Nat) : Int) ≤ w) = false := decide_eq_false b1
    refine ACalls.of_aw (Ω := [(95, Ent.pure p_vFits), (79, Ent.pure p_vLeading), (80, Ent.pure p_vAnd), (96, Ent.pure p_vOnes), (42, Ent.pure p_vCompare)]) (T := assoc [(5, [[], [], [], [], [], [], [], [], [], [], [], [], [], [], [], [1, 5, 14], [1, 5, 11, 14, 15]]), (7, [[], [], [], [], [], [], [], [], [], [1, 6, 8]]), (9, [[], [], [], [], [], [], [], [], [1]])]) mixed (TblOk.cons ok_vFits (TblOk.cons ok_vLeading (TblOk.cons ok_vAnd (TblOk.cons ok_vOnes (TblOk.cons ok_vCompare TblOk.nil))))) Try.func76 (by kernel_rfl) (by rfl) (rs := [.tmp 6]) (by rfl) (by kernel_rfl) (by simp only [Try.ntmps76, yaz, yba]; decide) (Nat.le_refl _) fun hcl hlt => ?_
    change aw _ _ _ (KI Try.prog [(95, Ent.pure p_vFits), (79, Ent.pure p_vLeading), (80, Ent.pure p_vAnd), (96, Ent.pure p_vOnes), (42, Ent.pure p_vCompare)] (aEnd Try.prog [.tmp 6] H.nx _ _ (assoc [(5, [[], [], [], [], [], [], [], [], [], [], [], [], [], [], [], [1, 5, 14], [1, 5, 11, 14, 15]]), (7, [[], [], [], [], [], [], [], [], [], [1, 6, 8]]), (9, [[], [], [], [], [], [], [], [], [1]])])) []) _ _
    clear hlt
    simp only [go_sem, reduceCtorEq, Nat.reduceEqDiff, Nat.reduceAdd, Nat.reduceMul, Nat.reduceSub, Nat.reduceLeDiff, Nat.reduceLT, Int.reduceMul, Int.reduceAdd, Int.reduceSub, Int.reduceToNat, mAV8, p_vFits, i2, i3, i4, Int.toNat_natCast, vOf_back, d1]
    (repeat with_reducible refine And.intro (by first | exact True.intro | decide | omega | (simp [zib, zge, zgf, zgg, zgi, zgh, zgm]; first | done | omega)) ?_)
    simp (disch := first | assumption | omega | (simp; done) | (simp; omega) | (simp only [bt, and_true]; first | done | omega | (simp; done))) [↓zlu, beq, ybc, ybd, ybe, endOk, wk, wk2, wk1, wkM, wkL, wkLL, ybf, hcl]
  have d1 : decide (((bl v : Nat) : Int) ≤ w) = true := decide_eq_true b1
  by_cases b2 : ((bl mk : Nat) : Int) ≤ w
  rotate_left
  · rw [if_neg (fun h => b2 h.2.1)]
    have d2 : decide (((bl mk : Nat) : Int) ≤ w) = false := decide_eq_false b2
    refine ACalls.of_aw (Ω := [(95, Ent.pure p_vFits), (79, Ent.pure p_vLeading), (80, Ent.pure p_vAnd), (96, Ent.pure p_vOnes), (42, Ent.pure p_vCompare)]) (T := assoc [(5, [[], [], [], [], [], [], [], [], [], [], [], [], [], [], [], [1, 5, 14], [1, 5, 11, 14, 15]]), (7, [[], [], [], [], [], [], [], [], [], [1, 6, 8]]), (9, [[], [], [], [], [], [], [], [], [1]])]) mixed (TblOk.cons ok_vFits (TblOk.cons ok_vLeading (TblOk.cons ok_vAnd (TblOk.cons ok_vOnes (TblOk.cons ok_vCompare TblOk.nil))))) Try.func76 (by kernel_rfl) (by rfl) (rs := [.tmp 6]) (by rfl) (by kernel_rfl) (by simp only [Try.ntmps76, yaz, yba]; decide) (Nat.le_refl _) fun hcl hlt => ?_
    change aw _ _ _ (KI Try.prog [(95, Ent.pure p_vFits), (79, Ent.pure p_vLeading), (80, Ent.pure p_vAnd), (96, Ent.pure p_vOnes), (42, Ent.pure p_vCompare)] (aEnd Try.prog [.tmp 6] H.nx _ _ (assoc [(5, [[], [], [], [], [], [], [], [], [], [], [], [], [], [], [], [1, 5, 14], [1, 5, 11, 14, 15]]), (7, [[], [], [], [], [], [], [], [], [], [1, 6, 8]]), (9, [[], [], [], [], [], [], [], [], [1]])])) []) _ _
    clear hlt
    simp only [go_sem, reduceCtorEq, Nat.reduceEqDiff, Nat.reduceAdd, Nat.reduceMul, Nat.reduceSub, Nat.reduceLeDiff, Nat.reduceLT, Int.reduceMul, Int.reduceAdd, Int.reduceSub, Int.reduceToNat, mAV8, p_vFits, i2, i3, i4, Int.toNat_natCast, vOf_back, d1, d2]
    (repeat with_reducible refine And.intro (by first | exact True.intro | decide | omega | (simp [zib, zge, zgf, zgg, zgi, zgh, zgm]; first | done | omega)) ?_)
    simp (disch := first | assumption | omega | (simp; done) | (simp; omega) | (simp only [bt, and_true]; first | done | omega | (simp; done))) [↓zlu, beq, ybc, ybd, ybe, endOk, wk, wk2, wk1, wkM, wkL, wkLL, ybf, hcl]
  have d2 : decide (((bl mk : Nat) : Int) ≤ w) = true := decide_eq_true b2
  by_cases b3 : ((bl hi : Nat) : Int) ≤ w
  rotate_left
  · rw [if_neg (fun h => b3 h.2.2)]
    have d3 : decide (((bl hi : Nat) : Int) ≤ w) = false := decide_eq_false b3
    refine ACalls.of_aw (Ω := [(95, Ent.pure p_vFits), (79, Ent.pure p_vLeading), (80, Ent.pure p_vAnd), (96, Ent.pure p_vOnes), (42, Ent.pure p_vCompare)]) (T := assoc [(5, [[], [], [], [], [], [], [], [], [], [], [], [], [], [], [], [1, 5, 14], [1, 5, 11, 14, 15]]), (7, [[], [], [], [], [], [], [], [], [], [1, 6, 8]]), (9, [[], [], [], [], [], [], [], [], [1]])]) mixed (TblOk.cons ok_vFits (TblOk.cons ok_vLeading (TblOk.cons ok_vAnd (TblOk.cons ok_vOnes (TblOk.cons ok_vCompare TblOk.nil))))) Try.func76 (by kernel_rfl) (by rfl) (rs := [.tmp 6]) (by rfl) (by kernel_rfl) (by simp only [Try.ntmps76, yaz, yba]; decide) (Nat.le_refl _) fun hcl hlt => ?_
    change aw _ _ _ (KI Try.prog [(95, Ent.pure p_vFits), (79, Ent.pure p_vLeading), (80, Ent.pure p_vAnd), (96, Ent.pure p_vOnes), (42, Ent.pure p_vCompare)] (aEnd Try.prog [.tmp 6] H.nx _ _ (assoc [(5, [[], [], [], [], [], [], [], [], [], [], [], [], [], [], [], [1, 5, 14], [1, 5, 11, 14, 15]]), (7, [[], [], [], [], [], [], [], [], [], [1, 6, 8]]), (9, [[], [], [], [], [], [], [], [], [1]])])) []) _ _
    clear hlt
    simp only [go_sem, reduceCtorEq, Nat.reduceEqDiff, Nat.reduceAdd, Nat.reduceMul, Nat.reduceSub, Nat.reduceLeDiff, Nat.reduceLT, Int.reduceMul, Int.reduceAdd, Int.reduceSub, Int.reduceToNat, mAV8, p_vFits, i2, i3, i4, Int.toNat_natCast, vOf_back, d1, d2, d3]
    (repeat with_reducible refine And.intro (by first | exact True.intro | decide | omega | (simp [zib, zge, zgf, zgg, zgi, zgh, zgm]; first | done | omega)) ?_)
    simp (disch := first | assumption | omega | (simp; done) | (simp; omega) | (simp only [bt, and_true]; first | done | omega | (simp; done))) [↓zlu, beq, ybc, ybd, ybe, endOk, wk, wk2, wk1, wkM, wkL, wkLL, ybf, hcl]
  have d3 : decide (((bl hi : Nat) : Int) ≤ w) = true := decide_eq_true b3
  rw [if_pos ⟨b1, b2, b3⟩]
  by_cases k2 : k = 2
  · subst k2
    rw [if_pos rfl]
    by_cases p1 : pf ≥ 1
    rotate_left
    · rw [decide_eq_false (fun h => p1 h.1)]
      have g1 : decide (pf ≥ 1) = false := decide_eq_false p1
      refine ACalls.of_aw (Ω := [(95, Ent.pure p_vFits), (79, Ent.pure p_vLeading), (80, Ent.pure p_vAnd), (96, Ent.pure p_vOnes), (42, Ent.pure p_vCompare)]) (T := assoc [(5, [[], [], [], [], [], [], [], [], [], [], [], [], [], [], [], [1, 5, 14], [1, 5, 11, 14, 15]]), (7, [[], [], [], [], [], [], [], [], [], [1, 6, 8]]), (9, [[], [], [], [], [], [], [], [], [1]])]) mixed (TblOk.cons ok_vFits (TblOk.cons ok_vLeading (TblOk.cons ok_vAnd (TblOk.cons ok_vOnes (TblOk.cons ok_vCompare TblOk.nil))))) Try.func76 (by kernel_rfl) (by rfl) (rs := [.tmp 6]) (by rfl) (by kernel_rfl) (by simp only [Try.ntmps76, yaz, yba]; decide) (Nat.le_refl _) fun hcl hlt => ?_
      change aw _ _ _ (KI Try.prog [(95, Ent.pure p_vFits), (79, Ent.pure p_vLeading), (80, Ent.pure p_vAnd), (96, Ent.pure p_vOnes), (42, Ent.pure p_vCompare)] (aEnd Try.prog [.tmp 6] H.nx _ _ (assoc [(5, [[], [], [], [], [], [], [], [], [], [], [], [], [], [], [], [1, 5, 14], [1, 5, 11, 14, 15]]), (7, [[], [], [], [], [], [], [], [], [], [1, 6, 8]]), (9, [[], [], [], [], [], [], [], [], [1]])])) []) _ _
      clear hlt
      simp only [go_sem, reduceCtorEq, Nat.reduceEqDiff, Nat.reduceAdd, Nat.reduceMul, Nat.reduceSub, Nat.reduceLeDiff, Nat.reduceLT, Int.reduceMul, Int.reduceAdd, Int.reduceSub, Int.reduceToNat, mAV8, p_vFits, i2, i3, i4, Int.toNat_natCast, vOf_back, d1, d2, d3, beq_self_eq_true, g1]
      (repeat with_reducible refine And.intro (by first | exact True.intro | decide | omega | (simp [zib, zge, zgf, zgg, zgi, zgh, zgm]; first | done | omega)) ?_)
      simp (disch := first | assumption | omega | (simp; done) | (simp; omega) | (simp only [bt, and_true]; first | done | omega | (simp; done))) [↓zlu, beq, ybc, ybd, ybe, endOk, wk, wk2, wk1, wkM, wkL, wkLL, ybf, hcl]
    have g1 : decide (pf ≥ 1) = true := decide_eq_true p1
    by_cases p2 : pf ≤ w
    rotate_left
    · rw [decide_eq_false (fun h => p2 h.2.1)]
      have g2 : decide (pf ≤ w) = false := decide_eq_false p2
      refine ACalls.of_aw (Ω := [(95, Ent.pure p_vFits), (79, Ent.pure p_vLeading), (80, Ent.pure p_vAnd), (96, Ent.pure p_vOnes), (42, Ent.pure p_vCompare)]) (T := assoc [(5, [[], [], [], [], [], [], [], [], [], [], [], [], [], [], [], [1, 5, 14], [1, 5, 11, 14, 15]]), (7, [[], [], [], [], [], [], [], [], [], [1, 6, 8]]), (9, [[], [], [], [], [], [], [], [], [1]])]) mixed (TblOk.cons ok_vFits (TblOk.cons ok_vLeading (TblOk.cons ok_vAnd (TblOk.cons ok_vOnes (TblOk.cons ok_vCompare TblOk.nil))))) Try.func76 (by kernel_rfl) (by rfl) (rs := [.tmp 6]) (by rfl) (by kernel_rfl) (by simp only [Try.ntmps76, yaz, yba]; decide) (Nat.le_refl _) fun hcl hlt => ?_
      change aw _ _ _ (KI Try.prog [(95, Ent.pure p_vFits), (79, Ent.pure p_vLeading), (80, Ent.pure p_vAnd), (96, Ent.pure p_vOnes), (42, Ent.pure p_vCompare)] (aEnd Try.prog [.tmp 6] H.nx _ _ (assoc [(5, [[], [], [], [], [], [], [], [], [], [], [], [], [], [], [], [1, 5, 14], [1, 5, 11, 14, 15]]), (7, [[], [], [], [], [], [], [], [], [], [1, 6, 8]]), (9, [[], [], [], [], [], [], [], [], [1]])])) []) _ _
      clear hlt
      simp only [go_sem, reduceCtorEq, Nat.reduceEqDiff, Nat.reduceAdd, Nat.reduceMul, Nat.reduceSub, Nat.reduceLeDiff, Nat.reduceLT, Int.reduceMul, Int.reduceAdd, Int.reduceSub, Int.reduceToNat, mAV8, p_vFits, i2, i3, i4, Int.toNat_natCast, vOf_back, d1, d2, d3, beq_self_eq_true, g1, g2]
      (repeat with_reducible refine And.intro (by first | exact True.intro | decide | omega | (simp [zib, zge, zgf, zgg, zgi, zgh, zgm]; first | done | omega)) ?_)
      simp (disch := first | assumption | omega | (simp; done) | (simp; omega) | (simp only [bt, and_true]; first | done | omega | (simp; done))) [↓zlu, beq, ybc, ybd, ybe, endOk, wk, wk2, wk1, wkM, wkL, wkLL, ybf, hcl]
    have g2 : decide (pf ≤ w) = true := decide_eq_true p2
    have g3 : decide (pf ≥ 1 ∧ pf ≤ w ∧ v &&& leadN w pf = v) = decide (v &&& leadN w pf = v) := by rw [decide_eq_decide]; exact ⟨fun h => h.2.2, fun h => ⟨p1, p2, h⟩⟩
    rw [g3]
    refine ACalls.of_aw (Ω := [(95, Ent.pure p_vFits), (79, Ent.pure p_vLeading), (80, Ent.pure p_vAnd), (96, Ent.pure p_vOnes), (42, Ent.pure p_vCompare)]) (T := assoc [(5, [[], [], [], [], [], [], [], [], [], [], [], [], [], [], [], [1, 5, 14], [1, 5, 11, 14, 15]]), (7, [[], [], [], [], [], [], [], [], [], [1, 6, 8]]), (9, [[], [], [], [], [], [], [], [], [1]])]) mixed (TblOk.cons ok_vFits (TblOk.cons ok_vLeading (TblOk.cons ok_vAnd (TblOk.cons ok_vOnes (TblOk.cons ok_vCompare TblOk.nil))))) Try.func76 (by kernel_rfl) (by rfl) (rs := [.tmp 6]) (by rfl) (by kernel_rfl) (by simp only [Try.ntmps76, yaz, yba]; decide) (Nat.le_refl _) fun hcl hlt => ?_
    change aw _ _ _ (KI Try.prog [(95, Ent.pure p_vFits), (79, Ent.pure p_vLeading), (80, Ent.pure p_vAnd), (96, Ent.pure p_vOnes), (42, Ent.pure p_vCompare)] (aEnd Try.prog [.tmp 6] H.nx _ _ (assoc [(5, [[], [], [], [], [], [], [], [], [], [], [], [], [], [], [], [1, 5, 14], [1, 5, 11, 14, 15]]), (7, [[], [], [], [], [], [], [], [], [], [1, 6, 8]]), (9, [[], [], [], [], [], [], [], [], [1]])])) []) _ _
    clear hlt
    simp only [go_sem, reduceCtorEq, Nat.reduceEqDiff, Nat.reduceAdd, Nat.reduceMul, Nat.reduceSub, Nat.reduceLeDiff, Nat.reduceLT, Int.reduceMul, Int.reduceAdd, Int.reduceSub, Int.reduceToNat, mAV8, p_vFits, i2, i3, i4, i5, Int.toNat_natCast, vOf_back, d1, d2, d3, beq_self_eq_true, g1, g2, p_vLeading, p_vAnd, p2V, vv, teq_valV, eqg_valV, Bool.bne_false, val_eq, val_eq']
    (repeat with_reducible refine And.intro (by first | exact True.intro | decide | omega | (simp [zib, zge, zgf, zgg, zgi, zgh, zgm]; first | done | omega)) ?_)
    simp (disch := first | assumption | omega | (simp; done) | (simp; omega) | (simp only [bt, and_true]; first | done | omega | (simp; done))) [↓zlu, beq, ybc, ybd, ybe, endOk, wk, wk2, wk1, wkM, wkL, wkLL, ybf, hcl]
  rw [if_neg k2]
  have n2 : (k == 2) = false := by simpa using k2
  by_cases k3 : k = 3
  · subst k3
    rw [if_pos rfl]
    have c2 : ((3 : Int) == 2) = false := rfl
    by_cases p1 : mk = 0
    · rw [decide_eq_false (fun h => h.1 p1)]
      have g1 : decide (mk = 0) = true := decide_eq_true p1
      refine ACalls.of_aw (Ω := [(95, Ent.pure p_vFits), (79, Ent.pure p_vLeading), (80, Ent.pure p_vAnd), (96, Ent.pure p_vOnes), (42, Ent.pure p_vCompare)]) (T := assoc [(5, [[], [], [], [], [], [], [], [], [], [], [], [], [], [], [], [1, 5, 14], [1, 5, 11, 14, 15]]), (7, [[], [], [], [], [], [], [], [], [], [1, 6, 8]]), (9, [[], [], [], [], [], [], [], [], [1]])]) mixed (TblOk.cons ok_vFits (TblOk.cons ok_vLeading (TblOk.cons ok_vAnd (TblOk.cons ok_vOnes (TblOk.cons ok_vCompare TblOk.nil))))) Try.func76 (by kernel_rfl) (by rfl) (rs := [.tmp 6]) (by rfl) (by kernel_rfl) (by simp only [Try.ntmps76, yaz, yba]; decide) (Nat.le_refl _) fun hcl hlt => ?_
      change aw _ _ _ (KI Try.prog [(95, Ent.pure p_vFits), (79, Ent.pure p_vLeading), (80, Ent.pure p_vAnd), (96, Ent.pure p_vOnes), (42, Ent.pure p_vCompare)] (aEnd Try.prog [.tmp 6] H.nx _ _ (assoc [(5, [[], [], [], [], [], [], [], [], [], [], [], [], [], [], [], [1, 5, 14], [1, 5, 11, 14, 15]]), (7, [[], [], [], [], [], [], [], [], [], [1, 6, 8]]), (9, [[], [], [], [], [], [], [], [], [1]])])) []) _ _
      clear hlt
      simp only [go_sem, reduceCtorEq, Nat.reduceEqDiff, Nat.reduceAdd, Nat.reduceMul, Nat.reduceSub, Nat.reduceLeDiff, Nat.reduceLT, Int.reduceMul, Int.reduceAdd, Int.reduceSub, Int.reduceToNat, mAV8, p_vFits, i2, i3, i4, i5, i6, Int.toNat_natCast, vOf_back, d1, d2, d3, beq_self_eq_true, teq_valV, eqg_valV, Bool.bne_false, z2, z3, bt1, bf1, p_vAnd, p_vOnes, p_vCompare, p2V, vv, val_eq, val_eq', cmpN_le, c2, g1]
      (repeat with_reducible refine And.intro (by first | exact True.intro | decide | omega | (simp [zib, zge, zgf, zgg, zgi, zgh, zgm]; first | done | omega)) ?_)
      simp (disch := first | assumption | omega | (simp; done) | (simp; omega) | (simp only [bt, and_true]; first | done | omega | (simp; done))) [↓zlu, beq, ybc, ybd, ybe, endOk, wk, wk2, wk1, wkM, wkL, wkLL, ybf, hcl]
    have g1 : decide (mk = 0) = false := decide_eq_false p1
    have g3 : decide (mk ≠ 0 ∧ v &&& mk = v) = decide (v &&& mk = v) := by rw [decide_eq_decide]; exact ⟨fun h => h.2, fun h => ⟨p1, h⟩⟩
    rw [g3]
    refine ACalls.of_aw (Ω := [(95, Ent.pure p_vFits), (79, Ent.pure p_vLeading), (80, Ent.pure p_vAnd), (96, Ent.pure p_vOnes), (42, Ent.pure p_vCompare)]) (T := assoc [(5, [[], [], [], [], [], [], [], [], [], [], [], [], [], [], [], [1, 5, 14], [1, 5, 11, 14, 15]]), (7, [[], [], [], [], [], [], [], [], [], [1, 6, 8]]), (9, [[], [], [], [], [], [], [], [], [1]])]) mixed (TblOk.cons ok_vFits (TblOk.cons ok_vLeading (TblOk.cons ok_vAnd (TblOk.cons ok_vOnes (TblOk.cons ok_vCompare TblOk.nil))))) Try.func76 (by kernel_rfl) (by rfl) (rs := [.tmp 6]) (by rfl) (by kernel_rfl) (by simp only [Try.ntmps76, yaz, yba]; decide) (Nat.le_refl _) fun hcl hlt => ?_
    change aw _ _ _ (KI Try.prog [(95, Ent.pure p_vFits), (79, Ent.pure p_vLeading), (80, Ent.pure p_vAnd), (96, Ent.pure p_vOnes), (42, Ent.pure p_vCompare)] (aEnd Try.prog [.tmp 6] H.nx _ _ (assoc [(5, [[], [], [], [], [], [], [], [], [], [], [], [], [], [], [], [1, 5, 14], [1, 5, 11, 14, 15]]), (7, [[], [], [], [], [], [], [], [], [], [1, 6, 8]]), (9, [[], [], [], [], [], [], [], [], [1]])])) []) _ _
    clear hlt
    simp only [go_sem, reduceCtorEq, Nat.reduceEqDiff, Nat.reduceAdd, Nat.reduceMul, Nat.reduceSub, Nat.reduceLeDiff, Nat.reduceLT, Int.reduceMul, Int.reduceAdd, Int.reduceSub, Int.reduceToNat, mAV8, p_vFits, i2, i3, i4, i5, i6, Int.toNat_natCast, vOf_back, d1, d2, d3, beq_self_eq_true, teq_valV, eqg_valV, Bool.bne_false, z2, z3, bt1, bf1, p_vAnd, p_vOnes, p_vCompare, p2V, vv, val_eq, val_eq', cmpN_le, c2, g1]
    (repeat with_reducible refine And.intro (by first | exact True.intro | decide | omega | (simp [zib, zge, zgf, zgg, zgi, zgh, zgm]; first | done | omega)) ?_)
    simp (disch := first | assumption | omega | (simp; done) | (simp; omega) | (simp only [bt, and_true]; first | done | omega | (simp; done))) [↓zlu, beq, ybc, ybd, ybe, endOk, wk, wk2, wk1, wkM, wkL, wkLL, ybf, hcl]
  rw [if_neg k3]
  have n3 : (k == 3) = false := by simpa using k3
  by_cases k4 : k = 4
  · subst k4
    rw [if_pos rfl]
    have c2 : ((4 : Int) == 2) = false := rfl
    have c3 : ((4 : Int) == 3) = false := rfl
    by_cases p1 : v = 0
    · have g1 : decide (v = 0) = true := decide_eq_true p1
      have g3 : decide (v ≤ hi ∧ ¬ (v = 0 ∧ hi = onesN w)) = (decide (v ≤ hi) && !decide (hi = onesN w)) := by
        rw [Bool.eq_iff_iff]; simp [p1]
      rw [g3]
      cases q : decide (v ≤ hi)
      · rw [Bool.false_and]
        refine ACalls.of_aw (Ω := [(95, Ent.pure p_vFits), (79, Ent.pure p_vLeading), (80, Ent.pure p_vAnd), (96, Ent.pure p_vOnes), (42, Ent.pure p_vCompare)]) (T := assoc [(5, [[], [], [], [], [], [], [], [], [], [], [], [], [], [], [], [1, 5, 14], [1, 5, 11, 14, 15]]), (7, [[], [], [], [], [], [], [], [], [], [1, 6, 8]]), (9, [[], [], [], [], [], [], [], [], [1]])]) mixed (TblOk.cons ok_vFits (TblOk.cons ok_vLeading (TblOk.cons ok_vAnd (TblOk.cons ok_vOnes (TblOk.cons ok_vCompare TblOk.nil))))) Try.func76 (by kernel_rfl) (by rfl) (rs := [.tmp 6]) (by rfl) (by kernel_rfl) (by simp only [Try.ntmps76, yaz, yba]; decide) (Nat.le_refl _) fun hcl hlt => ?_
        change aw _ _ _ (KI Try.prog [(95, Ent.pure p_vFits), (79, Ent.pure p_vLeading), (80, Ent.pure p_vAnd), (96, Ent.pure p_vOnes), (42, Ent.pure p_vCompare)] (aEnd Try.prog [.tmp 6] H.nx _ _ (assoc [(5, [[], [], [], [], [], [], [], [], [], [], [], [], [], [], [], [1, 5, 14], [1, 5, 11, 14, 15]]), (7, [[], [], [], [], [], [], [], [], [], [1, 6, 8]]), (9, [[], [], [], [], [], [], [], [], [1]])])) []) _ _
        clear hlt
        simp only [go_sem, reduceCtorEq, Nat.reduceEqDiff, Nat.reduceAdd, Nat.reduceMul, Nat.reduceSub, Nat.reduceLeDiff, Nat.reduceLT, Int.reduceMul, Int.reduceAdd, Int.reduceSub, Int.reduceToNat, mAV8, p_vFits, i2, i3, i4, i5, i6, Int.toNat_natCast, vOf_back, d1, d2, d3, beq_self_eq_true, teq_valV, eqg_valV, Bool.bne_false, z2, z3, bt1, bf1, p_vAnd, p_vOnes, p_vCompare, p2V, vv, val_eq, val_eq', cmpN_le, c2, c3, g1, q]
        (repeat with_reducible refine And.intro (by first | exact True.intro | decide | omega | (simp [zib, zge, zgf, zgg, zgi, zgh, zgm]; first | done | omega)) ?_)
        simp (disch := first | assumption | omega | (simp; done) | (simp; omega) | (simp only [bt, and_true]; first | done | omega | (simp; done))) [↓zlu, beq, ybc, ybd, ybe, endOk, wk, wk2, wk1, wkM, wkL, wkLL, ybf, hcl]
      · rw [Bool.true_and]
        refine ACalls.of_aw (Ω := [(95, Ent.pure p_vFits), (79, Ent.pure p_vLeading), (80, Ent.pure p_vAnd), (96, Ent.pure p_vOnes), (42, Ent.pure p_vCompare)]) (T := assoc [(5, [[], [], [], [], [], [], [], [], [], [], [], [], [], [], [], [1, 5, 14], [1, 5, 11, 14, 15]]), (7, [[], [], [], [], [], [], [], [], [], [1, 6, 8]]), (9, [[], [], [], [], [], [], [], [], [1]])]) mixed (TblOk.cons ok_vFits (TblOk.cons ok_vLeading (TblOk.cons ok_vAnd (TblOk.cons ok_vOnes (TblOk.cons ok_vCompare TblOk.nil))))) Try.func76 (by kernel_rfl) (by rfl) (rs := [.tmp 6]) (by rfl) (by kernel_rfl) (by simp only [Try.ntmps76, yaz, yba]; decide) (Nat.le_refl _) fun hcl hlt => ?_
        change aw _ _ _ (KI Try.prog [(95, Ent.pure p_vFits), (79, Ent.pure p_vLeading), (80, Ent.pure p_vAnd), (96, Ent.pure p_vOnes), (42, Ent.pure p_vCompare)] (aEnd Try.prog [.tmp 6] H.nx _ _ (assoc [(5, [[], [], [], [], [], [], [], [], [], [], [], [], [], [], [], [1, 5, 14], [1, 5, 11, 14, 15]]), (7, [[], [], [], [], [], [], [], [], [], [1, 6, 8]]), (9, [[], [], [], [], [], [], [], [], [1]])])) []) _ _
        clear hlt
        simp only [go_sem, reduceCtorEq, Nat.reduceEqDiff, Nat.reduceAdd, Nat.reduceMul, Nat.reduceSub, Nat.reduceLeDiff, Nat.reduceLT, Int.reduceMul, Int.reduceAdd, Int.reduceSub, Int.reduceToNat, mAV8, p_vFits, i2, i3, i4, i5, i6, Int.toNat_natCast, vOf_back, d1, d2, d3, beq_self_eq_true, teq_valV, eqg_valV, Bool.bne_false, z2, z3, bt1, bf1, p_vAnd, p_vOnes, p_vCompare, p2V, vv, val_eq, val_eq', cmpN_le, c2, c3, g1, q]
        (repeat with_reducible refine And.intro (by first | exact True.intro | decide | omega | (simp [zib, zge, zgf, zgg, zgi, zgh, zgm]; first | done | omega)) ?_)
        simp (disch := first | assumption | omega | (simp; done) | (simp; omega) | (simp only [bt, and_true]; first | done | omega | (simp; done))) [↓zlu, beq, ybc, ybd, ybe, endOk, wk, wk2, wk1, wkM, wkL, wkLL, ybf, hcl]
    · have g1 : decide (v = 0) = false := decide_eq_false p1
      have g3 : decide (v ≤ hi ∧ ¬ (v = 0 ∧ hi = onesN w)) = decide (v ≤ hi) := by
        rw [decide_eq_decide]; exact ⟨fun h => h.1, fun h => ⟨h, fun g => p1 g.1⟩⟩
      rw [g3]
      cases q : decide (v ≤ hi)
      · skip
        refine ACalls.of_aw (Ω := [(95, Ent.pure p_vFits), (79, Ent.pure p_vLeading), (80, Ent.pure p_vAnd), (96, Ent.pure p_vOnes), (42, Ent.pure p_vCompare)]) (T := assoc [(5, [[], [], [], [], [], [], [], [], [], [], [], [], [], [], [], [1, 5, 14], [1, 5, 11, 14, 15]]), (7, [[], [], [], [], [], [], [], [], [], [1, 6, 8]]), (9, [[], [], [], [], [], [], [], [], [1]])]) mixed (TblOk.cons ok_vFits (TblOk.cons ok_vLeading (TblOk.cons ok_vAnd (TblOk.cons ok_vOnes (TblOk.cons ok_vCompare TblOk.nil))))) Try.func76 (by kernel_rfl) (by rfl) (rs := [.tmp 6]) (by rfl) (by kernel_rfl) (by simp only [Try.ntmps76, yaz, yba]; decide) (Nat.le_refl _) fun hcl hlt => ?_
        change aw _ _ _ (KI Try.prog [(95, Ent.pure p_vFits), (79, Ent.pure p_vLeading), (80, Ent.pure p_vAnd), (96, Ent.pure p_vOnes), (42, Ent.pure p_vCompare)] (aEnd Try.prog [.tmp 6] H.nx _ _ (assoc [(5, [[], [], [], [], [], [], [], [], [], [], [], [], [], [], [], [1, 5, 14], [1, 5, 11, 14, 15]]), (7, [[], [], [], [], [], [], [], [], [], [1, 6, 8]]), (9, [[], [], [], [], [], [], [], [], [1]])])) []) _ _
        clear hlt
        simp only [go_sem, reduceCtorEq, Nat.reduceEqDiff, Nat.reduceAdd, Nat.reduceMul, Nat.reduceSub, Nat.reduceLeDiff, Nat.reduceLT, Int.reduceMul, Int.reduceAdd, Int.reduceSub, Int.reduceToNat, mAV8, p_vFits, i2, i3, i4, i5, i6, Int.toNat_natCast, vOf_back, d1, d2, d3, beq_self_eq_true, teq_valV, eqg_valV, Bool.bne_false, z2, z3, bt1, bf1, p_vAnd, p_vOnes, p_vCompare, p2V, vv, val_eq, val_eq', cmpN_le, c2, c3, g1, q]
        (repeat with_reducible refine And.intro (by first | exact True.intro | decide | omega | (simp [zib, zge, zgf, zgg, zgi, zgh, zgm]; first | done | omega)) ?_)
        simp (disch := first | assumption | omega | (simp; done) | (simp; omega) | (simp only [bt, and_true]; first | done | omega | (simp; done))) [↓zlu, beq, ybc, ybd, ybe, endOk, wk, wk2, wk1, wkM, wkL, wkLL, ybf, hcl]
      · skip
        refine ACalls.of_aw (Ω := [(95, Ent.pure p_vFits), (79, Ent.pure p_vLeading), (80, Ent.pure p_vAnd), (96, Ent.pure p_vOnes), (42, Ent.pure p_vCompare)]) (T := assoc [(5, [[], [], [], [], [], [], [], [], [], [], [], [], [], [], [], [1, 5, 14], [1, 5, 11, 14, 15]]), (7, [[], [], [], [], [], [], [], [], [], [1, 6, 8]]), (9, [[], [], [], [], [], [], [], [], [1]])]) mixed (TblOk.cons ok_vFits (TblOk.cons ok_vLeading (TblOk.cons ok_vAnd (TblOk.cons ok_vOnes (TblOk.cons ok_vCompare TblOk.nil))))) Try.func76 (by kernel_rfl) (by rfl) (rs := [.tmp 6]) (by rfl) (by kernel_rfl) (by simp only [Try.ntmps76, yaz, yba]; decide) (Nat.le_refl _) fun hcl hlt => ?_
        change aw _ _ _ (KI Try.prog [(95, Ent.pure p_vFits), (79, Ent.pure p_vLeading), (80, Ent.pure p_vAnd), (96, Ent.pure p_vOnes), (42, Ent.pure p_vCompare)] (aEnd Try.prog [.tmp 6] H.nx _ _ (assoc [(5, [[], [], [], [], [], [], [], [], [], [], [], [], [], [], [], [1, 5, 14], [1, 5, 11, 14, 15]]), (7, [[], [], [], [], [], [], [], [], [], [1, 6, 8]]), (9, [[], [], [], [], [], [], [], [], [1]])])) []) _ _
        clear hlt
        simp only [go_sem, reduceCtorEq, Nat.reduceEqDiff, Nat.reduceAdd, Nat.reduceMul, Nat.reduceSub, Nat.reduceLeDiff, Nat.reduceLT, Int.reduceMul, Int.reduceAdd, Int.reduceSub, Int.reduceToNat, mAV8, p_vFits, i2, i3, i4, i5, i6, Int.toNat_natCast, vOf_back, d1, d2, d3, beq_self_eq_true, teq_valV, eqg_valV, Bool.bne_false, z2, z3, bt1, bf1, p_vAnd, p_vOnes, p_vCompare, p2V, vv, val_eq, val_eq', cmpN_le, c2, c3, g1, q]
        (repeat with_reducible refine And.intro (by first | exact True.intro | decide | omega | (simp [zib, zge, zgf, zgg, zgi, zgh, zgm]; first | done | omega)) ?_)
        simp (disch := first | assumption | omega | (simp; done) | (simp; omega) | (simp only [bt, and_true]; first | done | omega | (simp; done))) [↓zlu, beq, ybc, ybd, ybe, endOk, wk, wk2, wk1, wkM, wkL, wkLL, ybf, hcl]
  rw [if_neg k4]
  have n4 : (k == 4) = false := by simpa using k4
  refine ACalls.of_aw (Ω := [(95, Ent.pure p_vFits), (79, Ent.pure p_vLeading), (80, Ent.pure p_vAnd), (96, Ent.pure p_vOnes), (42, Ent.pure p_vCompare)]) (T := assoc [(5, [[], [], [], [], [], [], [], [], [], [], [], [], [], [], [], [1, 5, 14], [1, 5, 11, 14, 15]]), (7, [[], [], [], [], [], [], [], [], [], [1, 6, 8]]), (9, [[], [], [], [], [], [], [], [], [1]])]) mixed (TblOk.cons ok_vFits (TblOk.cons ok_vLeading (TblOk.cons ok_vAnd (TblOk.cons ok_vOnes (TblOk.cons ok_vCompare TblOk.nil))))) Try.func76 (by kernel_rfl) (by rfl) (rs := [.tmp 6]) (by rfl) (by kernel_rfl) (by simp only [Try.ntmps76, yaz, yba]; decide) (Nat.le_refl _) fun hcl hlt => ?_
  change aw _ _ _ (KI Try.prog [(95, Ent.pure p_vFits), (79, Ent.pure p_vLeading), (80, Ent.pure p_vAnd), (96, Ent.pure p_vOnes), (42, Ent.pure p_vCompare)] (aEnd Try.prog [.tmp 6] H.nx _ _ (assoc [(5, [[], [], [], [], [], [], [], [], [], [], [], [], [], [], [], [1, 5, 14], [1, 5, 11, 14, 15]]), (7, [[], [], [], [], [], [], [], [], [], [1, 6, 8]]), (9, [[], [], [], [], [], [], [], [], [1]])])) []) _ _
  clear hlt
  simp only [go_sem, reduceCtorEq, Nat.reduceEqDiff, Nat.reduceAdd, Nat.reduceMul, Nat.reduceSub, Nat.reduceLeDiff, Nat.reduceLT, Int.reduceMul, Int.reduceAdd, Int.reduceSub, Int.reduceToNat, mAV8, p_vFits, i2, i3, i4, i5, i6, Int.toNat_natCast, vOf_back, d1, d2, d3, beq_self_eq_true, teq_valV, eqg_valV, Bool.bne_false, z2, z3, bt1, bf1, p_vAnd, p_vOnes, p_vCompare, p2V, vv, val_eq, val_eq', cmpN_le, n2, n3, n4]
  (repeat with_reducible refine And.intro (by first | exact True.intro | decide | omega | (simp [zib, zge, zgf, zgg, zgi, zgh, zgm]; first | done | omega)) ?_)
  simp (disch := first | assumption | omega | (simp; done) | (simp; omega) | (simp only [bt, and_true]; first | done | omega | (simp; done))) [↓zlu, beq, ybc, ybd, ybe, endOk, wk, wk2, wk1, wkM, wkL, wkLL, ybf, hcl]
end Go.AL


open Go Go.AL Go.Proofs
namespace Go.AL
set_option linter.all false
set_option maxRecDepth 10000

def rankedT (t : STable) : Bool := decide (0 ≤ ixP (fun k : SKey => k.kind == 3 || k.kind == 4) t.keys 0)
def p_CntK : List AV → AHeap → (AV → Prop) → Prop
  | [.slice _ 3 l, .func (.func 99) [] []], _, K => ∃ ts : List SKey, (l = ts.map keyAV ∧ ts.length ≤ 1000000) ∧ K (.bool (decide (0 ≤ ixP (fun k : SKey => k.kind == 3 || k.kind == 4) ts 0)))
  | _, _, _ => False
theorem ok_CntK : EntOk Try.prog 98 (Ent.pure p_CntK) := by
  refine EntOk.pure fun args H K h => ?_
  unfold p_CntK at h
  split at h
  rotate_left
  · exact h.elim
  rename_i m l
  obtain ⟨ts, ⟨rfl, hl⟩, hK⟩ := h
  refine ⟨_, hK, ?_⟩
  clear hK
  refine ACalls.of_aw (Ω := [(113, Ent.pure p_IdxK)]) (T := assoc []) mixed (TblOk.cons ok_IdxK TblOk.nil) Try.func98 (by kernel_rfl) (by rfl) (rs := [.tmp 4]) (by rfl) (by kernel_rfl) (by simp only [Try.ntmps98, yaz, yba]; decide) (Nat.le_refl _) fun hcl hlt => ?_
  change aw _ _ _ (KI Try.prog [(113, Ent.pure p_IdxK)] (aEnd Try.prog [.tmp 4] H.nx _ _) []) _ _
  clear hlt
  simp only [go_sem, reduceCtorEq, Nat.reduceEqDiff, Nat.reduceAdd, Nat.reduceMul, Nat.reduceSub, Nat.reduceLeDiff, Nat.reduceLT, Int.reduceMul, Int.reduceAdd, Int.reduceSub, Int.reduceToNat, p_IdxK]
  refine ⟨ts, ⟨rfl, hl⟩, ?_⟩
  try simp only [blkP, go_sem, reduceCtorEq, Nat.reduceEqDiff, Nat.reduceAdd, Nat.reduceMul, Nat.reduceSub, Nat.reduceLeDiff, Nat.reduceLT, Int.reduceMul, Int.reduceAdd, Int.reduceSub, Int.reduceToNat]
  simp (disch := first | assumption | omega | (simp; done) | (simp; omega) | (simp only [bt, and_true]; first | done | omega | (simp; done))) [↓zlu, beq, ybc, ybd, ybe, endOk, wk, wk2, wk1, wkM, wkL, wkLL, ybf, hcl]
def p_eRanked : List AV → AHeap → (AV → Prop) → Prop
  | [.agg l], _, K => ∃ t : STable, (.agg l = tableAV t ∧ t.keys.length ≤ 1000000) ∧ K (.bool (rankedT t))
  | _, _, _ => False
theorem ok_eRanked : EntOk Try.prog 78 (Ent.pure p_eRanked) := by
  refine EntOk.pure fun args H K h => ?_
  unfold p_eRanked at h
  split at h
  rotate_left
  · exact h.elim
  rename_i l
  obtain ⟨t, ⟨e, hl⟩, hK⟩ := h
  refine ⟨_, hK, ?_⟩
  clear hK
  rw [e]
  unfold tableAV rankedT
  refine ACalls.of_aw (Ω := [(98, Ent.pure p_CntK)]) (T := assoc []) mixed (TblOk.cons ok_CntK TblOk.nil) Try.func78 (by kernel_rfl) (by rfl) (rs := [.tmp 2]) (by rfl) (by kernel_rfl) (by simp only [Try.ntmps78, yaz, yba]; decide) (Nat.le_refl _) fun hcl hlt => ?_
  change aw _ _ _ (KI Try.prog [(98, Ent.pure p_CntK)] (aEnd Try.prog [.tmp 2] H.nx _ _) []) _ _
  clear hlt
  simp only [go_sem, reduceCtorEq, Nat.reduceEqDiff, Nat.reduceAdd, Nat.reduceMul, Nat.reduceSub, Nat.reduceLeDiff, Nat.reduceLT, Int.reduceMul, Int.reduceAdd, Int.reduceSub, Int.reduceToNat, p_CntK]
  (repeat with_reducible refine And.intro (by first | exact True.intro | decide | omega | (simp [zib, zge, zgf, zgg, zgi, zgh, zgm]; first | done | omega)) ?_)
  refine ⟨t.keys, ⟨rfl, hl⟩, ?_⟩
  try simp only [blkP, go_sem, reduceCtorEq, Nat.reduceEqDiff, Nat.reduceAdd, Nat.reduceMul, Nat.reduceSub, Nat.reduceLeDiff, Nat.reduceLT, Int.reduceMul, Int.reduceAdd, Int.reduceSub, Int.reduceToNat]
  simp (disch := first | assumption | omega | (simp; done) | (simp; omega) | (simp only [bt, and_true]; first | done | omega | (simp; done))) [↓zlu, beq, ybc, ybd, ybe, endOk, wk, wk2, wk1, wkM, wkL, wkLL, ybf, hcl]
def checkMs (S : Sch) : List SMatch → List SKey → Int
  | m :: ms, k :: ks => if formedM m k.kind = false then 13 else if (m.present && !properM m k.kind (bitsF S k.field)) = true then 5 else checkMs S ms ks
  | _, _ => 0
def prioE (t : STable) (p : Int) : Int := if rankedT t = true then (if p < 1 ∨ p > 65535 then 14 else 0) else (if p < 0 ∨ p > 0 then 14 else 0)
def checkKeyE (S : Sch) (e : SEntry) : Int := match tabF S e.table with
  | none => 6
  | some t => if e.ms.length = t.keys.length then (if checkMs S e.ms t.keys = 0 then prioE t e.prio else checkMs S e.ms t.keys) else 13
def p_eCheckKey : List AV → AHeap → (AV → Prop) → Prop
  | [.agg l, .agg le], _, K => ∃ (S : Sch) (e : SEntry), (l = schC S ∧ le = entryC e ∧ S.tables.length ≤ 1000000 ∧ S.fields.length ≤ 1000000 ∧ (∀ t ∈ S.tables, t.keys.length ≤ 1000000) ∧ EOk e) ∧ K (.int .i64 (checkKeyE S e))
  | _, _, _ => False
set_option maxHeartbeats 4000000 in
theorem ok_eCheckKey : EntOk Try.prog 48 (Ent.pure p_eCheckKey) := by
  refine EntOk.pure fun args H K h => ?_
  unfold p_eCheckKey at h
  split at h
  rotate_left
  · exact h.elim
  rename_i l le
  obtain ⟨S, e, ⟨rfl, rfl, h1, h2, h3, h4, h5, h6⟩, hK⟩ := h
  refine ⟨_, hK, ?_⟩
  clear hK
  generalize hR : checkKeyE S e = R
  unfold checkKeyE at hR
  have htm : ∀ t, tabF S e.table = some t → t ∈ S.tables := fun t ht => List.mem_of_find?_eq_some ht
  cases ht : tabF S e.table with
  | none =>
    rw [ht] at hR
    subst hR
    refine ACalls.of_aw (Ω := [(74, Ent.pure p_eTable), (75, Ent.pure p_eFormed), (77, Ent.pure p_eBitsOf), (76, Ent.pure p_eProper), (78, Ent.pure p_eRanked)]) (T := assoc [(9, [[], [], [], [], [], [], [], [0, 2, 6]]), (11, [[], [], [], [], [], [], [], [], [], [], [], [], [], [], [], [], [1, 10, 12, 15], [1, 3, 5, 9, 10, 12, 15, 16]])]) mixed (TblOk.cons ok_eTable (TblOk.cons ok_eFormed (TblOk.cons ok_eBitsOf (TblOk.cons ok_eProper (TblOk.cons ok_eRanked TblOk.nil))))) Try.func48 (by kernel_rfl) (by rfl) (rs := [.tmp 4]) (by rfl) (by kernel_rfl) (by simp only [Try.ntmps48, yaz, yba]; decide) (Nat.le_refl _) fun hcl hlt => ?_
    change aw _ _ _ (KI Try.prog [(74, Ent.pure p_eTable), (75, Ent.pure p_eFormed), (77, Ent.pure p_eBitsOf), (76, Ent.pure p_eProper), (78, Ent.pure p_eRanked)] (aEnd Try.prog [.tmp 4] H.nx _ _ (assoc [(9, [[], [], [], [], [], [], [], [0, 2, 6]]), (11, [[], [], [], [], [], [], [], [], [], [], [], [], [], [], [], [], [1, 10, 12, 15], [1, 3, 5, 9, 10, 12, 15, 16]])])) []) _ _
    clear hlt
    simp only [go_sem, reduceCtorEq, Nat.reduceEqDiff, Nat.reduceAdd, Nat.reduceMul, Nat.reduceSub, Nat.reduceLeDiff, Nat.reduceLT, Int.reduceMul, Int.reduceAdd, Int.reduceSub, Int.reduceToNat, schC, entryC, p_eTable]
    (repeat with_reducible refine And.intro (by first | exact True.intro | decide | omega | (simp [zib, zge, zgf, zgg, zgi, zgh, zgm]; first | done | omega)) ?_)
    refine ⟨S, ⟨rfl, h1⟩, ?_⟩
    rw [ht]
    try simp only [blkP, go_sem, reduceCtorEq, Nat.reduceEqDiff, Nat.reduceAdd, Nat.reduceMul, Nat.reduceSub, Nat.reduceLeDiff, Nat.reduceLT, Int.reduceMul, Int.reduceAdd, Int.reduceSub, Int.reduceToNat, tableAV, noTable, yaf, inL]
    simp (disch := first | assumption | omega | (simp; done) | (simp; omega) | (simp only [bt, and_true]; first | done | omega | (simp; done))) [↓zlu, beq, ybc, ybd, ybe, endOk, wk, wk2, wk1, wkM, wkL, wkLL, ybf, hcl]
  | some t =>
    rw [ht] at hR
    dsimp only at hR
    have hkl := h3 t (htm t ht)
    by_cases hlen : e.ms.length = t.keys.length
    rotate_left
    · rw [if_neg hlen] at hR
      subst hR
      have d1 : ((e.ms.length : Int) != (t.keys.length : Int)) = true := by simp; omega
      refine ACalls.of_aw (Ω := [(74, Ent.pure p_eTable), (75, Ent.pure p_eFormed), (77, Ent.pure p_eBitsOf), (76, Ent.pure p_eProper), (78, Ent.pure p_eRanked)]) (T := assoc [(9, [[], [], [], [], [], [], [], [0, 2, 6]]), (11, [[], [], [], [], [], [], [], [], [], [], [], [], [], [], [], [], [1, 10, 12, 15], [1, 3, 5, 9, 10, 12, 15, 16]])]) mixed (TblOk.cons ok_eTable (TblOk.cons ok_eFormed (TblOk.cons ok_eBitsOf (TblOk.cons ok_eProper (TblOk.cons ok_eRanked TblOk.nil))))) Try.func48 (by kernel_rfl) (by rfl) (rs := [.tmp 4]) (by rfl) (by kernel_rfl) (by simp only [Try.ntmps48, yaz, yba]; decide) (Nat.le_refl _) fun hcl hlt => ?_
      change aw _ _ _ (KI Try.prog [(74, Ent.pure p_eTable), (75, Ent.pure p_eFormed), (77, Ent.pure p_eBitsOf), (76, Ent.pure p_eProper), (78, Ent.pure p_eRanked)] (aEnd Try.prog [.tmp 4] H.nx _ _ (assoc [(9, [[], [], [], [], [], [], [], [0, 2, 6]]), (11, [[], [], [], [], [], [], [], [], [], [], [], [], [], [], [], [], [1, 10, 12, 15], [1, 3, 5, 9, 10, 12, 15, 16]])])) []) _ _
      clear hlt
      simp only [go_sem, reduceCtorEq, Nat.reduceEqDiff, Nat.reduceAdd, Nat.reduceMul, Nat.reduceSub, Nat.reduceLeDiff, Nat.reduceLT, Int.reduceMul, Int.reduceAdd, Int.reduceSub, Int.reduceToNat, schC, entryC, p_eTable]
      (repeat with_reducible refine And.intro (by first | exact True.intro | decide | omega | (simp [zib, zge, zgf, zgg, zgi, zgh, zgm]; first | done | omega)) ?_)
      refine ⟨S, ⟨rfl, h1⟩, ?_⟩
      rw [ht]
      try simp only [blkP, go_sem, reduceCtorEq, Nat.reduceEqDiff, Nat.reduceAdd, Nat.reduceMul, Nat.reduceSub, Nat.reduceLeDiff, Nat.reduceLT, Int.reduceMul, Int.reduceAdd, Int.reduceSub, Int.reduceToNat, tableAV, ybb, d1]
      simp (disch := first | assumption | omega | (simp; done) | (simp; omega) | (simp only [bt, and_true]; first | done | omega | (simp; done))) [↓zlu, beq, ybc, ybd, ybe, endOk, wk, wk2, wk1, wkM, wkL, wkLL, ybf, hcl]
    rw [if_pos hlen] at hR
    have d1 : ((e.ms.length : Int) != (t.keys.length : Int)) = false := by simp; omega
    obtain ⟨tc, htc⟩ : ∃ tc, tc = [AV.int .i64 t.id, .str t.name, .slice .any 3 (t.keys.map keyAV), .slice .any 1 (inL t.actions), .int .i64 t.dflt, .slice .any 2 (t.dargs.map vv), .int .i64 t.size, .str t.restr] := ⟨_, rfl⟩
    refine ACalls.of_aw (Ω := [(74, Ent.pure p_eTable), (75, Ent.pure p_eFormed), (77, Ent.pure p_eBitsOf), (76, Ent.pure p_eProper), (78, Ent.pure p_eRanked)]) (T := assoc [(9, [[], [], [], [], [], [], [], [0, 2, 6]]), (11, [[], [], [], [], [], [], [], [], [], [], [], [], [], [], [], [], [1, 10, 12, 15], [1, 3, 5, 9, 10, 12, 15, 16]])]) mixed (TblOk.cons ok_eTable (TblOk.cons ok_eFormed (TblOk.cons ok_eBitsOf (TblOk.cons ok_eProper (TblOk.cons ok_eRanked TblOk.nil))))) Try.func48 (by kernel_rfl) (by rfl) (rs := [.tmp 4]) (by rfl) (by kernel_rfl) (by simp only [Try.ntmps48, yaz, yba]; decide) (Nat.le_refl _) fun hcl hlt => ?_
    change aw _ _ _ (KI Try.prog [(74, Ent.pure p_eTable), (75, Ent.pure p_eFormed), (77, Ent.pure p_eBitsOf), (76, Ent.pure p_eProper), (78, Ent.pure p_eRanked)] (aEnd Try.prog [.tmp 4] H.nx _ _ (assoc [(9, [[], [], [], [], [], [], [], [0, 2, 6]]), (11, [[], [], [], [], [], [], [], [], [], [], [], [], [], [], [], [], [1, 10, 12, 15], [1, 3, 5, 9, 10, 12, 15, 16]])])) []) _ _
    clear hlt
    simp only [go_sem, reduceCtorEq, Nat.reduceEqDiff, Nat.reduceAdd, Nat.reduceMul, Nat.reduceSub, Nat.reduceLeDiff, Nat.reduceLT, Int.reduceMul, Int.reduceAdd, Int.reduceSub, Int.reduceToNat, schC, entryC, p_eTable]
    (repeat with_reducible refine And.intro (by first | exact True.intro | decide | omega | (simp [zib, zge, zgf, zgg, zgi, zgh, zgm]; first | done | omega)) ?_)
    refine ⟨S, ⟨rfl, h1⟩, ?_⟩
    rw [ht]
    simp only [blkP, go_sem, reduceCtorEq, Nat.reduceEqDiff, Nat.reduceAdd, Nat.reduceMul, Nat.reduceSub, Nat.reduceLeDiff, Nat.reduceLT, Int.reduceMul, Int.reduceAdd, Int.reduceSub, Int.reduceToNat, tableAV, ybb, d1]
    obtain ⟨HB, hHB⟩ : ∃ HB, ((H.push (.cells (schC S))).push (.cells (entryC e))).push (.cells tc) = HB := ⟨_, rfl⟩
    have hclB : HB.Closed := by
      rw [← hHB, htc]
      exact closed_cells (closed_cells (closed_cells hcl (ltL_iff.2 fun j hj => AV.lt_cells (lt_sch S) j hj)) (ltL_iff.2 fun j hj => AV.lt_cells (lt_entry e) j hj)) (ltL_iff.2 fun j hj => AV.lt_cells (lt_table t) j hj)
    have hnB : HB.nx = H.nx + 1 + 1 + 1 := by rw [← hHB]; rfl
    refine loop_introW (A := Nat) (fun k => [(2, .ptr H.nx 0), (3, .ptr (H.nx + 1) 0), (5, .ptr (H.nx + 1 + 1) 0), (27, .slice .any 8 (e.ms.map matchAV)), (28, .int .i64 (e.ms.length : Int)), (29, .int .i64 (k : Int))]) (fun _ => HB) (fun k => k ≤ e.ms.length ∧ (if checkMs S (e.ms.drop k) (t.keys.drop k) = 0 then prioE t e.prio else checkMs S (e.ms.drop k) (t.keys.drop k)) = R) (fun k => e.ms.length - k) 0 ⟨by omega, hR⟩ ?_ fun k hk => ?_
    · refine ⟨by simp only [hnB, zjw, zkb]; omega, by rw [← hHB, htc]; exact AHeap.Le.refl _, hclB, ?_, ?_⟩
      · simp [ltF, hnB, zmt, zml, lt_map lt_match]
        omega
      · simp [subW, wk2, wk1, wkM, Fr.get]
    clear hR
    obtain ⟨hk, hR⟩ := hk
    simp only [go_sem, reduceCtorEq, Nat.reduceEqDiff, Nat.reduceAdd, Nat.reduceMul, Nat.reduceSub, Nat.reduceLeDiff, Nat.reduceLT, Int.reduceMul, Int.reduceAdd, Int.reduceSub, Int.reduceToNat]
    refine cond_split (fun hc => ?_) (fun hc => ?_)
    · have hk' : k < e.ms.length := by simp at hc; omega
      have hk2 : k < t.keys.length := by omega
      obtain ⟨x, hx⟩ : ∃ x, x = t.keys[k] := ⟨_, rfl⟩
      obtain ⟨m, hm⟩ : ∃ m, m = e.ms[k] := ⟨_, rfl⟩
      have hd : t.keys.drop k = x :: t.keys.drop (k + 1) := by rw [hx]; exact List.drop_eq_getElem_cons hk2
      have hd2 : e.ms.drop k = m :: e.ms.drop (k + 1) := by rw [hm]; exact List.drop_eq_getElem_cons hk'
      have hkg := getD_map (f := keyAV) (l := t.keys) (k := k) (x := x) (by rw [List.getElem?_eq_getElem hk2, hx])
      have hmg := getD_map (f := matchAV) (l := e.ms) (k := k) (x := m) (by rw [List.getElem?_eq_getElem hk', hm])
      have hmo := h6 m (by rw [hm]; exact List.getElem_mem hk')
      have e5 : IntKind.i64.wrap ((k : Int) + 1) = ((k + 1 : Nat) : Int) := by rw [wrap_i64] <;> omega
      rw [hd, hd2] at hR
      rw [← hHB, htc]
      simp only [go_sem, reduceCtorEq, Nat.reduceEqDiff, Nat.reduceAdd, Nat.reduceMul, Nat.reduceSub, Nat.reduceLeDiff, Nat.reduceLT, Int.reduceMul, Int.reduceAdd, Int.reduceSub, Int.reduceToNat, schC, entryC, Int.toNat_natCast, ybb, hkg, keyAV, hmg, matchAV, vc, matchC, yal, yak, p_eFormed]
      (repeat with_reducible refine And.intro (by first | exact True.intro | decide | omega | (simp [zib, zge, zgf, zgg, zgi, zgh, zgm]; first | done | omega)) ?_)
      refine ⟨m, rfl, ?_⟩
      cases hf : formedM m x.kind
      · have hck : checkMs S (m :: e.ms.drop (k + 1)) (x :: t.keys.drop (k + 1)) = 13 := by unfold checkMs; rw [if_pos hf]
        rw [hck, if_neg (by decide)] at hR
        subst hR
        simp only [blkP, go_sem, reduceCtorEq, Nat.reduceEqDiff, Nat.reduceAdd, Nat.reduceMul, Nat.reduceSub, Nat.reduceLeDiff, Nat.reduceLT, Int.reduceMul, Int.reduceAdd, Int.reduceSub, Int.reduceToNat, Bool.not_false]
        (repeat with_reducible refine And.intro (by first | exact True.intro | decide | omega | (simp [zib, zge, zgf, zgg, zgi, zgh, zgm]; first | done | omega)) ?_)
        simp (disch := first | assumption | omega | (simp; done) | (simp; omega) | (simp only [bt, and_true]; first | done | omega | (simp; done))) [↓zlu, beq, ybc, ybd, ybe, endOk, wk, wk2, wk1, wkM, wkL, wkLL, ybf, hcl]
        first | done | repeat (first | exact AHeap.Le.refl _ | refine AHeap.Le.push ?_ _)
      cases hp : m.present
      · have hck : checkMs S (m :: e.ms.drop (k + 1)) (x :: t.keys.drop (k + 1)) = checkMs S (e.ms.drop (k + 1)) (t.keys.drop (k + 1)) := by
          rw [checkMs, if_neg (by rw [hf]; decide), hp, Bool.false_and, if_neg (by decide)]
        rw [hck] at hR
        simp only [blkP, go_sem, reduceCtorEq, Nat.reduceEqDiff, Nat.reduceAdd, Nat.reduceMul, Nat.reduceSub, Nat.reduceLeDiff, Nat.reduceLT, Int.reduceMul, Int.reduceAdd, Int.reduceSub, Int.reduceToNat, Bool.not_true, Bool.not_false, schC, entryC, Int.toNat_natCast, ybb, hkg, keyAV, hmg, matchAV, vc, matchC, yal, yak, hp, e5]
        rw [← htc]
        refine ⟨k + 1, ⟨by omega, hR⟩, by omega, by simp only [zkk]; omega, (AHeap.Le.refl _).push _, by rw [← hHB] at hclB; exact hclB, ?_, ?_⟩
        · simp [ltF, zkk, zmt, zml, lt_map lt_match]
          omega
        · simp [subW, wk2, wk1, wkM, Fr.get]
      have hsim : ∀ q, properM m x.kind (bitsF S x.field) = q → checkMs S (m :: e.ms.drop (k + 1)) (x :: t.keys.drop (k + 1)) = if q = true then checkMs S (e.ms.drop (k + 1)) (t.keys.drop (k + 1)) else 5 := fun q hq => by
        rw [checkMs, if_neg (by rw [hf]; decide), hp, hq, Bool.true_and]
        cases q <;> rfl
      simp only [blkP, go_sem, reduceCtorEq, Nat.reduceEqDiff, Nat.reduceAdd, Nat.reduceMul, Nat.reduceSub, Nat.reduceLeDiff, Nat.reduceLT, Int.reduceMul, Int.reduceAdd, Int.reduceSub, Int.reduceToNat, Bool.not_true, Bool.not_false, schC, entryC, Int.toNat_natCast, ybb, hkg, keyAV, hmg, matchAV, vc, matchC, yal, yak, hp, e5, p_eBitsOf, p_eProper]
      (repeat with_reducible refine And.intro (by first | exact True.intro | decide | omega | (simp [zib, zge, zgf, zgg, zgi, zgh, zgm]; first | done | omega)) ?_)
      refine ⟨S, ⟨rfl, h2⟩, ?_⟩
      try simp only [blkP, go_sem, reduceCtorEq, Nat.reduceEqDiff, Nat.reduceAdd, Nat.reduceMul, Nat.reduceSub, Nat.reduceLeDiff, Nat.reduceLT, Int.reduceMul, Int.reduceAdd, Int.reduceSub, Int.reduceToNat, Bool.not_true, Bool.not_false, schC, entryC, Int.toNat_natCast, ybb, hkg, keyAV, hmg, matchAV, vc, matchC, yal, yak, hp, e5, p_eBitsOf, p_eProper]
      refine ⟨m, ⟨by rw [hp], hmo⟩, ?_⟩
      cases hq : properM m x.kind (bitsF S x.field)
      · rw [hsim _ hq, show (if false = true then checkMs S (e.ms.drop (k + 1)) (t.keys.drop (k + 1)) else 5) = (5 : Int) from rfl, if_neg (by decide)] at hR
        subst hR
        simp only [blkP, go_sem, reduceCtorEq, Nat.reduceEqDiff, Nat.reduceAdd, Nat.reduceMul, Nat.reduceSub, Nat.reduceLeDiff, Nat.reduceLT, Int.reduceMul, Int.reduceAdd, Int.reduceSub, Int.reduceToNat, Bool.not_false]
        (repeat with_reducible refine And.intro (by first | exact True.intro | decide | omega | (simp [zib, zge, zgf, zgg, zgi, zgh, zgm]; first | done | omega)) ?_)
        simp (disch := first | assumption | omega | (simp; done) | (simp; omega) | (simp only [bt, and_true]; first | done | omega | (simp; done))) [↓zlu, beq, ybc, ybd, ybe, endOk, wk, wk2, wk1, wkM, wkL, wkLL, ybf, hcl]
        first | done | repeat (first | exact AHeap.Le.refl _ | refine AHeap.Le.push ?_ _)
      · rw [hsim _ hq, if_pos rfl] at hR
        simp only [blkP, go_sem, reduceCtorEq, Nat.reduceEqDiff, Nat.reduceAdd, Nat.reduceMul, Nat.reduceSub, Nat.reduceLeDiff, Nat.reduceLT, Int.reduceMul, Int.reduceAdd, Int.reduceSub, Int.reduceToNat, Bool.not_true, e5]
        (repeat with_reducible refine And.intro (by first | exact True.intro | decide | omega | (simp [zib, zge, zgf, zgg, zgi, zgh, zgm]; first | done | omega)) ?_)
        rw [← htc]
        refine ⟨k + 1, ⟨by omega, hR⟩, by omega, by simp only [zkk]; omega, (AHeap.Le.refl _).push _, by rw [← hHB] at hclB; exact hclB, ?_, ?_⟩
        · simp [ltF, zkk, zmt, zml, lt_map lt_match]
          omega
        · simp [subW, wk2, wk1, wkM, Fr.get]
    · have hk' : k = e.ms.length := by simp at hc; omega
      subst hk'
      rw [List.drop_length] at hR
      have hck : checkMs S [] (t.keys.drop e.ms.length) = 0 := by unfold checkMs; rfl
      rw [hck, if_pos rfl] at hR
      unfold prioE at hR
      rw [← hHB, htc]
      simp only [go_sem, reduceCtorEq, Nat.reduceEqDiff, Nat.reduceAdd, Nat.reduceMul, Nat.reduceSub, Nat.reduceLeDiff, Nat.reduceLT, Int.reduceMul, Int.reduceAdd, Int.reduceSub, Int.reduceToNat, schC, entryC, p_eRanked]
      refine ⟨t, ⟨rfl, hkl⟩, ?_⟩
      cases hrk : rankedT t
      · rw [hrk, if_neg (by decide)] at hR
        simp only [blkP, go_sem, reduceCtorEq, Nat.reduceEqDiff, Nat.reduceAdd, Nat.reduceMul, Nat.reduceSub, Nat.reduceLeDiff, Nat.reduceLT, Int.reduceMul, Int.reduceAdd, Int.reduceSub, Int.reduceToNat, entryC]
        by_cases p1 : e.prio < 0
        · rw [if_pos (.inl p1)] at hR
          subst hR
          have d1 : decide (e.prio < 0) = true := decide_eq_true p1
          try simp only [blkP, go_sem, reduceCtorEq, Nat.reduceEqDiff, Nat.reduceAdd, Nat.reduceMul, Nat.reduceSub, Nat.reduceLeDiff, Nat.reduceLT, Int.reduceMul, Int.reduceAdd, Int.reduceSub, Int.reduceToNat, entryC, d1]
          simp (disch := first | assumption | omega | (simp; done) | (simp; omega) | (simp only [bt, and_true]; first | done | omega | (simp; done))) [↓zlu, beq, ybc, ybd, ybe, endOk, wk, wk2, wk1, wkM, wkL, wkLL, ybf, hcl]
          first | done | repeat (first | exact AHeap.Le.refl _ | refine AHeap.Le.push ?_ _)
        · have d1 : decide (e.prio < 0) = false := decide_eq_false p1
          by_cases p2 : e.prio > 0
          · rw [if_pos (.inr p2)] at hR
            subst hR
            have d2 : decide (e.prio > 0) = true := decide_eq_true p2
            try simp only [blkP, go_sem, reduceCtorEq, Nat.reduceEqDiff, Nat.reduceAdd, Nat.reduceMul, Nat.reduceSub, Nat.reduceLeDiff, Nat.reduceLT, Int.reduceMul, Int.reduceAdd, Int.reduceSub, Int.reduceToNat, entryC, d1, d2]
            simp (disch := first | assumption | omega | (simp; done) | (simp; omega) | (simp only [bt, and_true]; first | done | omega | (simp; done))) [↓zlu, beq, ybc, ybd, ybe, endOk, wk, wk2, wk1, wkM, wkL, wkLL, ybf, hcl]
            first | done | repeat (first | exact AHeap.Le.refl _ | refine AHeap.Le.push ?_ _)
          · rw [if_neg (by omega)] at hR
            subst hR
            have d2 : decide (e.prio > 0) = false := decide_eq_false p2
            try simp only [blkP, go_sem, reduceCtorEq, Nat.reduceEqDiff, Nat.reduceAdd, Nat.reduceMul, Nat.reduceSub, Nat.reduceLeDiff, Nat.reduceLT, Int.reduceMul, Int.reduceAdd, Int.reduceSub, Int.reduceToNat, entryC, d1, d2]
            simp (disch := first | assumption | omega | (simp; done) | (simp; omega) | (simp only [bt, and_true]; first | done | omega | (simp; done))) [↓zlu, beq, ybc, ybd, ybe, endOk, wk, wk2, wk1, wkM, wkL, wkLL, ybf, hcl]
            first | done | repeat (first | exact AHeap.Le.refl _ | refine AHeap.Le.push ?_ _)
      · rw [hrk, if_pos rfl] at hR
        simp only [blkP, go_sem, reduceCtorEq, Nat.reduceEqDiff, Nat.reduceAdd, Nat.reduceMul, Nat.reduceSub, Nat.reduceLeDiff, Nat.reduceLT, Int.reduceMul, Int.reduceAdd, Int.reduceSub, Int.reduceToNat, entryC]
        by_cases p1 : e.prio < 1
        · rw [if_pos (.inl p1)] at hR
          subst hR
          have d1 : decide (e.prio < 1) = true := decide_eq_true p1
          try simp only [blkP, go_sem, reduceCtorEq, Nat.reduceEqDiff, Nat.reduceAdd, Nat.reduceMul, Nat.reduceSub, Nat.reduceLeDiff, Nat.reduceLT, Int.reduceMul, Int.reduceAdd, Int.reduceSub, Int.reduceToNat, entryC, d1]
          simp (disch := first | assumption | omega | (simp; done) | (simp; omega) | (simp only [bt, and_true]; first | done | omega | (simp; done))) [↓zlu, beq, ybc, ybd, ybe, endOk, wk, wk2, wk1, wkM, wkL, wkLL, ybf, hcl]
          first | done | repeat (first | exact AHeap.Le.refl _ | refine AHeap.Le.push ?_ _)
        · have d1 : decide (e.prio < 1) = false := decide_eq_false p1
          by_cases p2 : e.prio > 65535
          · rw [if_pos (.inr p2)] at hR
            subst hR
            have d2 : decide (e.prio > 65535) = true := decide_eq_true p2
            try simp only [blkP, go_sem, reduceCtorEq, Nat.reduceEqDiff, Nat.reduceAdd, Nat.reduceMul, Nat.reduceSub, Nat.reduceLeDiff, Nat.reduceLT, Int.reduceMul, Int.reduceAdd, Int.reduceSub, Int.reduceToNat, entryC, d1, d2]
            simp (disch := first | assumption | omega | (simp; done) | (simp; omega) | (simp only [bt, and_true]; first | done | omega | (simp; done))) [↓zlu, beq, ybc, ybd, ybe, endOk, wk, wk2, wk1, wkM, wkL, wkLL, ybf, hcl]
            first | done | repeat (first | exact AHeap.Le.refl _ | refine AHeap.Le.push ?_ _)
          · rw [if_neg (by omega)] at hR
            subst hR
            have d2 : decide (e.prio > 65535) = false := decide_eq_false p2
            try simp only [blkP, go_sem, reduceCtorEq, Nat.reduceEqDiff, Nat.reduceAdd, Nat.reduceMul, Nat.reduceSub, Nat.reduceLeDiff, Nat.reduceLT, Int.reduceMul, Int.reduceAdd, Int.reduceSub, Int.reduceToNat, entryC, d1, d2]
            simp (disch := first | assumption | omega | (simp; done) | (simp; omega) | (simp only [bt, and_true]; first | done | omega | (simp; done))) [↓zlu, beq, ybc, ybd, ybe, endOk, wk, wk2, wk1, wkM, wkL, wkLL, ybf, hcl]
            first | done | repeat (first | exact AHeap.Le.refl _ | refine AHeap.Le.push ?_ _)
end Go.AL


open Go Go.AL Go.Proofs
namespace Go.AL
set_option linter.all false
set_option maxRecDepth 10000

theorem actionL_in {P : SAction → Prop} (h0 : P ⟨0, [], [], [], []⟩) : ∀ {l : List SAction} {a : Int}, (∀ x ∈ l, P x) → P (actionL l a)
  | [], _, _ => h0
  | x :: l, a, h => by
    unfold actionL
    split
    · exact h x List.mem_cons_self
    · exact actionL_in h0 fun y hy => h y (List.mem_cons_of_mem _ hy)
theorem gTables_keys {b : List UInt8} {v : Nat} : ∀ t ∈ gTables b v, t.keys.length ≤ 3 ∧ (∀ k ∈ t.keys, 1 ≤ bitsL gFields k.field ∧ bitsL gFields k.field ≤ 32 ∧ (k.kind = 2 → 16 ≤ bitsL gFields k.field)) ∧ 1 ≤ t.actions.length ∧ t.actions.length ≤ 5 := by
  intro t ht
  simp only [gTables, List.mem_cons, List.not_mem_nil, or_false] at ht
  rcases ht with rfl | rfl | rfl | rfl
  · refine ⟨by simp [gTable0], fun k hk => ?_, by simp [gTable0], by simp [gTable0]⟩
    simp only [gTable0, List.mem_cons, List.not_mem_nil, or_false] at hk
    subst hk
    decide
  · refine ⟨by simp only [gTable1]; split <;> simp, fun k hk => ?_, by simp [gTable1], by simp [gTable1]⟩
    simp only [gTable1] at hk
    split at hk <;> simp only [yal, yak, yaj, List.mem_cons, List.not_mem_nil, or_false] at hk
    · rcases hk with rfl | rfl <;> decide
    · subst hk; decide
  · refine ⟨by simp only [gTable2]; split <;> simp, fun k hk => ?_, by simp [gTable2], by simp [gTable2]⟩
    simp only [gTable2] at hk
    split at hk <;> simp only [yal, yak, yaj, List.mem_cons, List.not_mem_nil, or_false] at hk
    · rcases hk with rfl | rfl | rfl <;> decide
    · rcases hk with rfl | rfl <;> decide
  · refine ⟨by simp only [gTable3]; split <;> simp, fun k hk => ?_, by simp [gTable3], by simp [gTable3]⟩
    simp only [gTable3] at hk
    split at hk <;> simp only [yal, yak, yaj, List.mem_cons, List.not_mem_nil, or_false] at hk
    · rcases hk with rfl | rfl | rfl <;> decide
    · subst hk; decide
theorem gActions_in {b : List UInt8} {v : Nat} : ∀ a ∈ gActions b v, a.params.length ≤ 4 ∧ ∀ p ∈ a.params, 0 ≤ p.bits ∧ p.bits ≤ 1000 := by
  intro a ha
  simp only [gActions, List.mem_cons, List.not_mem_nil, or_false] at ha
  rcases ha with rfl | rfl | rfl | rfl | rfl | rfl <;> refine ⟨by simp, fun p hp => ?_⟩ <;> simp only [List.mem_cons, List.not_mem_nil, or_false] at hp <;> first | exact hp.elim | (subst hp; decide) | (rcases hp with rfl | rfl <;> decide)
theorem genS_ok (b : List UInt8) (v : Nat) : GenS (gSchema b v).1 where
  fl := (by decide : gFields.length ≤ 1000)
  al := by simp [gSchema, gActions]
  tl := by simp [gSchema, gTables]
  t1 := by simp [gSchema, gTables]
  kl := fun t ht => by have := (gTables_keys t ht).1; omega
  kb := fun t ht => (gTables_keys t ht).2.1
  a1 := fun t ht => ⟨(gTables_keys t ht).2.2.1, by have := (gTables_keys t ht).2.2.2; omega⟩
  pl := fun a => actionL_in (P := fun x => x.params.length ≤ 100) (by decide) fun x hx => by have := (gActions_in x hx).1; omega
  pb := fun a => actionL_in (P := fun x => ∀ p ∈ x.params, 0 ≤ p.bits ∧ p.bits ≤ 1000) (by simp) fun x hx => (gActions_in x hx).2
def e0 : SEntry := ⟨2, [⟨true, 167772161, 0, 8, 0⟩], 0, 0, []⟩
theorem begun_check : checkKeyE (gSchema [] 0).1 e0 = 5 := by decide +kernel
theorem begun_covers : coversM ⟨true, 167772160, 0, 8, 0⟩ 2 32 167838211 = true := by decide +kernel
theorem zod_codV {b : List UInt8} : zod b 0 = codV b (cp 0 0) := by
  unfold zod codV cp
  simp
def p_begun10 : List AV → AHeap → (AV → Prop) → Prop
  | [], _, K => K (.bool true)
  | _, _, _ => False
set_option maxHeartbeats 2000000 in
theorem ok_begun10 : EntOk Try.prog 16 (Ent.pure p_begun10) := by
  refine EntOk.pure fun args H K h => ?_
  unfold p_begun10 at h
  split at h
  rotate_left
  · exact h.elim
  refine ⟨_, h, ?_⟩
  clear h
  have hG := genS_ok [] 0
  have hbc := begun_check
  have hbo := begun_covers
  generalize hS : (gSchema [] 0).1 = S at *
  refine ACalls.of_aw (Ω := [(5, Ent.effect e_ZNew), (6, Ent.effect e_CSchema), (48, Ent.pure p_eCheckKey), (49, Ent.pure p_eCovers)]) (T := assoc [(3, [[16]])]) mixed (TblOk.cons ok_ZNew (TblOk.cons ok_CSchema (TblOk.cons ok_eCheckKey (TblOk.cons ok_eCovers TblOk.nil)))) Try.func16 (by kernel_rfl) (by rfl) (rs := [.tmp 0]) (by rfl) (by kernel_rfl) (by simp only [Try.ntmps16, yaz, yba]; decide) (Nat.le_refl _) fun hcl hlt => ?_
  change aw _ _ _ (KI Try.prog [(5, Ent.effect e_ZNew), (6, Ent.effect e_CSchema), (48, Ent.pure p_eCheckKey), (49, Ent.pure p_eCovers)] (aEnd Try.prog [.tmp 0] H.nx _ _ (assoc [(3, [[16]])])) []) _ _
  clear hlt
  have hze : zod ([] : List UInt8) 0 = codV [] (cp 0 0) := zod_codV
  have hS' : schAV (gSchema [] 0).1 = .agg (schC S) := by rw [hS]; rfl
  simp only [go_sem, reduceCtorEq, Nat.reduceEqDiff, Nat.reduceAdd, Nat.reduceMul, Nat.reduceSub, Nat.reduceLeDiff, Nat.reduceLT, Int.reduceMul, Int.reduceAdd, Int.reduceSub, Int.reduceToNat, e_ZNew]
  refine ⟨[], ⟨rfl, by omega⟩, ?_⟩
  simp only [blkE, blkP, bhq, Nat.reduceMod, Nat.reduceDiv, stepH, stepM, toMs1, toMs, toMs0, strK, pubK, pubF, pubV, yaq, yar, yao, yap, go_sem, reduceCtorEq, Nat.reduceEqDiff, Nat.reduceAdd, Nat.reduceMul, Nat.reduceSub, Nat.reduceLeDiff, Nat.reduceLT, Int.reduceMul, Int.reduceAdd, Int.reduceSub, Int.reduceToNat, e_ZNew, e_CSchema, eG, yas, hze, onC_cod (b := []) (by decide), yba, Nat.min_zero, hS', schC]
  refine weak_slot 12 (entryAV e0) ?_ ?_
  · simp [Fr.get, entryAV, entryC, e0, matchAV, matchC, vc, AV.cells, wkD_agg, wkD_slice, wkDL_cons, wkDL_nil, wkDR_cons, wkDR_nil, wkD_int, wkD_bool, wkM]
  simp only [blkE, blkP, bhq, Nat.reduceMod, Nat.reduceDiv, stepH, stepM, toMs1, toMs, toMs0, strK, pubK, pubF, pubV, yaq, yar, yao, yap, go_sem, reduceCtorEq, Nat.reduceEqDiff, Nat.reduceAdd, Nat.reduceMul, Nat.reduceSub, Nat.reduceLeDiff, Nat.reduceLT, Int.reduceMul, Int.reduceAdd, Int.reduceSub, Int.reduceToNat, e_ZNew, e_CSchema, eG, yas, hze, onC_cod (b := []) (by decide), yba, Nat.min_zero, hS', schC, entryAV, entryC, p_eCheckKey]
  refine ⟨S, e0, ⟨rfl, rfl, by have := hG.tl; omega, by have := hG.fl; omega, fun t ht => by have := hG.kl t ht; omega, ⟨by decide, by decide, ?_⟩⟩, ?_⟩
  · intro m hm
    simp only [e0, List.mem_cons, List.not_mem_nil, or_false] at hm
    subst hm
    exact ⟨by decide, by decide, by decide⟩
  rw [hbc]
  simp only [blkE, blkP, bhq, Nat.reduceMod, Nat.reduceDiv, stepH, stepM, toMs1, toMs, toMs0, strK, pubK, pubF, pubV, yaq, yar, yao, yap, go_sem, reduceCtorEq, Nat.reduceEqDiff, Nat.reduceAdd, Nat.reduceMul, Nat.reduceSub, Nat.reduceLeDiff, Nat.reduceLT, Int.reduceMul, Int.reduceAdd, Int.reduceSub, Int.reduceToNat, e_ZNew, e_CSchema, eG, yas, hze, onC_cod (b := []) (by decide), yba, Nat.min_zero, hS', schC, p_eCovers]
  refine ⟨⟨true, 167772160, 0, 8, 0⟩, ⟨rfl, ⟨by decide, by decide, by decide⟩, by unfold isV; decide⟩, ?_⟩
  rw [vOf_zero, hbo]
  refine both_split (fun _ => ?_) (fun h => by cases h)
  rw [show ((5 : Int) == 5) = true from rfl]
  simp (disch := first | assumption | omega | (simp; done) | (simp; omega) | (simp only [bt, and_true]; first | done | omega | (simp; done))) [↓zlu, beq, ybc, ybd, ybe, endOk, wk, wk2, wk1, wkM, wkL, wkLL, ybf, hcl]
  first | done | repeat (first | exact AHeap.Le.refl _ | refine AHeap.Le.push ?_ _)
end Go.AL

