/- Contracts and plain laws, a part of the proof; no condition of its own. -/
import Derived.Test.YtgihhefckdgeoaaS10j
open List renaming length_cons → yaz, length_nil → yba, cons_append → yal, nil_append → yak, take_of_length_le → ybc, drop_append → ybd, take_append → ybe, drop_eq_nil_of_le → ybf, map_nil → yaf, length_map → ybb
open Go Go.AL Go.Proofs
namespace Go.AL
set_option linter.all false
set_option maxRecDepth 10000

def coversM (m : SMatch) (kind bits : Int) (v : Nat) : Bool :=
  if m.present = false then decide (1 ≤ kind ∧ kind ≤ 4)
  else if kind = 1 then decide (v = m.value)
  else if kind = 2 then decide (v &&& leadN bits m.pfx = m.value &&& leadN bits m.pfx)
  else if kind = 3 then decide (v &&& m.mask = m.value)
  else if kind = 4 then decide (m.value ≤ v ∧ v ≤ m.high)
  else false
structure MOk (m : SMatch) : Prop where
  v : m.value < 2 ^ 128
  k : m.mask < 2 ^ 128
  h : m.high < 2 ^ 128
theorem isV_out {a b : Int} (h : isV a b) : ∃ x : Nat, x < 2 ^ 128 ∧ a = ((x / 2 ^ 64 : Nat) : Int) ∧ b = ((x % 2 ^ 64 : Nat) : Int) ∧ vOf a.toNat b.toNat = x := by
  obtain ⟨h0, h1, h2, h3⟩ := h
  obtain ⟨x, rfl⟩ := u64_lift h0
  obtain ⟨y, rfl⟩ := u64_lift h2
  have hy : y < 2 ^ 64 := by omega
  refine ⟨vOf x y, vOf_lt (by omega) hy, by rw [vOf_hi hy], by rw [vOf_lo hy], by simp only [Int.toNat_natCast]⟩
theorem val_eq {x y : Nat} : ((((x / 2 ^ 64 : Nat) : Int) == ((y / 2 ^ 64 : Nat) : Int)) && ((((x % 2 ^ 64 : Nat) : Int) == ((y % 2 ^ 64 : Nat) : Int)) && true)) = decide (x = y) := by
  rw [Bool.eq_iff_iff]
  simp only [Bool.and_eq_true, beq_iff_eq, decide_eq_true_eq, and_true]
  omega
theorem val_eq' {x y : Nat} : ((((x / 2 ^ 64 : Nat) : Int) == ((y / 2 ^ 64 : Nat) : Int)) && (((x % 2 ^ 64 : Nat) : Int) == ((y % 2 ^ 64 : Nat) : Int))) = decide (x = y) := by
  rw [← val_eq, Bool.and_true]
theorem isV_of {x : Nat} (h : x < 2 ^ 128) : isV ((x / 2 ^ 64 : Nat) : Int) ((x % 2 ^ 64 : Nat) : Int) = True := eq_true (by unfold isV; omega)
theorem cmpN_le {x y : Nat} : decide (cmpN x y ≤ 0) = decide (x ≤ y) := by
  unfold cmpN
  rw [decide_eq_decide]
  split
  · simp; omega
  · split <;> simp <;> omega
def p_eCovers : List AV → AHeap → (AV → Prop) → Prop
  | [.agg l, .int .i64 k, .int .i64 w, .agg [.int .u64 a, .int .u64 b]], _, K => ∃ m : SMatch, (l = matchC m ∧ MOk m ∧ isV a b) ∧ K (.bool (coversM m k w (vOf a.toNat b.toNat)))
  | _, _, _ => False
set_option maxHeartbeats 4000000 in
theorem ok_eCovers : EntOk Try.prog 24 (Ent.pure p_eCovers) := by
  refine EntOk.pure fun args H K h => ?_
  unfold p_eCovers at h
  split at h
  rotate_left
  · exact h.elim
  rename_i l k w a b
  obtain ⟨m, ⟨rfl, ⟨hv, hk, hh⟩, hab⟩, hK⟩ := h
  refine ⟨_, hK, ?_⟩
  clear hK
  obtain ⟨x, hx, rfl, rfl, e⟩ := isV_out hab
  rw [e]
  clear e hab
  obtain ⟨pr, v, mk, pf, hi⟩ := m
  dsimp only at hv hk hh
  have i1 := isV_of hx
  have i2 := isV_of hv
  have i3 := isV_of hk
  have i4 := isV_of hh
  have hL := leadN_lt w pf
  have i5 := isV_of hL
  cases pr
  · have e1 : coversM ⟨false, v, mk, pf, hi⟩ k w x = decide (1 ≤ k ∧ k ≤ 4) := rfl
    rw [e1]
    by_cases h1 : 1 ≤ k
    · have d1 : decide (k ≥ 1) = true := decide_eq_true h1
      have d2 : decide (1 ≤ k ∧ k ≤ 4) = decide (k ≤ 4) := by rw [decide_eq_decide]; omega
      rw [d2]
      refine ACalls.of_aw (Ω := [(79, Ent.pure p_vLeading), (80, Ent.pure p_vAnd), (81, Ent.pure p_vCompare)]) (T := assoc [(8, [[], [], [0, 1], [], [], [], [0, 1, 2, 4, 5]]), (10, [[], [], [], [0, 2]])]) mixed (TblOk.cons ok_vLeading (TblOk.cons ok_vAnd (TblOk.cons ok_vCompare TblOk.nil))) Try.func24 (by kernel_rfl) (by rfl) (rs := [.tmp 8]) (by rfl) (by kernel_rfl) (by simp only [Try.ntmps24, yaz, yba]; decide) (Nat.le_refl _) fun hcl hlt => ?_
      change aw _ _ _ (KI Try.prog [(79, Ent.pure p_vLeading), (80, Ent.pure p_vAnd), (81, Ent.pure p_vCompare)] (aEnd Try.prog [.tmp 8] H.nx _ _ (assoc [(8, [[], [], [0, 1], [], [], [], [0, 1, 2, 4, 5]]), (10, [[], [], [], [0, 2]])])) []) _ _
      clear hlt
      simp only [go_sem, reduceCtorEq, Nat.reduceEqDiff, Nat.reduceAdd, Nat.reduceMul, Nat.reduceSub, Nat.reduceLeDiff, Nat.reduceLT, Int.reduceMul, Int.reduceAdd, Int.reduceSub, Int.reduceToNat, matchC, vc, yal, yak, d1]
      simp (disch := first | assumption | omega | (simp; done) | (simp; omega) | (simp only [bt, and_true]; first | done | omega | (simp; done))) [↓zlq, beq, ybc, ybd, ybe, endOk, wk, wk2, wk1, wkM, wkL, wkLL, ybf, hcl]
    · have d1 : decide (k ≥ 1) = false := decide_eq_false h1
      have d2 : decide (1 ≤ k ∧ k ≤ 4) = false := decide_eq_false (by omega)
      rw [d2]
      refine ACalls.of_aw (Ω := [(79, Ent.pure p_vLeading), (80, Ent.pure p_vAnd), (81, Ent.pure p_vCompare)]) (T := assoc [(8, [[], [], [0, 1], [], [], [], [0, 1, 2, 4, 5]]), (10, [[], [], [], [0, 2]])]) mixed (TblOk.cons ok_vLeading (TblOk.cons ok_vAnd (TblOk.cons ok_vCompare TblOk.nil))) Try.func24 (by kernel_rfl) (by rfl) (rs := [.tmp 8]) (by rfl) (by kernel_rfl) (by simp only [Try.ntmps24, yaz, yba]; decide) (Nat.le_refl _) fun hcl hlt => ?_
      change aw _ _ _ (KI Try.prog [(79, Ent.pure p_vLeading), (80, Ent.pure p_vAnd), (81, Ent.pure p_vCompare)] (aEnd Try.prog [.tmp 8] H.nx _ _ (assoc [(8, [[], [], [0, 1], [], [], [], [0, 1, 2, 4, 5]]), (10, [[], [], [], [0, 2]])])) []) _ _
      clear hlt
      simp only [go_sem, reduceCtorEq, Nat.reduceEqDiff, Nat.reduceAdd, Nat.reduceMul, Nat.reduceSub, Nat.reduceLeDiff, Nat.reduceLT, Int.reduceMul, Int.reduceAdd, Int.reduceSub, Int.reduceToNat, matchC, vc, yal, yak, d1]
      simp (disch := first | assumption | omega | (simp; done) | (simp; omega) | (simp only [bt, and_true]; first | done | omega | (simp; done))) [↓zlq, beq, ybc, ybd, ybe, endOk, wk, wk2, wk1, wkM, wkL, wkLL, ybf, hcl]
  have e1 : coversM ⟨true, v, mk, pf, hi⟩ k w x = if k = 1 then decide (x = v) else if k = 2 then decide (x &&& leadN w pf = v &&& leadN w pf) else if k = 3 then decide (x &&& mk = v) else if k = 4 then decide (v ≤ x ∧ x ≤ hi) else false := rfl
  rw [e1]
  by_cases k1 : k = 1
  · subst k1
    rw [if_pos rfl]
    refine ACalls.of_aw (Ω := [(79, Ent.pure p_vLeading), (80, Ent.pure p_vAnd), (81, Ent.pure p_vCompare)]) (T := assoc [(8, [[], [], [0, 1], [], [], [], [0, 1, 2, 4, 5]]), (10, [[], [], [], [0, 2]])]) mixed (TblOk.cons ok_vLeading (TblOk.cons ok_vAnd (TblOk.cons ok_vCompare TblOk.nil))) Try.func24 (by kernel_rfl) (by rfl) (rs := [.tmp 8]) (by rfl) (by kernel_rfl) (by simp only [Try.ntmps24, yaz, yba]; decide) (Nat.le_refl _) fun hcl hlt => ?_
    change aw _ _ _ (KI Try.prog [(79, Ent.pure p_vLeading), (80, Ent.pure p_vAnd), (81, Ent.pure p_vCompare)] (aEnd Try.prog [.tmp 8] H.nx _ _ (assoc [(8, [[], [], [0, 1], [], [], [], [0, 1, 2, 4, 5]]), (10, [[], [], [], [0, 2]])])) []) _ _
    clear hlt
    simp only [go_sem, reduceCtorEq, Nat.reduceEqDiff, Nat.reduceAdd, Nat.reduceMul, Nat.reduceSub, Nat.reduceLeDiff, Nat.reduceLT, Int.reduceMul, Int.reduceAdd, Int.reduceSub, Int.reduceToNat, matchC, vc, yal, yak, beq_self_eq_true, teq_valV, eqg_valV, Bool.bne_false, val_eq, val_eq']
    simp (disch := first | assumption | omega | (simp; done) | (simp; omega) | (simp only [bt, and_true]; first | done | omega | (simp; done))) [↓zlq, beq, ybc, ybd, ybe, endOk, wk, wk2, wk1, wkM, wkL, wkLL, ybf, hcl]
  rw [if_neg k1]
  have b1 : (k == 1) = false := by simpa using k1
  by_cases k2 : k = 2
  · subst k2
    rw [if_pos rfl]
    have c1 : ((2 : Int) == 1) = false := rfl
    refine ACalls.of_aw (Ω := [(79, Ent.pure p_vLeading), (80, Ent.pure p_vAnd), (81, Ent.pure p_vCompare)]) (T := assoc [(8, [[], [], [0, 1], [], [], [], [0, 1, 2, 4, 5]]), (10, [[], [], [], [0, 2]])]) mixed (TblOk.cons ok_vLeading (TblOk.cons ok_vAnd (TblOk.cons ok_vCompare TblOk.nil))) Try.func24 (by kernel_rfl) (by rfl) (rs := [.tmp 8]) (by rfl) (by kernel_rfl) (by simp only [Try.ntmps24, yaz, yba]; decide) (Nat.le_refl _) fun hcl hlt => ?_
    change aw _ _ _ (KI Try.prog [(79, Ent.pure p_vLeading), (80, Ent.pure p_vAnd), (81, Ent.pure p_vCompare)] (aEnd Try.prog [.tmp 8] H.nx _ _ (assoc [(8, [[], [], [0, 1], [], [], [], [0, 1, 2, 4, 5]]), (10, [[], [], [], [0, 2]])])) []) _ _
    clear hlt
    simp only [go_sem, reduceCtorEq, Nat.reduceEqDiff, Nat.reduceAdd, Nat.reduceMul, Nat.reduceSub, Nat.reduceLeDiff, Nat.reduceLT, Int.reduceMul, Int.reduceAdd, Int.reduceSub, Int.reduceToNat, matchC, vc, yal, yak, c1, beq_self_eq_true, teq_valV, eqg_valV, Bool.bne_false, val_eq, val_eq', p_vLeading, p_vAnd, p2V, vv, i1, i2, i5, Int.toNat_natCast, vOf_back]
    (repeat with_reducible refine And.intro (by first | exact True.intro | decide | omega | (simp [zhx, zge, zgf, zgg, zgi, zgh, zgm]; first | done | omega)) ?_)
    simp (disch := first | assumption | omega | (simp; done) | (simp; omega) | (simp only [bt, and_true]; first | done | omega | (simp; done))) [↓zlq, beq, ybc, ybd, ybe, endOk, wk, wk2, wk1, wkM, wkL, wkLL, ybf, hcl]
  rw [if_neg k2]
  have b2 : (k == 2) = false := by simpa using k2
  by_cases k3 : k = 3
  · subst k3
    rw [if_pos rfl]
    have c1 : ((3 : Int) == 1) = false := rfl
    have c2 : ((3 : Int) == 2) = false := rfl
    refine ACalls.of_aw (Ω := [(79, Ent.pure p_vLeading), (80, Ent.pure p_vAnd), (81, Ent.pure p_vCompare)]) (T := assoc [(8, [[], [], [0, 1], [], [], [], [0, 1, 2, 4, 5]]), (10, [[], [], [], [0, 2]])]) mixed (TblOk.cons ok_vLeading (TblOk.cons ok_vAnd (TblOk.cons ok_vCompare TblOk.nil))) Try.func24 (by kernel_rfl) (by rfl) (rs := [.tmp 8]) (by rfl) (by kernel_rfl) (by simp only [Try.ntmps24, yaz, yba]; decide) (Nat.le_refl _) fun hcl hlt => ?_
    change aw _ _ _ (KI Try.prog [(79, Ent.pure p_vLeading), (80, Ent.pure p_vAnd), (81, Ent.pure p_vCompare)] (aEnd Try.prog [.tmp 8] H.nx _ _ (assoc [(8, [[], [], [0, 1], [], [], [], [0, 1, 2, 4, 5]]), (10, [[], [], [], [0, 2]])])) []) _ _
    clear hlt
    simp only [go_sem, reduceCtorEq, Nat.reduceEqDiff, Nat.reduceAdd, Nat.reduceMul, Nat.reduceSub, Nat.reduceLeDiff, Nat.reduceLT, Int.reduceMul, Int.reduceAdd, Int.reduceSub, Int.reduceToNat, matchC, vc, yal, yak, c1, c2, beq_self_eq_true, teq_valV, eqg_valV, Bool.bne_false, val_eq, val_eq', p_vLeading, p_vAnd, p2V, vv, i1, i2, i3, i5, Int.toNat_natCast, vOf_back]
    (repeat with_reducible refine And.intro (by first | exact True.intro | decide | omega | (simp [zhx, zge, zgf, zgg, zgi, zgh, zgm]; first | done | omega)) ?_)
    simp (disch := first | assumption | omega | (simp; done) | (simp; omega) | (simp only [bt, and_true]; first | done | omega | (simp; done))) [↓zlq, beq, ybc, ybd, ybe, endOk, wk, wk2, wk1, wkM, wkL, wkLL, ybf, hcl]
  rw [if_neg k3]
  have b3 : (k == 3) = false := by simpa using k3
  by_cases k4 : k = 4
  · subst k4
    rw [if_pos rfl]
    have c1 : ((4 : Int) == 1) = false := rfl
    have c2 : ((4 : Int) == 2) = false := rfl
    have c3 : ((4 : Int) == 3) = false := rfl
    by_cases hvx : v ≤ x
    · have d1 : decide (cmpN v x ≤ 0) = true := by rw [cmpN_le]; exact decide_eq_true hvx
      have d2 : decide (v ≤ x ∧ x ≤ hi) = decide (x ≤ hi) := by rw [decide_eq_decide]; omega
      rw [d2]
      refine ACalls.of_aw (Ω := [(79, Ent.pure p_vLeading), (80, Ent.pure p_vAnd), (81, Ent.pure p_vCompare)]) (T := assoc [(8, [[], [], [0, 1], [], [], [], [0, 1, 2, 4, 5]]), (10, [[], [], [], [0, 2]])]) mixed (TblOk.cons ok_vLeading (TblOk.cons ok_vAnd (TblOk.cons ok_vCompare TblOk.nil))) Try.func24 (by kernel_rfl) (by rfl) (rs := [.tmp 8]) (by rfl) (by kernel_rfl) (by simp only [Try.ntmps24, yaz, yba]; decide) (Nat.le_refl _) fun hcl hlt => ?_
      change aw _ _ _ (KI Try.prog [(79, Ent.pure p_vLeading), (80, Ent.pure p_vAnd), (81, Ent.pure p_vCompare)] (aEnd Try.prog [.tmp 8] H.nx _ _ (assoc [(8, [[], [], [0, 1], [], [], [], [0, 1, 2, 4, 5]]), (10, [[], [], [], [0, 2]])])) []) _ _
      clear hlt
      simp only [go_sem, reduceCtorEq, Nat.reduceEqDiff, Nat.reduceAdd, Nat.reduceMul, Nat.reduceSub, Nat.reduceLeDiff, Nat.reduceLT, Int.reduceMul, Int.reduceAdd, Int.reduceSub, Int.reduceToNat, matchC, vc, yal, yak, c1, c2, c3, beq_self_eq_true, p_vCompare, p2V, i1, i2, i4, Int.toNat_natCast, vOf_back, d1, cmpN_le]
      (repeat with_reducible refine And.intro (by first | exact True.intro | decide | omega | (simp [zhx, zge, zgf, zgg, zgi, zgh, zgm]; first | done | omega)) ?_)
      simp (disch := first | assumption | omega | (simp; done) | (simp; omega) | (simp only [bt, and_true]; first | done | omega | (simp; done))) [↓zlq, beq, ybc, ybd, ybe, endOk, wk, wk2, wk1, wkM, wkL, wkLL, ybf, hcl]
    · have d1 : decide (cmpN v x ≤ 0) = false := by rw [cmpN_le]; exact decide_eq_false hvx
      have d2 : decide (v ≤ x ∧ x ≤ hi) = false := decide_eq_false (by omega)
      rw [d2]
      refine ACalls.of_aw (Ω := [(79, Ent.pure p_vLeading), (80, Ent.pure p_vAnd), (81, Ent.pure p_vCompare)]) (T := assoc [(8, [[], [], [0, 1], [], [], [], [0, 1, 2, 4, 5]]), (10, [[], [], [], [0, 2]])]) mixed (TblOk.cons ok_vLeading (TblOk.cons ok_vAnd (TblOk.cons ok_vCompare TblOk.nil))) Try.func24 (by kernel_rfl) (by rfl) (rs := [.tmp 8]) (by rfl) (by kernel_rfl) (by simp only [Try.ntmps24, yaz, yba]; decide) (Nat.le_refl _) fun hcl hlt => ?_
      change aw _ _ _ (KI Try.prog [(79, Ent.pure p_vLeading), (80, Ent.pure p_vAnd), (81, Ent.pure p_vCompare)] (aEnd Try.prog [.tmp 8] H.nx _ _ (assoc [(8, [[], [], [0, 1], [], [], [], [0, 1, 2, 4, 5]]), (10, [[], [], [], [0, 2]])])) []) _ _
      clear hlt
      simp only [go_sem, reduceCtorEq, Nat.reduceEqDiff, Nat.reduceAdd, Nat.reduceMul, Nat.reduceSub, Nat.reduceLeDiff, Nat.reduceLT, Int.reduceMul, Int.reduceAdd, Int.reduceSub, Int.reduceToNat, matchC, vc, yal, yak, c1, c2, c3, beq_self_eq_true, p_vCompare, p2V, i1, i2, i4, Int.toNat_natCast, vOf_back, d1, cmpN_le]
      (repeat with_reducible refine And.intro (by first | exact True.intro | decide | omega | (simp [zhx, zge, zgf, zgg, zgi, zgh, zgm]; first | done | omega)) ?_)
      simp (disch := first | assumption | omega | (simp; done) | (simp; omega) | (simp only [bt, and_true]; first | done | omega | (simp; done))) [↓zlq, beq, ybc, ybd, ybe, endOk, wk, wk2, wk1, wkM, wkL, wkLL, ybf, hcl]
  rw [if_neg k4]
  have b4 : (k == 4) = false := by simpa using k4
  refine ACalls.of_aw (Ω := [(79, Ent.pure p_vLeading), (80, Ent.pure p_vAnd), (81, Ent.pure p_vCompare)]) (T := assoc [(8, [[], [], [0, 1], [], [], [], [0, 1, 2, 4, 5]]), (10, [[], [], [], [0, 2]])]) mixed (TblOk.cons ok_vLeading (TblOk.cons ok_vAnd (TblOk.cons ok_vCompare TblOk.nil))) Try.func24 (by kernel_rfl) (by rfl) (rs := [.tmp 8]) (by rfl) (by kernel_rfl) (by simp only [Try.ntmps24, yaz, yba]; decide) (Nat.le_refl _) fun hcl hlt => ?_
  change aw _ _ _ (KI Try.prog [(79, Ent.pure p_vLeading), (80, Ent.pure p_vAnd), (81, Ent.pure p_vCompare)] (aEnd Try.prog [.tmp 8] H.nx _ _ (assoc [(8, [[], [], [0, 1], [], [], [], [0, 1, 2, 4, 5]]), (10, [[], [], [], [0, 2]])])) []) _ _
  clear hlt
  simp only [go_sem, reduceCtorEq, Nat.reduceEqDiff, Nat.reduceAdd, Nat.reduceMul, Nat.reduceSub, Nat.reduceLeDiff, Nat.reduceLT, Int.reduceMul, Int.reduceAdd, Int.reduceSub, Int.reduceToNat, matchC, vc, yal, yak, b1, b2, b3, b4]
  simp (disch := first | assumption | omega | (simp; done) | (simp; omega) | (simp only [bt, and_true]; first | done | omega | (simp; done))) [↓zlq, beq, ybc, ybd, ybe, endOk, wk, wk2, wk1, wkM, wkL, wkLL, ybf, hcl]
end Go.AL


open Go Go.AL Go.Proofs
namespace Go.AL
set_option linter.all false
set_option maxRecDepth 10000

def matchesG (S : Sch) (ms : List SMatch) (p : List Nat) : List SKey → Nat → Bool
  | [], _ => true
  | k :: ks, i => if ms.length ≤ i ∨ 4 ≤ i then false else if coversM (ms.getD i noMatch) k.kind (bitsF S k.field) (p.getD i 0) = true then matchesG S ms p ks (i + 1) else false
def matchesE (S : Sch) (e : SEntry) (p : List Nat) : Bool := match tabF S e.table with | some t => matchesG S e.ms p t.keys 0 | none => false
/-- entries and points as functions take them -/
structure EOk (e : SEntry) : Prop where
  ml : e.ms.length ≤ 140737488355328
  al : e.args.length ≤ 140737488355328
  mo : ∀ m ∈ e.ms, MOk m
structure POk (p : List Nat) : Prop where
  l : p.length = 4
  v : ∀ x ∈ p, x < 2 ^ 128
theorem pointC_len : ∀ (p : List Nat), (pointC p).length = 2 * p.length
  | [] => rfl
  | x :: p => by
    have := pointC_len p
    simp only [pointC, List.flatMap_cons, List.length_append, yaz, vc, yba] at this ⊢
    omega
theorem pt_get : ∀ (p : List Nat) (i : Nat), i < p.length → (List.drop (i * 2) (pointC p)).take 2 = vc (p.getD i 0)
  | x :: p, 0, _ => rfl
  | x :: p, i + 1, h => by
    have := pt_get p i (by simpa using h)
    rw [show (i + 1) * 2 = i * 2 + 1 + 1 by omega]
    simpa [pointC, vc] using this
theorem ltL_pt {n : Nat} {p : List Nat} : ltL n (pointC p) := ltL_iff.2 fun j hj => by
  obtain ⟨x, _, hx⟩ := List.mem_flatMap.1 (show (pointC p)[j] ∈ p.flatMap vc from List.getElem_mem hj)
  simp only [vc, List.mem_cons, List.not_mem_nil, or_false] at hx
  rcases hx with e | e <;> rw [e] <;> rw [AV.lt] <;> simp
def p_eMatches : List AV → AHeap → (AV → Prop) → Prop
  | [.agg l, .agg le, .agg lp], _, K => ∃ (S : Sch) (e : SEntry) (p : List Nat), (l = schC S ∧ le = entryC e ∧ lp = pointC p ∧ S.tables.length ≤ 1000000 ∧ S.fields.length ≤ 1000000 ∧ (∀ t ∈ S.tables, t.keys.length ≤ 1000000) ∧ EOk e ∧ POk p) ∧ K (.bool (matchesE S e p))
  | _, _, _ => False
set_option maxHeartbeats 4000000 in
theorem ok_eMatches : EntOk Try.prog 21 (Ent.pure p_eMatches) := by
  refine EntOk.pure fun args H K h => ?_
  unfold p_eMatches at h
  split at h
  rotate_left
  · exact h.elim
  rename_i l le lp
  obtain ⟨S, e, p, ⟨rfl, rfl, rfl, h1, h2, h3, ⟨h4, h5, h6⟩, h7, h8⟩, hK⟩ := h
  refine ⟨_, hK, ?_⟩
  clear hK
  generalize hR : matchesE S e p = R
  unfold matchesE at hR
  have hpl : (pointC p).length = 8 := by rw [pointC_len]; omega
  have htm : ∀ t, tabF S e.table = some t → t ∈ S.tables := fun t ht => List.mem_of_find?_eq_some ht
  cases ht : tabF S e.table with
  | none =>
    rw [ht] at hR
    subst hR
    refine ACalls.of_aw (Ω := [(76, Ent.pure p_eTable), (77, Ent.pure p_eBitsOf), (24, Ent.pure p_eCovers)]) (T := assoc [(7, [[], [], [], [], [], [], [], [], [], [], [], [], [], [], [], [], [], [], [], [2, 17, 18], [], [], [], [2, 11, 14, 16, 17, 18, 19, 22]])]) mixed (TblOk.cons ok_eTable (TblOk.cons ok_eBitsOf (TblOk.cons ok_eCovers TblOk.nil))) Try.func21 (by kernel_rfl) (by rfl) (rs := [.tmp 6]) (by rfl) (by kernel_rfl) (by simp only [Try.ntmps21, yaz, yba]; decide) (Nat.le_refl _) fun hcl hlt => ?_
    change aw _ _ _ (KI Try.prog [(76, Ent.pure p_eTable), (77, Ent.pure p_eBitsOf), (24, Ent.pure p_eCovers)] (aEnd Try.prog [.tmp 6] H.nx _ _ (assoc [(7, [[], [], [], [], [], [], [], [], [], [], [], [], [], [], [], [], [], [], [], [2, 17, 18], [], [], [], [2, 11, 14, 16, 17, 18, 19, 22]])])) []) _ _
    clear hlt
    simp only [go_sem, reduceCtorEq, Nat.reduceEqDiff, Nat.reduceAdd, Nat.reduceMul, Nat.reduceSub, Nat.reduceLeDiff, Nat.reduceLT, Int.reduceMul, Int.reduceAdd, Int.reduceSub, Int.reduceToNat, schC, entryC, hpl, p_eTable]
    (repeat with_reducible refine And.intro (by first | exact True.intro | decide | omega | (simp [zhx, zge, zgf, zgg, zgi, zgh, zgm]; first | done | omega)) ?_)
    refine ⟨S, ⟨rfl, h1⟩, ?_⟩
    rw [ht]
    try simp only [blkP, go_sem, reduceCtorEq, Nat.reduceEqDiff, Nat.reduceAdd, Nat.reduceMul, Nat.reduceSub, Nat.reduceLeDiff, Nat.reduceLT, Int.reduceMul, Int.reduceAdd, Int.reduceSub, Int.reduceToNat, tableAV, noTable, yaf, inL]
    simp (disch := first | assumption | omega | (simp; done) | (simp; omega) | (simp only [bt, and_true]; first | done | omega | (simp; done))) [↓zlq, beq, ybc, ybd, ybe, endOk, wk, wk2, wk1, wkM, wkL, wkLL, ybf, hcl]
  | some t =>
    rw [ht] at hR
    dsimp only at hR
    have hkl := h3 t (htm t ht)
    refine ACalls.of_aw (Ω := [(76, Ent.pure p_eTable), (77, Ent.pure p_eBitsOf), (24, Ent.pure p_eCovers)]) (T := assoc [(7, [[], [], [], [], [], [], [], [], [], [], [], [], [], [], [], [], [], [], [], [2, 17, 18], [], [], [], [2, 11, 14, 16, 17, 18, 19, 22]])]) mixed (TblOk.cons ok_eTable (TblOk.cons ok_eBitsOf (TblOk.cons ok_eCovers TblOk.nil))) Try.func21 (by kernel_rfl) (by rfl) (rs := [.tmp 6]) (by rfl) (by kernel_rfl) (by simp only [Try.ntmps21, yaz, yba]; decide) (Nat.le_refl _) fun hcl hlt => ?_
    change aw _ _ _ (KI Try.prog [(76, Ent.pure p_eTable), (77, Ent.pure p_eBitsOf), (24, Ent.pure p_eCovers)] (aEnd Try.prog [.tmp 6] H.nx _ _ (assoc [(7, [[], [], [], [], [], [], [], [], [], [], [], [], [], [], [], [], [], [], [], [2, 17, 18], [], [], [], [2, 11, 14, 16, 17, 18, 19, 22]])])) []) _ _
    clear hlt
    simp only [go_sem, reduceCtorEq, Nat.reduceEqDiff, Nat.reduceAdd, Nat.reduceMul, Nat.reduceSub, Nat.reduceLeDiff, Nat.reduceLT, Int.reduceMul, Int.reduceAdd, Int.reduceSub, Int.reduceToNat, schC, entryC, hpl, p_eTable]
    (repeat with_reducible refine And.intro (by first | exact True.intro | decide | omega | (simp [zhx, zge, zgf, zgg, zgi, zgh, zgm]; first | done | omega)) ?_)
    refine ⟨S, ⟨rfl, h1⟩, ?_⟩
    rw [ht]
    simp only [blkP, go_sem, reduceCtorEq, Nat.reduceEqDiff, Nat.reduceAdd, Nat.reduceMul, Nat.reduceSub, Nat.reduceLeDiff, Nat.reduceLT, Int.reduceMul, Int.reduceAdd, Int.reduceSub, Int.reduceToNat, tableAV, ybb]
    obtain ⟨HB, hHB⟩ : ∃ HB, ((H.push (.cells (schC S))).push (.cells (entryC e))).push (.cells (pointC p)) = HB := ⟨_, rfl⟩
    have hclB : HB.Closed := by
      rw [← hHB]
      exact closed_cells (closed_cells (closed_cells hcl (ltL_iff.2 fun j hj => AV.lt_cells (lt_sch S) j hj)) (ltL_iff.2 fun j hj => AV.lt_cells (lt_entry e) j hj)) ltL_pt
    have hnB : HB.nx = H.nx + 1 + 1 + 1 := by rw [← hHB]; rfl
    refine loop_introW (A := Nat) (fun k => [(3, .ptr H.nx 0), (4, .ptr (H.nx + 1) 0), (5, .ptr (H.nx + 1 + 1) 0), (20, .slice .any 3 (t.keys.map keyAV)), (21, .int .i64 (t.keys.length : Int)), (22, .int .i64 (k : Int))]) (fun _ => HB) (fun k => k ≤ t.keys.length ∧ matchesG S e.ms p (t.keys.drop k) k = R) (fun k => t.keys.length - k) 0 ⟨by omega, hR⟩ ?_ fun k hk => ?_
    · refine ⟨by simp only [hnB, zjs, zjx]; omega, by rw [← hHB]; exact (AHeap.Le.refl _).push _, hclB, ?_, ?_⟩
      · simp [ltF, hnB, zmp, zmh, lt_map lt_key]
        omega
      · simp [subW, wk2, wk1, wkM, Fr.get]
    clear hR
    obtain ⟨hk, hR⟩ := hk
    simp only [go_sem, reduceCtorEq, Nat.reduceEqDiff, Nat.reduceAdd, Nat.reduceMul, Nat.reduceSub, Nat.reduceLeDiff, Nat.reduceLT, Int.reduceMul, Int.reduceAdd, Int.reduceSub, Int.reduceToNat]
    refine cond_split (fun hc => ?_) (fun hc => ?_)
    · have hk' : k < t.keys.length := by simp at hc; omega
      obtain ⟨x, hx⟩ : ∃ x, x = t.keys[k] := ⟨_, rfl⟩
      have hd : t.keys.drop k = x :: t.keys.drop (k + 1) := by rw [hx]; exact List.drop_eq_getElem_cons hk'
      have hkg := getD_map (f := keyAV) (l := t.keys) (k := k) (x := x) (by rw [List.getElem?_eq_getElem hk', hx])
      have e5 : IntKind.i64.wrap ((k : Int) + 1) = ((k + 1 : Nat) : Int) := by rw [wrap_i64] <;> omega
      rw [hd] at hR
      unfold matchesG at hR
      by_cases q1 : e.ms.length ≤ k
      · rw [if_pos (.inl q1)] at hR
        subst hR
        have d1 : decide ((k : Int) ≥ (e.ms.length : Int)) = true := decide_eq_true (by omega)
        rw [← hHB]
        simp only [go_sem, reduceCtorEq, Nat.reduceEqDiff, Nat.reduceAdd, Nat.reduceMul, Nat.reduceSub, Nat.reduceLeDiff, Nat.reduceLT, Int.reduceMul, Int.reduceAdd, Int.reduceSub, Int.reduceToNat, schC, entryC, Int.toNat_natCast, ybb, hkg, keyAV, d1]
        (repeat with_reducible refine And.intro (by first | exact True.intro | decide | omega | (simp [zhx, zge, zgf, zgg, zgi, zgh, zgm]; first | done | omega)) ?_)
        simp (disch := first | assumption | omega | (simp; done) | (simp; omega) | (simp only [bt, and_true]; first | done | omega | (simp; done))) [↓zlq, beq, ybc, ybd, ybe, endOk, wk, wk2, wk1, wkM, wkL, wkLL, ybf, hcl]
        first | done | repeat (first | exact AHeap.Le.refl _ | refine AHeap.Le.push ?_ _)
      by_cases q2 : 4 ≤ k
      · rw [if_pos (.inr q2)] at hR
        subst hR
        have d1 : decide ((k : Int) ≥ (e.ms.length : Int)) = false := decide_eq_false (by omega)
        have d2 : decide ((k : Int) ≥ 4) = true := decide_eq_true (by omega)
        rw [← hHB]
        simp only [go_sem, reduceCtorEq, Nat.reduceEqDiff, Nat.reduceAdd, Nat.reduceMul, Nat.reduceSub, Nat.reduceLeDiff, Nat.reduceLT, Int.reduceMul, Int.reduceAdd, Int.reduceSub, Int.reduceToNat, schC, entryC, Int.toNat_natCast, ybb, hkg, keyAV, d1, d2]
        (repeat with_reducible refine And.intro (by first | exact True.intro | decide | omega | (simp [zhx, zge, zgf, zgg, zgi, zgh, zgm]; first | done | omega)) ?_)
        simp (disch := first | assumption | omega | (simp; done) | (simp; omega) | (simp only [bt, and_true]; first | done | omega | (simp; done))) [↓zlq, beq, ybc, ybd, ybe, endOk, wk, wk2, wk1, wkM, wkL, wkLL, ybf, hcl]
        first | done | repeat (first | exact AHeap.Le.refl _ | refine AHeap.Le.push ?_ _)
      rw [if_neg (by omega)] at hR
      have d1 : decide ((k : Int) ≥ (e.ms.length : Int)) = false := decide_eq_false (by omega)
      have d2 : decide ((k : Int) ≥ 4) = false := decide_eq_false (by omega)
      have hml : k < e.ms.length := by omega
      obtain ⟨m, hm⟩ : ∃ m, m = e.ms[k] := ⟨_, rfl⟩
      have hmg := getD_map (f := matchAV) (l := e.ms) (k := k) (x := m) (by rw [List.getElem?_eq_getElem hml, hm])
      have hmd : e.ms.getD k noMatch = m := by rw [List.getD_eq_getElem?_getD, List.getElem?_eq_getElem hml, hm]; rfl
      have hmo := h6 m (by rw [hm]; exact List.getElem_mem hml)
      have hpv : p.getD k 0 < 2 ^ 128 := by
        rw [List.getD_eq_getElem?_getD, List.getElem?_eq_getElem (show k < p.length by omega)]
        exact h8 _ (List.getElem_mem _)
      have hpg := pt_get p k (by omega)
      rw [hmd] at hR
      generalize p.getD k 0 = y at *
      have hdl : 2 ≤ (List.drop (k * 2) (pointC p)).length := by rw [List.length_drop, hpl]; omega
      rw [← hHB]
      simp only [go_sem, reduceCtorEq, Nat.reduceEqDiff, Nat.reduceAdd, Nat.reduceMul, Nat.reduceSub, Nat.reduceLeDiff, Nat.reduceLT, Int.reduceMul, Int.reduceAdd, Int.reduceSub, Int.reduceToNat, schC, entryC, Int.toNat_natCast, ybb, hkg, keyAV, d1, d2, hmg, matchAV, hpl, hpg, vc, matchC, yal, yak, p_eBitsOf]
      (repeat with_reducible refine And.intro (by first | exact True.intro | decide | omega | (simp [zhx, zge, zgf, zgg, zgi, zgh, zgm]; first | done | omega)) ?_)
      refine ⟨S, ⟨rfl, h2⟩, ?_⟩
      simp only [blkP, go_sem, reduceCtorEq, Nat.reduceEqDiff, Nat.reduceAdd, Nat.reduceMul, Nat.reduceSub, Nat.reduceLeDiff, Nat.reduceLT, Int.reduceMul, Int.reduceAdd, Int.reduceSub, Int.reduceToNat, schC, entryC, Int.toNat_natCast, ybb, hkg, keyAV, d1, d2, hmg, matchAV, hpl, hpg, vc, matchC, yal, yak, p_eBitsOf, p_eCovers]
      (repeat with_reducible refine And.intro (by first | exact True.intro | decide | omega | (simp [zhx, zge, zgf, zgg, zgi, zgh, zgm]; first | done | omega)) ?_)
      refine ⟨m, ⟨rfl, hmo, of_eq_true (isV_of hpv)⟩, ?_⟩
      rw [vOf_back]
      cases hcv : coversM m x.kind (bitsF S x.field) y
      · rw [hcv, if_neg (by decide)] at hR
        subst hR
        simp only [go_sem, reduceCtorEq, Nat.reduceEqDiff, Nat.reduceAdd, Nat.reduceMul, Nat.reduceSub, Nat.reduceLeDiff, Nat.reduceLT, Int.reduceMul, Int.reduceAdd, Int.reduceSub, Int.reduceToNat, Bool.not_false]
        simp (disch := first | assumption | omega | (simp; done) | (simp; omega) | (simp only [bt, and_true]; first | done | omega | (simp; done))) [↓zlq, beq, ybc, ybd, ybe, endOk, wk, wk2, wk1, wkM, wkL, wkLL, ybf, hcl]
        first | done | repeat (first | exact AHeap.Le.refl _ | refine AHeap.Le.push ?_ _)
      · rw [hcv, if_pos rfl] at hR
        simp only [go_sem, reduceCtorEq, Nat.reduceEqDiff, Nat.reduceAdd, Nat.reduceMul, Nat.reduceSub, Nat.reduceLeDiff, Nat.reduceLT, Int.reduceMul, Int.reduceAdd, Int.reduceSub, Int.reduceToNat, Bool.not_true, e5]
        refine ⟨k + 1, ⟨by omega, hR⟩, by omega, by simp only [zkg]; omega, (AHeap.Le.refl _).push _, by
          rw [← hHB] at hclB; exact hclB, ?_, ?_⟩
        · simp [ltF, zkg, zmp, zmh, lt_map lt_key]
          omega
        · simp [subW, wk2, wk1, wkM, Fr.get]
    · have hk' : k = t.keys.length := by simp at hc; omega
      subst hk'
      rw [List.drop_length] at hR
      unfold matchesG at hR
      subst hR
      rw [← hHB]
      simp only [go_sem, reduceCtorEq, Nat.reduceEqDiff, Nat.reduceAdd, Nat.reduceMul, Nat.reduceSub, Nat.reduceLeDiff, Nat.reduceLT, Int.reduceMul, Int.reduceAdd, Int.reduceSub, Int.reduceToNat]
      simp (disch := first | assumption | omega | (simp; done) | (simp; omega) | (simp only [bt, and_true]; first | done | omega | (simp; done))) [↓zlq, beq, ybc, ybd, ybe, endOk, wk, wk2, wk1, wkM, wkL, wkLL, ybf, hcl]
end Go.AL

