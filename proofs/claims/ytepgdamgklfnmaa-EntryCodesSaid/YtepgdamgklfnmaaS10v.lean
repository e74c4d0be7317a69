/- Contracts and plain laws, a part of the proof; no condition of its own. -/
import Derived.Test.YtepgdamgklfnmaaCG
import Derived.Test.YtepgdamgklfnmaaS10z
import Derived.Test.YtepgdamgklfnmaaLEntB
open List renaming length_cons → yaz, length_nil → yba, take_of_length_le → ybc, drop_append → ybd, take_append → ybe, drop_eq_nil_of_le → ybf
open Go Go.AL Go.Proofs
namespace Go.AL
set_option linter.all false
set_option maxRecDepth 10000

/-- two operands -/
def p2V (f : Nat → Nat → AV) : List AV → AHeap → (AV → Prop) → Prop
  | [.agg [.int .u64 a, .int .u64 b], .agg [.int .u64 c, .int .u64 d]], _, K => (isV a b ∧ isV c d) ∧ K (f (vOf a.toNat b.toNat) (vOf c.toNat d.toNat))
  | _, _, _ => False
def p_vAnd := p2V fun x y => vv (x &&& y)
def p_vXor := p2V fun x y => vv (x ^^^ y)
theorem ok_vAnd : EntOk Try.prog 80 (Ent.pure p_vAnd) := by
  unfold p_vAnd
  refine EntOk.pure fun args H K h => ?_
  unfold p2V at h
  split at h
  rotate_left
  · exact h.elim
  rename_i a b c d
  obtain ⟨⟨⟨h0, h1, h2, h3⟩, k0, k1, k2, k3⟩, hK⟩ := h
  refine ⟨_, hK, ?_⟩
  obtain ⟨x, rfl⟩ := u64_lift h0
  obtain ⟨y, rfl⟩ := u64_lift h2
  obtain ⟨z, rfl⟩ := u64_lift k0
  obtain ⟨w, rfl⟩ := u64_lift k2
  clear hK h0 h2 k0 k2
  simp only [Int.toNat_natCast]
  have hx : x < 2 ^ 64 := by omega
  have hy : y < 2 ^ 64 := by omega
  have hz : z < 2 ^ 64 := by omega
  have hw : w < 2 ^ 64 := by omega
  rw [and_vOf x y z w hy hw, vv_vOf (Nat.and_lt_two_pow _ hw)]
  refine ACalls.of_aw (Ω := []) (T := assoc []) mixed TblOk.nil Try.func80 (by kernel_rfl) (by rfl) (rs := [.cell 4 29]) (by rfl) (by kernel_rfl) (by simp only [Try.ntmps80, yaz, yba]; decide) (Nat.le_refl _) fun hcl hlt => ?_
  change aw _ _ _ (KI Try.prog [] (aEnd Try.prog [.cell 4 29] H.nx _ _) []) _ _
  clear hlt
  simp only [go_sem, zav, reduceCtorEq, Nat.reduceEqDiff, Nat.reduceAdd, Nat.reduceMul, Nat.reduceSub, Nat.reduceLeDiff, Nat.reduceLT, Int.reduceMul, Int.reduceAdd, Int.reduceSub, Int.reduceToNat, byq, iand_u64 x z hx hz, iand_u64 y w hy hw]
  simp (disch := first | assumption | omega | (simp; done) | (simp; omega) | (simp only [bt, and_true]; first | done | omega | (simp; done))) [↓zlu, beq, ybc, ybd, ybe, endOk, wk, wk2, wk1, wkM, wkL, wkLL, ybf, hcl]
theorem ok_vXor : EntOk Try.prog 101 (Ent.pure p_vXor) := by
  unfold p_vXor
  refine EntOk.pure fun args H K h => ?_
  unfold p2V at h
  split at h
  rotate_left
  · exact h.elim
  rename_i a b c d
  obtain ⟨⟨⟨h0, h1, h2, h3⟩, k0, k1, k2, k3⟩, hK⟩ := h
  refine ⟨_, hK, ?_⟩
  obtain ⟨x, rfl⟩ := u64_lift h0
  obtain ⟨y, rfl⟩ := u64_lift h2
  obtain ⟨z, rfl⟩ := u64_lift k0
  obtain ⟨w, rfl⟩ := u64_lift k2
  clear hK h0 h2 k0 k2
  simp only [Int.toNat_natCast]
  have hx : x < 2 ^ 64 := by omega
  have hy : y < 2 ^ 64 := by omega
  have hz : z < 2 ^ 64 := by omega
  have hw : w < 2 ^ 64 := by omega
  rw [xor_vOf x y z w hy hw, vv_vOf (Nat.xor_lt_two_pow hy hw)]
  refine ACalls.of_aw (Ω := []) (T := assoc []) mixed TblOk.nil Try.func101 (by kernel_rfl) (by rfl) (rs := [.cell 4 29]) (by rfl) (by kernel_rfl) (by simp only [Try.ntmps101, yaz, yba]; decide) (Nat.le_refl _) fun hcl hlt => ?_
  change aw _ _ _ (KI Try.prog [] (aEnd Try.prog [.cell 4 29] H.nx _ _) []) _ _
  clear hlt
  simp only [go_sem, zav, reduceCtorEq, Nat.reduceEqDiff, Nat.reduceAdd, Nat.reduceMul, Nat.reduceSub, Nat.reduceLeDiff, Nat.reduceLT, Int.reduceMul, Int.reduceAdd, Int.reduceSub, Int.reduceToNat, byq, ixor_u64 x z hx hz, ixor_u64 y w hy hw]
  simp (disch := first | assumption | omega | (simp; done) | (simp; omega) | (simp only [bt, and_true]; first | done | omega | (simp; done))) [↓zlu, beq, ybc, ybd, ybe, endOk, wk, wk2, wk1, wkM, wkL, wkLL, ybf, hcl]
def p_vWithin : List AV → AHeap → (AV → Prop) → Prop
  | [.int .i64 n], _, K => K (.int .i64 ((clampN n : Nat) : Int))
  | _, _, _ => False
theorem ok_vWithin : EntOk Try.prog 100 (Ent.pure p_vWithin) := by
  refine EntOk.pure fun args H K h => ?_
  unfold p_vWithin at h
  split at h
  rotate_left
  · exact h.elim
  rename_i n
  refine ⟨_, h, ?_⟩
  clear h
  refine ACalls.of_aw (Ω := []) (T := assoc []) mixed TblOk.nil Try.func100 (by kernel_rfl) (by rfl) (rs := [.tmp 2]) (by rfl) (by kernel_rfl) (by simp only [Try.ntmps100, yaz, yba]; decide) (Nat.le_refl _) fun hcl hlt => ?_
  change aw _ _ _ (KI Try.prog [] (aEnd Try.prog [.tmp 2] H.nx _ _) []) _ _
  clear hlt
  have e : min (max 0 n) 128 = ((clampN n : Nat) : Int) := by unfold clampN; omega
  simp only [go_sem, reduceCtorEq, Nat.reduceEqDiff, Nat.reduceAdd, Nat.reduceMul, Nat.reduceSub, Nat.reduceLeDiff, Nat.reduceLT, Int.reduceMul, Int.reduceAdd, Int.reduceSub, Int.reduceToNat, Bool.false_eq_true, if_true, if_false, e]
  simp (disch := first | assumption | omega | (simp; done) | (simp; omega) | (simp only [bt, and_true]; first | done | omega | (simp; done))) [↓zlu, beq, ybc, ybd, ybe, endOk, wk, wk2, wk1, wkM, wkL, wkLL, ybf, hcl]
def p_vOnes : List AV → AHeap → (AV → Prop) → Prop
  | [.int .i64 n], _, K => K (vv (onesN n))
  | _, _, _ => False
theorem ok_vOnes : EntOk Try.prog 96 (Ent.pure p_vOnes) := by
  refine EntOk.pure fun args H K h => ?_
  unfold p_vOnes at h
  split at h
  rotate_left
  · exact h.elim
  rename_i n
  refine ⟨_, h, ?_⟩
  clear h
  have hc := clampN_le n
  have e1 : IntKind.i64.wrap (128 - ((clampN n : Nat) : Int)) = ((128 - clampN n : Nat) : Int) := by rw [wrap_i64] <;> omega
  have e2 : vOf 18446744073709551615 18446744073709551615 >>> (128 - clampN n) = onesN n := ones_shift hc
  have e3 : Int.toNat 18446744073709551615 = 18446744073709551615 := rfl
  refine ACalls.of_aw (Ω := [(100, Ent.pure p_vWithin), (110, Ent.pure p_vRight)]) (T := assoc []) mixed (TblOk.cons ok_vWithin (TblOk.cons ok_vRight TblOk.nil)) Try.func96 (by kernel_rfl) (by rfl) (rs := [.cell 2 29]) (by rfl) (by kernel_rfl) (by simp only [Try.ntmps96, yaz, yba]; decide) (Nat.le_refl _) fun hcl hlt => ?_
  change aw _ _ _ (KI Try.prog [(100, Ent.pure p_vWithin), (110, Ent.pure p_vRight)] (aEnd Try.prog [.cell 2 29] H.nx _ _) []) _ _
  clear hlt
  simp only [go_sem, reduceCtorEq, Nat.reduceEqDiff, Nat.reduceAdd, Nat.reduceMul, Nat.reduceSub, Nat.reduceLeDiff, Nat.reduceLT, Int.reduceMul, Int.reduceAdd, Int.reduceSub, Int.reduceToNat, p_vWithin, p_vRight, isV, e1, e3, Int.toNat_natCast, e2, vv]
  refine ⟨by omega, ?_⟩
  simp (disch := first | assumption | omega | (simp; done) | (simp; omega) | (simp only [bt, and_true]; first | done | omega | (simp; done))) [↓zlu, beq, ybc, ybd, ybe, endOk, wk, wk2, wk1, wkM, wkL, wkLL, ybf, hcl]
def p_vLeading : List AV → AHeap → (AV → Prop) → Prop
  | [.int .i64 w, .int .i64 n], _, K => K (vv (leadN w n))
  | _, _, _ => False
theorem clampN_clampN (n : Int) : clampN ((clampN n : Nat) : Int) = clampN n := by unfold clampN; omega
theorem onesN_clampN (n : Int) : onesN ((clampN n : Nat) : Int) = onesN n := by unfold onesN; rw [clampN_clampN]
theorem ok_vLeading : EntOk Try.prog 79 (Ent.pure p_vLeading) := by
  refine EntOk.pure fun args H K h => ?_
  unfold p_vLeading at h
  split at h
  rotate_left
  · exact h.elim
  rename_i w n
  refine ⟨_, h, ?_⟩
  clear h
  have hc := clampN_le w
  have e1 : IntKind.i64.wrap (((clampN w : Nat) : Int) - min (max 0 n) ((clampN w : Nat) : Int)) = ((clampN w : Nat) : Int) - min (max 0 n) ((clampN w : Nat) : Int) := by rw [wrap_i64] <;> omega
  have hx : ∀ x y : Nat, x < 2 ^ 128 → y < 2 ^ 128 → (isV ((x / 2 ^ 64 : Nat) : Int) ((x % 2 ^ 64 : Nat) : Int) ∧ isV ((y / 2 ^ 64 : Nat) : Int) ((y % 2 ^ 64 : Nat) : Int)) = True := fun x y hx hy => eq_true ⟨by unfold isV; omega, by unfold isV; omega⟩
  have o1 := onesN_lt w
  have o2 := onesN_lt (((clampN w : Nat) : Int) - min (max 0 n) ((clampN w : Nat) : Int))
  have e2 : onesN w ^^^ onesN (((clampN w : Nat) : Int) - min (max 0 n) ((clampN w : Nat) : Int)) = leadN w n := by
    unfold leadN
    congr 2
    unfold onesN
    congr 2
    unfold clampN
    unfold clampN at hc
    omega
  refine ACalls.of_aw (Ω := [(100, Ent.pure p_vWithin), (96, Ent.pure p_vOnes), (101, Ent.pure p_vXor)]) (T := assoc []) mixed (TblOk.cons ok_vWithin (TblOk.cons ok_vOnes (TblOk.cons ok_vXor TblOk.nil))) Try.func79 (by kernel_rfl) (by rfl) (rs := [.cell 4 29]) (by rfl) (by kernel_rfl) (by simp only [Try.ntmps79, yaz, yba]; decide) (Nat.le_refl _) fun hcl hlt => ?_
  change aw _ _ _ (KI Try.prog [(100, Ent.pure p_vWithin), (96, Ent.pure p_vOnes), (101, Ent.pure p_vXor)] (aEnd Try.prog [.cell 4 29] H.nx _ _) []) _ _
  clear hlt
  simp only [go_sem, reduceCtorEq, Nat.reduceEqDiff, Nat.reduceAdd, Nat.reduceMul, Nat.reduceSub, Nat.reduceLeDiff, Nat.reduceLT, Int.reduceMul, Int.reduceAdd, Int.reduceSub, Int.reduceToNat, Bool.false_eq_true, if_true, if_false, p_vWithin, p_vOnes, p_vXor, p2V, e1, onesN_clampN, vv, Int.toNat_natCast, vOf_back, e2, hx _ _ o1 o2]
  simp (disch := first | assumption | omega | (simp; done) | (simp; omega) | (simp only [bt, and_true]; first | done | omega | (simp; done))) [↓zlu, beq, ybc, ybd, ybe, endOk, wk, wk2, wk1, wkM, wkL, wkLL, ybf, hcl]
theorem cmpN_vOf {a b c d : Nat} (h : b < 2 ^ 64) (k : d < 2 ^ 64) : cmpN (vOf a b) (vOf c d) = if a = c ∧ b = d then 0 else if a < c ∨ a = c ∧ b < d then -1 else 1 := by
  unfold cmpN
  simp only [vOf_inj h k, vOf_le h k]
theorem teq_valV {a b c d : Int} : teq Try.prog 9 29 (.agg [.int .u64 a, .int .u64 b]) (.agg [.int .u64 c, .int .u64 d]) = some ((a == c) && ((b == d) && true)) := by
  have g2 : Try.prog.stoodInHeld 29 = false := by kernel_rfl
  simp [ti_zvalue, teq, teq.go, teq.part, ti_zu64, ceq, g2, TD.agg]
theorem eqg_valV : Try.prog.eqGuardType Try.prog.depth 29 = false := by kernel_rfl
theorem nat_beq {a b : Nat} : (((a : Nat) : Int) == ((b : Nat) : Int)) = decide (a = b) := by rw [Bool.eq_iff_iff]; simp; omega
theorem nat_dlt {a b : Nat} : decide (((a : Nat) : Int) < ((b : Nat) : Int)) = decide (a < b) := by rw [decide_eq_decide]; omega
def p_vCompare := p2V fun x y => .int .i64 (cmpN x y)
theorem ok_vCompare : EntOk Try.prog 42 (Ent.pure p_vCompare) := by
  unfold p_vCompare
  refine EntOk.pure fun args H K h => ?_
  unfold p2V at h
  split at h
  rotate_left
  · exact h.elim
  rename_i a b c d
  obtain ⟨⟨⟨h0, h1, h2, h3⟩, k0, k1, k2, k3⟩, hK⟩ := h
  refine ⟨_, hK, ?_⟩
  obtain ⟨x, rfl⟩ := u64_lift h0
  obtain ⟨y, rfl⟩ := u64_lift h2
  obtain ⟨z, rfl⟩ := u64_lift k0
  obtain ⟨w, rfl⟩ := u64_lift k2
  clear hK h0 h2 k0 k2
  simp only [Int.toNat_natCast]
  have hx : x < 2 ^ 64 := by omega
  have hy : y < 2 ^ 64 := by omega
  have hz : z < 2 ^ 64 := by omega
  have hw : w < 2 ^ 64 := by omega
  rw [cmpN_vOf hy hw]
  rcases (by omega : (x = z ∧ y = w) ∨ x < z ∨ (x = z ∧ y < w) ∨ z < x ∨ (x = z ∧ w < y)) with h | h | h | h | h
  · rw [if_pos h]
    refine ACalls.of_aw (Ω := []) (T := assoc []) mixed TblOk.nil Try.func42 (by kernel_rfl) (by rfl) (rs := [.tmp 4]) (by rfl) (by kernel_rfl) (by simp only [Try.ntmps42, yaz, yba]; decide) (Nat.le_refl _) fun hcl hlt => ?_
    change aw _ _ _ (KI Try.prog [] (aEnd Try.prog [.tmp 4] H.nx _ _) []) _ _
    clear hlt
    simp only [go_sem, reduceCtorEq, Nat.reduceEqDiff, Nat.reduceAdd, Nat.reduceMul, Nat.reduceSub, Nat.reduceLeDiff, Nat.reduceLT, Int.reduceMul, Int.reduceAdd, Int.reduceSub, Int.reduceToNat, teq_valV, eqg_valV, nat_beq, nat_dlt, h.1, h.2, decide_true, Bool.and_self, Bool.bne_false, Bool.and_true]
    simp (disch := first | assumption | omega | (simp; done) | (simp; omega) | (simp only [bt, and_true]; first | done | omega | (simp; done))) [↓zlu, beq, ybc, ybd, ybe, endOk, wk, wk2, wk1, wkM, wkL, wkLL, ybf, hcl]
  · rw [if_neg (by omega), if_pos (.inl h)]
    have d1 : decide (x = z) = false := decide_eq_false (by omega)
    have d2 : decide (x < z) = true := decide_eq_true h
    refine ACalls.of_aw (Ω := []) (T := assoc []) mixed TblOk.nil Try.func42 (by kernel_rfl) (by rfl) (rs := [.tmp 4]) (by rfl) (by kernel_rfl) (by simp only [Try.ntmps42, yaz, yba]; decide) (Nat.le_refl _) fun hcl hlt => ?_
    change aw _ _ _ (KI Try.prog [] (aEnd Try.prog [.tmp 4] H.nx _ _) []) _ _
    clear hlt
    simp only [go_sem, reduceCtorEq, Nat.reduceEqDiff, Nat.reduceAdd, Nat.reduceMul, Nat.reduceSub, Nat.reduceLeDiff, Nat.reduceLT, Int.reduceMul, Int.reduceAdd, Int.reduceSub, Int.reduceToNat, teq_valV, eqg_valV, nat_beq, nat_dlt, d1, d2, Bool.false_and, Bool.bne_false, Bool.and_true]
    simp (disch := first | assumption | omega | (simp; done) | (simp; omega) | (simp only [bt, and_true]; first | done | omega | (simp; done))) [↓zlu, beq, ybc, ybd, ybe, endOk, wk, wk2, wk1, wkM, wkL, wkLL, ybf, hcl]
  · rw [if_neg (by omega), if_pos (.inr h)]
    have d1 : decide (y = w) = false := decide_eq_false (by omega)
    have d2 : decide (y < w) = true := decide_eq_true h.2
    have d3 : decide (z < z) = false := by simp
    refine ACalls.of_aw (Ω := []) (T := assoc []) mixed TblOk.nil Try.func42 (by kernel_rfl) (by rfl) (rs := [.tmp 4]) (by rfl) (by kernel_rfl) (by simp only [Try.ntmps42, yaz, yba]; decide) (Nat.le_refl _) fun hcl hlt => ?_
    change aw _ _ _ (KI Try.prog [] (aEnd Try.prog [.tmp 4] H.nx _ _) []) _ _
    clear hlt
    simp only [go_sem, reduceCtorEq, Nat.reduceEqDiff, Nat.reduceAdd, Nat.reduceMul, Nat.reduceSub, Nat.reduceLeDiff, Nat.reduceLT, Int.reduceMul, Int.reduceAdd, Int.reduceSub, Int.reduceToNat, teq_valV, eqg_valV, nat_beq, nat_dlt, h.1, d1, d2, d3, decide_true, Bool.and_false, Bool.bne_false, Bool.and_true, Bool.true_and]
    simp (disch := first | assumption | omega | (simp; done) | (simp; omega) | (simp only [bt, and_true]; first | done | omega | (simp; done))) [↓zlu, beq, ybc, ybd, ybe, endOk, wk, wk2, wk1, wkM, wkL, wkLL, ybf, hcl]
  · rw [if_neg (by omega), if_neg (by omega)]
    have d1 : decide (x = z) = false := decide_eq_false (by omega)
    have d2 : decide (x < z) = false := decide_eq_false (by omega)
    refine ACalls.of_aw (Ω := []) (T := assoc []) mixed TblOk.nil Try.func42 (by kernel_rfl) (by rfl) (rs := [.tmp 4]) (by rfl) (by kernel_rfl) (by simp only [Try.ntmps42, yaz, yba]; decide) (Nat.le_refl _) fun hcl hlt => ?_
    change aw _ _ _ (KI Try.prog [] (aEnd Try.prog [.tmp 4] H.nx _ _) []) _ _
    clear hlt
    simp only [go_sem, reduceCtorEq, Nat.reduceEqDiff, Nat.reduceAdd, Nat.reduceMul, Nat.reduceSub, Nat.reduceLeDiff, Nat.reduceLT, Int.reduceMul, Int.reduceAdd, Int.reduceSub, Int.reduceToNat, teq_valV, eqg_valV, nat_beq, nat_dlt, d1, d2, Bool.false_and, Bool.bne_false, Bool.and_true]
    simp (disch := first | assumption | omega | (simp; done) | (simp; omega) | (simp only [bt, and_true]; first | done | omega | (simp; done))) [↓zlu, beq, ybc, ybd, ybe, endOk, wk, wk2, wk1, wkM, wkL, wkLL, ybf, hcl]
  · rw [if_neg (by omega), if_neg (by omega)]
    have d1 : decide (y = w) = false := decide_eq_false (by omega)
    have d2 : decide (y < w) = false := decide_eq_false (by omega)
    have d3 : decide (z < z) = false := by simp
    refine ACalls.of_aw (Ω := []) (T := assoc []) mixed TblOk.nil Try.func42 (by kernel_rfl) (by rfl) (rs := [.tmp 4]) (by rfl) (by kernel_rfl) (by simp only [Try.ntmps42, yaz, yba]; decide) (Nat.le_refl _) fun hcl hlt => ?_
    change aw _ _ _ (KI Try.prog [] (aEnd Try.prog [.tmp 4] H.nx _ _) []) _ _
    clear hlt
    simp only [go_sem, reduceCtorEq, Nat.reduceEqDiff, Nat.reduceAdd, Nat.reduceMul, Nat.reduceSub, Nat.reduceLeDiff, Nat.reduceLT, Int.reduceMul, Int.reduceAdd, Int.reduceSub, Int.reduceToNat, teq_valV, eqg_valV, nat_beq, nat_dlt, h.1, d1, d2, d3, decide_true, Bool.and_false, Bool.bne_false, Bool.and_true, Bool.true_and]
    simp (disch := first | assumption | omega | (simp; done) | (simp; omega) | (simp only [bt, and_true]; first | done | omega | (simp; done))) [↓zlu, beq, ybc, ybd, ybe, endOk, wk, wk2, wk1, wkM, wkL, wkLL, ybf, hcl]
def p_vFits : List AV → AHeap → (AV → Prop) → Prop
  | [.agg [.int .u64 a, .int .u64 b], .int .i64 n], _, K => isV a b ∧ K (.bool (decide (((bl (vOf a.toNat b.toNat) : Nat) : Int) ≤ n)))
  | _, _, _ => False
theorem ok_vFits : EntOk Try.prog 95 (Ent.pure p_vFits) := by
  refine EntOk.pure fun args H K h => ?_
  unfold p_vFits at h
  split at h
  rotate_left
  · exact h.elim
  rename_i a b n
  obtain ⟨hv, hK⟩ := h
  refine ⟨_, hK, ?_⟩
  clear hK
  refine ACalls.of_aw (Ω := [(103, Ent.pure p_vLenF)]) (T := assoc []) mixed (TblOk.cons ok_vLenF TblOk.nil) Try.func95 (by kernel_rfl) (by rfl) (rs := [.tmp 4]) (by rfl) (by kernel_rfl) (by simp only [Try.ntmps95, yaz, yba]; decide) (Nat.le_refl _) fun hcl hlt => ?_
  change aw _ _ _ (KI Try.prog [(103, Ent.pure p_vLenF)] (aEnd Try.prog [.tmp 4] H.nx _ _) []) _ _
  clear hlt
  unfold isV at hv
  simp only [go_sem, reduceCtorEq, Nat.reduceEqDiff, Nat.reduceAdd, Nat.reduceMul, Nat.reduceSub, Nat.reduceLeDiff, Nat.reduceLT, Int.reduceMul, Int.reduceAdd, Int.reduceSub, Int.reduceToNat, p_vLenF]
  refine ⟨hv, ?_⟩
  simp (disch := first | assumption | omega | (simp; done) | (simp; omega) | (simp only [bt, and_true]; first | done | omega | (simp; done))) [↓zlu, beq, ybc, ybd, ybe, endOk, wk, wk2, wk1, wkM, wkL, wkLL, ybf, hcl]
theorem b_same (b : Bool) : ((b == b) != true) = false := by cases b <;> rfl
theorem b_tf : ((true == false) != true) = true := rfl
theorem b_ft : ((false == true) != true) = true := rfl
def p_rCompare := p2V fun x y => .int .i64 (cmpN x y)
set_option maxHeartbeats 2000000 in
theorem ok_rCompare : EntOk Try.prog 73 (Ent.pure p_rCompare) := by
  unfold p_rCompare
  refine EntOk.pure fun args H K h => ?_
  unfold p2V at h
  split at h
  rotate_left
  · exact h.elim
  rename_i a b c d
  obtain ⟨⟨⟨h0, h1, h2, h3⟩, k0, k1, k2, k3⟩, hK⟩ := h
  refine ⟨_, hK, ?_⟩
  obtain ⟨x, rfl⟩ := u64_lift h0
  obtain ⟨y, rfl⟩ := u64_lift h2
  obtain ⟨z, rfl⟩ := u64_lift k0
  obtain ⟨w, rfl⟩ := u64_lift k2
  clear hK h0 h2 k0 k2
  simp only [Int.toNat_natCast]
  have hv := vOf_lt (hi := x) (lo := y) (by omega) (by omega)
  have hu := vOf_lt (hi := z) (lo := w) (by omega) (by omega)
  refine ACalls.of_aw (Ω := [(92, Ent.pure p_rRead)]) (T := assoc [(1, [[], [0], [], [0, 1, 2], [], [], [0, 1, 2, 3, 4, 5], [0, 1, 2, 3, 4, 5]]), (801, [[4, 139], [5, 139]])]) mixed (TblOk.cons ok_rRead TblOk.nil) Try.func73 (by kernel_rfl) (by rfl) (rs := [.tmp 4]) (by rfl) (by kernel_rfl) (by simp only [Try.ntmps73, yaz, yba]; decide) (Nat.le_refl _) fun hcl hlt => ?_
  change aw _ _ _ (KI Try.prog [(92, Ent.pure p_rRead)] (aEnd Try.prog [.tmp 4] H.nx _ _ (assoc [(1, [[], [0], [], [0, 1, 2], [], [], [0, 1, 2, 3, 4, 5], [0, 1, 2, 3, 4, 5]]), (801, [[4, 139], [5, 139]])])) []) _ _
  clear hlt
  generalize hvo : vOf x y = v at *
  generalize huo : vOf z w = u at *
  have es : ∀ t, splice (List.replicate 128 (.bool false)) 0 (bits t) = bits t := fun t => replicate_splice (y := .junk) (bits_len t)
  have tv : ∀ t j, t < 2 ^ 128 → 128 ≤ j → t.testBit j = false := fun t j ht hj => Nat.testBit_lt_two_pow (Nat.lt_of_lt_of_le ht (Nat.pow_le_pow_right (by decide) hj))
  simp only [go_sem, reduceCtorEq, Nat.reduceEqDiff, Nat.reduceAdd, Nat.reduceMul, Nat.reduceSub, Nat.reduceLeDiff, Nat.reduceLT, Int.reduceMul, Int.reduceAdd, Int.reduceSub, Int.reduceToNat, p_rRead, isV, Int.toNat_natCast, hvo, huo, bits_len, allOne_bits, es]
  (repeat with_reducible refine And.intro (by first | exact True.intro | decide | omega | (simp [zib, zge, zgf, zgg, zgi, zgh, zgm]; first | done | omega)) ?_)
  refine loop_intro (A := Nat) (fun k => [(7, .int .i64 ((k : Int) - 1)), (6, .ptr (H.nx + 1 + 1 + 1) 0), (5, .ptr (H.nx + 1 + 1) 0)])
    (fun k => (((H.push (.cells [.int .u64 (x : Int), .int .u64 (y : Int)])).push (.cells [.int .u64 (z : Int), .int .u64 (w : Int)])).push (.cells (bits v))).push (.cells (bits u))) (fun k => k ≤ 128 ∧ ∀ j, k ≤ j → v.testBit j = u.testBit j) (fun k => k) 128 ⟨by omega, fun j hj => by rw [tv v j hv hj, tv u j hu hj]⟩ ?_ fun k hk => ?_
  · simp only [bnq, enter, subF, ltF, ne_eq, Nat.reduceEqDiff, reduceCtorEq, true_or, and_true]
    all_goals rfl
  obtain ⟨hk, hz⟩ := hk
  simp only [go_sem, reduceCtorEq, Nat.reduceEqDiff, Nat.reduceAdd, Nat.reduceMul, Nat.reduceSub, Nat.reduceLeDiff, Nat.reduceLT, Int.reduceMul, Int.reduceAdd, Int.reduceSub, Int.reduceToNat]
  refine cond_split (fun hc => ?_) (fun hc => ?_)
  · have hk0 : 1 ≤ k := by simp at hc; omega
    obtain ⟨j, rfl⟩ : ∃ j, k = j + 1 := ⟨k - 1, by omega⟩
    have e0 : ((j + 1 : Nat) : Int) - 1 = (j : Int) := by omega
    have e1 : IntKind.i64.wrap ((j : Int) - 1) = (j : Int) - 1 := by rw [wrap_i64] <;> omega
    have g1 := bits_get v j (by omega)
    have g2 := bits_get u j (by omega)
    by_cases hj : v.testBit j = u.testBit j
    · simp only [go_sem, reduceCtorEq, Nat.reduceEqDiff, Nat.reduceAdd, Nat.reduceMul, Nat.reduceSub, Nat.reduceLeDiff, Nat.reduceLT, Int.reduceMul, Int.reduceAdd, Int.reduceSub, Int.reduceToNat, Int.toNat_natCast, bits_len, e0, e1, Nat.mul_one, Nat.zero_add, g1, g2, hj, b_same]
      (repeat with_reducible refine And.intro (by first | exact True.intro | decide | omega | (simp [zib, zge, zgf, zgg, zgi, zgh, zgm]; first | done | omega)) ?_)
      refine ⟨j, ⟨by omega, fun i hi => ?_⟩, by omega, ?_⟩
      · by_cases h : i = j
        · subst h; exact hj
        · exact hz i (by omega)
      · simp only [bnq, enter, subF, ltF, ne_eq, Nat.reduceEqDiff, reduceCtorEq, true_or, and_self]
    · have hz' : ∀ i, j < i → v.testBit i = u.testBit i := fun i hi => hz i (by omega)
      cases hb : u.testBit j
      · have hb0 : v.testBit j = true := by
          rw [hb] at hj; simpa using hj
        have hlt : u < v := top_lt hb hb0 fun i hi => (hz' i hi).symm
        have ec : cmpN v u = 1 := by unfold cmpN; rw [if_neg (by omega), if_neg (by omega)]
        rw [hb] at g2; rw [hb0] at g1
        simp only [go_sem, reduceCtorEq, Nat.reduceEqDiff, Nat.reduceAdd, Nat.reduceMul, Nat.reduceSub, Nat.reduceLeDiff, Nat.reduceLT, Int.reduceMul, Int.reduceAdd, Int.reduceSub, Int.reduceToNat, Int.toNat_natCast, bits_len, e0, e1, Nat.mul_one, Nat.zero_add, g1, g2, ec, b_tf]
        (repeat with_reducible refine And.intro (by first | exact True.intro | decide | omega | (simp [zib, zge, zgf, zgg, zgi, zgh, zgm]; first | done | omega)) ?_)
        simp (disch := first | assumption | omega | (simp; done) | (simp; omega) | (simp only [bt, and_true]; first | done | omega | (simp; done))) [↓zlu, beq, ybc, ybd, ybe, endOk, wk, wk2, wk1, wkM, wkL, wkLL, ybf, hcl]
      · have hb0 : v.testBit j = false := by
          rw [hb] at hj; simpa using hj
        have hlt : v < u := top_lt hb0 hb fun i hi => (hz' i hi)
        have ec : cmpN v u = -1 := by unfold cmpN; rw [if_neg (by omega), if_pos (by omega)]
        rw [hb] at g2; rw [hb0] at g1
        simp only [go_sem, reduceCtorEq, Nat.reduceEqDiff, Nat.reduceAdd, Nat.reduceMul, Nat.reduceSub, Nat.reduceLeDiff, Nat.reduceLT, Int.reduceMul, Int.reduceAdd, Int.reduceSub, Int.reduceToNat, Int.toNat_natCast, bits_len, e0, e1, Nat.mul_one, Nat.zero_add, g1, g2, ec, b_ft]
        (repeat with_reducible refine And.intro (by first | exact True.intro | decide | omega | (simp [zib, zge, zgf, zgg, zgi, zgh, zgm]; first | done | omega)) ?_)
        simp (disch := first | assumption | omega | (simp; done) | (simp; omega) | (simp only [bt, and_true]; first | done | omega | (simp; done))) [↓zlu, beq, ybc, ybd, ybe, endOk, wk, wk2, wk1, wkM, wkL, wkLL, ybf, hcl]
  · have hk0 : k = 0 := by simp at hc; omega
    subst hk0
    have : v = u := Nat.eq_of_testBit_eq fun j => hz j (by omega)
    subst this
    have ec : cmpN v v = 0 := by unfold cmpN; rw [if_pos rfl]
    simp only [go_sem, reduceCtorEq, Nat.reduceEqDiff, Nat.reduceAdd, Nat.reduceMul, Nat.reduceSub, Nat.reduceLeDiff, Nat.reduceLT, Int.reduceMul, Int.reduceAdd, Int.reduceSub, Int.reduceToNat, ec]
    simp (disch := first | assumption | omega | (simp; done) | (simp; omega) | (simp only [bt, and_true]; first | done | omega | (simp; done))) [↓zlu, beq, ybc, ybd, ybe, endOk, wk, wk2, wk1, wkM, wkL, wkLL, ybf, hcl]
end Go.AL

