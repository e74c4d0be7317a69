/- Contracts and plain laws, a part of the proof; no condition of its own. -/
import Derived.Test.YtepgdamgklfnmaaCE
import Derived.Test.YtepgdamgklfnmaaLBits
open Go Go.AL Go.Proofs
namespace Go.AL
set_option linter.all false
set_option maxRecDepth 10000

def p_rMakeF : List AV → AHeap → (AV → Prop) → Prop
  | [.agg l], _, K => isBits l ∧ K (vv (unbits l))
  | _, _, _ => False
theorem ok_rMakeF : EntOk Try.prog 69 (Ent.pure p_rMakeF) := by
  refine EntOk.pure fun args H K h => ?_
  unfold p_rMakeF at h
  split at h
  rotate_left
  · exact h.elim
  rename_i l
  obtain ⟨c1, hK⟩ := h
  refine ⟨_, hK, ?_⟩
  obtain ⟨v, rfl, hv⟩ := isBits_out c1
  clear hK c1
  rw [unbits_bits hv]
  have v1 : vv v = .agg [.int .u64 ((v / 2 ^ 64 : Nat) : Int), .int .u64 ((v % 2 ^ 64 : Nat) : Int)] := rfl
  have hbl : ∀ i, i < 64 → (v % 2 ^ 64).testBit i = v.testBit i := fun i hi => by rw [Nat.testBit_mod_two_pow]; simp [hi]
  have hbh : ∀ i, (v / 2 ^ 64).testBit i = v.testBit (i + 64) := fun i => by rw [Nat.testBit_div_two_pow]
  have hx : v / 2 ^ 64 < 2 ^ 64 := by omega
  have hy : v % 2 ^ 64 < 2 ^ 64 := by omega
  rw [v1]
  generalize v / 2 ^ 64 = x at *
  generalize v % 2 ^ 64 = y at *
  clear v1
  refine ACalls.of_aw (Ω := []) (T := assoc []) mixed TblOk.nil Try.func69 (by kernel_rfl) (by rfl) (rs := [.cell 2 29]) (by rfl) (by kernel_rfl) (by simp only [Try.ntmps69, List.length_cons, List.length_nil]; decide) (Nat.le_refl _) fun hcl hlt => ?_
  change aw _ _ _ (KI Try.prog [] (aEnd Try.prog [.cell 2 29] H.nx _ _) []) _ _
  clear hlt
  simp only [go_sem, reduceCtorEq, Nat.reduceEqDiff, Nat.reduceAdd, Nat.reduceMul, Nat.reduceSub, Nat.reduceLeDiff, Nat.reduceLT, Int.reduceMul, Int.reduceAdd, Int.reduceSub, Int.reduceToNat, byq]
  refine loop_intro (A := Nat) (fun k => [(4, .int .i64 (k : Int)), (3, .ptr (H.nx + 1 + 1) 0), (1, .ptr H.nx 0), (2, .ptr (H.nx + 1) 0)])
    (fun k => ((H.push (.cells (bits v))).push (.cells [.int .u64 0, .int .u64 0])).push (.cells [.int .u64 ((x % 2 ^ k : Nat) : Int), .int .u64 ((y % 2 ^ k : Nat) : Int)])) (fun k => k ≤ 64) (fun k => 64 - k) 0 (by omega) ?_ fun k hk => ?_
  · simp only [bnq, enter, subF, ltF, ne_eq, Nat.reduceEqDiff, reduceCtorEq, Nat.pow_zero, Nat.mod_one, true_or, and_true]
  simp only [go_sem, reduceCtorEq, Nat.reduceEqDiff, Nat.reduceAdd, Nat.reduceMul, Nat.reduceSub, Nat.reduceLeDiff, Nat.reduceLT, Int.reduceMul, Int.reduceAdd, Int.reduceSub, Int.reduceToNat, byq]
  refine cond_split (fun hc => ?_) (fun hc => ?_)
  · have hk : k < 64 := by simp at hc; omega
    have e1 : IntKind.i64.wrap ((k : Int) + 64) = ((k + 64 : Nat) : Int) := by rw [wrap_i64] <;> omega
    have e2 : IntKind.u64.wrap (k : Int) = (k : Int) := by rw [wrap_u64] <;> omega
    have e3 : IntKind.i64.wrap ((k : Int) + 1) = ((k + 1 : Nat) : Int) := by rw [wrap_i64] <;> omega
    have g1 := bits_get v k (by omega)
    have g2 := bits_get v (k + 64) (by omega)
    have e4 : ishl .u64 1 (k : Int) = (((1 <<< k) % 2 ^ 64 : Nat) : Int) := ishl_u64 1 k
    have lx : x % 2 ^ k < 2 ^ 64 := Nat.lt_of_le_of_lt (Nat.mod_le _ _) hx
    have ly : y % 2 ^ k < 2 ^ 64 := Nat.lt_of_le_of_lt (Nat.mod_le _ _) hy
    have l1 : (1 <<< k) % 2 ^ 64 < 2 ^ 64 := Nat.mod_lt _ (by decide)
    have o1 := ior_u64 _ _ lx l1
    have o2 := ior_u64 _ _ ly l1
    have hb1 := hbl k hk
    have hb2 := hbh k
    by_cases c1 : v.testBit k = true <;> by_cases c2 : v.testBit (k + 64) = true
    · rw [c1] at hb1 g1; rw [c2] at hb2 g2
      rw [mod_bit x k hk hb2] at o1
      rw [mod_bit y k hk hb1] at o2
      simp only [go_sem, zav, reduceCtorEq, Nat.reduceEqDiff, Nat.reduceAdd, Nat.reduceMul, Nat.reduceSub, Nat.reduceLeDiff, Nat.reduceLT, Int.reduceMul, Int.reduceAdd, Int.reduceSub, Int.reduceToNat, byq, e1, e2, e3, e4, Int.toNat_natCast, Nat.zero_add, Nat.mul_one, bits_len, g1, g2, o1, o2]
      refine ⟨by omega, by omega, by omega, by omega, by omega, by omega, k + 1, by omega, by omega, ?_⟩
      simp only [bnq, enter, subF, ltF, ne_eq, Nat.reduceEqDiff, reduceCtorEq, true_or, and_self]
    · have c2 : v.testBit (k + 64) = false := by simpa using c2
      rw [c1] at hb1 g1; rw [c2] at hb2 g2
      have o1 := mod_nobit x k hb2
      rw [mod_bit y k hk hb1] at o2
      simp only [go_sem, zav, reduceCtorEq, Nat.reduceEqDiff, Nat.reduceAdd, Nat.reduceMul, Nat.reduceSub, Nat.reduceLeDiff, Nat.reduceLT, Int.reduceMul, Int.reduceAdd, Int.reduceSub, Int.reduceToNat, byq, e1, e2, e3, e4, Int.toNat_natCast, Nat.zero_add, Nat.mul_one, bits_len, g1, g2, o2]
      refine ⟨by omega, by omega, by omega, by omega, by omega, k + 1, by omega, by omega, ?_⟩
      simp only [bnq, enter, subF, ltF, ne_eq, Nat.reduceEqDiff, reduceCtorEq, o1, true_or, and_self]
    · have c1 : v.testBit k = false := by simpa using c1
      rw [c1] at hb1 g1; rw [c2] at hb2 g2
      have o2 := mod_nobit y k hb1
      rw [mod_bit x k hk hb2] at o1
      simp only [go_sem, zav, reduceCtorEq, Nat.reduceEqDiff, Nat.reduceAdd, Nat.reduceMul, Nat.reduceSub, Nat.reduceLeDiff, Nat.reduceLT, Int.reduceMul, Int.reduceAdd, Int.reduceSub, Int.reduceToNat, byq, e1, e2, e3, e4, Int.toNat_natCast, Nat.zero_add, Nat.mul_one, bits_len, g1, g2, o1]
      refine ⟨by omega, by omega, by omega, by omega, by omega, k + 1, by omega, by omega, ?_⟩
      simp only [bnq, enter, subF, ltF, ne_eq, Nat.reduceEqDiff, reduceCtorEq, o2, true_or, and_self]
    · have c1 : v.testBit k = false := by simpa using c1
      have c2 : v.testBit (k + 64) = false := by simpa using c2
      rw [c1] at hb1 g1; rw [c2] at hb2 g2
      have o1 := mod_nobit x k hb2
      have o2 := mod_nobit y k hb1
      simp only [go_sem, zav, reduceCtorEq, Nat.reduceEqDiff, Nat.reduceAdd, Nat.reduceMul, Nat.reduceSub, Nat.reduceLeDiff, Nat.reduceLT, Int.reduceMul, Int.reduceAdd, Int.reduceSub, Int.reduceToNat, byq, e1, e2, e3, e4, Int.toNat_natCast, Nat.zero_add, Nat.mul_one, bits_len, g1, g2]
      refine ⟨by omega, by omega, by omega, by omega, k + 1, by omega, by omega, ?_⟩
      simp only [bnq, enter, subF, ltF, ne_eq, Nat.reduceEqDiff, reduceCtorEq, o1, o2, true_or, and_self]
  · have hk : k = 64 := by simp at hc; omega
    subst hk
    have m1 : x % 2 ^ 64 = x := Nat.mod_eq_of_lt hx
    have m2 : y % 2 ^ 64 = y := Nat.mod_eq_of_lt hy
    simp only [go_sem, reduceCtorEq, Nat.reduceEqDiff, Nat.reduceAdd, Nat.reduceMul, Nat.reduceSub, Nat.reduceLeDiff, Nat.reduceLT, Int.reduceMul, Int.reduceAdd, Int.reduceSub, Int.reduceToNat, byq, m1, m2]
    simp (disch := first | assumption | omega | (simp; done) | (simp; omega) | (simp only [bt, and_true]; first | done | omega | (simp; done))) [↓zlu, beq, List.take_of_length_le, List.drop_append, List.take_append, endOk, wk, wk2, wk1, wkM, wkL, wkLL, List.drop_eq_nil_of_le, hcl]
end Go.AL

