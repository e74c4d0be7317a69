/- Contracts and plain laws, a part of the proof; no condition of its own. -/
import Derived.Test.YtepgdamgklfnmaaLEnt
import Derived.Test.YtepgdamgklfnmaaLBits
/- Plain laws of bits: combinations of values, ones, comparisons. No program. -/
namespace Go.AL
set_option linter.all false
theorem and_vOf (a b c d : Nat) (h : b < 2 ^ 64) (k : d < 2 ^ 64) : vOf a b &&& vOf c d = vOf (a &&& c) (b &&& d) := by
  refine Nat.eq_of_testBit_eq fun j => ?_
  rw [Nat.testBit_and, vOf_bit h, vOf_bit k, vOf_bit (Nat.and_lt_two_pow _ k)]
  split <;> rw [Nat.testBit_and]
theorem xor_vOf (a b c d : Nat) (h : b < 2 ^ 64) (k : d < 2 ^ 64) : vOf a b ^^^ vOf c d = vOf (a ^^^ c) (b ^^^ d) := by
  refine Nat.eq_of_testBit_eq fun j => ?_
  rw [Nat.testBit_xor, vOf_bit h, vOf_bit k, vOf_bit (Nat.xor_lt_two_pow h k)]
  split <;> rw [Nat.testBit_xor]
theorem vOf_inj {a b c d : Nat} (h : b < 2 ^ 64) (k : d < 2 ^ 64) : vOf a b = vOf c d ↔ a = c ∧ b = d := by
  unfold vOf; omega
theorem vOf_le {a b c d : Nat} (h : b < 2 ^ 64) (k : d < 2 ^ 64) : vOf a b < vOf c d ↔ a < c ∨ a = c ∧ b < d := by
  unfold vOf; omega
/-- a number of bits of a value -/
def clampN (n : Int) : Nat := (min (max 0 n) 128).toNat
theorem clampN_le (n : Int) : clampN n ≤ 128 := by unfold clampN; omega
/-- the first n bits -/
def onesN (n : Int) : Nat := 2 ^ clampN n - 1
theorem two_pow_sub_bit (w j : Nat) : (2 ^ w - 1).testBit j = decide (j < w) := Nat.testBit_two_pow_sub_one w j
theorem onesN_lt (n : Int) : onesN n < 2 ^ 128 := by
  unfold onesN
  have := Nat.pow_le_pow_right (show 0 < 2 by decide) (clampN_le n)
  have := Nat.two_pow_pos (clampN n)
  omega
theorem ones_shift {w : Nat} (h : w ≤ 128) : (2 ^ 128 - 1) >>> (128 - w) = 2 ^ w - 1 := by
  refine Nat.eq_of_testBit_eq fun j => ?_
  rw [Nat.testBit_shiftRight, two_pow_sub_bit, two_pow_sub_bit, decide_eq_decide]; omega
/-- the highest n of some bits -/
def leadN (w n : Int) : Nat := onesN w ^^^ (2 ^ (clampN w - (min (max 0 n) (clampN w)).toNat) - 1)
theorem leadN_lt (w n : Int) : leadN w n < 2 ^ 128 := by
  refine Nat.xor_lt_two_pow (onesN_lt w) ?_
  have h : (2 ^ (clampN w - (min (max 0 n) (clampN w)).toNat)) ≤ 2 ^ 128 := Nat.pow_le_pow_right (by decide) (by have := clampN_le w; omega)
  have := Nat.two_pow_pos (clampN w - (min (max 0 n) (clampN w)).toNat)
  omega
/-- the comparison of two numbers -/
def cmpN (x y : Nat) : Int := if x = y then 0 else if x < y then -1 else 1
/-- two numbers that are equal above a bit at which they differ -/
theorem top_lt {x y i : Nat} (hx : x.testBit i = false) (hy : y.testBit i = true) (h : ∀ j, i < j → x.testBit j = y.testBit j) : x < y := by
  have e : x / 2 ^ (i + 1) = y / 2 ^ (i + 1) := by
    refine Nat.eq_of_testBit_eq fun j => ?_
    rw [Nat.testBit_div_two_pow, Nat.testBit_div_two_pow]
    exact h _ (by omega)
  have px := Nat.two_pow_pos i
  have mx : x % 2 ^ (i + 1) < 2 ^ i := by
    refine Nat.lt_pow_two_of_testBit _ fun j hj => ?_
    rw [Nat.testBit_mod_two_pow]
    by_cases hji : j = i
    · subst hji; simp [hx]
    · simp [show ¬ j < i + 1 by omega]
  have my : 2 ^ i ≤ y % 2 ^ (i + 1) := Nat.ge_two_pow_of_testBit (by rw [Nat.testBit_mod_two_pow]; simp [hy])
  have dx := Nat.div_add_mod x (2 ^ (i + 1))
  have dy := Nat.div_add_mod y (2 ^ (i + 1))
  rw [e] at dx
  omega
end Go.AL

