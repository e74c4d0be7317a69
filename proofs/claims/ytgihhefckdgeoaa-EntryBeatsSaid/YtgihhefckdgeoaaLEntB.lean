/- Contracts and plain laws, a part of the proof; no condition of its own. -/
import Derived.Test.YtgihhefckdgeoaaLEnt
import Derived.Test.YtgihhefckdgeoaaLBits
/- Plain laws of bits: combinations of values, ones, comparisons. No program. -/
namespace Go.AL
set_option linter.all false
theorem and_vOf (a b c d : Nat) (h : b < 2 ^ 64) (k : d < 2 ^ 64) : vOf a b &&& vOf c d = vOf (a &&& c) (b &&& d) := by
  refine Nat.eq_of_testBit_eq fun j => ?_
  rw [Nat.testBit_and, vOf_bit h, vOf_bit k, vOf_bit (Nat.and_lt_two_pow _ k)]
  split <;> rw [Nat.testBit_and]
theorem xor_vOf (a b c d : Nat) (h : b < 2 ^ 64) (k : d < 2 ^ 64) : vOf a b ^^^ vOf c d = vOf (a ^^^ c) (b ^^^ d) := by
  refine Nat.eq_of_testBit_eq fun j => ?_
  rw [Nat.testBit_xor, vOf_bit h, vOf_bit k, vOf_bit (Nat.xor_lt_two_pow h k)]
  split <;> rw [Nat.testBit_xor]
theorem vOf_inj {a b c d : Nat} (h : b < 2 ^ 64) (k : d < 2 ^ 64) : vOf a b = vOf c d ↔ a = c ∧ b = d := by
  unfold vOf; omega
theorem vOf_le {a b c d : Nat} (h : b < 2 ^ 64) (k : d < 2 ^ 64) : vOf a b < vOf c d ↔ a < c ∨ a = c ∧ b < d := by
  unfold vOf; omega
/-- a number of bits of a value -/
def clampN (n : Int) : Nat := (min (max 0 n) 128).toNat
theorem clampN_le (n : Int) : clampN n ≤ 128 := by unfold clampN; omega
/-- the first n bits -/
def onesN (n : Int) : Nat := 2 ^ clampN n - 1
theorem two_pow_sub_bit (w j : Nat) : (2 ^ w - 1).testBit j = decide (j < w) := Nat.testBit_two_pow_sub_one w j
theorem onesN_lt (n : Int) : onesN n < 2 ^ 128 := by
  unfold onesN
  have := Nat.pow_le_pow_right (show 0 < 2 by decide) (clampN_le n)
  have := Nat.two_pow_pos (clampN n)
  omega
theorem ones_shift {w : Nat} (h : w ≤ 128) : (2 ^ 128 - 1) >>> (128 - w) = 2 ^ w - 1 := by
  refine Nat.eq_of_testBit_eq fun j => ?_
  rw [Nat.testBit_shiftRight, two_pow_sub_bit, two_pow_sub_bit, decide_eq_decide]; omega
/-- the highest n of some bits -/
def leadN (w n : Int) : Nat := onesN w ^^^ (2 ^ (clampN w - (min (max 0 n) (clampN w)).toNat) - 1)
theorem leadN_lt (w n : Int) : leadN w n < 2 ^ 128 := by
  refine Nat.xor_lt_two_pow (onesN_lt w) ?_
  have h : (2 ^ (clampN w - (min (max 0 n) (clampN w)).toNat)) ≤ 2 ^ 128 := Nat.pow_le_pow_right (by decide) (by have := clampN_le w; omega)
  have := Nat.two_pow_pos (clampN w - (min (max 0 n) (clampN w)).toNat)
  omega
/-- the comparison of two numbers -/
def cmpN (x y : Nat) : Int := if x = y then 0 else if x < y then -1 else 1
end Go.AL

