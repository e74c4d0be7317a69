/- Plain laws of integers in three words of 64 bits, two's complement. -/
import Derived.Test.YtogojhflpdlceaaLVal
namespace Go.AL
open Go

def w0 (z : Int) : Int := z % 2 ^ 64
def w1 (z : Int) : Int := z / 2 ^ 64 % 2 ^ 64
def w2 (z : Int) : Int := z / 2 ^ 64 / 2 ^ 64 % 2 ^ 64
/-- a number in memory -/
def nAV (z : Int) : AV := .agg [.int .u64 (w0 z), .int .u64 (w1 z), .int .u64 (w2 z)]

theorem w0_lt (z : Int) : 0 ≤ w0 z ∧ w0 z < 18446744073709551616 := by unfold w0; omega
theorem w1_lt (z : Int) : 0 ≤ w1 z ∧ w1 z < 18446744073709551616 := by unfold w1; omega
theorem w2_lt (z : Int) : 0 ≤ w2 z ∧ w2 z < 18446744073709551616 := by unfold w2; omega

/-! sums -/
theorem add_w0 (a b : Int) : (w0 a + w0 b) % 2 ^ 64 = w0 (a + b) := by unfold w0; omega
theorem add_w1 (a b : Int) : (w1 a + w1 b + (w0 a + w0 b) / 2 ^ 64) % 2 ^ 64 = w1 (a + b) := by unfold w0 w1; omega
theorem add_w2 (a b : Int) : (w2 a + w2 b + (w1 a + w1 b + (w0 a + w0 b) / 2 ^ 64) / 2 ^ 64) % 2 ^ 64 = w2 (a + b) := by unfold w0 w1 w2; omega
/-! the negative -/
theorem not_w0 (a : Int) : 2 ^ 64 - 1 - w0 a = w0 (-1 - a) := by unfold w0; omega
theorem not_w1 (a : Int) : 2 ^ 64 - 1 - w1 a = w1 (-1 - a) := by unfold w1; omega
theorem not_w2 (a : Int) : 2 ^ 64 - 1 - w2 a = w2 (-1 - a) := by unfold w2; omega
/-! small ones, values -/
theorem of_w0 (n : Int) (h : -(2 ^ 63) ≤ n ∧ n < 2 ^ 63) : w1 n = (if n < 0 then 2 ^ 64 - 1 else 0) ∧ w2 n = (if n < 0 then 2 ^ 64 - 1 else 0) := by
  unfold w1 w2; split <;> constructor <;> omega
theorem from_w (hi lo : Int) (h1 : 0 ≤ hi ∧ hi < 2 ^ 64) (h2 : 0 ≤ lo ∧ lo < 2 ^ 64) : w0 (hi * 2 ^ 64 + lo) = lo ∧ w1 (hi * 2 ^ 64 + lo) = hi ∧ w2 (hi * 2 ^ 64 + lo) = 0 := by
  unfold w0 w1 w2; refine ⟨?_, ?_, ?_⟩ <;> omega
/-- numbers that are not too great are told apart by their words -/
theorem w_inj {a b : Int} (ha : -(2 ^ 191) ≤ a ∧ a < 2 ^ 191) (hb : -(2 ^ 191) ≤ b ∧ b < 2 ^ 191) (h0 : w0 a = w0 b) (h1 : w1 a = w1 b) (h2 : w2 a = w2 b) : a = b := by
  unfold w0 at h0; unfold w1 at h1; unfold w2 at h2; omega
theorem w_neg {a : Int} (ha : -(2 ^ 191) ≤ a ∧ a < 2 ^ 191) : w2 a / 2 ^ 63 = if a < 0 then 1 else 0 := by
  unfold w2; split <;> omega
theorem w_fits {a : Int} (ha : -(2 ^ 191) ≤ a ∧ a < 2 ^ 191) : w2 a = 0 ↔ 0 ≤ a ∧ a < 2 ^ 128 := by
  unfold w2; omega
theorem ixor_max (x : Int) (h : 0 ≤ x ∧ x < 18446744073709551616) : ixor .u64 (if IntKind.u64.signed = true then -1 else IntKind.u64.max) x = 2 ^ 64 - 1 - x := by
  obtain ⟨n, rfl⟩ := Int.eq_ofNat_of_zero_le h.1
  have hn : n < 2 ^ 64 := by omega
  have e : (if IntKind.u64.signed = true then (-1 : Int) else IntKind.u64.max) = ((2 ^ 64 - 1 : Nat) : Int) := rfl
  rw [e, ixor_u64 _ _ (by decide) hn]
  have h1 := congrArg BitVec.toNat (BitVec.allOnes_xor (x := BitVec.ofNat 64 n))
  rw [BitVec.toNat_xor, BitVec.toNat_not, BitVec.toNat_allOnes, BitVec.toNat_ofNat, Nat.mod_eq_of_lt hn] at h1
  rw [h1]; omega
end Go.AL
