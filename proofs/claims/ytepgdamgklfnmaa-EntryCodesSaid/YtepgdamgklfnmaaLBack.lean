/- Contracts and plain laws, a part of the proof; no condition of its own. -/
import Derived.Test.YtepgdamgklfnmaaLRd2
/- Plain laws: what was written is read back. No program. -/
namespace Go.AL
set_option linter.all false

/-- the last n bytes of a number, as a number -/
theorem beVal_beN (v : Nat) : ∀ n, beVal (beN v n) = v % 256 ^ n
  | 0 => by simp [beN, beVal, Nat.mod_one]
  | n + 1 => by
    have e : beN v (n + 1) = beN (v / 256) n ++ [UInt8.ofNat v] := by
      unfold beN
      rw [List.range_succ, List.map_append]
      congr 1
      · refine List.map_congr_left fun i hi => ?_
        have hi := List.mem_range.1 hi
        congr 1
        rw [Nat.shiftRight_eq_div_pow, Nat.shiftRight_eq_div_pow, show (256 : Nat) = 2 ^ 8 from rfl, Nat.div_div_eq_div_mul, ← Nat.pow_add]
        congr 2; omega
      · simp
    have h8 : v % 256 ^ (n + 1) = v % 256 + 256 * (v / 256 % 256 ^ n) := by rw [Nat.pow_succ, Nat.mul_comm, Nat.mod_mul]
    rw [e, beVal_snoc, beVal_beN (v / 256) n, UInt8.toNat_ofNat', h8]
    have : v % 2 ^ 8 = v % 256 := rfl
    omega
/-- a value's bytes are read back -/
theorem parse_vBytes {v : Nat} (h : v < 2 ^ 128) : parseV (vBytes v) = (v, 0) := by
  have hl : (vBytes v).length = vLen v := beN_len _ _
  have h16 := vLen_le h
  have h1 := vLen_pos v
  have hv : beVal (vBytes v) = v := by
    unfold vBytes
    rw [beVal_beN, show (256 : Nat) = 2 ^ 8 from rfl, ← Nat.pow_mul]
    exact Nat.mod_eq_of_lt (bl_le.1 (by unfold vLen; omega))
  unfold parseV
  rw [hl, if_neg (by omega), if_neg (by omega), if_neg ?_, hv]
  rintro ⟨h2, h3⟩
  -- the first byte is not zero
  have e : vBytes v = UInt8.ofNat (v >>> (8 * (vLen v - 1))) :: (vBytes v).drop 1 := by
    have hne : vBytes v ≠ [] := by intro e; rw [e] at hl; simp at hl; omega
    unfold vBytes beN at *
    obtain ⟨n, hn⟩ : ∃ n, vLen v = n + 1 := ⟨vLen v - 1, by omega⟩
    rw [hn, List.range_succ_eq_map]
    simp
  have hb : b0 (vBytes v) = UInt8.ofNat (v >>> (8 * (vLen v - 1))) := by rw [e]; rfl
  rw [hb, UInt8.toNat_ofNat', Nat.shiftRight_eq_div_pow] at h3
  have hbl : 8 * (vLen v - 1) < bl v := by unfold vLen at *; omega
  have hge : 2 ^ (8 * (vLen v - 1)) ≤ v := by
    rcases Nat.lt_or_ge v (2 ^ (8 * (vLen v - 1))) with h' | h'
    · have := bl_le.2 h'; omega
    · exact h'
  have hlt : v < 2 ^ (8 * (vLen v - 1) + 8) := bl_le.1 (by unfold vLen at *; omega)
  have hd1 : 1 ≤ v / 2 ^ (8 * (vLen v - 1)) := Nat.div_pos hge (Nat.two_pow_pos _)
  have hd2 : v / 2 ^ (8 * (vLen v - 1)) < 256 := by
    rw [Nat.div_lt_iff_lt_mul (Nat.two_pow_pos _), Nat.mul_comm]
    rwa [Nat.pow_add] at hlt
  omega
end Go.AL

