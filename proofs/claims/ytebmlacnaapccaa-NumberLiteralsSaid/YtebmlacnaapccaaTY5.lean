/- Contracts and plain laws, a part of the proof; no condition of its own. -/
import Derived.Test.YtebmlacnaapccaaL05
import Derived.Test.YtebmlacnaapccaaAlTop
open Go Go.AL Go.Proofs
namespace Go.AL
set_option linter.all false
set_option maxRecDepth 10000
theorem tyVal {d : Nat} {x : AV} (h : tyV Try.prog (d + 2) 44 x) : ∃ hi lo, x = .agg [.int .u64 hi, .int .u64 lo] ∧ isV hi lo := by
  rw [ty_agg ti_value rfl] at h
  obtain ⟨cs, rfl, h⟩ := h
  rw [ty_struct ti_value] at h
  obtain ⟨b1, q1, rfl, _, g1, b2, q2, rfl, _, g2, rfl⟩ := h
  rw [ty_int ti_u64] at g1 g2
  obtain ⟨hi, rfl, i1, i2⟩ := g1
  obtain ⟨lo, rfl, i3, i4⟩ := g2
  exact ⟨hi, lo, rfl, by simpa [IntKind.min, IntKind.signed] using i1, by simp [IntKind.max, IntKind.signed, IntKind.bits] at i2; omega, by simpa [IntKind.min, IntKind.signed] using i3, by simp [IntKind.max, IntKind.signed, IntKind.bits] at i4; omega⟩
theorem tyVals {d : Nat} {x : AV} (h : tyV Try.prog (d + 3) 22 x) : ∃ l, x = .slice .any 2 l ∧ isVals l := by
  rw [ty_one ti_vals rfl, ty_slice ti_vals] at h
  obtain ⟨_, xs, e, _, hx⟩ := h
  cases e
  exact ⟨xs, by rw [sizeT_of ti_value], fun y hm => tyVal (d := d) (hx y hm)⟩
theorem tyBools {d : Nat} {x : AV} (h : tyV Try.prog (d + 2) 23 x) : ∃ l, x = .slice .any 1 l ∧ isBools l := by
  rw [ty_one ti_bools rfl, ty_slice ti_bools] at h
  obtain ⟨_, xs, e, _, hx⟩ := h
  cases e
  refine ⟨xs, by rw [sizeT_of ti_bool], fun y hm => ?_⟩
  have := hx y hm
  rw [ty_one ti_bool rfl, ty_bool ti_bool] at this
  obtain ⟨_, b, e⟩ := this
  cases e
  exact ⟨b, rfl⟩
theorem tyInt {d : Nat} {x : AV} (h : tyV Try.prog (d + 1) 3 x) : ∃ n, x = .int .i64 n ∧ -9223372036854775808 ≤ n ∧ n < 9223372036854775808 := by
  rw [ty_one ti_int rfl, ty_int ti_int] at h
  obtain ⟨_, n, e, n1, n2⟩ := h
  cases e
  exact ⟨n, rfl, by simp [IntKind.min, IntKind.signed, IntKind.bits] at n1; omega, by simp [IntKind.max, IntKind.signed, IntKind.bits] at n2; omega⟩
theorem tyStr {d : Nat} {x : AV} (h : tyV Try.prog (d + 1) 9 x) : ∃ s, x = .str s ∧ s.length ≤ 140737488351232 := by
  rw [ty_one ti_string rfl, ty_string ti_string] at h
  obtain ⟨_, s, e, hl⟩ := h
  cases e
  exact ⟨s, rfl, hl⟩
theorem tyU8 {d : Nat} {x : AV} (h : tyV Try.prog (d + 1) 5 x) : ∃ n, x = .int .u8 n ∧ 0 ≤ n ∧ n ≤ 255 := by
  rw [ty_one ti_u8 rfl, ty_int ti_u8] at h
  obtain ⟨_, n, e, n1, n2⟩ := h
  cases e
  exact ⟨n, rfl, by simpa [IntKind.min, IntKind.signed] using n1, by simp [IntKind.max, IntKind.signed, IntKind.bits] at n2; omega⟩
end Go.AL
