/- Contracts and plain laws, a part of the proof; no condition of its own. -/
import Derived.Test.YtnhghceobhdaoaaCW
import Derived.Test.YtnhghceobhdaoaaAlTop
open Go Go.AL Go.Proofs
namespace Go.AL
set_option linter.all false
set_option maxRecDepth 10000
theorem tyOp {d : Nat} {x : AV} (h : tyV Try.prog (d + 4) 48 x) : isOp x := by
  rw [ty_agg ti_op rfl] at h
  obtain ⟨cs, rfl, h⟩ := h
  rw [ty_struct ti_op] at h
  obtain ⟨a1, r1, rfl, _, h1, a2, r2, rfl, _, h2, a3, r3, rfl, _, h3, a4, r4, rfl, _, h4, a5, r5, rfl, _, h5, rfl⟩ := h
  rw [ty_int ti_int] at h1 h2 h3
  rw [ty_struct ti_val] at h4
  rw [ty_slice ti_bytes] at h5
  obtain ⟨k, rfl, _⟩ := h1
  obtain ⟨n, rfl, _⟩ := h2
  obtain ⟨most, rfl, _⟩ := h3
  obtain ⟨b1, q1, rfl, _, g1, b2, q2, rfl, _, g2, rfl⟩ := h4
  rw [ty_int ti_u64] at g1 g2
  obtain ⟨hi, rfl, i1, i2⟩ := g1
  obtain ⟨lo, rfl, i3, i4⟩ := g2
  obtain ⟨s, rfl, _, hs⟩ := h5
  refine ⟨k, n, most, hi, lo, s, ?_, ⟨by simpa [IntKind.min, IntKind.signed] using i1, by simp [IntKind.max, IntKind.signed, IntKind.bits] at i2; omega, by simpa [IntKind.min, IntKind.signed] using i3, by simp [IntKind.max, IntKind.signed, IntKind.bits] at i4; omega⟩, ?_⟩
  · rw [sizeT_of ti_u8]; rfl
  · refine isB_of fun x hx => ?_
    have := hs x hx
    rw [ty_one ti_u8 rfl, ty_int ti_u8] at this
    obtain ⟨_, m, e, m1, m2⟩ := this
    cases e
    exact ⟨m, rfl, by simpa [IntKind.min, IntKind.signed] using m1, by simp [IntKind.max, IntKind.signed, IntKind.bits] at m2; omega⟩

theorem tyBytes {d : Nat} {x : AV} (h : tyV Try.prog (d + 3) 22 x) : ∃ s, x = .slice .any 1 s ∧ isB s := by
  rw [ty_one ti_bytes rfl, ty_slice ti_bytes] at h
  obtain ⟨_, xs, e, _, hx⟩ := h
  cases e
  refine ⟨xs, by rw [sizeT_of ti_u8], isB_of fun x hm => ?_⟩
  have := hx x hm
  rw [ty_one ti_u8 rfl, ty_int ti_u8] at this
  obtain ⟨_, m, e, m1, m2⟩ := this
  cases e
  exact ⟨m, rfl, by simpa [IntKind.min, IntKind.signed] using m1, by simp [IntKind.max, IntKind.signed, IntKind.bits] at m2; omega⟩
theorem tyOps {d : Nat} {x : AV} (h : tyV Try.prog (d + 6) 43 x) : ∃ l, x = .slice .any 6 l ∧ ∀ y ∈ l, isOp y := by
  rw [ty_one ti_ops rfl, ty_slice ti_ops] at h
  obtain ⟨_, xs, e, _, hx⟩ := h
  cases e
  exact ⟨xs, by rw [sizeT_of ti_op], fun y hm => tyOp (d := d + 1) (hx y hm)⟩
theorem tyInt {d : Nat} {x : AV} (h : tyV Try.prog (d + 1) 3 x) : ∃ n, x = .int .i64 n ∧ -9223372036854775808 ≤ n ∧ n < 9223372036854775808 := by
  rw [ty_one ti_int rfl, ty_int ti_int] at h
  obtain ⟨_, n, e, n1, n2⟩ := h
  cases e
  exact ⟨n, rfl, by simp [IntKind.min, IntKind.signed, IntKind.bits] at n1; omega, by simp [IntKind.max, IntKind.signed, IntKind.bits] at n2; omega⟩
theorem tyU8 {d : Nat} {x : AV} (h : tyV Try.prog (d + 1) 5 x) : ∃ n, x = .int .u8 n ∧ 0 ≤ n ∧ n ≤ 255 := by
  rw [ty_one ti_u8 rfl, ty_int ti_u8] at h
  obtain ⟨_, n, e, n1, n2⟩ := h
  cases e
  exact ⟨n, rfl, by simpa [IntKind.min, IntKind.signed] using n1, by simp [IntKind.max, IntKind.signed, IntKind.bits] at n2; omega⟩
end Go.AL
