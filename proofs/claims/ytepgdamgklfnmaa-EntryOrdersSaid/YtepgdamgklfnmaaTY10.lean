/- Contracts and plain laws, a part of the proof; no condition of its own. -/
import Derived.Test.YtepgdamgklfnmaaS10v
import Derived.Test.YtepgdamgklfnmaaAlTop
open Go Go.AL Go.Proofs
namespace Go.AL
set_option linter.all false
set_option maxRecDepth 10000
theorem tyInt {d : Nat} {x : AV} (h : tyV Try.prog (d + 1) 3 x) : ∃ n, x = .int .i64 n ∧ -9223372036854775808 ≤ n ∧ n < 9223372036854775808 := by
  rw [ty_one ti_zint rfl, ty_int ti_zint] at h
  obtain ⟨_, n, e, n1, n2⟩ := h
  cases e
  exact ⟨n, rfl, by simp [IntKind.min, IntKind.signed, IntKind.bits] at n1; omega, by simp [IntKind.max, IntKind.signed, IntKind.bits] at n2; omega⟩
theorem tyBytes {d : Nat} {x : AV} (h : tyV Try.prog (d + 3) 22 x) : ∃ s, x = .slice .any 1 s ∧ isB s := by
  rw [ty_one ti_zbytes rfl, ty_slice ti_zbytes] at h
  obtain ⟨_, xs, e, _, hx⟩ := h
  cases e
  refine ⟨xs, by rw [sizeT_of ti_zu8], isB_of fun x hm => ?_⟩
  have := hx x hm
  rw [ty_one ti_zu8 rfl, ty_int ti_zu8] at this
  obtain ⟨_, m, e, m1, m2⟩ := this
  cases e
  exact ⟨m, rfl, by simpa [IntKind.min, IntKind.signed] using m1, by simp [IntKind.max, IntKind.signed, IntKind.bits] at m2; omega⟩
theorem tyVal {d : Nat} {x : AV} (h : tyV Try.prog (d + 2) 29 x) : ∃ hi lo, x = .agg [.int .u64 hi, .int .u64 lo] ∧ isV hi lo := by
  rw [ty_agg ti_zvalue rfl] at h
  obtain ⟨cs, rfl, h⟩ := h
  rw [ty_struct ti_zvalue] at h
  obtain ⟨b1, q1, rfl, _, g1, b2, q2, rfl, _, g2, rfl⟩ := h
  rw [ty_int ti_zu64] at g1 g2
  obtain ⟨hi, rfl, i1, i2⟩ := g1
  obtain ⟨lo, rfl, i3, i4⟩ := g2
  refine ⟨hi, lo, rfl, ?_⟩
  unfold isV
  simp [IntKind.min, IntKind.max, IntKind.signed, IntKind.bits] at i1 i2 i3 i4
  omega
end Go.AL

