/- Contracts and plain laws, a part of the proof; no condition of its own. -/
import Derived.Test.YtepgdamgklfnmaaGreatS10v
import Derived.Test.YtepgdamgklfnmaaGreatAlTop
open Go Go.AL Go.Proofs
namespace Go.AL
set_option linter.all false
set_option maxRecDepth 10000
theorem tyInt {d : Nat} {x : AV} (h : tyV Tryz.prog (d + 1) 3 x) : ∃ n, x = .int .i64 n ∧ -9223372036854775808 ≤ n ∧ n < 9223372036854775808 := by
  rw [ty_one ti_zint rfl, ty_int ti_zint] at h
  obtain ⟨_, n, e, n1, n2⟩ := h
  cases e
  exact ⟨n, rfl, by simp [IntKind.min, IntKind.signed, IntKind.bits] at n1; omega, by simp [IntKind.max, IntKind.signed, IntKind.bits] at n2; omega⟩
theorem tyVal {d : Nat} {x : AV} (h : tyV Tryz.prog (d + 2) 24 x) : ∃ hi lo, x = .agg [.int .u64 hi, .int .u64 lo] ∧ isV hi lo := by
  rw [ty_agg ti_zvalue rfl] at h
  obtain ⟨cs, rfl, h⟩ := h
  rw [ty_struct ti_zvalue] at h
  obtain ⟨b1, q1, rfl, _, g1, b2, q2, rfl, _, g2, rfl⟩ := h
  rw [ty_int ti_zu64] at g1 g2
  obtain ⟨hi, rfl, i1, i2⟩ := g1
  obtain ⟨lo, rfl, i3, i4⟩ := g2
  refine ⟨hi, lo, rfl, ?_⟩
  unfold isV
  simp [IntKind.min, IntKind.max, IntKind.signed, IntKind.bits] at i1 i2 i3 i4
  omega
end Go.AL

