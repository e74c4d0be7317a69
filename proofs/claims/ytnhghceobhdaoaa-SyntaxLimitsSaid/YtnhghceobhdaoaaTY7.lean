/- Contracts and plain laws, a part of the proof; no condition of its own. -/
import Derived.Test.YtnhghceobhdaoaaE06
import Derived.Test.YtnhghceobhdaoaaAlTop
open Go Go.AL Go.Proofs
namespace Go.AL
set_option linter.all false
set_option maxRecDepth 10000
theorem tyInt {d : Nat} {x : AV} (h : tyV Try.prog (d + 1) 3 x) : ∃ n, x = .int .i64 n ∧ -9223372036854775808 ≤ n ∧ n < 9223372036854775808 := by
  rw [ty_one ti_int rfl, ty_int ti_int] at h
  obtain ⟨_, n, e, n1, n2⟩ := h
  cases e
  exact ⟨n, rfl, by simp [IntKind.min, IntKind.signed, IntKind.bits] at n1; omega, by simp [IntKind.max, IntKind.signed, IntKind.bits] at n2; omega⟩
end Go.AL

