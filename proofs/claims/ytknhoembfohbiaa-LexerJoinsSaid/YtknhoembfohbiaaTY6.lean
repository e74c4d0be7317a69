/- Contracts and plain laws, a part of the proof; no condition of its own. -/
import Derived.Test.YtknhoembfohbiaaF06
import Derived.Test.YtknhoembfohbiaaAlTop
open Go Go.AL Go.Proofs
namespace Go.AL
set_option linter.all false
set_option maxRecDepth 10000
theorem tyBytes {d : Nat} {x : AV} (h : tyV Try.prog (d + 3) 22 x) : ∃ s, x = .slice .any 1 s ∧ isB s := by
  rw [ty_one ti_bytes rfl, ty_slice ti_bytes] at h
  obtain ⟨_, xs, e, _, hx⟩ := h
  cases e
  refine ⟨xs, by rw [sizeT_of ti_u8], isB_of fun x hm => ?_⟩
  have := hx x hm
  rw [ty_one ti_u8 rfl, ty_int ti_u8] at this
  obtain ⟨_, m, e, m1, m2⟩ := this
  cases e
  exact ⟨m, rfl, by simpa [IntKind.min, IntKind.signed] using m1, by simp [IntKind.max, IntKind.signed, IntKind.bits] at m2; omega⟩
end Go.AL

