/- Contracts and plain laws, a part of the proof; no condition of its own. -/
import Derived.Test.YtknhoembfohbiaaProg
import Derived.Test.YtknhoembfohbiaaAlByte
import Derived.Test.YtknhoembfohbiaaAlBun
import Derived.Test.YtknhoembfohbiaaLN192
open Go Go.AL Go.Proofs
namespace Go.AL
set_option linter.all false
set_option maxRecDepth 10000
theorem ti_int : ti Try.prog 3 = some ⟨.int .i64, 1, 8, .int .i64 0⟩ := by kernel_rfl
theorem ti_value : ti Try.prog 64 = some ⟨.struct [(0, 62, false), (1, 62, false)], 2, 16, .agg [.int .u64 0, .int .u64 0]⟩ := by kernel_rfl
theorem ti_u64 : ti Try.prog 62 = some ⟨.int .u64, 1, 8, .int .u64 0⟩ := by kernel_rfl
theorem ti_Number : ti Try.prog 138 = some ⟨.struct [(0, 136, false)], 3, 24, .agg [.int .u64 0, .int .u64 0, .int .u64 0]⟩ := by kernel_rfl
theorem ti_words : ti Try.prog 136 = some ⟨.array 3 62, 3, 24, .agg [.int .u64 0, .int .u64 0, .int .u64 0]⟩ := by kernel_rfl
attribute [go_sem] ti_int ti_value ti_u64 ti_Number ti_words
theorem mixed : Try.prog.follows .mixedOrders = true := by kernel_rfl

def p_Add64 : List AV → AHeap → (AV → Prop) → Prop
  | [.int .u64 x, .int .u64 y, .int .u64 c], _, K => (0 ≤ x ∧ 0 ≤ y ∧ 0 ≤ c ∧ c ≤ 1) ∧ K (.tup [.int .u64 ((x + y + c) % 18446744073709551616), .int .u64 ((x + y + c) / 18446744073709551616)])
  | _, _, _ => False
theorem ok_Add64 : EntOk Try.prog 189 (Ent.pure p_Add64) := by
  refine EntOk.pure fun args H K h => ?_
  unfold p_Add64 at h
  split at h
  rotate_left
  · exact h.elim
  obtain ⟨⟨h1, h2, h3, h4⟩, hK⟩ := h
  exact ⟨_, hK, acalls_add64 Try.func189 (by kernel_rfl) (by kernel_rfl) (by kernel_rfl) (by kernel_rfl) h1 h2 h3 h4⟩

/-- the numbers of which the sign is known -/
def isN (a : Int) : Prop := -(2 ^ 191) ≤ a ∧ a < 2 ^ 191
end Go.AL

