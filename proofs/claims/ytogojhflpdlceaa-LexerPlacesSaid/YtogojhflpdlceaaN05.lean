/- Contracts and plain laws, a part of the proof; no condition of its own. -/
import Derived.Test.YtogojhflpdlceaaProg
import Derived.Test.YtogojhflpdlceaaAlByte
import Derived.Test.YtogojhflpdlceaaAlBun
import Derived.Test.YtogojhflpdlceaaLN192
open Go Go.AL Go.Proofs
namespace Go.AL
set_option linter.all false
set_option maxRecDepth 10000
theorem ti_int : ti Try.prog 3 = some ⟨.int .i64, 1, 8, .int .i64 0⟩ := by kernel_rfl
theorem ti_value : ti Try.prog 46 = some ⟨.struct [(0, 44, false), (1, 44, false)], 2, 16, .agg [.int .u64 0, .int .u64 0]⟩ := by kernel_rfl
theorem ti_u64 : ti Try.prog 44 = some ⟨.int .u64, 1, 8, .int .u64 0⟩ := by kernel_rfl
theorem ti_Number : ti Try.prog 82 = some ⟨.struct [(0, 80, false)], 3, 24, .agg [.int .u64 0, .int .u64 0, .int .u64 0]⟩ := by kernel_rfl
theorem ti_words : ti Try.prog 80 = some ⟨.array 3 44, 3, 24, .agg [.int .u64 0, .int .u64 0, .int .u64 0]⟩ := by kernel_rfl
theorem mixed : Try.prog.follows .mixedOrders = true := by kernel_rfl

def p_Add64 : List AV → AHeap → (AV → Prop) → Prop
  | [.int .u64 x, .int .u64 y, .int .u64 c], _, K => (0 ≤ x ∧ 0 ≤ y ∧ 0 ≤ c ∧ c ≤ 1) ∧ K (.tup [.int .u64 ((x + y + c) % 18446744073709551616), .int .u64 ((x + y + c) / 18446744073709551616)])
  | _, _, _ => False
theorem ok_Add64 : EntOk Try.prog 109 (Ent.pure p_Add64) := by
  refine EntOk.pure fun args H K h => ?_
  unfold p_Add64 at h
  split at h
  rotate_left
  · exact h.elim
  obtain ⟨⟨h1, h2, h3, h4⟩, hK⟩ := h
  exact ⟨_, hK, acalls_add64 Try.func109 (by kernel_rfl) (by kernel_rfl) (by kernel_rfl) (by kernel_rfl) h1 h2 h3 h4⟩

/-- the words of a sum as far as they are done, and the carry -/
def outk (a b : Int) (k : Nat) : List AV := [.int .u64 (if 0 < k then w0 (a + b) else 0), .int .u64 (if 1 < k then w1 (a + b) else 0), .int .u64 (if 2 < k then w2 (a + b) else 0)]
def cyk (a b : Int) (k : Nat) : Int := match k with
  | 0 => 0
  | 1 => (w0 a + w0 b) / 2 ^ 64
  | 2 => (w1 a + w1 b + (w0 a + w0 b) / 2 ^ 64) / 2 ^ 64
  | _ => (w2 a + w2 b + (w1 a + w1 b + (w0 a + w0 b) / 2 ^ 64) / 2 ^ 64) / 2 ^ 64
theorem cyk_le (a b : Int) : ∀ k, 0 ≤ cyk a b k ∧ cyk a b k ≤ 1 := by
  have a0 := w0_lt a
  have a1 := w1_lt a
  have a2 := w2_lt a
  have b0 := w0_lt b
  have b1 := w1_lt b
  have b2 := w2_lt b
  intro k
  unfold cyk
  split <;> omega
theorem cyk_0 (a b : Int) : (w0 a + w0 b + cyk a b 0) % 18446744073709551616 = w0 (a + b) ∧ (w0 a + w0 b + cyk a b 0) / 18446744073709551616 = cyk a b 1 := by
  have := add_w0 a b; simp only [cyk]; constructor <;> omega
theorem cyk_1 (a b : Int) : (w1 a + w1 b + cyk a b 1) % 18446744073709551616 = w1 (a + b) ∧ (w1 a + w1 b + cyk a b 1) / 18446744073709551616 = cyk a b 2 := by
  have := add_w1 a b; simp only [cyk]; constructor <;> omega
theorem cyk_2 (a b : Int) : (w2 a + w2 b + cyk a b 2) % 18446744073709551616 = w2 (a + b) ∧ (w2 a + w2 b + cyk a b 2) / 18446744073709551616 = cyk a b 3 := by
  have := add_w2 a b; simp only [cyk]; constructor <;> omega
def negk (a : Int) (k : Nat) : List AV := [.int .u64 (if 0 < k then w0 (-1 - a) else w0 a), .int .u64 (if 1 < k then w1 (-1 - a) else w1 a), .int .u64 (if 2 < k then w2 (-1 - a) else w2 a)]
/-- the numbers of which the sign is known -/
def isN (a : Int) : Prop := -(2 ^ 191) ≤ a ∧ a < 2 ^ 191
end Go.AL
