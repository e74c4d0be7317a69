/- Contracts and plain laws, a part of the proof; no condition of its own. -/
import Derived.Test.YtepgdamgklfnmaaM00
import Derived.Test.YtepgdamgklfnmaaAlBun
open Go Go.AL Go.Proofs
namespace Go.AL
set_option linter.all false
set_option maxRecDepth 10000
theorem ti_bytes : ti Try.prog 22 = some ⟨.slice 5, 1, 24, .slice .nil 1 []⟩ := by kernel_rfl
theorem ti_int : ti Try.prog 3 = some ⟨.int .i64, 1, 8, .int .i64 0⟩ := by kernel_rfl
theorem ti_uint : ti Try.prog 99 = some ⟨.int .u64, 1, 8, .int .u64 0⟩ := by kernel_rfl
theorem ti_u8 : ti Try.prog 5 = some ⟨.int .u8, 1, 1, .int .u8 0⟩ := by kernel_rfl
theorem ti_bool : ti Try.prog 4 = some ⟨.bool, 1, 1, .bool false⟩ := by kernel_rfl
theorem ti_string : ti Try.prog 9 = some ⟨.string, 1, 16, .str []⟩ := by kernel_rfl
attribute [go_sem] ti_bytes ti_int ti_uint ti_u8 ti_bool ti_string

def byteAt (n : Int) (j : Nat) : UInt8 := UInt8.ofNat (ishr .i64 n (8 * (j : Int)) % 256).toNat
/-- the low bytes of n, the most significant one first: all but the last k of them -/
def beHead (n : Int) (w k : Nat) : List UInt8 := (List.range (w - k)).map fun i => byteAt n (w - 1 - i)
def be (n : Int) (w : Nat) : List UInt8 := beHead n w 0
end Go.AL

