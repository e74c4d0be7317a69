/- Contracts and plain laws, a part of the proof; no condition of its own. -/
import Derived.Test.YtknhoembfohbiaaN05
import Derived.Test.YtknhoembfohbiaaLNum
open Go Go.AL Go.Proofs
namespace Go.AL
set_option linter.all false
set_option maxRecDepth 10000
theorem ti_bool : ti Try.prog 4 = some ⟨.bool, 1, 1, .bool false⟩ := by kernel_rfl
theorem ti_ints : ti Try.prog 92 = some ⟨.slice 3, 1, 24, .slice .nil 1 []⟩ := by kernel_rfl
theorem ti_Int : ti Try.prog 146 = some ⟨.struct [(0, 4, false), (1, 92, false)], 2, 32, .agg [.bool false, .slice .nil 1 []]⟩ := by kernel_rfl
attribute [go_sem] ti_bool ti_ints ti_Int

def isDs (l : List AV) : Prop := isI l ∧ isD (uni l)
theorem isDs_ints {l : List Nat} : isDs (ints l) = isD l := by unfold isDs; rw [isI_ints, uni_ints]; simp
end Go.AL

