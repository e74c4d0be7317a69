/- Contracts and plain laws, a part of the proof; no condition of its own. -/
import Derived.Test.YtepgdamgklfnmaaCW
import Derived.Test.YtepgdamgklfnmaaLRead
open Go Go.AL Go.Proofs
namespace Go.AL
set_option linter.all false
set_option maxRecDepth 10000
theorem ti_reader : ti Try.prog 116 = some ⟨.struct [(0, 22, false), (1, 58, false)], 2, 32, .agg [.slice .nil 1 [], .int .i64 0]⟩ := by kernel_rfl
theorem ti_errno : ti Try.prog 58 = some ⟨.int .i64, 1, 8, .int .i64 0⟩ := by kernel_rfl
theorem ti_preader : ti Try.prog 55 = some ⟨.ptr 116, 1, 8, .nilp⟩ := by kernel_rfl
attribute [go_sem] ti_reader ti_errno ti_preader

end Go.AL

