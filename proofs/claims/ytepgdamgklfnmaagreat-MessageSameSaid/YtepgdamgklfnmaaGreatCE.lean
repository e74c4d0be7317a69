/- Contracts and plain laws, a part of the proof; no condition of its own. -/
import Derived.Test.YtepgdamgklfnmaaGreatCW
import Derived.Test.YtepgdamgklfnmaaGreatLGen
open Go Go.AL Go.Proofs
namespace Go.AL
set_option linter.all false
set_option maxRecDepth 10000
theorem ti_reader : ti Tryz.prog 194 = some ⟨.struct [(0, 26, false), (1, 47, false)], 2, 32, .agg [.slice .nil 1 [], .int .i64 0]⟩ := by kernel_rfl
theorem ti_errno : ti Tryz.prog 47 = some ⟨.int .i64, 1, 8, .int .i64 0⟩ := by kernel_rfl
theorem ti_preader : ti Tryz.prog 135 = some ⟨.ptr 194, 1, 8, .nilp⟩ := by kernel_rfl
attribute [go_sem] ti_reader ti_errno ti_preader

end Go.AL


open Go Go.AL Go.Proofs
namespace Go.AL
set_option linter.all false
set_option maxRecDepth 10000

end Go.AL

