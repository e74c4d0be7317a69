/- Contracts and plain laws, a part of the proof; no condition of its own. -/
import Derived.Test.YtepgdamgklfnmaaCF
open Go Go.AL Go.Proofs
namespace Go.AL
set_option linter.all false
set_option maxRecDepth 10000
theorem ti_rreader : ti Try.prog 60 = some ⟨.struct [(0, 22, false), (1, 58, false)], 2, 32, .agg [.slice .nil 1 [], .int .i64 0]⟩ := by kernel_rfl
theorem ti_prreader : ti Try.prog 57 = some ⟨.ptr 60, 1, 8, .nilp⟩ := by kernel_rfl
attribute [go_sem] ti_rreader ti_prreader

end Go.AL

