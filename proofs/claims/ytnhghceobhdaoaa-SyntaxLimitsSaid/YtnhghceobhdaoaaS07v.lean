/- Contracts and plain laws, a part of the proof; no condition of its own. -/
import Derived.Test.YtnhghceobhdaoaaE06
import Derived.Test.YtnhghceobhdaoaaLBits
import Derived.Test.YtnhghceobhdaoaaLSyn
open Go Go.AL Go.Proofs
namespace Go.AL
set_option linter.all false
set_option maxRecDepth 10000
theorem ti_bools : ti Try.prog 189 = some ⟨.slice 4, 1, 24, .slice .nil 1 []⟩ := by kernel_rfl
end Go.AL

