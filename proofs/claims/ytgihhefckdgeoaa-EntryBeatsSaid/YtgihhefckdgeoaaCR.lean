/- Contracts and plain laws, a part of the proof; no condition of its own. -/
import Derived.Test.YtgihhefckdgeoaaCV
open Go Go.AL Go.Proofs
namespace Go.AL
set_option linter.all false
set_option maxRecDepth 10000
theorem ti_bits : ti Try.prog 154 = some ⟨.array 128 4, 128, 128, .agg (List.replicate 128 (.bool false))⟩ := by kernel_rfl
attribute [go_sem] ti_bits

end Go.AL

