/- Contracts and plain laws, a part of the proof; no condition of its own. -/
import Derived.Test.YtiiiljghmilepaaE06
import Derived.Test.YtiiiljghmilepaaLBits
import Derived.Test.YtiiiljghmilepaaLSyn
open Go Go.AL Go.Proofs
namespace Go.AL
set_option linter.all false
set_option maxRecDepth 10000
theorem t8:ti Try.prog 179=some ⟨.slice 4,1,24,.slice .nil 1 []⟩:=by kernel_rfl
attribute [go_sem] t8
end Go.AL
