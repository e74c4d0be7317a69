/- Contracts and plain laws, a part of the proof; no condition of its own. -/
import Derived.Test.YtepgdamgklfnmaaProg
import Derived.Test.YtepgdamgklfnmaaAlBun
open Go Go.AL Go.Proofs
namespace Go.AL
set_option linter.all false
theorem mixed : Try.prog.follows .mixedOrders = true := by kernel_rfl
end Go.AL

