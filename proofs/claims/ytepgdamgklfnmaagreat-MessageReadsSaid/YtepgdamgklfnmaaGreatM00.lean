/- Contracts and plain laws, a part of the proof; no condition of its own. -/
import Derived.Test.YtepgdamgklfnmaaGreatProg
import Derived.Test.YtepgdamgklfnmaaGreatAlBun
open Go Go.AL Go.Proofs
namespace Go.AL
set_option linter.all false
theorem mixed:Tryz.prog.follows .mixedOrders=true:=by kernel_rfl
end Go.AL

