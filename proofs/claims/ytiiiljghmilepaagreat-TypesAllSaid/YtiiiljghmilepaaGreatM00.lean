/- Contracts and plain laws, a part of the proof; no condition of its own. -/
import Derived.Test.YtiiiljghmilepaaGreatProg
import Derived.Test.YtiiiljghmilepaaGreatAlBun
open Go Go.AL Go.Proofs
namespace Go.AL
set_option linter.all false
theorem aF:Tryz.prog.follows .mixedOrders=true:=by kernel_rfl
end Go.AL
