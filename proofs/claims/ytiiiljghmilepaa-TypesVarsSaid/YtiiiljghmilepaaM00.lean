/- Contracts and plain laws, a part of the proof; no condition of its own. -/
import Derived.Test.YtiiiljghmilepaaProg
import Derived.Test.YtiiiljghmilepaaAlBun
open Go Go.AL Go.Proofs
namespace Go.AL
set_option linter.all false
theorem aE:Try.prog.follows .mixedOrders=true:=by kernel_rfl
end Go.AL
