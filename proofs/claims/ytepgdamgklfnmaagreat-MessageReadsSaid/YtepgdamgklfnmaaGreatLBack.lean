/- Contracts and plain laws, a part of the proof; no condition of its own. -/
import Derived.Test.YtepgdamgklfnmaaGreatLRd2
/- Plain laws: what was written is read back. No program. -/
namespace Go.AL
set_option linter.all false

end Go.AL

