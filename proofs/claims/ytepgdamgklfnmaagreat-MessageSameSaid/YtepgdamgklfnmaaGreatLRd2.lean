/- Contracts and plain laws, a part of the proof; no condition of its own. -/
import Derived.Test.YtepgdamgklfnmaaGreatLBits
/- Plain laws of readers: marks make no difference; bounds. No program. -/
namespace Go.AL
set_option linter.all false

end Go.AL

