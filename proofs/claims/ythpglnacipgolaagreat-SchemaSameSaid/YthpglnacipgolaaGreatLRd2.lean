/- Contracts and plain laws, a part of the proof; no condition of its own. -/
import Derived.Test.YthpglnacipgolaaGreatLGen
/- Plain laws of values as bits. No program. -/
namespace Go.AL
set_option linter.all false

end Go.AL


/- Plain laws of readers: marks make no difference; bounds. No program. -/
namespace Go.AL
set_option linter.all false

end Go.AL

