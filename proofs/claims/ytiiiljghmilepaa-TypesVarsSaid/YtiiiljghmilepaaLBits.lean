/- Contracts and plain laws, a part of the proof; no condition of its own. -/
import Derived.Test.YtiiiljghmilepaaLRead
/- Plain laws of values as bits. No program. -/
namespace Go.AL
set_option linter.all false
end Go.AL
