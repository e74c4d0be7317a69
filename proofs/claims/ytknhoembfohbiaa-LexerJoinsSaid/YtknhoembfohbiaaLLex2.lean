/- Contracts and plain laws, a part of the proof; no condition of its own. -/
import Derived.Test.YtknhoembfohbiaaLLex
/- Plain laws of tokens and their places. -/
open Go Go.AL
namespace Go.AL
set_option linter.all false
end Go.AL

