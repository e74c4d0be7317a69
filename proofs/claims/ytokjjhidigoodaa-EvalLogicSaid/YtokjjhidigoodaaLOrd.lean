/- Contracts and plain laws, a part of the proof; no condition of its own. -/
import Derived.Test.YtokjjhidigoodaaLEval
/- Plain laws of order: what the twelve texts of EvalOrder compile to, and that the two of a pair mean the same. No program. -/
open Go Go.AL
namespace Go.AL
set_option linter.all false
set_option maxRecDepth 10000
end Go.AL
