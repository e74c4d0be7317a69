/- Lemmas of the proof; no condition. -/
import Derived.Test.YtpbnggedofiinaaGreatW04f
set_option linter.all false
set_option maxRecDepth 10000
open Go Go.AL Go.Proofs
namespace Go.AL
end Go.AL
