/- Lemmas of the proof; no condition. -/
import Derived.Test.YtjffcopmhkcejaaGreatS07u
import Derived.Test.YtjffcopmhkcejaaGreatS07d
import Derived.Test.YtjffcopmhkcejaaGreatLSyn2
import Derived.Test.YtjffcopmhkcejaaGreatLTyp
set_option linter.all false
set_option maxRecDepth 10000
open Go Go.AL Go.Proofs
namespace Go.AL
end Go.AL
