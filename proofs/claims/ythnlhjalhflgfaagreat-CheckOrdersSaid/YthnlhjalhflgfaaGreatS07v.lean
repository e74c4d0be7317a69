/- Lemmas of the proof; no condition. -/
import Derived.Test.YthnlhjalhflgfaaGreatE06
import Derived.Test.YthnlhjalhflgfaaGreatLSyn
set_option linter.all false
set_option maxRecDepth 10000
open Go Go.AL Go.Proofs
namespace Go.AL
theorem JX:tSl Tryz.prog 117 4:=kSl
attribute [go_sem] JX
end Go.AL
