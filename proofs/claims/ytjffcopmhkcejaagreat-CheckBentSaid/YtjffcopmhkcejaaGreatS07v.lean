/- Lemmas of the proof; no condition. -/
import Derived.Test.YtjffcopmhkcejaaGreatE06
import Derived.Test.YtjffcopmhkcejaaGreatLSyn
set_option linter.all false
set_option maxRecDepth 10000
open Go Go.AL Go.Proofs
namespace Go.AL
def Lt:tSl Tryz.prog 107 4:=kSl
attribute [go_sem] Lt
end Go.AL
