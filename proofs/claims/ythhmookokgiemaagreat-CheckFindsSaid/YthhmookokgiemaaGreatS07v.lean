/- Lemmas of the proof; no condition. -/
import Derived.Test.YthhmookokgiemaaGreatE06
import Derived.Test.YthhmookokgiemaaGreatLSyn
set_option linter.all false
set_option maxRecDepth 10000
open Go Go.AL Go.Proofs
namespace Go.AL
theorem DB:ti Tryz.prog 130=some ⟨.slice 4,1,24,.slice .nil 1 []⟩:=by kernel_rfl
attribute [go_sem] DB
end Go.AL
