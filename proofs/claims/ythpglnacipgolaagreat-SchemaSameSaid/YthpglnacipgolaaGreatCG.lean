/- Contracts and plain laws, a part of the proof; no condition of its own. -/
import Derived.Test.YthpglnacipgolaaGreatCE
import Derived.Test.YthpglnacipgolaaGreatLRd2
open Go Go.AL Go.Proofs
namespace Go.AL
set_option linter.all false
set_option maxRecDepth 10000

end Go.AL


open Go Go.AL Go.Proofs
namespace Go.AL
set_option linter.all false
set_option maxRecDepth 10000
theorem ti_rreader:ti Tryz.prog 218=some ⟨.struct [(0,32,false),(1,40,false)],2,32,.agg [.slice .nil 1 [],.int .i64 0]⟩:=by kernel_rfl
theorem ti_prreader:ti Tryz.prog 216=some ⟨.ptr 218,1,8,.nilp⟩:=by kernel_rfl
attribute [go_sem] ti_rreader ti_prreader

end Go.AL

