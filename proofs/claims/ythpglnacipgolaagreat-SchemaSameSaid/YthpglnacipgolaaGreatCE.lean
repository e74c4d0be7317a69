/- Contracts and plain laws, a part of the proof; no condition of its own. -/
import Derived.Test.YthpglnacipgolaaGreatCW
import Derived.Test.YthpglnacipgolaaGreatLGen
open Go Go.AL Go.Proofs
namespace Go.AL
set_option linter.all false
set_option maxRecDepth 10000
theorem ti_reader:ti Tryz.prog 371=some ⟨.struct [(0,32,false),(1,40,false)],2,32,.agg [.slice .nil 1 [],.int .i64 0]⟩:=by kernel_rfl
theorem ti_errno:ti Tryz.prog 40=some ⟨.int .i64,1,8,.int .i64 0⟩:=by kernel_rfl
theorem ti_preader:ti Tryz.prog 211=some ⟨.ptr 371,1,8,.nilp⟩:=by kernel_rfl
attribute [go_sem] ti_reader ti_errno ti_preader

end Go.AL


open Go Go.AL Go.Proofs
namespace Go.AL
set_option linter.all false
set_option maxRecDepth 10000

end Go.AL

