/- Contracts and plain laws, a part of the proof; no condition of its own. -/
import Derived.Test.YthpglnacipgolaaGreatW03g
open Go Go.AL Go.Proofs
namespace Go.AL
set_option linter.all false
set_option maxRecDepth 10000
theorem ti_ywrt:ti Tryz.prog 187=some ⟨.struct [(0,32,false),(1,4,false),(2,4,false),(3,4,false)],4,32,.agg [.slice .nil 1 [],.bool false,.bool false,.bool false]⟩:=by kernel_rfl
theorem ti_pywrt:ti Tryz.prog 185=some ⟨.ptr 187,1,8,.nilp⟩:=by kernel_rfl
attribute [go_sem] ti_ywrt ti_pywrt
end Go.AL


open Go Go.AL Go.Proofs
namespace Go.AL
set_option linter.all false
set_option maxRecDepth 10000

end Go.AL


open Go Go.AL Go.Proofs
namespace Go.AL
set_option linter.all false
set_option maxRecDepth 10000

end Go.AL

