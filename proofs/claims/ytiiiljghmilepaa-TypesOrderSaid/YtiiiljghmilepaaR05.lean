/- Contracts and plain laws, a part of the proof; no condition of its own. -/
import Derived.Test.YtiiiljghmilepaaN05
import Derived.Test.YtiiiljghmilepaaLNum
open Go Go.AL Go.Proofs
namespace Go.AL
set_option linter.all false
set_option maxRecDepth 10000
theorem tJ:ti Try.prog 4=some ⟨.bool,1,1,.bool false⟩:=by kernel_rfl
theorem ux:ti Try.prog 66=some ⟨.slice 3,1,24,.slice .nil 1 []⟩:=by kernel_rfl
theorem vf:ti Try.prog 107=some ⟨.struct [(0,4,false),(1,66,false)],2,32,.agg [.bool false,.slice .nil 1 []]⟩:=by kernel_rfl
attribute [go_sem] tJ ux vf
def wm (l:List AV):Prop:=isI l∧isD (uni l)
theorem au {l:List Nat}:wm (c6 l)=isD l:=by unfold wm;rw [jP,fa];simp
end Go.AL
