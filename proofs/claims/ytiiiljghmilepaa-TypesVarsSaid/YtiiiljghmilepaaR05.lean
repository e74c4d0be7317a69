/- Contracts and plain laws, a part of the proof; no condition of its own. -/
import Derived.Test.YtiiiljghmilepaaN05
import Derived.Test.YtiiiljghmilepaaLNum
open Go Go.AL Go.Proofs
namespace Go.AL
set_option linter.all false
set_option maxRecDepth 10000
theorem xa:ti Try.prog 4=some ⟨.bool,1,1,.bool false⟩:=by kernel_rfl
theorem ws:ti Try.prog 66=some ⟨.slice 3,1,24,.slice .nil 1 []⟩:=by kernel_rfl
theorem x9:ti Try.prog 107=some ⟨.struct [(0,4,false),(1,66,false)],2,32,.agg [.bool false,.slice .nil 1 []]⟩:=by kernel_rfl
attribute [go_sem] xa ws x9
def yN (l:List AV):Prop:=isI l∧isD (uni l)
theorem aj {l:List Nat}:yN (dB l)=isD l:=by unfold yN;rw [lx,gl];simp
end Go.AL
