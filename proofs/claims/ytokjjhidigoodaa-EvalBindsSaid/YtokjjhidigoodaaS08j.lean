/- Contracts and plain laws, a part of the proof; no condition of its own. -/
import Derived.Test.YtokjjhidigoodaaS08i
open Go Go.AL Go.Proofs
namespace Go.AL
set_option linter.all false
set_option maxRecDepth 10000
theorem ur:ti Try.prog 50=some ⟨.slice 38,1,24,.slice .nil 1 []⟩:=by kernel_rfl
theorem tz:ti Try.prog 49=some ⟨.slice 45,1,24,.slice .nil 1 []⟩:=by kernel_rfl
theorem uj:ti Try.prog 55=some ⟨.struct [(0,46,false),(1,47,false),(2,48,false),(3,49,false),(4,50,false),(5,51,false),(6,52,false),(7,53,false),(8,3,false),(9,3,false)],10,208,.agg [.slice .nil 1 [],.slice .nil 1 [],.slice .nil 1 [],.slice .nil 1 [],.slice .nil 1 [],.slice .nil 1 [],.slice .nil 1 [],.slice .nil 1 [],.int .i64 0,.int .i64 0]⟩:=by kernel_rfl
attribute [go_sem] ur tz uj
def Ei (t:STable):Prop:=t.keys.length≤400∧(∀ k∈t.keys,k.name.length≤1000)∧t.restr.length≤140737488355328
def Ee (a:SAction):Prop:=a.params.length≤400∧(∀ k∈a.params,k.name.length≤1000)∧a.restr.length≤140737488355328
end Go.AL
