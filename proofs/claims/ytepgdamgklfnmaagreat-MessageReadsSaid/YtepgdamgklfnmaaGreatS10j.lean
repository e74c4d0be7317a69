/- Contracts and plain laws, a part of the proof; no condition of its own. -/
import Derived.Test.YtepgdamgklfnmaaGreatS10i
import Derived.Test.YtepgdamgklfnmaaGreatS10v
open Go Go.AL Go.Proofs
namespace Go.AL
set_option linter.all false
set_option maxRecDepth 10000

def tabF (S:Sch) (id:Int):Option STable:=S.tables.find? fun t=>t.id==id
end Go.AL

