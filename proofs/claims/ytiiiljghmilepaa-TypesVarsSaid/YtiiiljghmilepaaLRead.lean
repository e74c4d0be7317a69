/- Contracts and plain laws, a part of the proof; no condition of its own. -/
import Derived.Test.YtiiiljghmilepaaLVal
/- Plain laws of readers. No program. -/
namespace Go.AL
set_option linter.all false
/-- the first byte -/
def b0 (l:List UInt8):UInt8:=l.getD 0 0
/-- a reader in memory -/
def yF (o:Option AObj) (K:Mark→List UInt8→Int→Prop):Prop :=
 match o with
 |some (.cells [.slice m 1 l,.int .i64 e])=>(isB l∧l.length≤100000)∧K m (unb l) e
 |_=>False
@[congr] theorem xP {o o':Option AObj} {K:Mark→List UInt8→Int→Prop} (h:o=o'):yF o K=yF o' K:=by rw [h]
end Go.AL
