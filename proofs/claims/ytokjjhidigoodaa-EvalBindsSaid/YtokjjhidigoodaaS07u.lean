/- Contracts and plain laws, a part of the proof; no condition of its own. -/
import Derived.Test.YtokjjhidigoodaaS07v
import Derived.Test.YtokjjhidigoodaaS07c
open Go Go.AL Go.Proofs
namespace Go.AL
set_option linter.all false
set_option maxRecDepth 10000
def rst (m:Mark) (l:List Tok) (p:Nat) (b:Bool) (tb:Nat) (t:List Nd):AObj:=.cells [.slice m 3 (cV l),.int .i64 (p:Int),.bool b,.slice (.own tb) 7 (nds t)]
def onQ (o:Option AObj) (K:Mark→List Tok→Nat→Bool→Nat→List Nd→Prop):Prop:=∃ m l p b tb t,o=some (rst m l p b tb t)∧K m l p b tb t
@[congr] theorem DQ {o o':Option AObj} {K:Mark→List Tok→Nat→Bool→Nat→List Nd→Prop} (h:o=o'):onQ o K=onQ o' K:=by rw [h]
end Go.AL
open Go Go.AL Go.Proofs
namespace Go.AL
set_option linter.all false
set_option maxRecDepth 10000
def EG (m:Mark) (l:List Tok) (tb id:Nat) (H:AHeap) (K:AV→AHeap→Prop) (p0:Nat) (t0:List Nd) (o:Option PR):Prop:=match o with
 |none=>False
 |some (.ok a p t)=>K (.int .i64 (a:Int)) ((H.set id (rst m l p false tb t)).set tb (.buf 7 t.length))
 |some (.bad p)=>∀ (a:Nat) (t:List Nd),t.length+p0≤t0.length+p→K (.int .i64 (a:Int)) ((H.set id (rst m l p true tb t)).set tb (.buf 7 t.length))
section
variable {m:Mark} {l:List Tok} {tb id p0:Nat} {H:AHeap} {K:AV→AHeap→Prop} {t0:List Nd}
@[congr] theorem C3 {o o':Option PR} (h:o=o'):EG m l tb id H K p0 t0 o=EG m l tb id H K p0 t0 o':=by rw [h]
end
end Go.AL
open Go Go.AL Go.Proofs
namespace Go.AL
set_option linter.all false
set_option maxRecDepth 10000
end Go.AL
open Go Go.AL Go.Proofs
namespace Go.AL
set_option linter.all false
set_option maxRecDepth 10000
end Go.AL
