/- Lemmas of the proof; no condition. -/
import Derived.Test.YthnlhjalhflgfaaGreatS10e
import Derived.Test.YthnlhjalhflgfaaGreatLEntB
set_option linter.all false
set_option maxRecDepth 10000
open Go Go.AL Go.Proofs
namespace Go.AL
theorem a0 {α:Type} {f:α→AV} {l:List α} {k:Nat} {x:α} (hx:l[k]?=some x):(l.map f).getD k .junk=f x:=by
 rw [gEq,List.getElem?_map,hx];rfl
end Go.AL
