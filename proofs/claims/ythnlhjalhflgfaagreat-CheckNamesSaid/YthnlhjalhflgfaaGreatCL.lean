/- Lemmas of the proof; no condition. -/
import Derived.Test.YthnlhjalhflgfaaGreatCG
import Derived.Test.YthnlhjalhflgfaaGreatLSyn
set_option linter.all false
set_option maxRecDepth 10000
open Go Go.AL Go.Proofs
namespace Go.AL
theorem EntOk.eff {P:Program} {f:FuncId} {p:List AV→AHeap→(AV→Prop)→Prop} (h:EntOk P f (Ent.pure p)):EntOk P f (Ent.effect fun args H K=>p args H fun v=>K (.ret v) H) :=
 EntOk.effect fun args H K hh=>by
  obtain ⟨x,hx,hc⟩:=h.1 rfl args H (fun v=>K (.ret v) H) hh
  exact ⟨_,_,hx,hc⟩
end Go.AL
