/- Contracts and plain laws, a part of the proof; no condition of its own. -/
import Derived.Test.YtnhghceobhdaoaaCL
open Go Go.AL Go.Proofs
namespace Go.AL
set_option linter.all false
set_option maxRecDepth 10000

def e_xFinishE (args : List AV) (H : AHeap) (K : AEnd → AHeap → Prop) : Prop := p_xFinish args H fun v => K (.ret v) H
theorem ok_xFinishE : EntOk Try.prog 35 (Ent.effect e_xFinishE) := ok_xFinish.eff

end Go.AL
