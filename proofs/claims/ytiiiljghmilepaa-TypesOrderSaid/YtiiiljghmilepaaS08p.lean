/- Contracts and plain laws, a part of the proof; no condition of its own. -/
import Derived.Test.YtiiiljghmilepaaS08n
open Go Go.AL Go.Proofs
namespace Go.AL
set_option linter.all false
set_option maxRecDepth 10000
theorem sL {vs:List VN} (h1:vs.length≤6) (h2:∀ v∈vs,v∈six):oV vs:=⟨by omega,fun v hv=>qz v (h2 v hv)⟩
end Go.AL
