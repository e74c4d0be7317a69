/- Contracts and plain laws, a part of the proof; no condition of its own. -/
import Derived.Test.YtknhoembfohbiaaS07l
import Derived.Test.YtknhoembfohbiaaS07h
import Derived.Test.YtknhoembfohbiaaLPar
open Go Go.AL Go.Proofs
namespace Go.AL
set_option linter.all false
set_option maxRecDepth 10000

theorem litFree_true {l : List Tok} : litFree True l := fun _ _ => trivial
theorem parsed_of2 {o : Option (List Nd)} : parsedAV o = .tup [.slice .any 7 (nds (o.getD [])), .slice .any 7 (nds (o.getD [])), .bool true, .bool o.isSome] := by
  cases o <;> rfl
end Go.AL

