/- Contracts and plain laws, a part of the proof; no condition of its own. -/
import Derived.Test.YtepgdamgklfnmaaGreatS10t
open Go Go.AL Go.Proofs
namespace Go.AL
set_option linter.all false
set_option maxRecDepth 10000

end Go.AL


open Go Go.AL Go.Proofs
namespace Go.AL
set_option linter.all false
set_option maxRecDepth 10000

def cmpI (a b:Int):Int:=if a<b then -1 else if b<a then 1 else 0
def firstI:List Int→Int
  | []=>0
  | x::xs=>if (x != 0)=true then x else firstI xs
theorem cmpI_zero {a b:Int}:(cmpI a b != 0)=(a != b):=by
  unfold cmpI
  split
  · have:a≠b:=by omega
    simp [this]
  · split
    · have:a≠b:=by omega
      simp [this]
    · have:a=b:=by omega
      simp [this]
end Go.AL

