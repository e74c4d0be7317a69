/- Lemmas of the proof; no condition. -/
import Derived.Test.YthnlhjalhflgfaaGreatS12a
import Derived.Test.YthnlhjalhflgfaaGreatS10p
set_option linter.all false
set_option maxRecDepth 10000
open Go Go.AL Go.Proofs
namespace Go.AL
theorem dm:∀ (z l:List AV),z.length=l.length→splice z 0 l=l
 |[],[],_=>rfl
 |a::z,b::l,h=>by
  unfold splice
  rw [dm z l (by simpa using h)]
 |[],_::_,h=>by simp at h
 |_::_,[],h=>by simp at h
end Go.AL
