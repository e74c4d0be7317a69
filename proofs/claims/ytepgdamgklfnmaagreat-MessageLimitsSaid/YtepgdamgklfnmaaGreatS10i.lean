/- Contracts and plain laws, a part of the proof; no condition of its own. -/
import Derived.Test.YtepgdamgklfnmaaGreatS10g
open Go Go.AL Go.Proofs
namespace Go.AL
set_option linter.all false
set_option maxRecDepth 10000

theorem lt_match {n : Nat} (x : SMatch) : AV.lt n (matchAV x) := by
  simp only [matchAV, matchC, vc, zmz, znc, znd, zmn, zmo, List.append_assoc, List.cons_append, List.nil_append, and_true]
theorem lt_vvx {n : Nat} (x : Nat) : AV.lt n (vv x) := by simp only [vv, zmz, znc, znd, zmn, and_true]
theorem lt_entry {n : Nat} (x : SEntry) : AV.lt n (entryAV x) := by
  simp only [entryAV, entryC, zmz, znc, znd, zmn, and_true, true_and]
  exact ⟨lt_map lt_match, lt_map lt_vvx⟩
end Go.AL


open Go Go.AL Go.Proofs
namespace Go.AL
set_option linter.all false
set_option maxRecDepth 10000

end Go.AL

