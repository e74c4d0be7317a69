/- Contracts and plain laws, a part of the proof; no condition of its own. -/
import Derived.Test.YtepgdamgklfnmaaGreatAlByte
import Derived.Laws.Externs
/- The abstract layer: rows of small numbers. -/
namespace Go.AL
set_option linter.all false

/-- a row of numbers -/
def ints (l:List Nat):List AV:=l.map fun (d:Nat)=>.int .i64 (d:Int)
theorem zlu {n:Nat} {m:Mark} {l:List Nat}:(AV.slice m 1 (ints l)).lt n=∀ id,m=.own id→id<n:=by
  rw [AV.lt]
  refine propext ⟨fun h=>h.1,fun h=>⟨h,fun j hj=>?_⟩⟩
  simp only [ints,List.getElem_map]
  rw [AV.lt]<;>simp
end Go.AL


/- The abstract layer: calls of functions for which the model stands in. -/
namespace Go.AL
set_option linter.all false
set_option linter.unusedSectionVars false

end Go.AL

