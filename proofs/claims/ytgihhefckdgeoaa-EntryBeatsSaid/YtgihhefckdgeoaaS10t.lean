/- Contracts and plain laws, a part of the proof; no condition of its own. -/
import Derived.Test.YtgihhefckdgeoaaS10r
open Go Go.AL Go.Proofs
namespace Go.AL
set_option linter.all false
set_option maxRecDepth 10000

end Go.AL


open Go Go.AL Go.Proofs
namespace Go.AL
set_option linter.all false
set_option maxRecDepth 10000

theorem tabF_get {S : Sch} {n : Int} {t : STable} (h : tabF S n = some t) : ∃ i : Nat, i < S.tables.length ∧ ixP (fun f : STable => f.id == n) S.tables 0 = (i : Int) ∧ S.tables[i]? = some t := by
  obtain ⟨b1, b2⟩ := ixP_lt (q := fun f : STable => f.id == n) (l := S.tables) (k := 0)
  rcases b2 with b2 | b2
  · have := ixP_none b2
    unfold tabF at h
    rw [this] at h
    cases h
  obtain ⟨i, hi⟩ : ∃ i : Nat, ixP (fun f : STable => f.id == n) S.tables 0 = ((0 + i : Nat) : Int) := ⟨(ixP (fun f : STable => f.id == n) S.tables 0).toNat, by omega⟩
  obtain ⟨x, h1, h2, h3⟩ := ixP_get hi
  rw [Nat.zero_add] at hi
  unfold tabF at h
  rw [h3] at h
  cases h
  refine ⟨i, ?_, hi, h1⟩
  rcases Nat.lt_or_ge i S.tables.length with h | h
  · exact h
  · rw [List.getElem?_eq_none h] at h1; cases h1
end Go.AL

