/- Contracts and plain laws, a part of the proof; no condition of its own. -/
import Derived.Test.YtknhoembfohbiaaE06
open Go Go.AL Go.Proofs
namespace Go.AL
set_option linter.all false
set_option maxRecDepth 10000
theorem scan_len {s : List UInt8} : (scanned s).1.length ≤ 400 := by
  unfold scanned
  split
  · simp
  · rename_i h
    split
    · rename_i l hl
      have : ∀ (f : Nat) (s : List UInt8) (k : Nat), (scanT f s k).1.length ≤ f := by
        intro f
        induction f with
        | zero => intro s k; exact Nat.le_refl _
        | succ f ih =>
          intro s k
          cases s with
          | nil => simp [scanT]
          | cons c r =>
            rw [scanT]
            split
            · exact Nat.le_succ_of_le (ih _ _)
            · split
              · simp
              · simp only [List.length_cons]
                exact Nat.succ_le_succ (ih _ _)
      have h2 := this s.length (s.drop 0) 0
      unfold rest at hl
      rw [hl] at h2
      simp only at h2 ⊢
      omega
    · simp
end Go.AL

