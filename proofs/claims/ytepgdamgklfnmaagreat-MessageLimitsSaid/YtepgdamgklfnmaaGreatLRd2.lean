/- Contracts and plain laws, a part of the proof; no condition of its own. -/
import Derived.Test.YtepgdamgklfnmaaGreatLBits
/- Plain laws of readers: marks make no difference; bounds. No program. -/
namespace Go.AL
set_option linter.all false

def mkOk (m m' : Mark) : Prop := m' = m ∨ m' = .any
theorem uintR_m (m : Mark) (l : List UInt8) (e w : Int) : mkOk m (uintR (m, l, e) w).2.1 := by
  unfold uintR mkOk; dsimp only; repeat' split
  all_goals simp
/-- the rest never grows -/
theorem uintR_l (m : Mark) (l : List UInt8) (e w : Int) : (uintR (m, l, e) w).2.2.1.length ≤ l.length := by
  unfold uintR; dsimp only; repeat' split
  all_goals simp
end Go.AL

