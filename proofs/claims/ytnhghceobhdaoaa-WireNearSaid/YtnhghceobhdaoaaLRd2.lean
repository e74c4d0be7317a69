/- Plain laws of readers: marks make no difference; bounds. No program. -/
import Derived.Test.YtnhghceobhdaoaaLBits
namespace Go.AL
set_option linter.all false

def mkOk (m m' : Mark) : Prop := m' = m ∨ m' = .any
theorem uintR_v (m : Mark) (l : List UInt8) (e w : Int) : (uintR (m, l, e) w).1 = (uintR (.any, l, e) w).1 := by
  unfold uintR; dsimp only; repeat' split
  all_goals rfl
theorem uintR_s (m : Mark) (l : List UInt8) (e w : Int) : (uintR (m, l, e) w).2.2 = (uintR (.any, l, e) w).2.2 := by
  unfold uintR; dsimp only; repeat' split
  all_goals rfl
theorem uintR_m (m : Mark) (l : List UInt8) (e w : Int) : mkOk m (uintR (m, l, e) w).2.1 := by
  unfold uintR mkOk; dsimp only; repeat' split
  all_goals simp
theorem boolR_v (m : Mark) (l : List UInt8) (e : Int) : (boolR (m, l, e)).1 = (boolR (.any, l, e)).1 := by
  unfold boolR; dsimp only; repeat' split
  all_goals rfl
theorem boolR_s (m : Mark) (l : List UInt8) (e : Int) : (boolR (m, l, e)).2.2 = (boolR (.any, l, e)).2.2 := by
  unfold boolR; dsimp only; repeat' split
  all_goals rfl
theorem boolR_m (m : Mark) (l : List UInt8) (e : Int) : mkOk m (boolR (m, l, e)).2.1 := by
  unfold boolR mkOk; dsimp only; repeat' split
  all_goals simp
theorem valueR_v (m : Mark) (l : List UInt8) (e : Int) : (valueR (m, l, e)).1 = (valueR (.any, l, e)).1 := by
  unfold valueR; dsimp only; repeat' split
  all_goals rfl
theorem valueR_s (m : Mark) (l : List UInt8) (e : Int) : (valueR (m, l, e)).2.2 = (valueR (.any, l, e)).2.2 := by
  unfold valueR; dsimp only; repeat' split
  all_goals rfl
theorem valueR_m (m : Mark) (l : List UInt8) (e : Int) : mkOk m (valueR (m, l, e)).2.1 := by
  unfold valueR mkOk; dsimp only; repeat' split
  all_goals simp
theorem bytesR_v (m : Mark) (l : List UInt8) (e w : Int) : (bytesR (m, l, e) w).1 = (bytesR (.any, l, e) w).1 := by
  unfold bytesR; dsimp only; repeat' split
  all_goals rfl
theorem bytesR_s (m : Mark) (l : List UInt8) (e w : Int) : (bytesR (m, l, e) w).2.2 = (bytesR (.any, l, e) w).2.2 := by
  unfold bytesR; dsimp only; repeat' split
  all_goals rfl
theorem bytesR_m (m : Mark) (l : List UInt8) (e w : Int) : mkOk m (bytesR (m, l, e) w).2.1 := by
  unfold bytesR mkOk; dsimp only; repeat' split
  all_goals simp
theorem textR_v (m : Mark) (l : List UInt8) (e w : Int) : (textR (m, l, e) w).1 = (textR (.any, l, e) w).1 := by
  unfold textR; rw [bytesR_v]; split
  · exact bytesR_v m l e w
  · rfl
theorem textR_s (m : Mark) (l : List UInt8) (e w : Int) : (textR (m, l, e) w).2.2 = (textR (.any, l, e) w).2.2 := by
  unfold textR; rw [bytesR_v]; split
  · exact bytesR_s m l e w
  · rfl
theorem textR_m (m : Mark) (l : List UInt8) (e w : Int) : mkOk m (textR (m, l, e) w).2.1 := by
  unfold textR; split
  · exact bytesR_m m l e w
  · exact .inl rfl
theorem countR_v (m : Mark) (l : List UInt8) (e w : Int) : (countR (m, l, e) w).1 = (countR (.any, l, e) w).1 := by
  unfold countR; dsimp only; repeat' split
  all_goals rfl
theorem countR_s (m : Mark) (l : List UInt8) (e w : Int) : (countR (m, l, e) w).2.2 = (countR (.any, l, e) w).2.2 := by
  unfold countR; dsimp only; repeat' split
  all_goals rfl
theorem countR_m (m : Mark) (l : List UInt8) (e w : Int) : mkOk m (countR (m, l, e) w).2.1 := by
  unfold countR mkOk; dsimp only; repeat' split
  all_goals simp
theorem valueR_lt (m : Mark) (l : List UInt8) (e : Int) : (valueR (m, l, e)).1 < 2 ^ 128 := by
  unfold valueR; dsimp only
  repeat' split
  all_goals try (simp; done)
  dsimp only
  unfold parseV
  repeat' split
  all_goals try (simp; done)
  dsimp only
  rename_i h1 h2 h3
  have := beVal_lt ((l.take (1 + (b0 l).toNat)).drop 1)
  have h5 : (256 : Nat) ^ ((l.take (1 + (b0 l).toNat)).drop 1).length ≤ 256 ^ 16 := Nat.pow_le_pow_right (by decide) (by omega)
  omega
/-- the rest never grows -/
theorem uintR_l (m : Mark) (l : List UInt8) (e w : Int) : (uintR (m, l, e) w).2.2.1.length ≤ l.length := by
  unfold uintR; dsimp only; repeat' split
  all_goals simp
theorem boolR_l (m : Mark) (l : List UInt8) (e : Int) : (boolR (m, l, e)).2.2.1.length ≤ l.length := by
  unfold boolR; dsimp only; repeat' split
  all_goals simp
theorem valueR_l (m : Mark) (l : List UInt8) (e : Int) : (valueR (m, l, e)).2.2.1.length ≤ l.length := by
  unfold valueR; dsimp only; repeat' split
  all_goals simp
theorem bytesR_l (m : Mark) (l : List UInt8) (e w : Int) : (bytesR (m, l, e) w).2.2.1.length ≤ l.length := by
  unfold bytesR; dsimp only; repeat' split
  all_goals simp
theorem textR_l (m : Mark) (l : List UInt8) (e w : Int) : (textR (m, l, e) w).2.2.1.length ≤ l.length := by
  unfold textR; split
  · exact bytesR_l m l e w
  · exact Nat.le_refl _
theorem countR_l (m : Mark) (l : List UInt8) (e w : Int) : (countR (m, l, e) w).2.2.1.length ≤ l.length := by
  unfold countR; dsimp only; repeat' split
  all_goals simp

/-- what an element that is read makes of a reader -/
def rdOp (k n most : Int) (l : List UInt8) (e : Int) : List UInt8 × Int :=
  if iand .i64 k 7 = 0 then (uintR (.any, l, e) n).2.2
  else if iand .i64 k 7 = 1 then (uintR (.any, l, e) (IntKind.i64.wrap (1 + iand .i64 n 3))).2.2
  else if iand .i64 k 7 = 2 then (boolR (.any, l, e)).2.2
  else if iand .i64 k 7 = 3 then (bytesR (.any, l, e) most).2.2
  else if iand .i64 k 7 = 4 then (textR (.any, l, e) (iand .i64 most 63)).2.2
  else if iand .i64 k 7 = 5 then (countR (.any, l, e) most).2.2
  else if iand .i64 k 7 = 6 then (countR (.any, l, e) (iand .i64 most 255)).2.2
  else (valueR (.any, l, e)).2.2
theorem rdOp_len (k n most : Int) (l : List UInt8) (e : Int) : (rdOp k n most l e).1.length ≤ l.length := by
  unfold rdOp
  repeat' split
  · exact uintR_l _ _ _ _
  · exact uintR_l _ _ _ _
  · exact boolR_l _ _ _
  · exact bytesR_l _ _ _ _
  · exact textR_l _ _ _ _
  · exact countR_l _ _ _ _
  · exact countR_l _ _ _ _
  · exact valueR_l _ _ _
/-- two readers in memory, alike but for their marks -/
theorem closedR2 {H : AHeap} {a b : Nat} {m1 m2 : Mark} {l l2 : List UInt8} {e e2 : Int} (hab : a ≠ b) (ha : H.get a = some (.cells [.slice m1 1 (bys l), .int .i64 e])) (hb : H.get b = some (.cells [.slice m2 1 (bys l2), .int .i64 e2])) (h : H.Closed)
    (m1' m2' : Mark) (h1 : mkOk m1 m1') (h2 : mkOk m2 m2') (l' l2' : List UInt8) (e' e2' : Int) :
    ((H.set a (.cells [.slice m1' 1 (bys l'), .int .i64 e'])).set b (.cells [.slice m2' 1 (bys l2'), .int .i64 e2'])).Closed := by
  have hc := closedR ha h m1' h1 l' e'
  refine closedR (l := l2) (e := e2) ?_ hc m2' h2 l2' e2'
  rw [heap_get_set, if_neg (fun e => hab e.symm)]; exact hb
end Go.AL
