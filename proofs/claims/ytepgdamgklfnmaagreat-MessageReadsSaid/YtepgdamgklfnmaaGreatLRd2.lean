/- Contracts and plain laws, a part of the proof; no condition of its own. -/
import Derived.Test.YtepgdamgklfnmaaGreatLBits
/- Plain laws of readers: marks make no difference; bounds. No program. -/
namespace Go.AL
set_option linter.all false

def mkOk (m m':Mark):Prop:=m'=m∨m'=.any
theorem uintR_m (m:Mark) (l:List UInt8) (e w:Int):mkOk m (uintR (m,l,e) w).2.1:=by
  unfold uintR mkOk;dsimp only;repeat' split
  all_goals simp
theorem boolR_m (m:Mark) (l:List UInt8) (e:Int):mkOk m (boolR (m,l,e)).2.1:=by
  unfold boolR mkOk;dsimp only;repeat' split
  all_goals simp
theorem valueR_m (m:Mark) (l:List UInt8) (e:Int):mkOk m (valueR (m,l,e)).2.1:=by
  unfold valueR mkOk;dsimp only;repeat' split
  all_goals simp
theorem bytesR_m (m:Mark) (l:List UInt8) (e w:Int):mkOk m (bytesR (m,l,e) w).2.1:=by
  unfold bytesR mkOk;dsimp only;repeat' split
  all_goals simp
theorem countR_m (m:Mark) (l:List UInt8) (e w:Int):mkOk m (countR (m,l,e) w).2.1:=by
  unfold countR mkOk;dsimp only;repeat' split
  all_goals simp
theorem valueR_lt (m:Mark) (l:List UInt8) (e:Int):(valueR (m,l,e)).1<2^128:=by
  unfold valueR;dsimp only
  repeat' split
  all_goals try (simp;done)
  dsimp only
  unfold parseV
  repeat' split
  all_goals try (simp;done)
  dsimp only
  rename_i h1 h2 h3
  have:=beVal_lt ((l.take (1+(b0 l).toNat)).drop 1)
  have h5:(256:Nat)^((l.take (1+(b0 l).toNat)).drop 1).length≤256^16:=Nat.pow_le_pow_right (by decide) (by omega)
  omega
/-- the rest never grows -/
theorem uintR_l (m:Mark) (l:List UInt8) (e w:Int):(uintR (m,l,e) w).2.2.1.length≤l.length:=by
  unfold uintR;dsimp only;repeat' split
  all_goals simp
theorem boolR_l (m:Mark) (l:List UInt8) (e:Int):(boolR (m,l,e)).2.2.1.length≤l.length:=by
  unfold boolR;dsimp only;repeat' split
  all_goals simp
theorem valueR_l (m:Mark) (l:List UInt8) (e:Int):(valueR (m,l,e)).2.2.1.length≤l.length:=by
  unfold valueR;dsimp only;repeat' split
  all_goals simp
theorem bytesR_l (m:Mark) (l:List UInt8) (e w:Int):(bytesR (m,l,e) w).2.2.1.length≤l.length:=by
  unfold bytesR;dsimp only;repeat' split
  all_goals simp
theorem countR_l (m:Mark) (l:List UInt8) (e w:Int):(countR (m,l,e) w).2.2.1.length≤l.length:=by
  unfold countR;dsimp only;repeat' split
  all_goals simp

end Go.AL

