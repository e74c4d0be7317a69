/- Contracts and plain laws, a part of the proof; no condition of its own. -/
import Derived.Test.YthpglnacipgolaaGreatLGen
/- Plain laws of values as bits. No program. -/
namespace Go.AL
set_option linter.all false

theorem left_lo (hi lo n:Nat) (h:lo<2^64):((vOf hi lo <<< n) % 2^128) % 2^64=(lo <<< n) % 2^64:=by
  refine Nat.eq_of_testBit_eq fun j=>?_
  simp only [Nat.testBit_mod_two_pow,Nat.testBit_shiftLeft,vOf_bit h]
  by_cases h1:j<64
  · have:j<128:=by omega
    by_cases h2:j ≥ n
    · simp [h1,h2,this];omega
    · simp [h1,h2,this]
  · simp [h1]
theorem left_hi (hi lo n:Nat) (h:lo<2^64) (hn:n<64):((vOf hi lo <<< n) % 2^128)/2^64=((hi <<< n) % 2^64) ||| (lo >>> (64 - n)):=by
  refine Nat.eq_of_testBit_eq fun j=>?_
  rw [Nat.testBit_div_two_pow]
  simp only [Nat.testBit_mod_two_pow,Nat.testBit_shiftLeft,Nat.testBit_or,Nat.testBit_shiftRight,vOf_bit h]
  by_cases h1:j<64
  · have h2:j+64<128:=by omega
    have h3:j+64 ≥ n:=by omega
    by_cases h4:j ≥ n
    · have h5:¬ j+64 - n<64:=by omega
      have h6:lo.testBit (64 - n+j)=false:=Nat.testBit_lt_two_pow (Nat.lt_of_lt_of_le h (Nat.pow_le_pow_right (by decide) (by omega)))
      simp [h1,h2,h3,h4,h5,h6]
      rw [show j+64 - n - 64=j - n by omega]
    · have h5:j+64 - n<64:=by omega
      simp [h1,h2,h3,h4,h5]
      rw [show j+64 - n=64 - n+j by omega]
  · have h2:¬ j+64<128:=by omega
    have h6:lo.testBit (64 - n+j)=false:=Nat.testBit_lt_two_pow (Nat.lt_of_lt_of_le h (Nat.pow_le_pow_right (by decide) (by omega)))
    simp [h1,h2,h6]
theorem left_far (hi lo n:Nat) (hn:64≤n):(vOf hi lo <<< n) % 2^128=vOf ((lo <<< (n - 64)) % 2^64) 0:=by
  rw [Nat.shiftLeft_eq,Nat.shiftLeft_eq]
  obtain ⟨m,rfl⟩:∃ m,n=m+64:=⟨n - 64,by omega⟩
  rw [Nat.add_sub_cancel]
  unfold vOf
  rw [Nat.pow_add]
  generalize 2^m=p
  have:(2^64*hi+lo)*(p*2^64)=2^128*(hi*p)+2^64*(lo*p):=by
    rw [Nat.add_mul]
    congr 1
    · rw [show (2:Nat)^128=2^64*2^64 by decide];simp only [Nat.mul_assoc,Nat.mul_comm,Nat.mul_left_comm]
    · simp only [Nat.mul_assoc,Nat.mul_comm,Nat.mul_left_comm]
  rw [this]
  generalize hi*p=q
  generalize lo*p=r
  omega
theorem or_vOf (a b c d:Nat) (h:b<2^64) (k:d<2^64):vOf a b ||| vOf c d=vOf (a ||| c) (b ||| d):=by
  refine Nat.eq_of_testBit_eq fun j=>?_
  rw [Nat.testBit_or,vOf_bit h,vOf_bit k,vOf_bit (Nat.or_lt_two_pow h k)]
  split<;>rw [Nat.testBit_or]
theorem byte_in (v x:Nat) (h:v<2^120) (hx:x<256):(v <<< 8) % 2^128 ||| x=v*256+x:=by
  have:=Nat.shiftLeft_add_eq_or_of_lt (b:=x) (i:=8) hx v
  rw [Nat.mod_eq_of_lt (by rw [Nat.shiftLeft_eq];omega),← this,Nat.shiftLeft_eq]

end Go.AL


/- Plain laws of readers: marks make no difference; bounds. No program. -/
namespace Go.AL
set_option linter.all false

def mkOk (m m':Mark):Prop:=m'=m∨m'=.any
theorem uintR_m (m:Mark) (l:List UInt8) (e w:Int):mkOk m (uintR (m,l,e) w).2.1:=by
  unfold uintR mkOk;dsimp only;repeat' split
  all_goals simp
theorem boolR_m (m:Mark) (l:List UInt8) (e:Int):mkOk m (boolR (m,l,e)).2.1:=by
  unfold boolR mkOk;dsimp only;repeat' split
  all_goals simp
theorem valueR_m (m:Mark) (l:List UInt8) (e:Int):mkOk m (valueR (m,l,e)).2.1:=by
  unfold valueR mkOk;dsimp only;repeat' split
  all_goals simp
theorem bytesR_m (m:Mark) (l:List UInt8) (e w:Int):mkOk m (bytesR (m,l,e) w).2.1:=by
  unfold bytesR mkOk;dsimp only;repeat' split
  all_goals simp
theorem textR_m (m:Mark) (l:List UInt8) (e w:Int):mkOk m (textR (m,l,e) w).2.1:=by
  unfold textR;split
  · exact bytesR_m m l e w
  · exact .inl rfl
theorem countR_m (m:Mark) (l:List UInt8) (e w:Int):mkOk m (countR (m,l,e) w).2.1:=by
  unfold countR mkOk;dsimp only;repeat' split
  all_goals simp
/-- the rest never grows -/
theorem uintR_l (m:Mark) (l:List UInt8) (e w:Int):(uintR (m,l,e) w).2.2.1.length≤l.length:=by
  unfold uintR;dsimp only;repeat' split
  all_goals simp
theorem boolR_l (m:Mark) (l:List UInt8) (e:Int):(boolR (m,l,e)).2.2.1.length≤l.length:=by
  unfold boolR;dsimp only;repeat' split
  all_goals simp
theorem valueR_l (m:Mark) (l:List UInt8) (e:Int):(valueR (m,l,e)).2.2.1.length≤l.length:=by
  unfold valueR;dsimp only;repeat' split
  all_goals simp
theorem bytesR_l (m:Mark) (l:List UInt8) (e w:Int):(bytesR (m,l,e) w).2.2.1.length≤l.length:=by
  unfold bytesR;dsimp only;repeat' split
  all_goals simp
theorem textR_l (m:Mark) (l:List UInt8) (e w:Int):(textR (m,l,e) w).2.2.1.length≤l.length:=by
  unfold textR;split
  · exact bytesR_l m l e w
  · exact Nat.le_refl _
theorem countR_l (m:Mark) (l:List UInt8) (e w:Int):(countR (m,l,e) w).2.2.1.length≤l.length:=by
  unfold countR;dsimp only;repeat' split
  all_goals simp

end Go.AL

