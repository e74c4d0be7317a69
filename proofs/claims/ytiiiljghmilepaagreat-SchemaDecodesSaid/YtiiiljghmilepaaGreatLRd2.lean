/- Contracts and plain laws, a part of the proof; no condition of its own. -/
import Derived.Test.YtiiiljghmilepaaGreatLGen
/- Plain laws of values as bits. No program. -/
namespace Go.AL
set_option linter.all false
theorem FP (hi lo n:Nat) (h:lo<2^64):((vOf hi lo <<< n) % 2^128) % 2^64=(lo <<< n) % 2^64:=by
 refine Nat.eq_of_testBit_eq fun j=>?_
 simp only [Nat.testBit_mod_two_pow,Nat.testBit_shiftLeft,kO h]
 by_cases h1:j<64
 ·have:j<128:=by omega
  by_cases h2:j ≥ n
  ·simp [h1,h2,this];omega
  ·simp [h1,h2,this]
 ·simp [h1]
theorem Fv (hi lo n:Nat) (h:lo<2^64) (hn:n<64):((vOf hi lo <<< n) % 2^128)/2^64=((hi <<< n) % 2^64) ||| (lo >>> (64 - n)):=by
 refine Nat.eq_of_testBit_eq fun j=>?_
 rw [Nat.testBit_div_two_pow]
 simp only [Nat.testBit_mod_two_pow,Nat.testBit_shiftLeft,Nat.testBit_or,Nat.testBit_shiftRight,kO h]
 by_cases h1:j<64
 ·have h2:j+64<128:=by omega
  have h3:j+64 ≥ n:=by omega
  by_cases h4:j ≥ n
  ·have h5:¬ j+64 - n<64:=by omega
   have h6:lo.testBit (64 - n+j)=false:=Nat.testBit_lt_two_pow (Nat.lt_of_lt_of_le h (Nat.pow_le_pow_right (by decide) (by omega)))
   simp [h1,h2,h3,h4,h5,h6]
   rw [show j+64 - n - 64=j - n by omega]
  ·have h5:j+64 - n<64:=by omega
   simp [h1,h2,h3,h4,h5]
   rw [show j+64 - n=64 - n+j by omega]
 ·have h2:¬ j+64<128:=by omega
  have h6:lo.testBit (64 - n+j)=false:=Nat.testBit_lt_two_pow (Nat.lt_of_lt_of_le h (Nat.pow_le_pow_right (by decide) (by omega)))
  simp [h1,h2,h6]
theorem Ea (hi lo n:Nat) (hn:64≤n):(vOf hi lo <<< n) % 2^128=vOf ((lo <<< (n - 64)) % 2^64) 0:=by
 rw [Nat.shiftLeft_eq,Nat.shiftLeft_eq]
 obtain ⟨m,rfl⟩:∃ m,n=m+64:=⟨n - 64,by omega⟩
 rw [Nat.add_sub_cancel]
 unfold vOf
 rw [Nat.pow_add]
 generalize 2^m=p
 have:(2^64*hi+lo)*(p*2^64)=2^128*(hi*p)+2^64*(lo*p):=by
  rw [Nat.add_mul]
  congr 1
  ·rw [show (2:Nat)^128=2^64*2^64 by decide];simp only [Nat.mul_assoc,Nat.mul_comm,Nat.mul_left_comm]
  ·simp only [Nat.mul_assoc,Nat.mul_comm,Nat.mul_left_comm]
 rw [this]
 generalize hi*p=q
 generalize lo*p=r
 omega
theorem Hl (a b c d:Nat) (h:b<2^64) (k:d<2^64):vOf a b ||| vOf c d=vOf (a ||| c) (b ||| d):=by
 refine Nat.eq_of_testBit_eq fun j=>?_
 rw [Nat.testBit_or,kO h,kO k,kO (Nat.or_lt_two_pow h k)]
 split<;>rw [Nat.testBit_or]
theorem Ge (v x:Nat) (h:v<2^120) (hx:x<256):(v <<< 8) % 2^128 ||| x=v*256+x:=by
 have:=Nat.shiftLeft_add_eq_or_of_lt (b:=x) (i:=8) hx v
 rw [Nat.mod_eq_of_lt (by rw [Nat.shiftLeft_eq];omega),← this,Nat.shiftLeft_eq]
/-- the number of a row of bits -/
def mF:List AV→Nat
 |.bool b::t=>(if b then 1 else 0)+2*mF t
 |_=>0
def xb (l:List AV):Prop:=l=bits (mF l)∧mF l<2^128
theorem tN:∀ (n v:Nat),mF ((List.range n).map fun j=>AV.bool (v.testBit j))=v % 2^n
 |0,v=>by simp [mF,Nat.mod_one]
 |n+1,v=>by
  rw [List.range_succ_eq_map,List.map_cons,List.map_map]
  have e:(List.map ((fun j=>AV.bool (v.testBit j)) ∘ Nat.succ) (List.range n))=(List.range n).map fun j=>AV.bool ((v/2).testBit j):=by
   refine List.map_congr_left fun j _=>?_
   simp only [Function.comp,Nat.testBit_succ]
  rw [e]
  simp only [mF]
  rw [tN n (v/2),Nat.testBit_zero,Nat.pow_succ,Nat.mul_comm (2^n) 2,Nat.mod_mul]
  rcases (show v % 2=0∨v % 2=1 by omega) with h|h<;>simp [h]
theorem kN {v:Nat} (h:v<2^128):mF (bits v)=v:=by
 unfold bits;rw [tN,Nat.mod_eq_of_lt h]
theorem wP {v:Nat} (h:v<2^128):xb (bits v)=True:=eq_true ⟨by rw [kN h],by rw [kN h];exact h⟩
theorem x8 {l:List AV} (h:xb l):∃ v,l=bits v∧v<2^128:=⟨_,h⟩
theorem qB (x i:Nat) (hi:i<64) (h:x.testBit i=true):(x % 2^i) ||| ((1 <<< i) % 2^64)=x % 2^(i+1):=by
 refine Nat.eq_of_testBit_eq fun j=>?_
 rw [Nat.testBit_or,Nat.testBit_mod_two_pow,Nat.testBit_mod_two_pow,Nat.testBit_mod_two_pow,Nat.testBit_shiftLeft]
 by_cases e:j=i
 ·subst e;simp [h,hi]
 ·have h1:decide (j<i+1)=decide (j<i):=by rw [Bool.eq_iff_iff];simp;omega
  have h2:(decide (j ≥ i)&&Nat.testBit 1 (j - i))=false:=by
   by_cases h3:j ≥ i
   ·have:Nat.testBit 1 (j - i)=false:=Nat.testBit_lt_two_pow (Nat.one_lt_two_pow (by omega))
    rw [this,Bool.and_false]
   ·simp [h3]
  rw [h1,h2];simp
theorem mX (x i:Nat) (h:x.testBit i=false):x % 2^(i+1)=x % 2^i:=by
 refine Nat.eq_of_testBit_eq fun j=>?_
 rw [Nat.testBit_mod_two_pow,Nat.testBit_mod_two_pow]
 by_cases e:j=i
 ·subst e;simp [h]
 ·congr 1;rw [Bool.eq_iff_iff];simp;omega
/-- the bits of a number of bytes -/
theorem AS:∀ (l:List UInt8) (i k:Nat),i<l.length→k<8→(bT l).testBit (8*(l.length - 1 - i)+k)=((l.getD i 0).toNat).testBit k:=by
 intro l
 induction h:l.length generalizing l with
 |zero=>intro i k hi;omega
 |succ n ih =>
  obtain ⟨l',b,rfl⟩:∃ l' b,l=l'++[b]:=⟨l.dropLast,l.getLast (by intro e;rw [e] at h;simp at h),(List.dropLast_concat_getLast _).symm⟩
  have hl:l'.length=n:=by simp at h;omega
  intro i k hi hk
  have e0:bT (l'++[b])=2^8*bT l'+b.toNat:=by rw [nW];omega
  rw [e0,Nat.testBit_two_pow_mul_add _ (UInt8.toNat_lt b)]
  by_cases hin:i=n
  ·subst hin
   rw [if_pos (by omega)]
   have:(l'++[b]).getD i 0=b:=by simp [List.getD_eq_getElem?_getD,← hl]
   rw [this];congr 1;omega
  ·rw [if_neg (by omega)]
   have h1:=ih l' hl i k (by omega) hk
   have h2:(l'++[b]).getD i 0=l'.getD i 0:=by
    simp only [List.getD_eq_getElem?_getD]
    rw [List.getElem?_append_left (by omega)]
   rw [h2,← h1];congr 1;omega
theorem ES (a b:Nat) (h:a<256) (hb:b<8):qM .u8 (a:Int) (b:Int)=((a >>> b:Nat):Int):=by
 unfold qM
 rw [Int.fdiv_eq_ediv_of_nonneg _ (by exact Int.le_of_lt (Int.pow_pos (by decide))),Nat.shiftRight_eq_div_pow,Int.toNat_natCast]
 have e:((2:Int)^min b IntKind.u8.bits)=((2^b:Nat):Int):=by
  have:min b IntKind.u8.bits=b:=Nat.min_eq_left (by simp [IntKind.bits];omega)
  rw [this];push_cast;rfl
 rw [e,← Int.natCast_ediv]
theorem wR (a:Nat) (h:a<256):B5 .u8 (a:Int) 1=((a &&& 1:Nat):Int):=by
 have hx:a &&& 1<2^8:=Nat.and_lt_two_pow _ (by decide)
 show IntKind.wrap .u8 ((BitVec.ofInt 8 (a:Int) &&& BitVec.ofInt 8 ((1:Nat):Int)).toNat:Int)=_
 rw [BitVec.toNat_and,ug a h,ug 1 (by decide),jV,Nat.mod_eq_of_lt hx]
end Go.AL
/- Plain laws of readers: marks make no difference; bounds. No program. -/
namespace Go.AL
set_option linter.all false
def cw (m m':Mark):Prop:=m'=m∨m'=.any
theorem bn (m:Mark) (l:List UInt8) (e w:Int):cw m (bB (m,l,e) w).2.1:=by
 unfold bB cw;dsimp only;repeat' split
 all_goals simp
theorem kL (m:Mark) (l:List UInt8) (e:Int):cw m (fu (m,l,e)).2.1:=by
 unfold fu cw;dsimp only;repeat' split
 all_goals simp
theorem jX (m:Mark) (l:List UInt8) (e:Int):cw m (cO (m,l,e)).2.1:=by
 unfold cO cw;dsimp only;repeat' split
 all_goals simp
theorem D1 (m:Mark) (l:List UInt8) (e w:Int):cw m (dq (m,l,e) w).2.1:=by
 unfold dq cw;dsimp only;repeat' split
 all_goals simp
theorem fB (m:Mark) (l:List UInt8) (e w:Int):cw m (dM (m,l,e) w).2.1:=by
 unfold dM;split
 ·exact D1 m l e w
 ·exact .inl rfl
theorem ct (m:Mark) (l:List UInt8) (e w:Int):cw m (aX (m,l,e) w).2.1:=by
 unfold aX cw;dsimp only;repeat' split
 all_goals simp
/-- the rest never grows -/
theorem bm (m:Mark) (l:List UInt8) (e w:Int):(bB (m,l,e) w).2.2.1.length≤l.length:=by
 unfold bB;dsimp only;repeat' split
 all_goals simp
theorem kU (m:Mark) (l:List UInt8) (e:Int):(fu (m,l,e)).2.2.1.length≤l.length:=by
 unfold fu;dsimp only;repeat' split
 all_goals simp
theorem jZ (m:Mark) (l:List UInt8) (e:Int):(cO (m,l,e)).2.2.1.length≤l.length:=by
 unfold cO;dsimp only;repeat' split
 all_goals simp
theorem Dr (m:Mark) (l:List UInt8) (e w:Int):(dq (m,l,e) w).2.2.1.length≤l.length:=by
 unfold dq;dsimp only;repeat' split
 all_goals simp
theorem fD (m:Mark) (l:List UInt8) (e w:Int):(dM (m,l,e) w).2.2.1.length≤l.length:=by
 unfold dM;split
 ·exact Dr m l e w
 ·exact Nat.le_refl _
theorem cu (m:Mark) (l:List UInt8) (e w:Int):(aX (m,l,e) w).2.2.1.length≤l.length:=by
 unfold aX;dsimp only;repeat' split
 all_goals simp
end Go.AL
