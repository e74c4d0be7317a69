/- Contracts and plain laws, a part of the proof; no condition of its own. -/
import Derived.Test.YthpglnacipgolaaGreatLGen
/- Plain laws of values as bits. No program. -/
namespace Go.AL
set_option linter.all false

theorem left_lo (hi lo n:Nat) (h:lo<2^64):((vOf hi lo <<< n) % 2^128) % 2^64=(lo <<< n) % 2^64:=by
  refine Nat.eq_of_testBit_eq fun j=>?_
  simp only [Nat.testBit_mod_two_pow,Nat.testBit_shiftLeft,vOf_bit h]
  by_cases h1:j<64
  · have:j<128:=by omega
    by_cases h2:j ≥ n
    · simp [h1,h2,this];omega
    · simp [h1,h2,this]
  · simp [h1]
theorem left_hi (hi lo n:Nat) (h:lo<2^64) (hn:n<64):((vOf hi lo <<< n) % 2^128)/2^64=((hi <<< n) % 2^64) ||| (lo >>> (64 - n)):=by
  refine Nat.eq_of_testBit_eq fun j=>?_
  rw [Nat.testBit_div_two_pow]
  simp only [Nat.testBit_mod_two_pow,Nat.testBit_shiftLeft,Nat.testBit_or,Nat.testBit_shiftRight,vOf_bit h]
  by_cases h1:j<64
  · have h2:j+64<128:=by omega
    have h3:j+64 ≥ n:=by omega
    by_cases h4:j ≥ n
    · have h5:¬ j+64 - n<64:=by omega
      have h6:lo.testBit (64 - n+j)=false:=Nat.testBit_lt_two_pow (Nat.lt_of_lt_of_le h (Nat.pow_le_pow_right (by decide) (by omega)))
      simp [h1,h2,h3,h4,h5,h6]
      rw [show j+64 - n - 64=j - n by omega]
    · have h5:j+64 - n<64:=by omega
      simp [h1,h2,h3,h4,h5]
      rw [show j+64 - n=64 - n+j by omega]
  · have h2:¬ j+64<128:=by omega
    have h6:lo.testBit (64 - n+j)=false:=Nat.testBit_lt_two_pow (Nat.lt_of_lt_of_le h (Nat.pow_le_pow_right (by decide) (by omega)))
    simp [h1,h2,h6]
theorem left_far (hi lo n:Nat) (hn:64≤n):(vOf hi lo <<< n) % 2^128=vOf ((lo <<< (n - 64)) % 2^64) 0:=by
  rw [Nat.shiftLeft_eq,Nat.shiftLeft_eq]
  obtain ⟨m,rfl⟩:∃ m,n=m+64:=⟨n - 64,by omega⟩
  rw [Nat.add_sub_cancel]
  unfold vOf
  rw [Nat.pow_add]
  generalize 2^m=p
  have:(2^64*hi+lo)*(p*2^64)=2^128*(hi*p)+2^64*(lo*p):=by
    rw [Nat.add_mul]
    congr 1
    · rw [show (2:Nat)^128=2^64*2^64 by decide];simp only [Nat.mul_assoc,Nat.mul_comm,Nat.mul_left_comm]
    · simp only [Nat.mul_assoc,Nat.mul_comm,Nat.mul_left_comm]
  rw [this]
  generalize hi*p=q
  generalize lo*p=r
  omega
theorem or_vOf (a b c d:Nat) (h:b<2^64) (k:d<2^64):vOf a b ||| vOf c d=vOf (a ||| c) (b ||| d):=by
  refine Nat.eq_of_testBit_eq fun j=>?_
  rw [Nat.testBit_or,vOf_bit h,vOf_bit k,vOf_bit (Nat.or_lt_two_pow h k)]
  split<;>rw [Nat.testBit_or]
theorem byte_in (v x:Nat) (h:v<2^120) (hx:x<256):(v <<< 8) % 2^128 ||| x=v*256+x:=by
  have:=Nat.shiftLeft_add_eq_or_of_lt (b:=x) (i:=8) hx v
  rw [Nat.mod_eq_of_lt (by rw [Nat.shiftLeft_eq];omega),← this,Nat.shiftLeft_eq]

/-- the number of a row of bits -/
def unbits:List AV→Nat
  | .bool b::t=>(if b then 1 else 0)+2*unbits t
  | _=>0
def isBits (l:List AV):Prop:=l=bits (unbits l)∧unbits l<2^128
theorem unbits_go:∀ (n v:Nat),unbits ((List.range n).map fun j=>AV.bool (v.testBit j))=v % 2^n
  | 0,v=>by simp [unbits,Nat.mod_one]
  | n+1,v=>by
    rw [List.range_succ_eq_map,List.map_cons,List.map_map]
    have e:(List.map ((fun j=>AV.bool (v.testBit j)) ∘ Nat.succ) (List.range n))=(List.range n).map fun j=>AV.bool ((v/2).testBit j):=by
      refine List.map_congr_left fun j _=>?_
      simp only [Function.comp,Nat.testBit_succ]
    rw [e]
    simp only [unbits]
    rw [unbits_go n (v/2),Nat.testBit_zero,Nat.pow_succ,Nat.mul_comm (2^n) 2,Nat.mod_mul]
    rcases (show v % 2=0∨v % 2=1 by omega) with h | h<;>simp [h]
theorem unbits_bits {v:Nat} (h:v<2^128):unbits (bits v)=v:=by
  unfold bits;rw [unbits_go,Nat.mod_eq_of_lt h]
theorem isBits_bits {v:Nat} (h:v<2^128):isBits (bits v)=True:=eq_true ⟨by rw [unbits_bits h],by rw [unbits_bits h];exact h⟩
theorem isBits_out {l:List AV} (h:isBits l):∃ v,l=bits v∧v<2^128:=⟨_,h⟩

theorem mod_bit (x i:Nat) (hi:i<64) (h:x.testBit i=true):(x % 2^i) ||| ((1 <<< i) % 2^64)=x % 2^(i+1):=by
  refine Nat.eq_of_testBit_eq fun j=>?_
  rw [Nat.testBit_or,Nat.testBit_mod_two_pow,Nat.testBit_mod_two_pow,Nat.testBit_mod_two_pow,Nat.testBit_shiftLeft]
  by_cases e:j=i
  · subst e;simp [h,hi]
  · have h1:decide (j<i+1)=decide (j<i):=by rw [Bool.eq_iff_iff];simp;omega
    have h2:(decide (j ≥ i)&&Nat.testBit 1 (j - i))=false:=by
      by_cases h3:j ≥ i
      · have:Nat.testBit 1 (j - i)=false:=Nat.testBit_lt_two_pow (Nat.one_lt_two_pow (by omega))
        rw [this,Bool.and_false]
      · simp [h3]
    rw [h1,h2];simp
theorem mod_nobit (x i:Nat) (h:x.testBit i=false):x % 2^(i+1)=x % 2^i:=by
  refine Nat.eq_of_testBit_eq fun j=>?_
  rw [Nat.testBit_mod_two_pow,Nat.testBit_mod_two_pow]
  by_cases e:j=i
  · subst e;simp [h]
  · congr 1;rw [Bool.eq_iff_iff];simp;omega
/-- the bits of a number of bytes -/
theorem beVal_bit:∀ (l:List UInt8) (i k:Nat),i<l.length→k<8→(beVal l).testBit (8*(l.length - 1 - i)+k)=((l.getD i 0).toNat).testBit k:=by
  intro l
  induction h:l.length generalizing l with
  | zero=>intro i k hi;omega
  | succ n ih =>
    obtain ⟨l',b,rfl⟩:∃ l' b,l=l'++[b]:=⟨l.dropLast,l.getLast (by intro e;rw [e] at h;simp at h),(List.dropLast_concat_getLast _).symm⟩
    have hl:l'.length=n:=by simp at h;omega
    intro i k hi hk
    have e0:beVal (l'++[b])=2^8*beVal l'+b.toNat:=by rw [beVal_snoc];omega
    rw [e0,Nat.testBit_two_pow_mul_add _ (UInt8.toNat_lt b)]
    by_cases hin:i=n
    · subst hin
      rw [if_pos (by omega)]
      have:(l'++[b]).getD i 0=b:=by simp [List.getD_eq_getElem?_getD,← hl]
      rw [this];congr 1;omega
    · rw [if_neg (by omega)]
      have h1:=ih l' hl i k (by omega) hk
      have h2:(l'++[b]).getD i 0=l'.getD i 0:=by
        simp only [List.getD_eq_getElem?_getD]
        rw [List.getElem?_append_left (by omega)]
      rw [h2,← h1];congr 1;omega
theorem ishr_u8 (a b:Nat) (h:a<256) (hb:b<8):ishr .u8 (a:Int) (b:Int)=((a >>> b:Nat):Int):=by
  unfold ishr
  rw [Int.fdiv_eq_ediv_of_nonneg _ (by exact Int.le_of_lt (Int.pow_pos (by decide))),Nat.shiftRight_eq_div_pow,Int.toNat_natCast]
  have e:((2:Int)^min b IntKind.u8.bits)=((2^b:Nat):Int):=by
    have:min b IntKind.u8.bits=b:=Nat.min_eq_left (by simp [IntKind.bits];omega)
    rw [this];push_cast;rfl
  rw [e,← Int.natCast_ediv]
theorem iand_u8_one (a:Nat) (h:a<256):iand .u8 (a:Int) 1=((a &&& 1:Nat):Int):=by
  have hx:a &&& 1<2^8:=Nat.and_lt_two_pow _ (by decide)
  show IntKind.wrap .u8 ((BitVec.ofInt 8 (a:Int) &&& BitVec.ofInt 8 ((1:Nat):Int)).toNat:Int)=_
  rw [BitVec.toNat_and,ofInt8 a h,ofInt8 1 (by decide),wrap_u8_nat,Nat.mod_eq_of_lt hx]
end Go.AL


/- Plain laws of readers: marks make no difference; bounds. No program. -/
namespace Go.AL
set_option linter.all false

def mkOk (m m':Mark):Prop:=m'=m∨m'=.any
theorem uintR_m (m:Mark) (l:List UInt8) (e w:Int):mkOk m (uintR (m,l,e) w).2.1:=by
  unfold uintR mkOk;dsimp only;repeat' split
  all_goals simp
theorem boolR_m (m:Mark) (l:List UInt8) (e:Int):mkOk m (boolR (m,l,e)).2.1:=by
  unfold boolR mkOk;dsimp only;repeat' split
  all_goals simp
theorem valueR_m (m:Mark) (l:List UInt8) (e:Int):mkOk m (valueR (m,l,e)).2.1:=by
  unfold valueR mkOk;dsimp only;repeat' split
  all_goals simp
theorem bytesR_m (m:Mark) (l:List UInt8) (e w:Int):mkOk m (bytesR (m,l,e) w).2.1:=by
  unfold bytesR mkOk;dsimp only;repeat' split
  all_goals simp
theorem countR_m (m:Mark) (l:List UInt8) (e w:Int):mkOk m (countR (m,l,e) w).2.1:=by
  unfold countR mkOk;dsimp only;repeat' split
  all_goals simp
theorem valueR_lt (m:Mark) (l:List UInt8) (e:Int):(valueR (m,l,e)).1<2^128:=by
  unfold valueR;dsimp only
  repeat' split
  all_goals try (simp;done)
  dsimp only
  unfold parseV
  repeat' split
  all_goals try (simp;done)
  dsimp only
  rename_i h1 h2 h3
  have:=beVal_lt ((l.take (1+(b0 l).toNat)).drop 1)
  have h5:(256:Nat)^((l.take (1+(b0 l).toNat)).drop 1).length≤256^16:=Nat.pow_le_pow_right (by decide) (by omega)
  omega
/-- the rest never grows -/
theorem uintR_l (m:Mark) (l:List UInt8) (e w:Int):(uintR (m,l,e) w).2.2.1.length≤l.length:=by
  unfold uintR;dsimp only;repeat' split
  all_goals simp
theorem boolR_l (m:Mark) (l:List UInt8) (e:Int):(boolR (m,l,e)).2.2.1.length≤l.length:=by
  unfold boolR;dsimp only;repeat' split
  all_goals simp
theorem valueR_l (m:Mark) (l:List UInt8) (e:Int):(valueR (m,l,e)).2.2.1.length≤l.length:=by
  unfold valueR;dsimp only;repeat' split
  all_goals simp
theorem bytesR_l (m:Mark) (l:List UInt8) (e w:Int):(bytesR (m,l,e) w).2.2.1.length≤l.length:=by
  unfold bytesR;dsimp only;repeat' split
  all_goals simp
theorem countR_l (m:Mark) (l:List UInt8) (e w:Int):(countR (m,l,e) w).2.2.1.length≤l.length:=by
  unfold countR;dsimp only;repeat' split
  all_goals simp

end Go.AL


/- Plain laws: what was written is read back. No program. -/
namespace Go.AL
set_option linter.all false

end Go.AL

