/- Contracts and plain laws, a part of the proof; no condition of its own. -/
import Derived.Test.YtiiiljghmilepaaLRead
/- Plain laws of values as bits. No program. -/
namespace Go.AL
set_option linter.all false
/-- the number of a row of bits -/
def gz:List AV→Nat
 |.bool b::t=>(if b then 1 else 0)+2*gz t
 |_=>0
def mB (l:List AV):Prop:=l=bits (gz l)∧gz l<2^128
theorem nX:∀ (n v:Nat),gz ((List.range n).map fun j=>AV.bool (v.testBit j))=v % 2^n
 |0,v=>by simp [gz,Nat.mod_one]
 |n+1,v=>by
  rw [List.range_succ_eq_map,List.map_cons,List.map_map]
  have e:(List.map ((fun j=>AV.bool (v.testBit j)) ∘ Nat.succ) (List.range n))=(List.range n).map fun j=>AV.bool ((v/2).testBit j):=by
   refine List.map_congr_left fun j _=>?_
   simp only [Function.comp,Nat.testBit_succ]
  rw [e]
  simp only [gz]
  rw [nX n (v/2),Nat.testBit_zero,Nat.pow_succ,Nat.mul_comm (2^n) 2,Nat.mod_mul]
  rcases (show v % 2=0∨v % 2=1 by omega) with h|h<;>simp [h]
theorem cC {v:Nat} (h:v<2^128):gz (bits v)=v:=by
 unfold bits;rw [nX,Nat.mod_eq_of_lt h]
theorem gt {v:Nat} (h:v<2^128):mB (bits v)=True:=eq_true ⟨by rw [cC h],by rw [cC h];exact h⟩
theorem j3 {l:List AV} (h:mB l):∃ v,l=bits v∧v<2^128:=⟨_,h⟩
theorem l3 (x i:Nat) (hi:i<64) (h:x.testBit i=true):(x % 2^i) ||| ((1 <<< i) % 2^64)=x % 2^(i+1):=by
 refine Nat.eq_of_testBit_eq fun j=>?_
 rw [Nat.testBit_or,Nat.testBit_mod_two_pow,Nat.testBit_mod_two_pow,Nat.testBit_mod_two_pow,Nat.testBit_shiftLeft]
 by_cases e:j=i
 ·subst e;simp [h,hi]
 ·have h1:decide (j<i+1)=decide (j<i):=by rw [Bool.eq_iff_iff];simp;omega
  have h2:(decide (j ≥ i)&&Nat.testBit 1 (j - i))=false:=by
   by_cases h3:j ≥ i
   ·have:Nat.testBit 1 (j - i)=false:=Nat.testBit_lt_two_pow (Nat.one_lt_two_pow (by omega))
    rw [this,Bool.and_false]
   ·simp [h3]
  rw [h1,h2];simp
theorem jp (x i:Nat) (h:x.testBit i=false):x % 2^(i+1)=x % 2^i:=by
 refine Nat.eq_of_testBit_eq fun j=>?_
 rw [Nat.testBit_mod_two_pow,Nat.testBit_mod_two_pow]
 by_cases e:j=i
 ·subst e;simp [h]
 ·congr 1;rw [Bool.eq_iff_iff];simp;omega
end Go.AL
