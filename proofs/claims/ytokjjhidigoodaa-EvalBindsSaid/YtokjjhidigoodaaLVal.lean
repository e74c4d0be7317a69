/- Contracts and plain laws, a part of the proof; no condition of its own. -/
import Derived.Test.YtokjjhidigoodaaProg
import Derived.Test.YtokjjhidigoodaaAlBun
import Derived.Test.YtokjjhidigoodaaAlByte
open Go Go.AL Go.Proofs
namespace Go.AL
set_option linter.all false
theorem aD:Try.prog.follows .mixedOrders=true:=by kernel_rfl
end Go.AL
/- Plain laws of values: 128 bits as a number. No program. -/
namespace Go.AL
set_option linter.all false
/-- a value's number -/
def vOf (hi lo:Nat):Nat:=2^64*hi+lo
/-- a value as the program has it -/
def vv (v:Nat):AV:=.agg [.int .u64 ((v/2^64:Nat):Int),.int .u64 ((v % 2^64:Nat):Int)]
theorem oa {hi lo:Nat} (h:lo<2^64):vOf hi lo/2^64=hi:=by unfold vOf;omega
theorem vo {hi lo:Nat} (h:lo<2^64):vOf hi lo % 2^64=lo:=by unfold vOf;omega
theorem Dq {hi lo:Nat} (h:hi<2^64) (k:lo<2^64):vOf hi lo<2^128:=by unfold vOf;omega
theorem zq (v:Nat):vOf (v/2^64) (v % 2^64)=v:=by unfold vOf;omega
theorem A8 {hi lo:Nat} (h:lo<2^64):vv (vOf hi lo)=.agg [.int .u64 (hi:Int),.int .u64 (lo:Int)]:=by unfold vv;rw [oa h,vo h]
theorem Cu {hi lo:Nat} (h:lo<2^64) (j:Nat):(vOf hi lo).testBit j=if j<64 then lo.testBit j else hi.testBit (j - 64):=Nat.testBit_two_pow_mul_add hi h j
/-- the number of bits -/
def bl (n:Nat):Nat:=if n=0 then 0 else n.log2+1
theorem eB {n:Int} (h:0≤n):∃ m:Nat,n=m:=⟨n.toNat,by omega⟩
theorem oB (a b:Nat) (h:a<2^64):ku .u64 (a:Int) (b:Int)=((a >>> b:Nat):Int):=by
 unfold ku
 rw [Int.fdiv_eq_ediv_of_nonneg _ (by exact Int.le_of_lt (Int.pow_pos (by decide))),Nat.shiftRight_eq_div_pow,Int.toNat_natCast]
 have e:((2:Int)^min b IntKind.u64.bits)=((2^min b 64:Nat):Int):=by push_cast;rfl
 rw [e,← Int.natCast_ediv]
 congr 1
 by_cases hb:b≤64
 ·rw [Nat.min_eq_left hb]
 ·rw [Nat.min_eq_right (by omega),Nat.div_eq_of_lt h,Nat.div_eq_of_lt]
  exact Nat.lt_of_lt_of_le h (Nat.pow_le_pow_right (by decide) (by omega))
theorem gr (a:Nat):IntKind.wrap .u64 (a:Int)=((a % 2^64:Nat):Int):=by
 have:IntKind.wrap .u64 (a:Int)=(a:Int) % 18446744073709551616:=by simp [IntKind.wrap,IntKind.signed,IntKind.bits]
 rw [this];omega
theorem kr (a:Nat) (h:a<2^64):(BitVec.ofInt 64 (a:Int)).toNat=a:=by
 rw [BitVec.ofInt_natCast,BitVec.toNat_ofNat];exact Nat.mod_eq_of_lt h
theorem Am (a b:Nat) (h:a<2^64) (k:b<2^64):yH .u64 (a:Int) (b:Int)=((a &&& b:Nat):Int):=by
 have hx:a &&& b<2^64:=Nat.and_lt_two_pow _ k
 show IntKind.wrap .u64 ((BitVec.ofInt 64 (a:Int) &&& BitVec.ofInt 64 (b:Int)).toNat:Int)=_
 rw [BitVec.toNat_and,kr a h,kr b k,gr,Nat.mod_eq_of_lt hx]
theorem rW (a b:Nat) (h:a<2^64) (k:b<2^64):ior .u64 (a:Int) (b:Int)=((a ||| b:Nat):Int):=by
 have hx:a ||| b<2^64:=Nat.or_lt_two_pow h k
 show IntKind.wrap .u64 ((BitVec.ofInt 64 (a:Int) ||| BitVec.ofInt 64 (b:Int)).toNat:Int)=_
 rw [BitVec.toNat_or,kr a h,kr b k,gr,Nat.mod_eq_of_lt hx]
theorem yR (a b:Nat) (h:a<2^64) (k:b<2^64):xr .u64 (a:Int) (b:Int)=((a ^^^ b:Nat):Int):=by
 have hx:a ^^^ b<2^64:=Nat.xor_lt_two_pow h k
 show IntKind.wrap .u64 ((BitVec.ofInt 64 (a:Int) ^^^ BitVec.ofInt 64 (b:Int)).toNat:Int)=_
 rw [BitVec.toNat_xor,kr a h,kr b k,gr,Nat.mod_eq_of_lt hx]
theorem tu (a b:Nat):wK .u64 (a:Int) (b:Int)=(((a <<< b) % 2^64:Nat):Int):=by
 unfold wK
 rw [Nat.shiftLeft_eq,Int.toNat_natCast]
 have e:((a:Int)*(2:Int)^min b IntKind.u64.bits)=((a*2^min b 64:Nat):Int):=by push_cast;rfl
 rw [e,gr]
 congr 1
 by_cases hb:b≤64
 ·rw [Nat.min_eq_left hb]
 ·rw [Nat.min_eq_right (by omega),show b=64+(b - 64) by omega,Nat.pow_add,← Nat.mul_assoc,Nat.mul_mod_left,Nat.mul_assoc,Nat.mul_comm (2^64) _,← Nat.mul_assoc,Nat.mul_mod_left]
/-- Right -/
theorem zj (hi lo n:Nat) (h:lo<2^64) (hn:n<64):(vOf hi lo >>> n) % 2^64=(lo >>> n) ||| ((hi <<< (64 - n)) % 2^64):=by
 refine Nat.eq_of_testBit_eq fun j=>?_
 rw [Nat.testBit_or,Nat.testBit_mod_two_pow,Nat.testBit_mod_two_pow,Nat.testBit_shiftRight,Nat.testBit_shiftRight,Nat.testBit_shiftLeft,Cu h]
 by_cases h1:j<64
 ·by_cases h2:n+j<64
  ·simp [h1,h2,show ¬ (64≤j+n) by omega]
  ·have:lo.testBit (n+j)=false:=Nat.testBit_lt_two_pow (Nat.lt_of_lt_of_le h (Nat.pow_le_pow_right (by decide) (by omega)))
   simp [h1,h2,this]
   rw [show n+j - 64=j - (64 - n) by omega]
   simp;omega
 ·have:lo.testBit (n+j)=false:=Nat.testBit_lt_two_pow (Nat.lt_of_lt_of_le h (Nat.pow_le_pow_right (by decide) (by omega)))
  simp [h1,this]
theorem A6 (hi lo n:Nat) (h:lo<2^64):(vOf hi lo >>> n)/2^64=hi >>> n:=by
 rw [Nat.shiftRight_eq_div_pow,Nat.shiftRight_eq_div_pow,Nat.div_div_eq_div_mul,Nat.mul_comm,← Nat.div_div_eq_div_mul,oa h]
theorem ym (hi lo n:Nat) (h:lo<2^64) (k:hi<2^64) (hn:64≤n):vOf hi lo >>> n=hi >>> (n - 64):=by
 rw [show n=64+(n - 64) by omega,Nat.shiftRight_add,Nat.add_sub_cancel_left]
 congr 1
 rw [Nat.shiftRight_eq_div_pow,oa h]
theorem Aw {a n k:Nat} (h:a<2^k):a >>> n<2^k:=Nat.lt_of_le_of_lt (Nat.shiftRight_le a n) h
/-- the bits of a value, the last first -/
def bits (v:Nat):List AV:=(List.range 128).map fun j=>.bool (v.testBit j)
theorem iI (v:Nat):(bits v).length=128:=by simp [bits]
theorem kV:∀ (l:List AV) (n:Nat) (x:AV),splice l n [x]=l.set n x
 |[],n,x=>by simp [splice]
 |a::l,0,x=>by
  have:∀ m:List AV,splice m 0 []=m:=fun m=>by cases m<;>rfl
  simp [splice,this]
 |a::l,n+1,x=>by simp [splice,kV l n x]
theorem tq (v i:Nat) (h:i<128):(bits v).getD i .junk=.bool (v.testBit i):=by
 simp [bits,List.getD_eq_getElem?_getD,h]
theorem uf {v:Nat}:aW (bits v)=true:=by
 unfold bits aW;rw [List.all_map];exact List.all_eq_true.2 fun x _=>rfl
end Go.AL
