/- Contracts and plain laws, a part of the proof; no condition of its own. -/
import Derived.Test.YtcnkffeikmkeiaaGreatProg
import Derived.Test.YtcnkffeikmkeiaaGreatAlBun
import Derived.Test.YtcnkffeikmkeiaaGreatAlByte
open Go Go.AL Go.Proofs
namespace Go.AL
set_option linter.all false
theorem aA:Tryz.prog.follows .mixedOrders=true:=by kernel_rfl
end Go.AL
/- Plain laws of values: 128 bits as a number. No program. -/
namespace Go.AL
set_option linter.all false
/-- a value's number -/
def vOf (hi lo:Nat):Nat:=2^64*hi+lo
/-- a value as the program has it -/
def vv (v:Nat):AV:=.agg [.int .u64 ((v/2^64:Nat):Int),.int .u64 ((v % 2^64:Nat):Int)]
theorem pj {hi lo:Nat} (h:lo<2^64):vOf hi lo/2^64=hi:=by unfold vOf;omega
theorem uZ {hi lo:Nat} (h:lo<2^64):vOf hi lo % 2^64=lo:=by unfold vOf;omega
theorem oG {hi lo:Nat} (h:hi<2^64) (k:lo<2^64):vOf hi lo<2^128:=by unfold vOf;omega
theorem iz (v:Nat):vOf (v/2^64) (v % 2^64)=v:=by unfold vOf;omega
theorem AU {hi lo:Nat} (h:lo<2^64):vv (vOf hi lo)=.agg [.int .u64 (hi:Int),.int .u64 (lo:Int)]:=by unfold vv;rw [pj h,uZ h]
theorem sH {hi lo:Nat} (h:lo<2^64) (j:Nat):(vOf hi lo).testBit j=if j<64 then lo.testBit j else hi.testBit (j - 64):=Nat.testBit_two_pow_mul_add hi h j
/-- the number of bits -/
def bl (n:Nat):Nat:=if n=0 then 0 else n.log2+1
theorem bJ {n:Int} (h:0≤n):∃ m:Nat,n=m:=⟨n.toNat,by omega⟩
theorem jz (a b:Nat) (h:a<2^64):kx .u64 (a:Int) (b:Int)=((a >>> b:Nat):Int):=by
 unfold kx
 rw [Int.fdiv_eq_ediv_of_nonneg _ (by exact Int.le_of_lt (Int.pow_pos (by decide))),Nat.shiftRight_eq_div_pow,Int.toNat_natCast]
 have e:((2:Int)^min b IntKind.u64.bits)=((2^min b 64:Nat):Int):=by push_cast;rfl
 rw [e,← Int.natCast_ediv]
 congr 1
 by_cases hb:b≤64
 ·rw [Nat.min_eq_left hb]
 ·rw [Nat.min_eq_right (by omega),Nat.div_eq_of_lt h,Nat.div_eq_of_lt]
  exact Nat.lt_of_lt_of_le h (Nat.pow_le_pow_right (by decide) (by omega))
theorem gu (a:Nat):IntKind.wrap .u64 (a:Int)=((a % 2^64:Nat):Int):=by
 have:IntKind.wrap .u64 (a:Int)=(a:Int) % 18446744073709551616:=by simp [IntKind.wrap,IntKind.signed,IntKind.bits]
 rw [this];omega
theorem j9 (a:Nat) (h:a<2^64):(BitVec.ofInt 64 (a:Int)).toNat=a:=by
 rw [BitVec.ofInt_natCast,BitVec.toNat_ofNat];exact Nat.mod_eq_of_lt h
theorem ug (a b:Nat) (h:a<2^64) (k:b<2^64):vH .u64 (a:Int) (b:Int)=((a &&& b:Nat):Int):=by
 have hx:a &&& b<2^64:=Nat.and_lt_two_pow _ k
 show IntKind.wrap .u64 ((BitVec.ofInt 64 (a:Int) &&& BitVec.ofInt 64 (b:Int)).toNat:Int)=_
 rw [BitVec.toNat_and,j9 a h,j9 b k,gu,Nat.mod_eq_of_lt hx]
theorem rZ (a b:Nat) (h:a<2^64) (k:b<2^64):ior .u64 (a:Int) (b:Int)=((a ||| b:Nat):Int):=by
 have hx:a ||| b<2^64:=Nat.or_lt_two_pow h k
 show IntKind.wrap .u64 ((BitVec.ofInt 64 (a:Int) ||| BitVec.ofInt 64 (b:Int)).toNat:Int)=_
 rw [BitVec.toNat_or,j9 a h,j9 b k,gu,Nat.mod_eq_of_lt hx]
theorem Bl (a b:Nat) (h:a<2^64) (k:b<2^64):yQ .u64 (a:Int) (b:Int)=((a ^^^ b:Nat):Int):=by
 have hx:a ^^^ b<2^64:=Nat.xor_lt_two_pow h k
 show IntKind.wrap .u64 ((BitVec.ofInt 64 (a:Int) ^^^ BitVec.ofInt 64 (b:Int)).toNat:Int)=_
 rw [BitVec.toNat_xor,j9 a h,j9 b k,gu,Nat.mod_eq_of_lt hx]
theorem uC (a b:Nat):yd .u64 (a:Int) (b:Int)=(((a <<< b) % 2^64:Nat):Int):=by
 unfold yd
 rw [Nat.shiftLeft_eq,Int.toNat_natCast]
 have e:((a:Int)*(2:Int)^min b IntKind.u64.bits)=((a*2^min b 64:Nat):Int):=by push_cast;rfl
 rw [e,gu]
 congr 1
 by_cases hb:b≤64
 ·rw [Nat.min_eq_left hb]
 ·rw [Nat.min_eq_right (by omega),show b=64+(b - 64) by omega,Nat.pow_add,← Nat.mul_assoc,Nat.mul_mod_left,Nat.mul_assoc,Nat.mul_comm (2^64) _,← Nat.mul_assoc,Nat.mul_mod_left]
/-- Right -/
theorem Bn (hi lo n:Nat) (h:lo<2^64) (hn:n<64):(vOf hi lo >>> n) % 2^64=(lo >>> n) ||| ((hi <<< (64 - n)) % 2^64):=by
 refine Nat.eq_of_testBit_eq fun j=>?_
 rw [Nat.testBit_or,Nat.testBit_mod_two_pow,Nat.testBit_mod_two_pow,Nat.testBit_shiftRight,Nat.testBit_shiftRight,Nat.testBit_shiftLeft,sH h]
 by_cases h1:j<64
 ·by_cases h2:n+j<64
  ·simp [h1,h2,show ¬ (64≤j+n) by omega]
  ·have:lo.testBit (n+j)=false:=Nat.testBit_lt_two_pow (Nat.lt_of_lt_of_le h (Nat.pow_le_pow_right (by decide) (by omega)))
   simp [h1,h2,this]
   rw [show n+j - 64=j - (64 - n) by omega]
   simp;omega
 ·have:lo.testBit (n+j)=false:=Nat.testBit_lt_two_pow (Nat.lt_of_lt_of_le h (Nat.pow_le_pow_right (by decide) (by omega)))
  simp [h1,this]
theorem Bk (hi lo n:Nat) (h:lo<2^64):(vOf hi lo >>> n)/2^64=hi >>> n:=by
 rw [Nat.shiftRight_eq_div_pow,Nat.shiftRight_eq_div_pow,Nat.div_div_eq_div_mul,Nat.mul_comm,← Nat.div_div_eq_div_mul,pj h]
theorem xD (hi lo n:Nat) (h:lo<2^64) (k:hi<2^64) (hn:64≤n):vOf hi lo >>> n=hi >>> (n - 64):=by
 rw [show n=64+(n - 64) by omega,Nat.shiftRight_add,Nat.add_sub_cancel_left]
 congr 1
 rw [Nat.shiftRight_eq_div_pow,pj h]
theorem sf {a n k:Nat} (h:a<2^k):a >>> n<2^k:=Nat.lt_of_le_of_lt (Nat.shiftRight_le a n) h
/-- the bits of a value, the last first -/
def bits (v:Nat):List AV:=(List.range 128).map fun j=>.bool (v.testBit j)
/-- some bits are bg -/
def bQ (v:Nat) (p:Nat→Bool):List AV:=(List.range 128).map fun j=>.bool (p j&&v.testBit j)
theorem ca (v:Nat):(bits v).length=128:=by simp [bits]
theorem kY (v:Nat) (p:Nat→Bool):(bQ v p).length=128:=by simp [bQ]
theorem lq (v:Nat) (p:Nat→Bool) (h:∀ j,j<128→p j=true):bQ v p=bits v:=by
 unfold bQ bits
 refine List.map_congr_left fun j hj=>?_
 rw [h j (List.mem_range.1 hj),Bool.true_and]
theorem j0 (v:Nat) (p:Nat→Bool) (h:∀ j,j<128→p j=false):bQ v p=List.replicate 128 (.bool false):=by
 unfold bQ
 rw [List.eq_replicate_iff]
 refine ⟨by simp,fun b hb=>?_⟩
 obtain ⟨j,hj,rfl⟩:=List.mem_map.1 hb
 rw [h j (List.mem_range.1 hj),Bool.false_and]
theorem je:∀ (l:List AV) (n:Nat) (x:AV),splice l n [x]=l.set n x
 |[],n,x=>by simp [splice]
 |a::l,0,x=>by
  have:∀ m:List AV,splice m 0 []=m:=fun m=>by cases m<;>rfl
  simp [splice,this]
 |a::l,n+1,x=>by simp [splice,je l n x]
theorem jd (v:Nat) (p q:Nat→Bool) (i:Nat) (h:∀ j,j≠i→p j=q j) (hq:q i=true):(bQ v p).set i (.bool (v.testBit i))=bQ v q:=by
 unfold bQ
 refine List.ext_getElem (by simp) fun j h1 h2=>?_
 simp only [List.getElem_set,List.getElem_map,List.getElem_range]
 by_cases hj:i=j
 ·subst hj;rw [if_pos rfl,hq,Bool.true_and]
 ·rw [if_neg hj,h j (fun e=>hj e.symm)]
theorem iO (v i:Nat) (h:i<128):(bits v).getD i .junk=.bool (v.testBit i):=by
 simp [bits,List.getD_eq_getElem?_getD,h]
theorem cx {n v:Nat}:ltL n (bits v)=True:=eq_true (ltL_iff.2 fun j hj=>by
 simp only [bits,List.getElem_map]
 rw [AV.lt]<;>simp)
theorem oH {n v:Nat} {p:Nat→Bool}:ltL n (bQ v p)=True:=eq_true (ltL_iff.2 fun j hj=>by
 simp only [bQ,List.getElem_map]
 rw [AV.lt]<;>simp)
theorem gZ {v:Nat}:bb (bits v)=true:=by
 unfold bits bb;rw [List.all_map];exact List.all_eq_true.2 fun x _=>rfl
theorem CY (a i:Nat):(((a >>> i &&& 1:Nat):Int)==1)=a.testBit i:=by
 have h:a >>> i &&& 1<2:=by rw [Nat.and_one_is_mod];omega
 rw [Nat.testBit,Nat.and_comm 1]
 generalize a >>> i &&& 1=b at h ⊢
 rcases (show b=0∨b=1 by omega) with rfl|rfl<;>rfl
theorem ud (a:Nat) (h:a<2^64):vH .u64 (a:Int) 1=((a &&& 1:Nat):Int):=ug a 1 h (by decide)
theorem eu {n:Nat} {x y:AV} {ys:List AV} (h:ys.length=n):splice (List.replicate n x) 0 ys=ys:=by
 rw [kS _ _ _ (by simp [h])];simp [h]
end Go.AL
