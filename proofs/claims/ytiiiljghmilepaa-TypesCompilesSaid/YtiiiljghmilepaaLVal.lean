/- Contracts and plain laws, a part of the proof; no condition of its own. -/
import Derived.Test.YtiiiljghmilepaaAlByte
/- Plain laws of values: 128 bits as a number. No program. -/
namespace Go.AL
set_option linter.all false
/-- a value's number -/
def vOf (hi lo:Nat):Nat:=2^64*hi+lo
/-- a value as the program has it -/
def vv (v:Nat):AV:=.agg [.int .u64 ((v/2^64:Nat):Int),.int .u64 ((v % 2^64:Nat):Int)]
theorem wA {hi lo:Nat} (h:lo<2^64):vOf hi lo/2^64=hi:=by unfold vOf;omega
theorem xB {hi lo:Nat} (h:lo<2^64):vOf hi lo % 2^64=lo:=by unfold vOf;omega
theorem pt {hi lo:Nat} (h:hi<2^64) (k:lo<2^64):vOf hi lo<2^128:=by unfold vOf;omega
theorem gP (v:Nat):vOf (v/2^64) (v % 2^64)=v:=by unfold vOf;omega
theorem tv {hi lo:Nat} (h:lo<2^64) (j:Nat):(vOf hi lo).testBit j=if j<64 then lo.testBit j else hi.testBit (j - 64):=Nat.testBit_two_pow_mul_add hi h j
/-- the number of bits -/
def bl (n:Nat):Nat:=if n=0 then 0 else n.log2+1
theorem bQ {n:Int} (h:0≤n):∃ m:Nat,n=m:=⟨n.toNat,by omega⟩
theorem qX (a b:Nat) (h:a<2^64):qc .u64 (a:Int) (b:Int)=((a >>> b:Nat):Int):=by
 unfold qc
 rw [Int.fdiv_eq_ediv_of_nonneg _ (by exact Int.le_of_lt (Int.pow_pos (by decide))),Nat.shiftRight_eq_div_pow,Int.toNat_natCast]
 have e:((2:Int)^min b IntKind.u64.bits)=((2^min b 64:Nat):Int):=by push_cast;rfl
 rw [e,← Int.natCast_ediv]
 congr 1
 by_cases hb:b≤64
 ·rw [Nat.min_eq_left hb]
 ·rw [Nat.min_eq_right (by omega),Nat.div_eq_of_lt h,Nat.div_eq_of_lt]
  exact Nat.lt_of_lt_of_le h (Nat.pow_le_pow_right (by decide) (by omega))
theorem hU (a:Nat):IntKind.wrap .u64 (a:Int)=((a % 2^64:Nat):Int):=by
 have:IntKind.wrap .u64 (a:Int)=(a:Int) % 18446744073709551616:=by simp [IntKind.wrap,IntKind.signed,IntKind.bits]
 rw [this];omega
theorem l6 (a:Nat) (h:a<2^64):(BitVec.ofInt 64 (a:Int)).toNat=a:=by
 rw [BitVec.ofInt_natCast,BitVec.toNat_ofNat];exact Nat.mod_eq_of_lt h
theorem rm (a b:Nat) (h:a<2^64) (k:b<2^64):sV .u64 (a:Int) (b:Int)=((a &&& b:Nat):Int):=by
 have hx:a &&& b<2^64:=Nat.and_lt_two_pow _ k
 show IntKind.wrap .u64 ((BitVec.ofInt 64 (a:Int) &&& BitVec.ofInt 64 (b:Int)).toNat:Int)=_
 rw [BitVec.toNat_and,l6 a h,l6 b k,hU,Nat.mod_eq_of_lt hx]
theorem tY (a b:Nat) (h:a<2^64) (k:b<2^64):ior .u64 (a:Int) (b:Int)=((a ||| b:Nat):Int):=by
 have hx:a ||| b<2^64:=Nat.or_lt_two_pow h k
 show IntKind.wrap .u64 ((BitVec.ofInt 64 (a:Int) ||| BitVec.ofInt 64 (b:Int)).toNat:Int)=_
 rw [BitVec.toNat_or,l6 a h,l6 b k,hU,Nat.mod_eq_of_lt hx]
theorem wl (a b:Nat):vf .u64 (a:Int) (b:Int)=(((a <<< b) % 2^64:Nat):Int):=by
 unfold vf
 rw [Nat.shiftLeft_eq,Int.toNat_natCast]
 have e:((a:Int)*(2:Int)^min b IntKind.u64.bits)=((a*2^min b 64:Nat):Int):=by push_cast;rfl
 rw [e,hU]
 congr 1
 by_cases hb:b≤64
 ·rw [Nat.min_eq_left hb]
 ·rw [Nat.min_eq_right (by omega),show b=64+(b - 64) by omega,Nat.pow_add,← Nat.mul_assoc,Nat.mul_mod_left,Nat.mul_assoc,Nat.mul_comm (2^64) _,← Nat.mul_assoc,Nat.mul_mod_left]
theorem wj {a n k:Nat} (h:a<2^k):a >>> n<2^k:=Nat.lt_of_le_of_lt (Nat.shiftRight_le a n) h
/-- the bits of a value, the last first -/
def bits (v:Nat):List AV:=(List.range 128).map fun j=>.bool (v.testBit j)
/-- some bits are aZ -/
def bH (v:Nat) (p:Nat→Bool):List AV:=(List.range 128).map fun j=>.bool (p j&&v.testBit j)
theorem ct (v:Nat):(bits v).length=128:=by simp [bits]
theorem ki (v:Nat) (p:Nat→Bool):(bH v p).length=128:=by simp [bH]
theorem j0 (v:Nat) (p:Nat→Bool) (h:∀ j,j<128→p j=true):bH v p=bits v:=by
 unfold bH bits
 refine List.map_congr_left fun j hj=>?_
 rw [h j (List.mem_range.1 hj),Bool.true_and]
theorem jh (v:Nat) (p:Nat→Bool) (h:∀ j,j<128→p j=false):bH v p=List.replicate 128 (.bool false):=by
 unfold bH
 rw [List.eq_replicate_iff]
 refine ⟨by simp,fun b hb=>?_⟩
 obtain ⟨j,hj,rfl⟩:=List.mem_map.1 hb
 rw [h j (List.mem_range.1 hj),Bool.false_and]
theorem hZ:∀ (l:List AV) (n:Nat) (x:AV),splice l n [x]=l.set n x
 |[],n,x=>by simp [splice]
 |a::l,0,x=>by
  have:∀ m:List AV,splice m 0 []=m:=fun m=>by cases m<;>rfl
  simp [splice,this]
 |a::l,n+1,x=>by simp [splice,hZ l n x]
theorem ir (v:Nat) (p q:Nat→Bool) (i:Nat) (h:∀ j,j≠i→p j=q j) (hq:q i=true):(bH v p).set i (.bool (v.testBit i))=bH v q:=by
 unfold bH
 refine List.ext_getElem (by simp) fun j h1 h2=>?_
 simp only [List.getElem_set,List.getElem_map,List.getElem_range]
 by_cases hj:i=j
 ·subst hj;rw [if_pos rfl,hq,Bool.true_and]
 ·rw [if_neg hj,h j (fun e=>hj e.symm)]
theorem i5 (v i:Nat) (h:i<128):(bits v).getD i .junk=.bool (v.testBit i):=by
 simp [bits,List.getD_eq_getElem?_getD,h]
theorem fe {n v:Nat}:ltL n (bits v)=True:=eq_true (ltL_iff.2 fun j hj=>by
 simp only [bits,List.getElem_map]
 rw [AV.lt]<;>simp)
theorem mh {n v:Nat} {p:Nat→Bool}:ltL n (bH v p)=True:=eq_true (ltL_iff.2 fun j hj=>by
 simp only [bH,List.getElem_map]
 rw [AV.lt]<;>simp)
theorem jc {v:Nat}:aX (bits v)=true:=by
 unfold bits aX;rw [List.all_map];exact List.all_eq_true.2 fun x _=>rfl
theorem yl (a i:Nat):(((a >>> i &&& 1:Nat):Int)==1)=a.testBit i:=by
 have h:a >>> i &&& 1<2:=by rw [Nat.and_one_is_mod];omega
 rw [Nat.testBit,Nat.and_comm 1]
 generalize a >>> i &&& 1=b at h ⊢
 rcases (show b=0∨b=1 by omega) with rfl|rfl<;>rfl
theorem rI (a:Nat) (h:a<2^64):sV .u64 (a:Int) 1=((a &&& 1:Nat):Int):=rm a 1 h (by decide)
theorem eZ {n:Nat} {x y:AV} {ys:List AV} (h:ys.length=n):splice (List.replicate n x) 0 ys=ys:=by
 rw [jH _ _ _ (by simp [h])];simp [h]
end Go.AL
