/- Contracts and plain laws, a part of the proof; no condition of its own. -/
import Derived.Test.YtiiiljghmilepaaGreatAlByte
/- Plain laws of values: 128 bits as a number. No program. -/
namespace Go.AL
set_option linter.all false
/-- a value's number -/
def vOf (hi lo:Nat):Nat:=2^64*hi+lo
/-- a value as the program has it -/
def vv (v:Nat):AV:=.agg [.int .u64 ((v/2^64:Nat):Int),.int .u64 ((v % 2^64:Nat):Int)]
theorem zJ {hi lo:Nat} (h:lo<2^64):vOf hi lo/2^64=hi:=by unfold vOf;omega
theorem AO {hi lo:Nat} (h:lo<2^64):vOf hi lo % 2^64=lo:=by unfold vOf;omega
theorem tj {hi lo:Nat} (h:hi<2^64) (k:lo<2^64):vOf hi lo<2^128:=by unfold vOf;omega
theorem je (v:Nat):vOf (v/2^64) (v % 2^64)=v:=by unfold vOf;omega
theorem xe {hi lo:Nat} (h:lo<2^64) (j:Nat):(vOf hi lo).testBit j=if j<64 then lo.testBit j else hi.testBit (j - 64):=Nat.testBit_two_pow_mul_add hi h j
/-- the number of bits -/
def bl (n:Nat):Nat:=if n=0 then 0 else n.log2+1
theorem cn {n:Int} (h:0≤n):∃ m:Nat,n=m:=⟨n.toNat,by omega⟩
theorem vh (a b:Nat) (h:a<2^64):sD .u64 (a:Int) (b:Int)=((a >>> b:Nat):Int):=by
 unfold sD
 rw [Int.fdiv_eq_ediv_of_nonneg _ (by exact Int.le_of_lt (Int.pow_pos (by decide))),Nat.shiftRight_eq_div_pow,Int.toNat_natCast]
 have e:((2:Int)^min b IntKind.u64.bits)=((2^min b 64:Nat):Int):=by push_cast;rfl
 rw [e,← Int.natCast_ediv]
 congr 1
 by_cases hb:b≤64
 ·rw [Nat.min_eq_left hb]
 ·rw [Nat.min_eq_right (by omega),Nat.div_eq_of_lt h,Nat.div_eq_of_lt]
  exact Nat.lt_of_lt_of_le h (Nat.pow_le_pow_right (by decide) (by omega))
theorem jO (a:Nat):IntKind.wrap .u64 (a:Int)=((a % 2^64:Nat):Int):=by
 have:IntKind.wrap .u64 (a:Int)=(a:Int) % 18446744073709551616:=by simp [IntKind.wrap,IntKind.signed,IntKind.bits]
 rw [this];omega
theorem oJ (a:Nat) (h:a<2^64):(BitVec.ofInt 64 (a:Int)).toNat=a:=by
 rw [BitVec.ofInt_natCast,BitVec.toNat_ofNat];exact Nat.mod_eq_of_lt h
theorem tL (a b:Nat) (h:a<2^64) (k:b<2^64):qA .u64 (a:Int) (b:Int)=((a &&& b:Nat):Int):=by
 have hx:a &&& b<2^64:=Nat.and_lt_two_pow _ k
 show IntKind.wrap .u64 ((BitVec.ofInt 64 (a:Int) &&& BitVec.ofInt 64 (b:Int)).toNat:Int)=_
 rw [BitVec.toNat_and,oJ a h,oJ b k,jO,Nat.mod_eq_of_lt hx]
theorem xd (a b:Nat) (h:a<2^64) (k:b<2^64):ior .u64 (a:Int) (b:Int)=((a ||| b:Nat):Int):=by
 have hx:a ||| b<2^64:=Nat.or_lt_two_pow h k
 show IntKind.wrap .u64 ((BitVec.ofInt 64 (a:Int) ||| BitVec.ofInt 64 (b:Int)).toNat:Int)=_
 rw [BitVec.toNat_or,oJ a h,oJ b k,jO,Nat.mod_eq_of_lt hx]
theorem BH (a b:Nat):yb .u64 (a:Int) (b:Int)=(((a <<< b) % 2^64:Nat):Int):=by
 unfold yb
 rw [Nat.shiftLeft_eq,Int.toNat_natCast]
 have e:((a:Int)*(2:Int)^min b IntKind.u64.bits)=((a*2^min b 64:Nat):Int):=by push_cast;rfl
 rw [e,jO]
 congr 1
 by_cases hb:b≤64
 ·rw [Nat.min_eq_left hb]
 ·rw [Nat.min_eq_right (by omega),show b=64+(b - 64) by omega,Nat.pow_add,← Nat.mul_assoc,Nat.mul_mod_left,Nat.mul_assoc,Nat.mul_comm (2^64) _,← Nat.mul_assoc,Nat.mul_mod_left]
theorem zr {a n k:Nat} (h:a<2^k):a >>> n<2^k:=Nat.lt_of_le_of_lt (Nat.shiftRight_le a n) h
/-- the bits of a value, the last first -/
def bits (v:Nat):List AV:=(List.range 128).map fun j=>.bool (v.testBit j)
/-- some bits are aV -/
def b8 (v:Nat) (p:Nat→Bool):List AV:=(List.range 128).map fun j=>.bool (p j&&v.testBit j)
theorem cY (v:Nat):(bits v).length=128:=by simp [bits]
theorem l4 (v:Nat) (p:Nat→Bool):(b8 v p).length=128:=by simp [b8]
theorem l7 (v:Nat) (p:Nat→Bool) (h:∀ j,j<128→p j=true):b8 v p=bits v:=by
 unfold b8 bits
 refine List.map_congr_left fun j hj=>?_
 rw [h j (List.mem_range.1 hj),Bool.true_and]
theorem ki (v:Nat) (p:Nat→Bool) (h:∀ j,j<128→p j=false):b8 v p=List.replicate 128 (.bool false):=by
 unfold b8
 rw [List.eq_replicate_iff]
 refine ⟨by simp,fun b hb=>?_⟩
 obtain ⟨j,hj,rfl⟩:=List.mem_map.1 hb
 rw [h j (List.mem_range.1 hj),Bool.false_and]
theorem ig:∀ (l:List AV) (n:Nat) (x:AV),splice l n [x]=l.set n x
 |[],n,x=>by simp [splice]
 |a::l,0,x=>by
  have:∀ m:List AV,splice m 0 []=m:=fun m=>by cases m<;>rfl
  simp [splice,this]
 |a::l,n+1,x=>by simp [splice,ig l n x]
theorem jS (v:Nat) (p q:Nat→Bool) (i:Nat) (h:∀ j,j≠i→p j=q j) (hq:q i=true):(b8 v p).set i (.bool (v.testBit i))=b8 v q:=by
 unfold b8
 refine List.ext_getElem (by simp) fun j h1 h2=>?_
 simp only [List.getElem_set,List.getElem_map,List.getElem_range]
 by_cases hj:i=j
 ·subst hj;rw [if_pos rfl,hq,Bool.true_and]
 ·rw [if_neg hj,h j (fun e=>hj e.symm)]
theorem kO (v i:Nat) (h:i<128):(bits v).getD i .junk=.bool (v.testBit i):=by
 simp [bits,List.getD_eq_getElem?_getD,h]
theorem gG {n v:Nat}:ltL n (bits v)=True:=eq_true (ltL_iff.2 fun j hj=>by
 simp only [bits,List.getElem_map]
 rw [AV.lt]<;>simp)
theorem pK {n v:Nat} {p:Nat→Bool}:ltL n (b8 v p)=True:=eq_true (ltL_iff.2 fun j hj=>by
 simp only [b8,List.getElem_map]
 rw [AV.lt]<;>simp)
theorem kp {v:Nat}:bg (bits v)=true:=by
 unfold bits bg;rw [List.all_map];exact List.all_eq_true.2 fun x _=>rfl
theorem B7 (a i:Nat):(((a >>> i &&& 1:Nat):Int)==1)=a.testBit i:=by
 have h:a >>> i &&& 1<2:=by rw [Nat.and_one_is_mod];omega
 rw [Nat.testBit,Nat.and_comm 1]
 generalize a >>> i &&& 1=b at h ⊢
 rcases (show b=0∨b=1 by omega) with rfl|rfl<;>rfl
theorem uZ (a:Nat) (h:a<2^64):qA .u64 (a:Int) 1=((a &&& 1:Nat):Int):=tL a 1 h (by decide)
theorem gk {n:Nat} {x y:AV} {ys:List AV} (h:ys.length=n):splice (List.replicate n x) 0 ys=ys:=by
 rw [lz _ _ _ (by simp [h])];simp [h]
end Go.AL
