/- Lemmas of the proof; no condition. -/
import Derived.Test.YtpofmhikcgkdhaaGreatProg
import Derived.Test.YtpofmhikcgkdhaaGreatAlBun
import Derived.Test.YtpofmhikcgkdhaaGreatAlByte
set_option linter.all false
open Go Go.AL Go.Proofs
namespace Go.AL
theorem aE:Tryz.prog.follows .mixedOrders=true:=by kernel_rfl
def vOf (hi lo:Nat):Nat:=2^64*hi+lo
def vv (v:Nat):AV:=.agg [.int .u64 ((v/2^64:Nat):Int),.int .u64 ((v % 2^64:Nat):Int)]
theorem yS {hi lo:Nat} (h:lo<2^64):vOf hi lo/2^64=hi:=by unfold vOf;omega
theorem yQ {hi lo:Nat} (h:lo<2^64):vOf hi lo % 2^64=lo:=by unfold vOf;omega
theorem om {hi lo:Nat} (h:hi<2^64) (k:lo<2^64):vOf hi lo<2^128:=by unfold vOf;omega
theorem iT (v:Nat):vOf (v/2^64) (v % 2^64)=v:=by unfold vOf;omega
theorem wl {hi lo:Nat} (h:lo<2^64) (j:Nat):(vOf hi lo).testBit j=if j<64 then lo.testBit j else hi.testBit (j - 64):=Nat.testBit_two_pow_mul_add hi h j
def bl (n:Nat):Nat:=if n=0 then 0 else n.log2+1
theorem bl_le {n k:Nat}:bl n≤k↔n<2^k:=by
 unfold bl
 by_cases h:n=0
 ·subst h;simp [Nat.two_pow_pos]
 ·rw [if_neg h,← Nat.log2_lt h];omega
theorem zM (n s:Nat) (h:2^s≤n):bl n=s+bl (n >>> s):=by
 have h0:n≠0:=by have:=Nat.two_pow_pos s;omega
 have h1:n >>> s≠0:=by rw [Nat.shiftRight_eq_div_pow];have:=Nat.div_pos h (Nat.two_pow_pos s);omega
 have key:∀ k,bl (n >>> s)≤k↔bl n≤s+k:=by
  intro k
  rw [bl_le,bl_le,Nat.shiftRight_eq_div_pow,Nat.div_lt_iff_lt_mul (Nat.two_pow_pos s),Nat.pow_add,Nat.mul_comm]
 have hs:¬ bl n≤s:=fun h'=>by have:=bl_le.1 h';omega
 have a:=(key (bl (n >>> s))).1 (nrq _)
 have b:=(key (bl n - s)).2 (by omega)
 omega
theorem bO {n:Int} (h:0≤n):∃ m:Nat,n=m:=⟨n.toNat,by omega⟩
theorem jt (a b:Nat) (h:a<2^64):fT .u64 (a:Int) (b:Int)=((a >>> b:Nat):Int):=by
 unfold fT
 rw [Int.fdiv_eq_ediv_of_nonneg _ (by exact Int.le_of_lt (Int.pow_pos (by decide))),Nat.shiftRight_eq_div_pow,iNq]
 have e:((2:Int)^min b IntKind.u64.bits)=((2^min b 64:Nat):Int):=by push_cast;rfl
 rw [e,← Int.natCast_ediv]
 congr 1
 by_cases hb:b≤64
 ·rw [Nat.min_eq_left hb]
 ·rw [Nat.min_eq_right (by omega),Nat.div_eq_of_lt h,Nat.div_eq_of_lt]
  exact Nat.lt_of_lt_of_le h (Nat.pow_le_pow_right (by decide) (by omega))
theorem gf (a:Nat):IntKind.wrap .u64 (a:Int)=((a % 2^64:Nat):Int):=by
 have:IntKind.wrap .u64 (a:Int)=(a:Int) % 18446744073709551616:=by simp [IntKind.wrap,IntKind.signed,IntKind.bits]
 rw [this];omega
theorem ka (a:Nat) (h:a<2^64):(BitVec.ofInt 64 (a:Int)).toNat=a:=by
 rw [BitVec.ofInt_natCast,BitVec.toNat_ofNat];exact Nat.mod_eq_of_lt h
theorem sY (a b:Nat) (h:a<2^64) (k:b<2^64):rM .u64 (a:Int) (b:Int)=((a &&& b:Nat):Int):=by
 have hx:a &&& b<2^64:=Nat.and_lt_two_pow _ k
 show IntKind.wrap .u64 ((BitVec.ofInt 64 (a:Int) &&& BitVec.ofInt 64 (b:Int)).toNat:Int)=_
 rw [BitVec.toNat_and,ka a h,ka b k,gf,Nat.mod_eq_of_lt hx]
theorem sc (a b:Nat) (h:a<2^64) (k:b<2^64):ior .u64 (a:Int) (b:Int)=((a ||| b:Nat):Int):=by
 have hx:a ||| b<2^64:=Nat.or_lt_two_pow h k
 show IntKind.wrap .u64 ((BitVec.ofInt 64 (a:Int) ||| BitVec.ofInt 64 (b:Int)).toNat:Int)=_
 rw [BitVec.toNat_or,ka a h,ka b k,gf,Nat.mod_eq_of_lt hx]
theorem zJ (a b:Nat) (h:a<2^64) (k:b<2^64):xK .u64 (a:Int) (b:Int)=((a ^^^ b:Nat):Int):=by
 have hx:a ^^^ b<2^64:=Nat.xor_lt_two_pow h k
 show IntKind.wrap .u64 ((BitVec.ofInt 64 (a:Int) ^^^ BitVec.ofInt 64 (b:Int)).toNat:Int)=_
 rw [BitVec.toNat_xor,ka a h,ka b k,gf,Nat.mod_eq_of_lt hx]
theorem yl (a b:Nat):sF .u64 (a:Int) (b:Int)=(((a <<< b) % 2^64:Nat):Int):=by
 unfold sF
 rw [Nat.shiftLeft_eq,iNq]
 have e:((a:Int)*(2:Int)^min b IntKind.u64.bits)=((a*2^min b 64:Nat):Int):=by push_cast;rfl
 rw [e,gf]
 congr 1
 by_cases hb:b≤64
 ·rw [Nat.min_eq_left hb]
 ·rw [Nat.min_eq_right (by omega),show b=64+(b - 64) by omega,Nat.pow_add,← Nat.mul_assoc,Nat.mul_mod_left,Nat.mul_assoc,Nat.mul_comm (2^64) _,← Nat.mul_assoc,Nat.mul_mod_left]
theorem m8 {a n k:Nat} (h:a<2^k):a >>> n<2^k:=Nat.lt_of_le_of_lt (Nat.shiftRight_le a n) h
def bits (v:Nat):List AV:=(List.range 128).map fun j=>.bool (v.testBit j)
def bT (v:Nat) (p:Nat→Bool):List AV:=(List.range 128).map fun j=>.bool (p j&&v.testBit j)
theorem b8 (v:Nat):(bits v).length=128:=by simp [bits]
theorem lf (v:Nat) (p:Nat→Bool):(bT v p).length=128:=by simp [bT]
theorem ls (v:Nat) (p:Nat→Bool) (h:∀ j,j<128→p j=true):bT v p=bits v:=by
 unfold bT bits
 refine List.map_congr_left fun j hj=>?_
 rw [h j (List.mem_range.1 hj),Bool.true_and]
theorem jT (v:Nat) (p:Nat→Bool) (h:∀ j,j<128→p j=false):bT v p=List.replicate 128 (.bool false):=by
 unfold bT
 rw [List.eq_replicate_iff]
 refine ⟨by simp,fun b hb=>?_⟩
 obtain ⟨j,hj,rfl⟩:=List.mem_map.1 hb
 rw [h j (List.mem_range.1 hj),Bool.false_and]
theorem i4:∀ (l:List AV) (n:Nat) (x:AV),splice l n [x]=l.set n x
 |[],n,x=>by simp [splice]
 |a::l,0,x=>by
  have:∀ m:List AV,splice m 0 []=m:=fun m=>by cases m<;>rfl
  simp [splice,this]
 |a::l,n+1,x=>by simp [splice,i4 l n x]
theorem je (v:Nat) (p q:Nat→Bool) (i:Nat) (h:∀ j,j≠i→p j=q j) (hq:q i=true):(bT v p).set i (.bool (v.testBit i))=bT v q:=by
 unfold bT
 refine List.ext_getElem (by simp) fun j h1 h2=>?_
 simp only [List.getElem_set,List.getElem_map,List.getElem_range]
 by_cases hj:i=j
 ·subst hj;rw [if_pos rfl,hq,Bool.true_and]
 ·rw [if_neg hj,h j (fun e=>hj e.symm)]
theorem iR (v i:Nat) (h:i<128):(bits v).getD i .junk=.bool (v.testBit i):=by
 simp [bits,gEq,h]
theorem cu {n v:Nat}:ltL n (bits v)=True:=eq_true (ltL_iff.2 fun j hj=>by
 simp only [bits,List.getElem_map]
 rw [AV.lt]<;>simp)
theorem pw {n v:Nat} {p:Nat→Bool}:ltL n (bT v p)=True:=eq_true (ltL_iff.2 fun j hj=>by
 simp only [bT,List.getElem_map]
 rw [AV.lt]<;>simp)
theorem hZ {v:Nat}:aY (bits v)=true:=by
 unfold bits aY;rw [List.all_map];exact List.all_eq_true.2 fun x _=>rfl
theorem BO (a i:Nat):(((a >>> i &&& 1:Nat):Int)==1)=a.testBit i:=by
 have h:a >>> i &&& 1<2:=by rw [Nat.and_one_is_mod];omega
 rw [Nat.testBit,Nat.and_comm 1]
 generalize a >>> i &&& 1=b at h ⊢
 rcases (show b=0∨b=1 by omega) with rfl|rfl<;>rfl
theorem tg (a:Nat) (h:a<2^64):rM .u64 (a:Int) 1=((a &&& 1:Nat):Int):=sY a 1 h (by decide)
theorem ek {n:Nat} {x y:AV} {ys:List AV} (h:ys.length=n):splice (List.replicate n x) 0 ys=ys:=by
 rw [kT _ _ _ (by simp [h])];simp [h]
end Go.AL
