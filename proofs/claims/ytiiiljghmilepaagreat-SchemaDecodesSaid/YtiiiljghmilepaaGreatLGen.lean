/- Contracts and plain laws, a part of the proof; no condition of its own. -/
import Derived.Test.YtiiiljghmilepaaGreatAlByte
/- Plain laws of values: 128 bits as a number. No program. -/
namespace Go.AL
set_option linter.all false
/-- a value's number -/
def vOf (hi lo:Nat):Nat:=2^64*hi+lo
/-- a value as the program has it -/
def vv (v:Nat):AV:=.agg [.int .u64 ((v/2^64:Nat):Int),.int .u64 ((v % 2^64:Nat):Int)]
theorem uL {hi lo:Nat} (h:lo<2^64):vOf hi lo/2^64=hi:=by unfold vOf;omega
theorem GQ {hi lo:Nat} (h:lo<2^64):vOf hi lo % 2^64=lo:=by unfold vOf;omega
theorem mD {hi lo:Nat} (h:hi<2^64) (k:lo<2^64):vOf hi lo<2^128:=by unfold vOf;omega
theorem rq (v:Nat):vOf (v/2^64) (v % 2^64)=v:=by unfold vOf;omega
theorem pm {hi lo:Nat} (h:lo<2^64):vv (vOf hi lo)=.agg [.int .u64 (hi:Int),.int .u64 (lo:Int)]:=by unfold vv;rw [uL h,GQ h]
theorem kO {hi lo:Nat} (h:lo<2^64) (j:Nat):(vOf hi lo).testBit j=if j<64 then lo.testBit j else hi.testBit (j - 64):=Nat.testBit_two_pow_mul_add hi h j
/-- the number of bits -/
def bl (n:Nat):Nat:=if n=0 then 0 else n.log2+1
theorem bl_le {n k:Nat}:bl n≤k↔n<2^k:=by
 unfold bl
 by_cases h:n=0
 ·subst h;simp [Nat.two_pow_pos]
 ·rw [if_neg h,← Nat.log2_lt h];omega
theorem Hy {n k:Nat} (h1:n<2^(k+1)) (h2:2^k≤n):bl n=k+1:=by
 have:=(bl_le (n:=n) (k:=k+1)).2 h1
 have:¬ bl n≤k:=fun h=>by have:=bl_le.1 h;omega
 omega
theorem wy (n s:Nat) (h:2^s≤n):bl n=s+bl (n >>> s):=by
 have h0:n≠0:=by have:=Nat.two_pow_pos s;omega
 have h1:n >>> s≠0:=by rw [Nat.shiftRight_eq_div_pow];have:=Nat.div_pos h (Nat.two_pow_pos s);omega
 have key:∀ k,bl (n >>> s)≤k↔bl n≤s+k:=by
  intro k
  rw [bl_le,bl_le,Nat.shiftRight_eq_div_pow,Nat.div_lt_iff_lt_mul (Nat.two_pow_pos s),Nat.pow_add,Nat.mul_comm]
 have hs:¬ bl n≤s:=fun h'=>by have:=bl_le.1 h';omega
 have a:=(key (bl (n >>> s))).1 (Nat.le_refl _)
 have b:=(key (bl n - s)).2 (by omega)
 omega
theorem GZ {hi lo:Nat} (h:lo<2^64):bl (vOf hi lo)=if hi=0 then bl lo else 64+bl hi:=by
 by_cases h0:hi=0
 ·subst h0;simp [vOf]
 ·rw [if_neg h0,wy _ 64 (by unfold vOf;omega)]
  congr 2
  rw [Nat.shiftRight_eq_div_pow,uL h]
/-- the highest bit that is set -/
theorem GL {n i:Nat} (h:n.testBit i=true) (hn:∀ j,i<j→n.testBit j=false):bl n=i+1:=by
 have h1:2^i≤n:=Nat.ge_two_pow_of_testBit h
 have h2:n<2^(i+1):=Nat.lt_pow_two_of_testBit _ fun j hj=>hn j (by omega)
 exact Hy h2 h1
theorem xL {n:Nat} (hn:∀ j,n.testBit j=false):n=0:=Nat.eq_of_testBit_eq fun j=>by rw [hn j];simp
theorem dd {n:Int} (h:0≤n):∃ m:Nat,n=m:=⟨n.toNat,by omega⟩
theorem jr (a b:Nat) (h:a<2^64):qM .u64 (a:Int) (b:Int)=((a >>> b:Nat):Int):=by
 unfold qM
 rw [Int.fdiv_eq_ediv_of_nonneg _ (by exact Int.le_of_lt (Int.pow_pos (by decide))),Nat.shiftRight_eq_div_pow,Int.toNat_natCast]
 have e:((2:Int)^min b IntKind.u64.bits)=((2^min b 64:Nat):Int):=by push_cast;rfl
 rw [e,← Int.natCast_ediv]
 congr 1
 by_cases hb:b≤64
 ·rw [Nat.min_eq_left hb]
 ·rw [Nat.min_eq_right (by omega),Nat.div_eq_of_lt h,Nat.div_eq_of_lt]
  exact Nat.lt_of_lt_of_le h (Nat.pow_le_pow_right (by decide) (by omega))
theorem lN (a:Nat):IntKind.wrap .u64 (a:Int)=((a % 2^64:Nat):Int):=by
 have:IntKind.wrap .u64 (a:Int)=(a:Int) % 18446744073709551616:=by simp [IntKind.wrap,IntKind.signed,IntKind.bits]
 rw [this];omega
theorem oc (a:Nat) (h:a<2^64):(BitVec.ofInt 64 (a:Int)).toNat=a:=by
 rw [BitVec.ofInt_natCast,BitVec.toNat_ofNat];exact Nat.mod_eq_of_lt h
theorem DZ (a b:Nat) (h:a<2^64) (k:b<2^64):B5 .u64 (a:Int) (b:Int)=((a &&& b:Nat):Int):=by
 have hx:a &&& b<2^64:=Nat.and_lt_two_pow _ k
 show IntKind.wrap .u64 ((BitVec.ofInt 64 (a:Int) &&& BitVec.ofInt 64 (b:Int)).toNat:Int)=_
 rw [BitVec.toNat_and,oc a h,oc b k,lN,Nat.mod_eq_of_lt hx]
theorem mU (a b:Nat) (h:a<2^64) (k:b<2^64):ior .u64 (a:Int) (b:Int)=((a ||| b:Nat):Int):=by
 have hx:a ||| b<2^64:=Nat.or_lt_two_pow h k
 show IntKind.wrap .u64 ((BitVec.ofInt 64 (a:Int) ||| BitVec.ofInt 64 (b:Int)).toNat:Int)=_
 rw [BitVec.toNat_or,oc a h,oc b k,lN,Nat.mod_eq_of_lt hx]
theorem mu (a b:Nat):nm .u64 (a:Int) (b:Int)=(((a <<< b) % 2^64:Nat):Int):=by
 unfold nm
 rw [Nat.shiftLeft_eq,Int.toNat_natCast]
 have e:((a:Int)*(2:Int)^min b IntKind.u64.bits)=((a*2^min b 64:Nat):Int):=by push_cast;rfl
 rw [e,lN]
 congr 1
 by_cases hb:b≤64
 ·rw [Nat.min_eq_left hb]
 ·rw [Nat.min_eq_right (by omega),show b=64+(b - 64) by omega,Nat.pow_add,← Nat.mul_assoc,Nat.mul_mod_left,Nat.mul_assoc,Nat.mul_comm (2^64) _,← Nat.mul_assoc,Nat.mul_mod_left]
/-- Right -/
theorem Ef (hi lo n:Nat) (h:lo<2^64) (hn:n<64):(vOf hi lo >>> n) % 2^64=(lo >>> n) ||| ((hi <<< (64 - n)) % 2^64):=by
 refine Nat.eq_of_testBit_eq fun j=>?_
 rw [Nat.testBit_or,Nat.testBit_mod_two_pow,Nat.testBit_mod_two_pow,Nat.testBit_shiftRight,Nat.testBit_shiftRight,Nat.testBit_shiftLeft,kO h]
 by_cases h1:j<64
 ·by_cases h2:n+j<64
  ·simp [h1,h2,show ¬ (64≤j+n) by omega]
  ·have:lo.testBit (n+j)=false:=Nat.testBit_lt_two_pow (Nat.lt_of_lt_of_le h (Nat.pow_le_pow_right (by decide) (by omega)))
   simp [h1,h2,this]
   rw [show n+j - 64=j - (64 - n) by omega]
   simp;omega
 ·have:lo.testBit (n+j)=false:=Nat.testBit_lt_two_pow (Nat.lt_of_lt_of_le h (Nat.pow_le_pow_right (by decide) (by omega)))
  simp [h1,this]
theorem D4 (hi lo n:Nat) (h:lo<2^64):(vOf hi lo >>> n)/2^64=hi >>> n:=by
 rw [Nat.shiftRight_eq_div_pow,Nat.shiftRight_eq_div_pow,Nat.div_div_eq_div_mul,Nat.mul_comm,← Nat.div_div_eq_div_mul,uL h]
theorem zI (hi lo n:Nat) (h:lo<2^64) (k:hi<2^64) (hn:64≤n):vOf hi lo >>> n=hi >>> (n - 64):=by
 rw [show n=64+(n - 64) by omega,Nat.shiftRight_add,Nat.add_sub_cancel_left]
 congr 1
 rw [Nat.shiftRight_eq_div_pow,uL h]
theorem lM {a n k:Nat} (h:a<2^k):a >>> n<2^k:=Nat.lt_of_le_of_lt (Nat.shiftRight_le a n) h
/-- the last n bytes of a number, the most significant one first -/
def beN (v n:Nat):List UInt8:=(List.range n).map fun i=>UInt8.ofNat (v >>> (8*(n - 1 - i)))
theorem fp (v n:Nat):(beN v n).length=n:=by simp [beN]
theorem Dm (v w n:Nat) (h:n≤w):(beN v w).drop (w - n)=beN v n:=by
 unfold beN
 apply List.ext_getElem
 ·simp;omega
 ·intro i h1 h2
  simp only [List.getElem_drop,List.getElem_map,List.getElem_range]
  simp at h1 h2
  rw [show w - 1 - (w - n+i)=n - 1 - i by omega]
/-- the length of a value in bytes -/
def iA (v:Nat):Nat:=max 1 ((bl v+7)/8)
def ky (v:Nat):List UInt8:=beN v (iA v)
theorem oI {v:Nat} (h:v<2^128):iA v≤16:=by
 have:=(bl_le (n:=v) (k:=128)).2 h
 unfold iA;omega
/-- the bits of a value, the last first -/
def bits (v:Nat):List AV:=(List.range 128).map fun j=>.bool (v.testBit j)
/-- some bits are known -/
def eO (v:Nat) (p:Nat→Bool):List AV:=(List.range 128).map fun j=>.bool (p j&&v.testBit j)
theorem gF (v:Nat):(bits v).length=128:=by simp [bits]
theorem rl (v:Nat) (p:Nat→Bool):(eO v p).length=128:=by simp [eO]
theorem qK (v:Nat) (p:Nat→Bool) (h:∀ j,j<128→p j=true):eO v p=bits v:=by
 unfold eO bits
 refine List.map_congr_left fun j hj=>?_
 rw [h j (List.mem_range.1 hj),Bool.true_and]
theorem wx (v:Nat) (p:Nat→Bool) (h:∀ j,j<128→p j=false):eO v p=List.replicate 128 (.bool false):=by
 unfold eO
 rw [List.eq_replicate_iff]
 refine ⟨by simp,fun b hb=>?_⟩
 obtain ⟨j,hj,rfl⟩:=List.mem_map.1 hb
 rw [h j (List.mem_range.1 hj),Bool.false_and]
theorem jD:∀ (l:List AV) (n:Nat) (x:AV),splice l n [x]=l.set n x
 |[],n,x=>by simp [splice]
 |a::l,0,x=>by
  have:∀ m:List AV,splice m 0 []=m:=fun m=>by cases m<;>rfl
  simp [splice,this]
 |a::l,n+1,x=>by simp [splice,jD l n x]
theorem nS (v:Nat) (p q:Nat→Bool) (i:Nat) (h:∀ j,j≠i→p j=q j) (hq:q i=true):(eO v p).set i (.bool (v.testBit i))=eO v q:=by
 unfold eO
 refine List.ext_getElem (by simp) fun j h1 h2=>?_
 simp only [List.getElem_set,List.getElem_map,List.getElem_range]
 by_cases hj:i=j
 ·subst hj;rw [if_pos rfl,hq,Bool.true_and]
 ·rw [if_neg hj,h j (fun e=>hj e.symm)]
theorem oT (v i:Nat) (h:i<128):(bits v).getD i .junk=.bool (v.testBit i):=by
 simp [bits,List.getD_eq_getElem?_getD,h]
theorem CE {n v:Nat}:ltL n (bits v)=True:=eq_true (ltL_iff.2 fun j hj=>by
 simp only [bits,List.getElem_map]
 rw [AV.lt]<;>simp)
theorem pO {v:Nat}:cU (bits v)=true:=by
 unfold bits cU;rw [List.all_map];exact List.all_eq_true.2 fun x _=>rfl
theorem zg (a i:Nat):(((a >>> i &&& 1:Nat):Int)==1)=a.testBit i:=by
 have h:a >>> i &&& 1<2:=by rw [Nat.and_one_is_mod];omega
 rw [Nat.testBit,Nat.and_comm 1]
 generalize a >>> i &&& 1=b at h ⊢
 rcases (show b=0∨b=1 by omega) with rfl|rfl<;>rfl
theorem vR (a:Nat) (h:a<2^64):B5 .u64 (a:Int) 1=((a &&& 1:Nat):Int):=DZ a 1 h (by decide)
theorem lm {n:Nat} {x y:AV} {ys:List AV} (h:ys.length=n):splice (List.replicate n x) 0 ys=ys:=by
 rw [nz _ _ _ (by simp [h])];simp [h]
/-- the bytes that the first i bits make -/
def iM (v n i:Nat):List UInt8:=(List.range n).map fun j=>UInt8.ofNat ((v % 2^i) >>> (8*(n - 1 - j)))
theorem pC (v n i:Nat):(iM v n i).length=n:=by simp [iM]
theorem xy (v n:Nat):iM v n 0=List.replicate n 0:=by
 unfold iM
 rw [List.eq_replicate_iff]
 refine ⟨by simp,fun b hb=>?_⟩
 obtain ⟨j,_,rfl⟩:=List.mem_map.1 hb
 simp [Nat.mod_one]
theorem Bh (v n:Nat) (h:v<2^(8*n)):iM v n (8*n)=beN v n:=by
 unfold iM beN;rw [Nat.mod_eq_of_lt h]
theorem rC {a b:Nat} (h:∀ t,t<8→a.testBit t=b.testBit t):UInt8.ofNat a=UInt8.ofNat b:=by
 rw [UInt8.ofNat_eq_iff_mod_eq_toNat,UInt8.toNat_ofNat']
 refine Nat.eq_of_testBit_eq fun t=>?_
 rw [Nat.testBit_mod_two_pow,Nat.testBit_mod_two_pow]
 by_cases ht:t<8
 ·rw [h t ht]
 ·simp [ht]
theorem ye (v n i:Nat) (h:v.testBit i=false):iM v n (i+1)=iM v n i:=by
 unfold iM
 refine List.map_congr_left fun j _=>rC fun t _=>?_
 rw [Nat.testBit_shiftRight,Nat.testBit_shiftRight,Nat.testBit_mod_two_pow,Nat.testBit_mod_two_pow]
 by_cases e:8*(n - 1 - j)+t=i
 ·rw [e,h];simp
 ·congr 1;rw [Bool.eq_iff_iff];simp;omega
theorem zy (v n i:Nat) (h:v.testBit i=true) (hi:i<8*n):(iM v n i).set (n - 1 - i/8) (UInt8.ofNat (((iM v n i).getD (n - 1 - i/8) 0).toNat ||| (1 <<< (i % 8)) % 256))=iM v n (i+1):=by
 have hq:n - 1 - i/8<n:=by omega
 have hg:(iM v n i).getD (n - 1 - i/8) 0=UInt8.ofNat ((v % 2^i) >>> (8*(i/8))):=by
  simp [iM,List.getD_eq_getElem?_getD,hq]
  rw [show n - 1 - (n - 1 - i/8)=i/8 by omega]
 rw [hg]
 refine List.ext_getElem (by simp [iM]) fun j h1 h2=>?_
 simp only [pC] at h2
 simp only [List.getElem_set]
 split
 ·rename_i e
  subst e
  simp only [iM,List.getElem_map,List.getElem_range]
  rw [show n - 1 - (n - 1 - i/8)=i/8 by omega]
  refine rC fun t ht=>?_
  rw [Nat.testBit_or,UInt8.toNat_ofNat',Nat.testBit_mod_two_pow,Nat.testBit_shiftRight,Nat.testBit_shiftRight,Nat.testBit_mod_two_pow,Nat.testBit_mod_two_pow,show (256:Nat)=2^8 from rfl,Nat.testBit_mod_two_pow,Nat.testBit_shiftLeft]
  by_cases e:t=i % 8
  ·subst e
   rw [show 8*(i/8)+i % 8=i by omega,h]
   simp [ht]
  ·have h1:decide (8*(i/8)+t<i+1)=decide (8*(i/8)+t<i):=by rw [Bool.eq_iff_iff];simp;omega
   have h2:(decide (t ≥ i % 8)&&Nat.testBit 1 (t - i % 8))=false:=by
    by_cases h3:t ≥ i % 8
    ·have:Nat.testBit 1 (t - i % 8)=false:=Nat.testBit_lt_two_pow (Nat.one_lt_two_pow (by omega))
     rw [this,Bool.and_false]
    ·simp [h3]
   rw [h1,h2]
   simp [ht]
 ·rename_i e
  simp only [iM,List.getElem_map,List.getElem_range]
  refine rC fun t ht=>?_
  rw [Nat.testBit_shiftRight,Nat.testBit_shiftRight,Nat.testBit_mod_two_pow,Nat.testBit_mod_two_pow]
  congr 1;rw [Bool.eq_iff_iff];simp;omega
theorem ug (a:Nat) (h:a<2^8):(BitVec.ofInt 8 (a:Int)).toNat=a:=by
 rw [BitVec.ofInt_natCast,BitVec.toNat_ofNat];exact Nat.mod_eq_of_lt h
theorem jV (a:Nat):IntKind.wrap .u8 (a:Int)=((a % 256:Nat):Int):=by
 have:IntKind.wrap .u8 (a:Int)=(a:Int) % 256:=by simp [IntKind.wrap,IntKind.signed,IntKind.bits]
 rw [this];omega
theorem Hj (a b:Nat) (h:a<256) (k:b<256):ior .u8 (a:Int) (b:Int)=((a ||| b:Nat):Int):=by
 have hx:a ||| b<2^8:=Nat.or_lt_two_pow h k
 show IntKind.wrap .u8 ((BitVec.ofInt 8 (a:Int) ||| BitVec.ofInt 8 (b:Int)).toNat:Int)=_
 rw [BitVec.toNat_or,ug a h,ug b k,jV,Nat.mod_eq_of_lt hx]
theorem EF (a b:Nat) (hb:b≤8):nm .u8 (a:Int) (b:Int)=(((a <<< b) % 256:Nat):Int):=by
 unfold nm
 rw [Nat.shiftLeft_eq,Int.toNat_natCast]
 have e:((a:Int)*(2:Int)^min b IntKind.u8.bits)=((a*2^min b 8:Nat):Int):=by push_cast;rfl
 rw [e,jV,Nat.min_eq_left hb]
theorem pt {a:Nat} (h:a<256):AV.int .u8 (a:Int)=bd (UInt8.ofNat a):=by
 unfold bd;congr 1;rw [UInt8.toNat_ofNat_of_lt' (by simp [UInt8.size];omega)]
theorem ET {l:List UInt8} {n:Nat} {b:UInt8}:(bys l).set n (bd b)=bys (l.set n b):=by simp [bys,List.map_set]
theorem wE {l:List UInt8} {n:Nat} {b:UInt8}:splice (bys l) n [bd b]=bys (l.set n b):=by rw [jD,ET]
end Go.AL
/- Plain laws of readers. No program. -/
namespace Go.AL
set_option linter.all false
/-- the number that bytes make, the first the most significant -/
def bT (l:List UInt8):Nat:=l.foldl (fun n b=>n*256+b.toNat) 0
theorem pG:bT []=0:=rfl
theorem nW (l:List UInt8) (b:UInt8):bT (l++[b])=bT l*256+b.toNat:=by simp [bT]
theorem nL (l:List UInt8) (k:Nat) (h:k<l.length):bT (l.take (k+1))=bT (l.take k)*256+(l.getD k 0).toNat:=by
 rw [List.take_succ_eq_append_getElem h,nW];simp [List.getD_eq_getElem?_getD,h]
theorem lC (l:List UInt8):bT l<256^l.length:=by
 induction h:l.length generalizing l with
 |zero=>have:l=[]:=List.eq_nil_of_length_eq_zero h;subst this;simp [bT]
 |succ n ih =>
  obtain ⟨l',b,rfl⟩:∃ l' b,l=l'++[b]:=⟨l.dropLast,l.getLast (by intro e;rw [e] at h;simp at h),(List.dropLast_concat_getLast _).symm⟩
  rw [nW,Nat.pow_succ]
  have:=ih l' (by simp at h;omega)
  have:=UInt8.toNat_lt b
  simp only [List.length_append,List.length_singleton] at h
  have hl:l'.length=n:=by omega
  have h2:bT l'+1≤256^n:=by omega
  have h3:(bT l'+1)*256≤256^n*256:=Nat.mul_le_mul_right _ h2
  omega
theorem iU (l:List UInt8) (k n:Nat) (h:l.length≤n):bT (l.take k)<256^n:=by
 refine Nat.lt_of_lt_of_le (lC _) (Nat.pow_le_pow_right (by decide) ?_)
 rw [List.length_take];omega
theorem yF (a:Nat) (h:a<2^63):(BitVec.ofInt 64 (a:Int)).toNat=a:=oc a (by omega)
theorem f6 (a:Nat) (h:a<2^63):IntKind.wrap .i64 (a:Int)=(a:Int):=by rw [wrap_i64]<;>omega
theorem Gu (a b:Nat) (h:a<2^63) (k:b<2^63):ior .i64 (a:Int) (b:Int)=((a ||| b:Nat):Int):=by
 have hx:a ||| b<2^63:=Nat.or_lt_two_pow h k
 show IntKind.wrap .i64 ((BitVec.ofInt 64 (a:Int) ||| BitVec.ofInt 64 (b:Int)).toNat:Int)=_
 rw [BitVec.toNat_or,yF a h,yF b k,f6 _ hx]
theorem Fo (a b:Nat) (h:a<2^54) (k:b<256):ior .i64 (nm .i64 (a:Int) 8) (b:Int)=((a*256+b:Nat):Int):=by
 have e:nm .i64 (a:Int) 8=((a*256:Nat):Int):=by
  unfold nm
  have:((a:Int)*(2:Int)^min (Int.toNat 8) IntKind.i64.bits)=((a*256:Nat):Int):=by
   have:min (Int.toNat 8) IntKind.i64.bits=8:=by decide
   rw [this];omega
  rw [this,f6 _ (by omega)]
 rw [e,Gu _ _ (by omega) (by omega)]
 congr 1
 have:=Nat.shiftLeft_add_eq_or_of_lt (b:=b) (i:=8) k a
 rw [Nat.shiftLeft_eq,show (2:Nat)^8=256 from rfl] at this
 exact this.symm
/-- the first byte -/
def b0 (l:List UInt8):UInt8:=l.getD 0 0
theorem D7 (l:List UInt8) (k:Nat) (h:1≤l.length) (hk:1≤k):(bys (l.take k)).getD 0 .junk=bd (b0 l):=by
 cases l with
 |nil=>simp at h
 |cons a t =>
  cases k with
  |zero=>omega
  |succ k=>rfl
theorem qG (l:List UInt8) (h:1≤l.length):(bys l).getD 0 .junk=bd (b0 l):=iG h
/-- the state of a reader: what is known of its row, the rest, the error -/
abbrev RS:=Mark × List UInt8 × Int
def aE (s:RS):List AV:=[.slice s.1 1 (bys s.2.1),.int .i64 s.2.2]
def bB (s:RS) (w:Int):Int × RS :=
 if s.2.2≠0 then (0,s) else if w<1∨4<w then (0,(s.1,s.2.1,4)) else if (s.2.1.length:Int)<w then (0,(s.1,s.2.1,1))
 else ((bT (s.2.1.take w.toNat):Nat),(.any,s.2.1.drop w.toNat,0))
def fu (s:RS):Bool × RS :=
 if s.2.2≠0 then (false,s) else if s.2.1.length<1 then (false,(s.1,s.2.1,1)) else if 1<(b0 s.2.1).toNat then (false,(s.1,s.2.1,2))
 else ((b0 s.2.1).toNat==1,(.any,s.2.1.drop 1,0))
/-- a value's bytes read: the value, the error -/
def dD (l:List UInt8):Nat × Int :=
 if l.length=0 then (0,1) else if 16<l.length then (0,3) else if 1<l.length∧(b0 l).toNat=0 then (0,5) else (bT l,0)
def cO (s:RS):Nat × RS :=
 if s.2.2≠0 then (0,s) else if s.2.1.length<1 then (0,(s.1,s.2.1,1))
 else if (b0 s.2.1).toNat<1∨16<(b0 s.2.1).toNat then (0,(s.1,s.2.1,2))
 else if s.2.1.length<1+(b0 s.2.1).toNat then (0,(s.1,s.2.1,1))
 else if (dD ((s.2.1.take (1+(b0 s.2.1).toNat)).drop 1)).2≠0 then (0,(s.1,s.2.1,5))
 else ((dD ((s.2.1.take (1+(b0 s.2.1).toNat)).drop 1)).1,(.any,s.2.1.drop (1+(b0 s.2.1).toNat),0))
def dq (s:RS) (most:Int):List UInt8 × RS :=
 if s.2.2≠0 then ([],s) else if s.2.1.length<2 then ([],(s.1,s.2.1,1)) else if most<(bT (s.2.1.take 2):Nat) then ([],(s.1,s.2.1,3))
 else if s.2.1.length<2+bT (s.2.1.take 2) then ([],(s.1,s.2.1,1))
 else ((s.2.1.take (2+bT (s.2.1.take 2))).drop 2,(.any,s.2.1.drop (2+bT (s.2.1.take 2)),0))
def eN (l:List UInt8):Bool:=l.all fun c=>!(decide (c.toNat<32)||decide (126<c.toNat))
def dM (s:RS) (most:Int):List UInt8 × RS :=
 if eN (dq s most).1=true then dq s most else ([],(s.1,s.2.1,2))
def aX (s:RS) (most:Int):Int × RS :=
 if s.2.2≠0 then (0,s) else if s.2.1.length<2 then (0,(s.1,s.2.1,1)) else if most<(bT (s.2.1.take 2):Nat) then (0,(s.1,s.2.1,3))
 else ((bT (s.2.1.take 2):Nat),(.any,s.2.1.drop 2,0))
def fj (s:RS):Int:=if s.2.2=0∧0<s.2.1.length then 2 else s.2.2
/-- a reader in memory -/
def xS (o:Option AObj) (K:Mark→List UInt8→Int→Prop):Prop :=
 match o with
 |some (.cells [.slice m 1 l,.int .i64 e])=>(isB l∧l.length≤100000)∧K m (unb l) e
 |_=>False
@[congr] theorem G9 {o o':Option AObj} {K:Mark→List UInt8→Int→Prop} (h:o=o'):xS o K=xS o' K:=by rw [h]
theorem ae {m:Mark} {l:List UInt8} {e:Int} {K:Mark→List UInt8→Int→Prop}:xS (some (.cells [.slice m 1 (bys l),.int .i64 e])) K=(l.length≤100000∧K m l e):=by
 simp only [xS,zlv,zle,zlt,true_and]
theorem au {m:Mark} {e:Int} {K:Mark→List UInt8→Int→Prop}:xS (some (.cells [.slice m 1 [],.int .i64 e])) K=K m [] e:=by
 have:=ae (m:=m) (l:=[]) (e:=e) (K:=K)
 rw [zlf] at this
 rw [this]
 simp
def onR (H:AHeap) (id:Nat) (K:Mark→List UInt8→Int→Prop):Prop:=xS (H.get id) K
theorem bU {H:AHeap} {id:Nat} {K:Mark→List UInt8→Int→Prop} (h:onR H id K):∃ m l e,H.get id=some (.cells [.slice m 1 (bys l),.int .i64 e])∧l.length≤100000∧K m l e:=by
 unfold onR xS at h
 split at h
 ·rename_i m l e hg
  obtain ⟨⟨h1,h2⟩,h3⟩:=h
  obtain ⟨xs,rfl⟩:=dO h1
  rw [zlt] at h3
  rw [zle] at h2
  exact ⟨m,xs,e,hg,h2,h3⟩
 ·exact h.elim
theorem uO {n:Nat} {m:Mark} {l l':List UInt8} (h:(AV.slice m 1 (bys l)).lt n):(AV.slice m 1 (bys l')).lt n:=by
 rw [zmm] at h ⊢;exact h
theorem am {H:AHeap} {id:Nat} {m:Mark} {l:List UInt8} {e:Int} (hg:H.get id=some (.cells [.slice m 1 (bys l),.int .i64 e])) (h:H.Closed) (m':Mark) (hm:m'=m∨m'=.any) (l':List UInt8) (e':Int) :
 (H.set id (.cells [.slice m' 1 (bys l'),.int .i64 e'])).Closed:=by
 refine bS h ?_
 have h0:=h id _ hg 0 (by simp)
 simp only [ltL,and_true]
 refine ⟨?_,by rw [AV.lt]<;>simp⟩
 rcases hm with rfl|rfl
 ·exact uO h0
 ·rw [zmm];intro id e;cases e
theorem av {H:AHeap} {id:Nat} {cs:List AV} (h:id<H.nx):aO (H.set id (.cells cs)) id=some cs:=by rw [sY h,if_pos rfl]
theorem aN {H:AHeap} {id:Nat} {o:AObj} (h:id<H.nx):(H.set id o).get id=some o:=by rw [gR,if_pos rfl,if_pos h]
end Go.AL
/- Plain laws of a list of choices: what is taken from it, and where it stands behind that. No program. -/
namespace Go.AL
set_option linter.all false
/-- the choice at a place, of n -/
def cv (b:List UInt8) (v n:Nat):Nat:=(b.getD v 0).toNat % n
/-- a place, k further -/
def cp (v k:Nat):Nat:=v+k
/-- a list of choices in memory; behind its end the place does not move -/
def f8 (b:List UInt8) (v:Nat):AObj:=.cells [.slice .any 1 (bys b),.int .i64 ((min v b.length:Nat):Int)]
theorem cp0 (v:Nat):cp v 0=v:=rfl
theorem dy {v k n:Nat}:cp v k+n=cp v (k+n):=by unfold cp;omega
theorem oz {b:List UInt8} {v n:Nat} (h:b.length≤v):cv b v n=0:=by
 unfold cv
 rw [List.getD_eq_getElem?_getD,List.getElem?_eq_none h]
 simp
theorem df {b:List UInt8} {v n:Nat}:cv b (min v b.length) n=cv b v n:=by
 rcases Nat.le_total v b.length with h|h
 ·rw [Nat.min_eq_left h]
 ·rw [Nat.min_eq_right h,oz h,oz (Nat.le_refl _)]
theorem jH {b:List UInt8} {v k n:Nat}:cv b (min v b.length+k) n=cv b (v+k) n:=by
 rcases Nat.le_total v b.length with h|h
 ·rw [Nat.min_eq_left h]
 ·rw [Nat.min_eq_right h,oz (by omega),oz (by omega)]
theorem fH {b:List UInt8} {v n:Nat} (h:0<n):cv b v n<n:=Nat.mod_lt _ h
theorem co {b:List UInt8} {v n:Nat}:f8 b (min v b.length+n)=f8 b (v+n):=by
 unfold f8
 rw [show min (min v b.length+n) b.length=min (v+n) b.length by omega]
theorem ka {b:List UInt8} {v n:Nat}:ltL n [.slice .any 1 (bys b),.int .i64 ((min v b.length:Nat):Int)]:=by
 simp [zno,znp,zmz,zmm]
def onC (o:Option AObj) (K:List UInt8→Nat→Prop):Prop :=
 match o with
 |some (.cells [.slice .any 1 l,.int .i64 a])=>(isB l∧l.length≤1000000∧0≤a∧a≤(l.length:Int))∧K (unb l) a.toNat
 |_=>False
@[congr] theorem Hp {o o':Option AObj} {K:List UInt8→Nat→Prop} (h:o=o'):onC o K=onC o' K:=by rw [h]
theorem cM {b:List UInt8} {v:Nat} {K:List UInt8→Nat→Prop} (hb:b.length≤1000000):onC (some (f8 b v)) K=K b (min v b.length):=by
 unfold f8 onC
 simp only [zlv,zle,zlt,true_and,Int.toNat_natCast]
 refine propext ⟨fun h=>h.2,fun h=>⟨⟨hb,by omega,by omega⟩,h⟩⟩
theorem lP {o:Option AObj} {K:List UInt8→Nat→Prop} (h:onC o K):∃ b v,o=some (f8 b (cp v 0))∧b.length≤1000000∧v≤b.length∧K b v:=by
 unfold onC at h
 split at h
 ·rename_i l a
  obtain ⟨⟨h1,h2,h3,h4⟩,h5⟩:=h
  obtain ⟨xs,rfl⟩:=dO h1
  rw [zlt] at h5
  rw [zle] at h2 h4
  refine ⟨xs,a.toNat,?_,h2,by omega,h5⟩
  unfold f8 cp
  rw [show ((min (a.toNat+0) xs.length:Nat):Int)=a by omega]
 ·exact h.elim
end Go.AL
