/- Contracts and plain laws, a part of the proof; no condition of its own. -/
import Derived.Test.YthpglnacipgolaaGreatAlByte
/- Plain laws of values: 128 bits as a number. No program. -/
namespace Go.AL
set_option linter.all false

/-- a value's number -/
def vOf (hi lo:Nat):Nat:=2^64*hi+lo
/-- a value as the program has it -/
def vv (v:Nat):AV:=.agg [.int .u64 ((v/2^64:Nat):Int),.int .u64 ((v % 2^64:Nat):Int)]
theorem vOf_hi {hi lo:Nat} (h:lo<2^64):vOf hi lo/2^64=hi:=by unfold vOf;omega
theorem vOf_lo {hi lo:Nat} (h:lo<2^64):vOf hi lo % 2^64=lo:=by unfold vOf;omega
theorem vOf_lt {hi lo:Nat} (h:hi<2^64) (k:lo<2^64):vOf hi lo<2^128:=by unfold vOf;omega
theorem vOf_back (v:Nat):vOf (v/2^64) (v % 2^64)=v:=by unfold vOf;omega
theorem vv_vOf {hi lo:Nat} (h:lo<2^64):vv (vOf hi lo)=.agg [.int .u64 (hi:Int),.int .u64 (lo:Int)]:=by unfold vv;rw [vOf_hi h,vOf_lo h]
theorem vOf_bit {hi lo:Nat} (h:lo<2^64) (j:Nat):(vOf hi lo).testBit j=if j<64 then lo.testBit j else hi.testBit (j - 64):=Nat.testBit_two_pow_mul_add hi h j

/-- the number of bits -/
def bl (n:Nat):Nat:=if n=0 then 0 else n.log2+1
theorem bl_le {n k:Nat}:bl n≤k↔n<2^k:=by
  unfold bl
  by_cases h:n=0
  · subst h;simp [Nat.two_pow_pos]
  · rw [if_neg h,← Nat.log2_lt h];omega
theorem bl_shift (n s:Nat) (h:2^s≤n):bl n=s+bl (n >>> s):=by
  have h0:n≠0:=by have:=Nat.two_pow_pos s;omega
  have h1:n >>> s≠0:=by rw [Nat.shiftRight_eq_div_pow];have:=Nat.div_pos h (Nat.two_pow_pos s);omega
  have key:∀ k,bl (n >>> s)≤k↔bl n≤s+k:=by
    intro k
    rw [bl_le,bl_le,Nat.shiftRight_eq_div_pow,Nat.div_lt_iff_lt_mul (Nat.two_pow_pos s),Nat.pow_add,Nat.mul_comm]
  have hs:¬ bl n≤s:=fun h'=>by have:=bl_le.1 h';omega
  have a:=(key (bl (n >>> s))).1 (Nat.le_refl _)
  have b:=(key (bl n - s)).2 (by omega)
  omega
theorem bl_vOf {hi lo:Nat} (h:lo<2^64):bl (vOf hi lo)=if hi=0 then bl lo else 64+bl hi:=by
  by_cases h0:hi=0
  · subst h0;simp [vOf]
  · rw [if_neg h0,bl_shift _ 64 (by unfold vOf;omega)]
    congr 2
    rw [Nat.shiftRight_eq_div_pow,vOf_hi h]
theorem u64_lift {n:Int} (h:0≤n):∃ m:Nat,n=m:=⟨n.toNat,by omega⟩
theorem ishr_u64 (a b:Nat) (h:a<2^64):ishr .u64 (a:Int) (b:Int)=((a >>> b:Nat):Int):=by
  unfold ishr
  rw [Int.fdiv_eq_ediv_of_nonneg _ (by exact Int.le_of_lt (Int.pow_pos (by decide))),Nat.shiftRight_eq_div_pow,Int.toNat_natCast]
  have e:((2:Int)^min b IntKind.u64.bits)=((2^min b 64:Nat):Int):=by push_cast;rfl
  rw [e,← Int.natCast_ediv]
  congr 1
  by_cases hb:b≤64
  · rw [Nat.min_eq_left hb]
  · rw [Nat.min_eq_right (by omega),Nat.div_eq_of_lt h,Nat.div_eq_of_lt]
    exact Nat.lt_of_lt_of_le h (Nat.pow_le_pow_right (by decide) (by omega))
theorem wrap_u64_nat (a:Nat):IntKind.wrap .u64 (a:Int)=((a % 2^64:Nat):Int):=by
  have:IntKind.wrap .u64 (a:Int)=(a:Int) % 18446744073709551616:=by simp [IntKind.wrap,IntKind.signed,IntKind.bits]
  rw [this];omega
theorem ofInt64 (a:Nat) (h:a<2^64):(BitVec.ofInt 64 (a:Int)).toNat=a:=by
  rw [BitVec.ofInt_natCast,BitVec.toNat_ofNat];exact Nat.mod_eq_of_lt h
theorem ior_u64 (a b:Nat) (h:a<2^64) (k:b<2^64):ior .u64 (a:Int) (b:Int)=((a ||| b:Nat):Int):=by
  have hx:a ||| b<2^64:=Nat.or_lt_two_pow h k
  show IntKind.wrap .u64 ((BitVec.ofInt 64 (a:Int) ||| BitVec.ofInt 64 (b:Int)).toNat:Int)=_
  rw [BitVec.toNat_or,ofInt64 a h,ofInt64 b k,wrap_u64_nat,Nat.mod_eq_of_lt hx]
theorem ishl_u64 (a b:Nat):ishl .u64 (a:Int) (b:Int)=(((a <<< b) % 2^64:Nat):Int):=by
  unfold ishl
  rw [Nat.shiftLeft_eq,Int.toNat_natCast]
  have e:((a:Int)*(2:Int)^min b IntKind.u64.bits)=((a*2^min b 64:Nat):Int):=by push_cast;rfl
  rw [e,wrap_u64_nat]
  congr 1
  by_cases hb:b≤64
  · rw [Nat.min_eq_left hb]
  · rw [Nat.min_eq_right (by omega),show b=64+(b - 64) by omega,Nat.pow_add,← Nat.mul_assoc,Nat.mul_mod_left,Nat.mul_assoc,Nat.mul_comm (2^64) _,← Nat.mul_assoc,Nat.mul_mod_left]

/-- Right -/
theorem right_lo (hi lo n:Nat) (h:lo<2^64) (hn:n<64):(vOf hi lo >>> n) % 2^64=(lo >>> n) ||| ((hi <<< (64 - n)) % 2^64):=by
  refine Nat.eq_of_testBit_eq fun j=>?_
  rw [Nat.testBit_or,Nat.testBit_mod_two_pow,Nat.testBit_mod_two_pow,Nat.testBit_shiftRight,Nat.testBit_shiftRight,Nat.testBit_shiftLeft,vOf_bit h]
  by_cases h1:j<64
  · by_cases h2:n+j<64
    · simp [h1,h2,show ¬ (64≤j+n) by omega]
    · have:lo.testBit (n+j)=false:=Nat.testBit_lt_two_pow (Nat.lt_of_lt_of_le h (Nat.pow_le_pow_right (by decide) (by omega)))
      simp [h1,h2,this]
      rw [show n+j - 64=j - (64 - n) by omega]
      simp;omega
  · have:lo.testBit (n+j)=false:=Nat.testBit_lt_two_pow (Nat.lt_of_lt_of_le h (Nat.pow_le_pow_right (by decide) (by omega)))
    simp [h1,this]
theorem right_hi (hi lo n:Nat) (h:lo<2^64):(vOf hi lo >>> n)/2^64=hi >>> n:=by
  rw [Nat.shiftRight_eq_div_pow,Nat.shiftRight_eq_div_pow,Nat.div_div_eq_div_mul,Nat.mul_comm,← Nat.div_div_eq_div_mul,vOf_hi h]
theorem right_far (hi lo n:Nat) (h:lo<2^64) (k:hi<2^64) (hn:64≤n):vOf hi lo >>> n=hi >>> (n - 64):=by
  rw [show n=64+(n - 64) by omega,Nat.shiftRight_add,Nat.add_sub_cancel_left]
  congr 1
  rw [Nat.shiftRight_eq_div_pow,vOf_hi h]
theorem shr_lt {a n k:Nat} (h:a<2^k):a >>> n<2^k:=Nat.lt_of_le_of_lt (Nat.shiftRight_le a n) h

/-- the last n bytes of a number, the most significant one first -/
def beN (v n:Nat):List UInt8:=(List.range n).map fun i=>UInt8.ofNat (v >>> (8*(n - 1 - i)))
theorem beN_len (v n:Nat):(beN v n).length=n:=by simp [beN]
theorem beN_drop (v w n:Nat) (h:n≤w):(beN v w).drop (w - n)=beN v n:=by
  unfold beN
  apply List.ext_getElem
  · simp;omega
  · intro i h1 h2
    simp only [List.getElem_drop,List.getElem_map,List.getElem_range]
    simp at h1 h2
    rw [show w - 1 - (w - n+i)=n - 1 - i by omega]
/-- the length of a value in bytes -/
def vLen (v:Nat):Nat:=max 1 ((bl v+7)/8)
def vBytes (v:Nat):List UInt8:=beN v (vLen v)
theorem vLen_le {v:Nat} (h:v<2^128):vLen v≤16:=by
  have:=(bl_le (n:=v) (k:=128)).2 h
  unfold vLen;omega

/-- the bits of a value, the last first -/
def bits (v:Nat):List AV:=(List.range 128).map fun j=>.bool (v.testBit j)
theorem splice_one:∀ (l:List AV) (n:Nat) (x:AV),splice l n [x]=l.set n x
  | [],n,x=>by simp [splice]
  | a::l,0,x=>by
    have:∀ m:List AV,splice m 0 []=m:=fun m=>by cases m<;>rfl
    simp [splice,this]
  | a::l,n+1,x=>by simp [splice,splice_one l n x]
theorem wrap_u8_nat (a:Nat):IntKind.wrap .u8 (a:Int)=((a % 256:Nat):Int):=by
  have:IntKind.wrap .u8 (a:Int)=(a:Int) % 256:=by simp [IntKind.wrap,IntKind.signed,IntKind.bits]
  rw [this];omega
theorem u8_ofByte {a:Nat} (h:a<256):AV.int .u8 (a:Int)=ofByte (UInt8.ofNat a):=by
  unfold ofByte;congr 1;rw [UInt8.toNat_ofNat_of_lt' (by simp [UInt8.size];omega)]
end Go.AL


/- Plain laws of readers. No program. -/
namespace Go.AL
set_option linter.all false

/-- the first byte -/
def b0 (l:List UInt8):UInt8:=l.getD 0 0
/-- a reader in memory -/
def onRo (o:Option AObj) (K:Mark→List UInt8→Int→Prop):Prop :=
  match o with
  | some (.cells [.slice m 1 l,.int .i64 e])=>(isB l∧l.length≤100000)∧K m (unb l) e
  | _=>False
@[congr] theorem onRo_congr {o o':Option AObj} {K:Mark→List UInt8→Int→Prop} (h:o=o'):onRo o K=onRo o' K:=by rw [h]
theorem cells_set_same {H:AHeap} {id:Nat} {cs:List AV} (h:id<H.nx):cellsOf? (H.set id (.cells cs)) id=some cs:=by rw [cells_set h,if_pos rfl]
theorem get_set_same' {H:AHeap} {id:Nat} {o:AObj} (h:id<H.nx):(H.set id o).get id=some o:=by rw [heap_get_set,if_pos rfl,if_pos h]
end Go.AL


/- Plain laws of a list of choices: what is taken from it, and where it stands behind that. No program. -/
namespace Go.AL
set_option linter.all false

/-- the choice at a place, of n -/
def cv (b:List UInt8) (v n:Nat):Nat:=(b.getD v 0).toNat % n
/-- a place, k further -/
def cp (v k:Nat):Nat:=v+k
/-- a list of choices in memory; behind its end the place does not move -/
def codV (b:List UInt8) (v:Nat):AObj:=.cells [.slice .any 1 (bys b),.int .i64 ((min v b.length:Nat):Int)]
theorem cp0 (v:Nat):cp v 0=v:=rfl
theorem cp_add {v k n:Nat}:cp v k+n=cp v (k+n):=by unfold cp;omega
theorem cv_past {b:List UInt8} {v n:Nat} (h:b.length≤v):cv b v n=0:=by
  unfold cv
  rw [List.getD_eq_getElem?_getD,List.getElem?_eq_none h]
  simp
theorem cv_min {b:List UInt8} {v n:Nat}:cv b (min v b.length) n=cv b v n:=by
  rcases Nat.le_total v b.length with h | h
  · rw [Nat.min_eq_left h]
  · rw [Nat.min_eq_right h,cv_past h,cv_past (Nat.le_refl _)]
theorem cv_min_add {b:List UInt8} {v k n:Nat}:cv b (min v b.length+k) n=cv b (v+k) n:=by
  rcases Nat.le_total v b.length with h | h
  · rw [Nat.min_eq_left h]
  · rw [Nat.min_eq_right h,cv_past (by omega),cv_past (by omega)]
theorem cv_lt {b:List UInt8} {v n:Nat} (h:0<n):cv b v n<n:=Nat.mod_lt _ h
theorem codV_min {b:List UInt8} {v n:Nat}:codV b (min v b.length+n)=codV b (v+n):=by
  unfold codV
  rw [show min (min v b.length+n) b.length=min (v+n) b.length by omega]
theorem codV_lt {b:List UInt8} {v n:Nat}:ltL n [.slice .any 1 (bys b),.int .i64 ((min v b.length:Nat):Int)]:=by
  simp [zno,znp,zmz,zmm]

def onC (o:Option AObj) (K:List UInt8→Nat→Prop):Prop :=
  match o with
  | some (.cells [.slice .any 1 l,.int .i64 a])=>(isB l∧l.length≤1000000∧0≤a∧a≤(l.length:Int))∧K (unb l) a.toNat
  | _=>False
@[congr] theorem onC_congr {o o':Option AObj} {K:List UInt8→Nat→Prop} (h:o=o'):onC o K=onC o' K:=by rw [h]
theorem onC_cod {b:List UInt8} {v:Nat} {K:List UInt8→Nat→Prop} (hb:b.length≤1000000):onC (some (codV b v)) K=K b (min v b.length):=by
  unfold codV onC
  simp only [zlv,zle,zlt,true_and,Int.toNat_natCast]
  refine propext ⟨fun h=>h.2,fun h=>⟨⟨hb,by omega,by omega⟩,h⟩⟩
theorem onC_out {o:Option AObj} {K:List UInt8→Nat→Prop} (h:onC o K):∃ b v,o=some (codV b (cp v 0))∧b.length≤1000000∧v≤b.length∧K b v:=by
  unfold onC at h
  split at h
  · rename_i l a
    obtain ⟨⟨h1,h2,h3,h4⟩,h5⟩:=h
    obtain ⟨xs,rfl⟩:=isB_out h1
    rw [zlt] at h5
    rw [zle] at h2 h4
    refine ⟨xs,a.toNat,?_,h2,by omega,h5⟩
    unfold codV cp
    rw [show ((min (a.toNat+0) xs.length:Nat):Int)=a by omega]
  · exact h.elim
end Go.AL

