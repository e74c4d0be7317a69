/- Contracts and plain laws, a part of the proof; no condition of its own. -/
import Derived.Test.YthpglnacipgolaaGreatAlByte
/- Plain laws of values: 128 bits as a number. No program. -/
namespace Go.AL
set_option linter.all false

/-- a value's number -/
def vOf (hi lo:Nat):Nat:=2^64*hi+lo
/-- a value as the program has it -/
def vv (v:Nat):AV:=.agg [.int .u64 ((v/2^64:Nat):Int),.int .u64 ((v % 2^64:Nat):Int)]
theorem vOf_hi {hi lo:Nat} (h:lo<2^64):vOf hi lo/2^64=hi:=by unfold vOf;omega
theorem vOf_lo {hi lo:Nat} (h:lo<2^64):vOf hi lo % 2^64=lo:=by unfold vOf;omega
theorem vOf_lt {hi lo:Nat} (h:hi<2^64) (k:lo<2^64):vOf hi lo<2^128:=by unfold vOf;omega
theorem vOf_back (v:Nat):vOf (v/2^64) (v % 2^64)=v:=by unfold vOf;omega
theorem vv_vOf {hi lo:Nat} (h:lo<2^64):vv (vOf hi lo)=.agg [.int .u64 (hi:Int),.int .u64 (lo:Int)]:=by unfold vv;rw [vOf_hi h,vOf_lo h]
theorem vOf_bit {hi lo:Nat} (h:lo<2^64) (j:Nat):(vOf hi lo).testBit j=if j<64 then lo.testBit j else hi.testBit (j - 64):=Nat.testBit_two_pow_mul_add hi h j

/-- the number of bits -/
def bl (n:Nat):Nat:=if n=0 then 0 else n.log2+1
theorem bl_le {n k:Nat}:bl n≤k↔n<2^k:=by
  unfold bl
  by_cases h:n=0
  · subst h;simp [Nat.two_pow_pos]
  · rw [if_neg h,← Nat.log2_lt h];omega
theorem bl_shift (n s:Nat) (h:2^s≤n):bl n=s+bl (n >>> s):=by
  have h0:n≠0:=by have:=Nat.two_pow_pos s;omega
  have h1:n >>> s≠0:=by rw [Nat.shiftRight_eq_div_pow];have:=Nat.div_pos h (Nat.two_pow_pos s);omega
  have key:∀ k,bl (n >>> s)≤k↔bl n≤s+k:=by
    intro k
    rw [bl_le,bl_le,Nat.shiftRight_eq_div_pow,Nat.div_lt_iff_lt_mul (Nat.two_pow_pos s),Nat.pow_add,Nat.mul_comm]
  have hs:¬ bl n≤s:=fun h'=>by have:=bl_le.1 h';omega
  have a:=(key (bl (n >>> s))).1 (Nat.le_refl _)
  have b:=(key (bl n - s)).2 (by omega)
  omega
theorem bl_vOf {hi lo:Nat} (h:lo<2^64):bl (vOf hi lo)=if hi=0 then bl lo else 64+bl hi:=by
  by_cases h0:hi=0
  · subst h0;simp [vOf]
  · rw [if_neg h0,bl_shift _ 64 (by unfold vOf;omega)]
    congr 2
    rw [Nat.shiftRight_eq_div_pow,vOf_hi h]
theorem u64_lift {n:Int} (h:0≤n):∃ m:Nat,n=m:=⟨n.toNat,by omega⟩
theorem ishr_u64 (a b:Nat) (h:a<2^64):ishr .u64 (a:Int) (b:Int)=((a >>> b:Nat):Int):=by
  unfold ishr
  rw [Int.fdiv_eq_ediv_of_nonneg _ (by exact Int.le_of_lt (Int.pow_pos (by decide))),Nat.shiftRight_eq_div_pow,Int.toNat_natCast]
  have e:((2:Int)^min b IntKind.u64.bits)=((2^min b 64:Nat):Int):=by push_cast;rfl
  rw [e,← Int.natCast_ediv]
  congr 1
  by_cases hb:b≤64
  · rw [Nat.min_eq_left hb]
  · rw [Nat.min_eq_right (by omega),Nat.div_eq_of_lt h,Nat.div_eq_of_lt]
    exact Nat.lt_of_lt_of_le h (Nat.pow_le_pow_right (by decide) (by omega))
theorem wrap_u64_nat (a:Nat):IntKind.wrap .u64 (a:Int)=((a % 2^64:Nat):Int):=by
  have:IntKind.wrap .u64 (a:Int)=(a:Int) % 18446744073709551616:=by simp [IntKind.wrap,IntKind.signed,IntKind.bits]
  rw [this];omega
theorem ofInt64 (a:Nat) (h:a<2^64):(BitVec.ofInt 64 (a:Int)).toNat=a:=by
  rw [BitVec.ofInt_natCast,BitVec.toNat_ofNat];exact Nat.mod_eq_of_lt h
theorem ior_u64 (a b:Nat) (h:a<2^64) (k:b<2^64):ior .u64 (a:Int) (b:Int)=((a ||| b:Nat):Int):=by
  have hx:a ||| b<2^64:=Nat.or_lt_two_pow h k
  show IntKind.wrap .u64 ((BitVec.ofInt 64 (a:Int) ||| BitVec.ofInt 64 (b:Int)).toNat:Int)=_
  rw [BitVec.toNat_or,ofInt64 a h,ofInt64 b k,wrap_u64_nat,Nat.mod_eq_of_lt hx]
theorem ishl_u64 (a b:Nat):ishl .u64 (a:Int) (b:Int)=(((a <<< b) % 2^64:Nat):Int):=by
  unfold ishl
  rw [Nat.shiftLeft_eq,Int.toNat_natCast]
  have e:((a:Int)*(2:Int)^min b IntKind.u64.bits)=((a*2^min b 64:Nat):Int):=by push_cast;rfl
  rw [e,wrap_u64_nat]
  congr 1
  by_cases hb:b≤64
  · rw [Nat.min_eq_left hb]
  · rw [Nat.min_eq_right (by omega),show b=64+(b - 64) by omega,Nat.pow_add,← Nat.mul_assoc,Nat.mul_mod_left,Nat.mul_assoc,Nat.mul_comm (2^64) _,← Nat.mul_assoc,Nat.mul_mod_left]

/-- Right -/
theorem right_lo (hi lo n:Nat) (h:lo<2^64) (hn:n<64):(vOf hi lo >>> n) % 2^64=(lo >>> n) ||| ((hi <<< (64 - n)) % 2^64):=by
  refine Nat.eq_of_testBit_eq fun j=>?_
  rw [Nat.testBit_or,Nat.testBit_mod_two_pow,Nat.testBit_mod_two_pow,Nat.testBit_shiftRight,Nat.testBit_shiftRight,Nat.testBit_shiftLeft,vOf_bit h]
  by_cases h1:j<64
  · by_cases h2:n+j<64
    · simp [h1,h2,show ¬ (64≤j+n) by omega]
    · have:lo.testBit (n+j)=false:=Nat.testBit_lt_two_pow (Nat.lt_of_lt_of_le h (Nat.pow_le_pow_right (by decide) (by omega)))
      simp [h1,h2,this]
      rw [show n+j - 64=j - (64 - n) by omega]
      simp;omega
  · have:lo.testBit (n+j)=false:=Nat.testBit_lt_two_pow (Nat.lt_of_lt_of_le h (Nat.pow_le_pow_right (by decide) (by omega)))
    simp [h1,this]
theorem right_hi (hi lo n:Nat) (h:lo<2^64):(vOf hi lo >>> n)/2^64=hi >>> n:=by
  rw [Nat.shiftRight_eq_div_pow,Nat.shiftRight_eq_div_pow,Nat.div_div_eq_div_mul,Nat.mul_comm,← Nat.div_div_eq_div_mul,vOf_hi h]
theorem right_far (hi lo n:Nat) (h:lo<2^64) (k:hi<2^64) (hn:64≤n):vOf hi lo >>> n=hi >>> (n - 64):=by
  rw [show n=64+(n - 64) by omega,Nat.shiftRight_add,Nat.add_sub_cancel_left]
  congr 1
  rw [Nat.shiftRight_eq_div_pow,vOf_hi h]
theorem shr_lt {a n k:Nat} (h:a<2^k):a >>> n<2^k:=Nat.lt_of_le_of_lt (Nat.shiftRight_le a n) h

/-- the last n bytes of a number, the most significant one first -/
def beN (v n:Nat):List UInt8:=(List.range n).map fun i=>UInt8.ofNat (v >>> (8*(n - 1 - i)))
theorem beN_len (v n:Nat):(beN v n).length=n:=by simp [beN]
theorem beN_drop (v w n:Nat) (h:n≤w):(beN v w).drop (w - n)=beN v n:=by
  unfold beN
  apply List.ext_getElem
  · simp;omega
  · intro i h1 h2
    simp only [List.getElem_drop,List.getElem_map,List.getElem_range]
    simp at h1 h2
    rw [show w - 1 - (w - n+i)=n - 1 - i by omega]
/-- the length of a value in bytes -/
def vLen (v:Nat):Nat:=max 1 ((bl v+7)/8)
def vBytes (v:Nat):List UInt8:=beN v (vLen v)
theorem vLen_le {v:Nat} (h:v<2^128):vLen v≤16:=by
  have:=(bl_le (n:=v) (k:=128)).2 h
  unfold vLen;omega

/-- the bits of a value, the last first -/
def bits (v:Nat):List AV:=(List.range 128).map fun j=>.bool (v.testBit j)
theorem wrap_u8_nat (a:Nat):IntKind.wrap .u8 (a:Int)=((a % 256:Nat):Int):=by
  have:IntKind.wrap .u8 (a:Int)=(a:Int) % 256:=by simp [IntKind.wrap,IntKind.signed,IntKind.bits]
  rw [this];omega
theorem u8_ofByte {a:Nat} (h:a<256):AV.int .u8 (a:Int)=ofByte (UInt8.ofNat a):=by
  unfold ofByte;congr 1;rw [UInt8.toNat_ofNat_of_lt' (by simp [UInt8.size];omega)]
end Go.AL


/- Plain laws of readers. No program. -/
namespace Go.AL
set_option linter.all false

/-- the number that bytes make, the first the most significant -/
def beVal (l:List UInt8):Nat:=l.foldl (fun n b=>n*256+b.toNat) 0
theorem beVal_nil:beVal []=0:=rfl
theorem beVal_snoc (l:List UInt8) (b:UInt8):beVal (l++[b])=beVal l*256+b.toNat:=by simp [beVal]
theorem beVal_step (l:List UInt8) (k:Nat) (h:k<l.length):beVal (l.take (k+1))=beVal (l.take k)*256+(l.getD k 0).toNat:=by
  rw [List.take_succ_eq_append_getElem h,beVal_snoc];simp [List.getD_eq_getElem?_getD,h]
theorem beVal_lt (l:List UInt8):beVal l<256^l.length:=by
  induction h:l.length generalizing l with
  | zero=>have:l=[]:=List.eq_nil_of_length_eq_zero h;subst this;simp [beVal]
  | succ n ih =>
    obtain ⟨l',b,rfl⟩:∃ l' b,l=l'++[b]:=⟨l.dropLast,l.getLast (by intro e;rw [e] at h;simp at h),(List.dropLast_concat_getLast _).symm⟩
    rw [beVal_snoc,Nat.pow_succ]
    have:=ih l' (by simp at h;omega)
    have:=UInt8.toNat_lt b
    simp only [List.length_append,List.length_singleton] at h
    have hl:l'.length=n:=by omega
    have h2:beVal l'+1≤256^n:=by omega
    have h3:(beVal l'+1)*256≤256^n*256:=Nat.mul_le_mul_right _ h2
    omega
theorem beVal_take_lt (l:List UInt8) (k n:Nat) (h:l.length≤n):beVal (l.take k)<256^n:=by
  refine Nat.lt_of_lt_of_le (beVal_lt _) (Nat.pow_le_pow_right (by decide) ?_)
  rw [List.length_take];omega

theorem ofInt63 (a:Nat) (h:a<2^63):(BitVec.ofInt 64 (a:Int)).toNat=a:=ofInt64 a (by omega)
theorem wrap_i64_nat (a:Nat) (h:a<2^63):IntKind.wrap .i64 (a:Int)=(a:Int):=by rw [wrap_i64]<;>omega
theorem ior_i64 (a b:Nat) (h:a<2^63) (k:b<2^63):ior .i64 (a:Int) (b:Int)=((a ||| b:Nat):Int):=by
  have hx:a ||| b<2^63:=Nat.or_lt_two_pow h k
  show IntKind.wrap .i64 ((BitVec.ofInt 64 (a:Int) ||| BitVec.ofInt 64 (b:Int)).toNat:Int)=_
  rw [BitVec.toNat_or,ofInt63 a h,ofInt63 b k,wrap_i64_nat _ hx]
theorem shl8_or (a b:Nat) (h:a<2^54) (k:b<256):ior .i64 (ishl .i64 (a:Int) 8) (b:Int)=((a*256+b:Nat):Int):=by
  have e:ishl .i64 (a:Int) 8=((a*256:Nat):Int):=by
    unfold ishl
    have:((a:Int)*(2:Int)^min (Int.toNat 8) IntKind.i64.bits)=((a*256:Nat):Int):=by
      have:min (Int.toNat 8) IntKind.i64.bits=8:=by decide
      rw [this];omega
    rw [this,wrap_i64_nat _ (by omega)]
  rw [e,ior_i64 _ _ (by omega) (by omega)]
  congr 1
  have:=Nat.shiftLeft_add_eq_or_of_lt (b:=b) (i:=8) k a
  rw [Nat.shiftLeft_eq,show (2:Nat)^8=256 from rfl] at this
  exact this.symm

/-- the first byte -/
def b0 (l:List UInt8):UInt8:=l.getD 0 0
theorem b0_get (l:List UInt8) (k:Nat) (h:1≤l.length) (hk:1≤k):(bys (l.take k)).getD 0 .junk=ofByte (b0 l):=by
  cases l with
  | nil=>simp at h
  | cons a t =>
    cases k with
    | zero=>omega
    | succ k=>rfl
theorem b0_get' (l:List UInt8) (h:1≤l.length):(bys l).getD 0 .junk=ofByte (b0 l):=bys_get h

/-- the state of a reader: what is known of its row, the rest, the error -/
abbrev RS:=Mark × List UInt8 × Int
def cellR (s:RS):List AV:=[.slice s.1 1 (bys s.2.1),.int .i64 s.2.2]

def uintR (s:RS) (w:Int):Int × RS :=
  if s.2.2≠0 then (0,s) else if w<1∨4<w then (0,(s.1,s.2.1,4)) else if (s.2.1.length:Int)<w then (0,(s.1,s.2.1,1))
  else ((beVal (s.2.1.take w.toNat):Nat),(.any,s.2.1.drop w.toNat,0))
def boolR (s:RS):Bool × RS :=
  if s.2.2≠0 then (false,s) else if s.2.1.length<1 then (false,(s.1,s.2.1,1)) else if 1<(b0 s.2.1).toNat then (false,(s.1,s.2.1,2))
  else ((b0 s.2.1).toNat==1,(.any,s.2.1.drop 1,0))
/-- a value's bytes read: the value, the error -/
def parseV (l:List UInt8):Nat × Int :=
  if l.length=0 then (0,1) else if 16<l.length then (0,3) else if 1<l.length∧(b0 l).toNat=0 then (0,5) else (beVal l,0)
def valueR (s:RS):Nat × RS :=
  if s.2.2≠0 then (0,s) else if s.2.1.length<1 then (0,(s.1,s.2.1,1))
  else if (b0 s.2.1).toNat<1∨16<(b0 s.2.1).toNat then (0,(s.1,s.2.1,2))
  else if s.2.1.length<1+(b0 s.2.1).toNat then (0,(s.1,s.2.1,1))
  else if (parseV ((s.2.1.take (1+(b0 s.2.1).toNat)).drop 1)).2≠0 then (0,(s.1,s.2.1,5))
  else ((parseV ((s.2.1.take (1+(b0 s.2.1).toNat)).drop 1)).1,(.any,s.2.1.drop (1+(b0 s.2.1).toNat),0))
def bytesR (s:RS) (most:Int):List UInt8 × RS :=
  if s.2.2≠0 then ([],s) else if s.2.1.length<2 then ([],(s.1,s.2.1,1)) else if most<(beVal (s.2.1.take 2):Nat) then ([],(s.1,s.2.1,3))
  else if s.2.1.length<2+beVal (s.2.1.take 2) then ([],(s.1,s.2.1,1))
  else ((s.2.1.take (2+beVal (s.2.1.take 2))).drop 2,(.any,s.2.1.drop (2+beVal (s.2.1.take 2)),0))
def plainB (l:List UInt8):Bool:=l.all fun c=>!(decide (c.toNat<32)||decide (126<c.toNat))
def textR (s:RS) (most:Int):List UInt8 × RS :=
  if plainB (bytesR s most).1=true then bytesR s most else ([],(s.1,s.2.1,2))
def countR (s:RS) (most:Int):Int × RS :=
  if s.2.2≠0 then (0,s) else if s.2.1.length<2 then (0,(s.1,s.2.1,1)) else if most<(beVal (s.2.1.take 2):Nat) then (0,(s.1,s.2.1,3))
  else ((beVal (s.2.1.take 2):Nat),(.any,s.2.1.drop 2,0))
def finishR (s:RS):Int:=if s.2.2=0∧0<s.2.1.length then 2 else s.2.2

/-- a reader in memory -/
def onRo (o:Option AObj) (K:Mark→List UInt8→Int→Prop):Prop :=
  match o with
  | some (.cells [.slice m 1 l,.int .i64 e])=>(isB l∧l.length≤100000)∧K m (unb l) e
  | _=>False
@[congr] theorem onRo_congr {o o':Option AObj} {K:Mark→List UInt8→Int→Prop} (h:o=o'):onRo o K=onRo o' K:=by rw [h]
theorem onRo_some {m:Mark} {l:List UInt8} {e:Int} {K:Mark→List UInt8→Int→Prop}:onRo (some (.cells [.slice m 1 (bys l),.int .i64 e])) K=(l.length≤100000∧K m l e):=by
  simp only [onRo,zlv,zle,zlt,true_and]
theorem onRo_nil {m:Mark} {e:Int} {K:Mark→List UInt8→Int→Prop}:onRo (some (.cells [.slice m 1 [],.int .i64 e])) K=K m [] e:=by
  have:=onRo_some (m:=m) (l:=[]) (e:=e) (K:=K)
  rw [zlf] at this
  rw [this]
  simp
def onR (H:AHeap) (id:Nat) (K:Mark→List UInt8→Int→Prop):Prop:=onRo (H.get id) K
theorem onR_out {H:AHeap} {id:Nat} {K:Mark→List UInt8→Int→Prop} (h:onR H id K):∃ m l e,H.get id=some (.cells [.slice m 1 (bys l),.int .i64 e])∧l.length≤100000∧K m l e:=by
  unfold onR onRo at h
  split at h
  · rename_i m l e hg
    obtain ⟨⟨h1,h2⟩,h3⟩:=h
    obtain ⟨xs,rfl⟩:=isB_out h1
    rw [zlt] at h3
    rw [zle] at h2
    exact ⟨m,xs,e,hg,h2,h3⟩
  · exact h.elim
theorem lt_slice_bys {n:Nat} {m:Mark} {l l':List UInt8} (h:(AV.slice m 1 (bys l)).lt n):(AV.slice m 1 (bys l')).lt n:=by
  rw [zmm] at h ⊢;exact h
theorem closedR {H:AHeap} {id:Nat} {m:Mark} {l:List UInt8} {e:Int} (hg:H.get id=some (.cells [.slice m 1 (bys l),.int .i64 e])) (h:H.Closed) (m':Mark) (hm:m'=m∨m'=.any) (l':List UInt8) (e':Int) :
    (H.set id (.cells [.slice m' 1 (bys l'),.int .i64 e'])).Closed:=by
  refine closed_set h ?_
  have h0:=h id _ hg 0 (by simp)
  simp only [ltL,and_true]
  refine ⟨?_,by rw [AV.lt]<;>simp⟩
  rcases hm with rfl | rfl
  · exact lt_slice_bys h0
  · rw [zmm];intro id e;cases e
theorem cells_set_same {H:AHeap} {id:Nat} {cs:List AV} (h:id<H.nx):cellsOf? (H.set id (.cells cs)) id=some cs:=by rw [cells_set h,if_pos rfl]
theorem get_set_same' {H:AHeap} {id:Nat} {o:AObj} (h:id<H.nx):(H.set id o).get id=some o:=by rw [heap_get_set,if_pos rfl,if_pos h]
end Go.AL


/- Plain laws of a list of choices: what is taken from it, and where it stands behind that. No program. -/
namespace Go.AL
set_option linter.all false

/-- a list of choices in memory; behind its end the place does not move -/
def codV (b:List UInt8) (v:Nat):AObj:=.cells [.slice .any 1 (bys b),.int .i64 ((min v b.length:Nat):Int)]
def onC (o:Option AObj) (K:List UInt8→Nat→Prop):Prop :=
  match o with
  | some (.cells [.slice .any 1 l,.int .i64 a])=>(isB l∧l.length≤1000000∧0≤a∧a≤(l.length:Int))∧K (unb l) a.toNat
  | _=>False
@[congr] theorem onC_congr {o o':Option AObj} {K:List UInt8→Nat→Prop} (h:o=o'):onC o K=onC o' K:=by rw [h]
end Go.AL

