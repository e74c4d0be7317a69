/- Lemmas of the proof; no condition. -/
import Derived.Test.YtpbnggedofiinaaGreatAlByte
set_option linter.all false
namespace Go.AL
def vOf (hi lo:Nat):Nat:=2^64*hi+lo
def vv (v:Nat):AV:=.agg [.int .u64 ((v/2^64:Nat):Int),.int .u64 ((v % 2^64:Nat):Int)]
theorem uC {hi lo:Nat} (h:lo<2^64):vOf hi lo/2^64=hi:=by unfold vOf;omega
theorem Eb {hi lo:Nat} (h:lo<2^64):vOf hi lo % 2^64=lo:=by unfold vOf;omega
theorem nr {hi lo:Nat} (h:hi<2^64) (k:lo<2^64):vOf hi lo<2^128:=by unfold vOf;omega
theorem dr (v:Nat):vOf (v/2^64) (v % 2^64)=v:=by unfold vOf;omega
theorem lY {hi lo:Nat} (h:lo<2^64):vv (vOf hi lo)=.agg [.int .u64 (hi:Int),.int .u64 (lo:Int)]:=by unfold vv;rw [uC h,Eb h]
theorem kO {hi lo:Nat} (h:lo<2^64) (j:Nat):(vOf hi lo).testBit j=if j<64 then lo.testBit j else hi.testBit (j - 64):=Nat.testBit_two_pow_mul_add hi h j
def bl (n:Nat):Nat:=if n=0 then 0 else n.log2+1
theorem bl_le {n k:Nat}:bl n≤k↔n<2^k:=by
 unfold bl
 by_cases h:n=0
 ·subst h;simp [Nat.two_pow_pos]
 ·rw [if_neg h,← Nat.log2_lt h];omega
theorem zc (n s:Nat) (h:2^s≤n):bl n=s+bl (n >>> s):=by
 have h0:n≠0:=by have:=Nat.two_pow_pos s;omega
 have h1:n >>> s≠0:=by rw [Nat.shiftRight_eq_div_pow];have:=Nat.div_pos h (Nat.two_pow_pos s);omega
 have key:∀ k,bl (n >>> s)≤k↔bl n≤s+k:=by
  intro k
  rw [bl_le,bl_le,Nat.shiftRight_eq_div_pow,Nat.div_lt_iff_lt_mul (Nat.two_pow_pos s),Nat.pow_add,Nat.mul_comm]
 have hs:¬ bl n≤s:=fun h'=>by have:=bl_le.1 h';omega
 have a:=(key (bl (n >>> s))).1 (Nat.le_refl _)
 have b:=(key (bl n - s)).2 (by omega)
 omega
theorem Hn {hi lo:Nat} (h:lo<2^64):bl (vOf hi lo)=if hi=0 then bl lo else 64+bl hi:=by
 by_cases h0:hi=0
 ·subst h0;simp [vOf]
 ·rw [if_neg h0,zc _ 64 (by unfold vOf;omega)]
  congr 2
  rw [Nat.shiftRight_eq_div_pow,uC h]
theorem bY {n:Int} (h:0≤n):∃ m:Nat,n=m:=⟨n.toNat,by omega⟩
theorem iS (a b:Nat) (h:a<2^64):tk .u64 (a:Int) (b:Int)=((a >>> b:Nat):Int):=by
 unfold tk
 rw [Int.fdiv_eq_ediv_of_nonneg _ (by exact Int.le_of_lt (Int.pow_pos (by decide))),Nat.shiftRight_eq_div_pow,Int.toNat_natCast]
 have e:((2:Int)^min b IntKind.u64.bits)=((2^min b 64:Nat):Int):=by push_cast;rfl
 rw [e,← Int.natCast_ediv]
 congr 1
 by_cases hb:b≤64
 ·rw [Nat.min_eq_left hb]
 ·rw [Nat.min_eq_right (by omega),Nat.div_eq_of_lt h,Nat.div_eq_of_lt]
  exact Nat.lt_of_lt_of_le h (Nat.pow_le_pow_right (by decide) (by omega))
theorem mC (a:Nat):IntKind.wrap .u64 (a:Int)=((a % 2^64:Nat):Int):=by
 have:IntKind.wrap .u64 (a:Int)=(a:Int) % 18446744073709551616:=by simp [IntKind.wrap,IntKind.signed,IntKind.bits]
 rw [this];omega
theorem qe (a:Nat) (h:a<2^64):(BitVec.ofInt 64 (a:Int)).toNat=a:=by
 rw [BitVec.ofInt_natCast,BitVec.toNat_ofNat];exact Nat.mod_eq_of_lt h
theorem pV (a b:Nat) (h:a<2^64) (k:b<2^64):we .u64 (a:Int) (b:Int)=((a &&& b:Nat):Int):=by
 have hx:a &&& b<2^64:=Nat.and_lt_two_pow _ k
 show IntKind.wrap .u64 ((BitVec.ofInt 64 (a:Int) &&& BitVec.ofInt 64 (b:Int)).toNat:Int)=_
 rw [BitVec.toNat_and,qe a h,qe b k,mC,Nat.mod_eq_of_lt hx]
theorem ou (a b:Nat) (h:a<2^64) (k:b<2^64):ior .u64 (a:Int) (b:Int)=((a ||| b:Nat):Int):=by
 have hx:a ||| b<2^64:=Nat.or_lt_two_pow h k
 show IntKind.wrap .u64 ((BitVec.ofInt 64 (a:Int) ||| BitVec.ofInt 64 (b:Int)).toNat:Int)=_
 rw [BitVec.toNat_or,qe a h,qe b k,mC,Nat.mod_eq_of_lt hx]
theorem kv (a b:Nat):mX .u64 (a:Int) (b:Int)=(((a <<< b) % 2^64:Nat):Int):=by
 unfold mX
 rw [Nat.shiftLeft_eq,Int.toNat_natCast]
 have e:((a:Int)*(2:Int)^min b IntKind.u64.bits)=((a*2^min b 64:Nat):Int):=by push_cast;rfl
 rw [e,mC]
 congr 1
 by_cases hb:b≤64
 ·rw [Nat.min_eq_left hb]
 ·rw [Nat.min_eq_right (by omega),show b=64+(b - 64) by omega,Nat.pow_add,← Nat.mul_assoc,Nat.mul_mod_left,Nat.mul_assoc,Nat.mul_comm (2^64) _,← Nat.mul_assoc,Nat.mul_mod_left]
theorem Ea (hi lo n:Nat) (h:lo<2^64) (hn:n<64):(vOf hi lo >>> n) % 2^64=(lo >>> n) ||| ((hi <<< (64 - n)) % 2^64):=by
 refine Nat.eq_of_testBit_eq fun j=>?_
 rw [Nat.testBit_or,Nat.testBit_mod_two_pow,Nat.testBit_mod_two_pow,Nat.testBit_shiftRight,Nat.testBit_shiftRight,Nat.testBit_shiftLeft,kO h]
 by_cases h1:j<64
 ·by_cases h2:n+j<64
  ·simp [h1,h2,show ¬ (64≤j+n) by omega]
  ·have:lo.testBit (n+j)=false:=Nat.testBit_lt_two_pow (Nat.lt_of_lt_of_le h (Nat.pow_le_pow_right (by decide) (by omega)))
   simp [h1,h2,this]
   rw [show n+j - 64=j - (64 - n) by omega]
   simp;omega
 ·have:lo.testBit (n+j)=false:=Nat.testBit_lt_two_pow (Nat.lt_of_lt_of_le h (Nat.pow_le_pow_right (by decide) (by omega)))
  simp [h1,this]
theorem Ep (hi lo n:Nat) (h:lo<2^64):(vOf hi lo >>> n)/2^64=hi >>> n:=by
 rw [Nat.shiftRight_eq_div_pow,Nat.shiftRight_eq_div_pow,Nat.div_div_eq_div_mul,Nat.mul_comm,← Nat.div_div_eq_div_mul,uC h]
theorem De (hi lo n:Nat) (h:lo<2^64) (k:hi<2^64) (hn:64≤n):vOf hi lo >>> n=hi >>> (n - 64):=by
 rw [show n=64+(n - 64) by omega,Nat.shiftRight_add,Nat.add_sub_cancel_left]
 congr 1
 rw [Nat.shiftRight_eq_div_pow,uC h]
theorem ma {a n k:Nat} (h:a<2^k):a >>> n<2^k:=Nat.lt_of_le_of_lt (Nat.shiftRight_le a n) h
def beN (v n:Nat):List UInt8:=(List.range n).map fun i=>UInt8.ofNat (v >>> (8*(n - 1 - i)))
theorem dH (v n:Nat):(beN v n).length=n:=by simp [beN]
theorem Dt (v w n:Nat) (h:n≤w):(beN v w).drop (w - n)=beN v n:=by
 unfold beN
 apply List.ext_getElem
 ·simp;omega
 ·intro i h1 h2
  simp only [List.getElem_drop,List.getElem_map,List.getElem_range]
  simp at h1 h2
  rw [show w - 1 - (w - n+i)=n - 1 - i by omega]
def eC (v:Nat):Nat:=max 1 ((bl v+7)/8)
def fe (v:Nat):List UInt8:=beN v (eC v)
theorem yQ (v:Nat):1≤eC v:=by unfold eC;omega
theorem qp {v:Nat} (h:v<2^128):eC v≤16:=by
 have:=(bl_le (n:=v) (k:=128)).2 h
 unfold eC;omega
def bits (v:Nat):List AV:=(List.range 128).map fun j=>.bool (v.testBit j)
def iA (v:Nat) (p:Nat→Bool):List AV:=(List.range 128).map fun j=>.bool (p j&&v.testBit j)
theorem jE (v:Nat):(bits v).length=128:=by simp [bits]
theorem zv (v:Nat) (p:Nat→Bool):(iA v p).length=128:=by simp [iA]
theorem zS (v:Nat) (p:Nat→Bool) (h:∀ j,j<128→p j=true):iA v p=bits v:=by
 unfold iA bits
 refine List.map_congr_left fun j hj=>?_
 rw [h j (List.mem_range.1 hj),Bool.true_and]
theorem yt (v:Nat) (p:Nat→Bool) (h:∀ j,j<128→p j=false):iA v p=List.replicate 128 (.bool false):=by
 unfold iA
 rw [List.eq_replicate_iff]
 refine ⟨by simp,fun b hb=>?_⟩
 obtain ⟨j,hj,rfl⟩:=List.mem_map.1 hb
 rw [h j (List.mem_range.1 hj),Bool.false_and]
theorem ko:∀ (l:List AV) (n:Nat) (x:AV),splice l n [x]=l.set n x
 |[],n,x=>by simp [splice]
 |a::l,0,x=>by
  have:∀ m:List AV,splice m 0 []=m:=fun m=>by cases m<;>rfl
  simp [splice,this]
 |a::l,n+1,x=>by simp [splice,ko l n x]
theorem uz (v:Nat) (p q:Nat→Bool) (i:Nat) (h:∀ j,j≠i→p j=q j) (hq:q i=true):(iA v p).set i (.bool (v.testBit i))=iA v q:=by
 unfold iA
 refine List.ext_getElem (by simp) fun j h1 h2=>?_
 simp only [List.getElem_set,List.getElem_map,List.getElem_range]
 by_cases hj:i=j
 ·subst hj;rw [if_pos rfl,hq,Bool.true_and]
 ·rw [if_neg hj,h j (fun e=>hj e.symm)]
theorem yT (v i:Nat) (h:i<128):(bits v).getD i .junk=.bool (v.testBit i):=by
 simp [bits,List.getD_eq_getElem?_getD,h]
theorem DV {n v:Nat}:ltL n (bits v)=True:=eq_true (ltL_iff.2 fun j hj=>by
 simp only [bits,List.getElem_map]
 rw [AV.lt]<;>simp)
theorem rY {v:Nat}:bN (bits v)=true:=by
 unfold bits bN;rw [List.all_map];exact List.all_eq_true.2 fun x _=>rfl
theorem F5 (a i:Nat):(((a >>> i &&& 1:Nat):Int)==1)=a.testBit i:=by
 have h:a >>> i &&& 1<2:=by rw [Nat.and_one_is_mod];omega
 rw [Nat.testBit,Nat.and_comm 1]
 generalize a >>> i &&& 1=b at h ⊢
 rcases (show b=0∨b=1 by omega) with rfl|rfl<;>rfl
theorem yZ (a:Nat) (h:a<2^64):we .u64 (a:Int) 1=((a &&& 1:Nat):Int):=pV a 1 h (by decide)
theorem lF {n:Nat} {x y:AV} {ys:List AV} (h:ys.length=n):splice (List.replicate n x) 0 ys=ys:=by
 rw [oE _ _ _ (by simp [h])];simp [h]
theorem xH (a:Nat):IntKind.wrap .u8 (a:Int)=((a % 256:Nat):Int):=by
 have:IntKind.wrap .u8 (a:Int)=(a:Int) % 256:=by simp [IntKind.wrap,IntKind.signed,IntKind.bits]
 rw [this];omega
theorem Ct {a:Nat} (h:a<256):AV.int .u8 (a:Int)=aL (UInt8.ofNat a):=by
 unfold aL;congr 1;rw [UInt8.toNat_ofNat_of_lt' (by simp [UInt8.size];omega)]
def aO (l:List UInt8):Nat:=l.foldl (fun n b=>n*256+b.toNat) 0
theorem vq:aO []=0:=rfl
theorem jh (l:List UInt8) (b:UInt8):aO (l++[b])=aO l*256+b.toNat:=by simp [aO]
theorem tT (l:List UInt8) (k:Nat) (h:k<l.length):aO (l.take (k+1))=aO (l.take k)*256+(l.getD k 0).toNat:=by
 rw [List.take_succ_eq_append_getElem h,jh];simp [List.getD_eq_getElem?_getD,h]
theorem lI (l:List UInt8):aO l<256^l.length:=by
 induction h:l.length generalizing l with
 |zero=>have:l=[]:=List.eq_nil_of_length_eq_zero h;subst this;simp [aO]
 |succ n ih =>
  obtain ⟨l',b,rfl⟩:∃ l' b,l=l'++[b]:=⟨l.dropLast,l.getLast (by intro e;rw [e] at h;simp at h),(List.dropLast_concat_getLast _).symm⟩
  rw [jh,Nat.pow_succ]
  have:=ih l' (by simp at h;omega)
  have:=UInt8.toNat_lt b
  simp only [List.length_append,List.length_singleton] at h
  have hl:l'.length=n:=by omega
  have h2:aO l'+1≤256^n:=by omega
  have h3:(aO l'+1)*256≤256^n*256:=Nat.mul_le_mul_right _ h2
  omega
theorem oO (l:List UInt8) (k n:Nat) (h:l.length≤n):aO (l.take k)<256^n:=by
 refine Nat.lt_of_lt_of_le (lI _) (Nat.pow_le_pow_right (by decide) ?_)
 rw [List.length_take];omega
theorem A6 (a:Nat) (h:a<2^63):(BitVec.ofInt 64 (a:Int)).toNat=a:=qe a (by omega)
theorem jY (a:Nat) (h:a<2^63):IntKind.wrap .i64 (a:Int)=(a:Int):=by rw [wrap_i64]<;>omega
theorem wN (a b:Nat) (h:a<2^63) (k:b<2^63):ior .i64 (a:Int) (b:Int)=((a ||| b:Nat):Int):=by
 have hx:a ||| b<2^63:=Nat.or_lt_two_pow h k
 show IntKind.wrap .i64 ((BitVec.ofInt 64 (a:Int) ||| BitVec.ofInt 64 (b:Int)).toNat:Int)=_
 rw [BitVec.toNat_or,A6 a h,A6 b k,jY _ hx]
theorem Fl (a b:Nat) (h:a<2^54) (k:b<256):ior .i64 (mX .i64 (a:Int) 8) (b:Int)=((a*256+b:Nat):Int):=by
 have e:mX .i64 (a:Int) 8=((a*256:Nat):Int):=by
  unfold mX
  have:((a:Int)*(2:Int)^min (Int.toNat 8) IntKind.i64.bits)=((a*256:Nat):Int):=by
   have:min (Int.toNat 8) IntKind.i64.bits=8:=by decide
   rw [this];omega
  rw [this,jY _ (by omega)]
 rw [e,wN _ _ (by omega) (by omega)]
 congr 1
 have:=Nat.shiftLeft_add_eq_or_of_lt (b:=b) (i:=8) k a
 rw [Nat.shiftLeft_eq,show (2:Nat)^8=256 from rfl] at this
 exact this.symm
def b0 (l:List UInt8):UInt8:=l.getD 0 0
theorem DY (l:List UInt8) (k:Nat) (h:1≤l.length) (hk:1≤k):(bys (l.take k)).getD 0 .junk=aL (b0 l):=by
 cases l with
 |nil=>simp at h
 |cons a t =>
  cases k with
  |zero=>omega
  |succ k=>rfl
theorem FB (l:List UInt8) (h:1≤l.length):(bys l).getD 0 .junk=aL (b0 l):=nO h
abbrev RS:=Mark × List UInt8 × Int
def aJ (s:RS):List AV:=[.slice s.1 1 (bys s.2.1),.int .i64 s.2.2]
def aq (s:RS) (w:Int):Int × RS :=
 if s.2.2≠0 then (0,s) else if w<1∨4<w then (0,(s.1,s.2.1,4)) else if (s.2.1.length:Int)<w then (0,(s.1,s.2.1,1))
 else ((aO (s.2.1.take w.toNat):Nat),(.any,s.2.1.drop w.toNat,0))
def dq (s:RS):Bool × RS :=
 if s.2.2≠0 then (false,s) else if s.2.1.length<1 then (false,(s.1,s.2.1,1)) else if 1<(b0 s.2.1).toNat then (false,(s.1,s.2.1,2))
 else ((b0 s.2.1).toNat==1,(.any,s.2.1.drop 1,0))
def ep (l:List UInt8):Nat × Int :=
 if l.length=0 then (0,1) else if 16<l.length then (0,3) else if 1<l.length∧(b0 l).toNat=0 then (0,5) else (aO l,0)
def bn (s:RS):Nat × RS :=
 if s.2.2≠0 then (0,s) else if s.2.1.length<1 then (0,(s.1,s.2.1,1))
 else if (b0 s.2.1).toNat<1∨16<(b0 s.2.1).toNat then (0,(s.1,s.2.1,2))
 else if s.2.1.length<1+(b0 s.2.1).toNat then (0,(s.1,s.2.1,1))
 else if (ep ((s.2.1.take (1+(b0 s.2.1).toNat)).drop 1)).2≠0 then (0,(s.1,s.2.1,5))
 else ((ep ((s.2.1.take (1+(b0 s.2.1).toNat)).drop 1)).1,(.any,s.2.1.drop (1+(b0 s.2.1).toNat),0))
def cW (s:RS) (most:Int):List UInt8 × RS :=
 if s.2.2≠0 then ([],s) else if s.2.1.length<2 then ([],(s.1,s.2.1,1)) else if most<(aO (s.2.1.take 2):Nat) then ([],(s.1,s.2.1,3))
 else if s.2.1.length<2+aO (s.2.1.take 2) then ([],(s.1,s.2.1,1))
 else ((s.2.1.take (2+aO (s.2.1.take 2))).drop 2,(.any,s.2.1.drop (2+aO (s.2.1.take 2)),0))
def bf (s:RS) (most:Int):Int × RS :=
 if s.2.2≠0 then (0,s) else if s.2.1.length<2 then (0,(s.1,s.2.1,1)) else if most<(aO (s.2.1.take 2):Nat) then (0,(s.1,s.2.1,3))
 else ((aO (s.2.1.take 2):Nat),(.any,s.2.1.drop 2,0))
def gO (s:RS):Int:=if s.2.2=0∧0<s.2.1.length then 2 else s.2.2
def zI (o:Option AObj) (K:Mark→List UInt8→Int→Prop):Prop :=
 match o with
 |some (.cells [.slice m 1 l,.int .i64 e])=>(isB l∧l.length≤100000)∧K m (unb l) e
 |_=>False
@[congr] theorem Hl {o o':Option AObj} {K:Mark→List UInt8→Int→Prop} (h:o=o'):zI o K=zI o' K:=by rw [h]
theorem aj {m:Mark} {l:List UInt8} {e:Int} {K:Mark→List UInt8→Int→Prop}:zI (some (.cells [.slice m 1 (bys l),.int .i64 e])) K=(l.length≤100000∧K m l e):=by
 simp only [zI,zmb,zlk,zlz,true_and]
theorem aE {m:Mark} {e:Int} {K:Mark→List UInt8→Int→Prop}:zI (some (.cells [.slice m 1 [],.int .i64 e])) K=K m [] e:=by
 have:=aj (m:=m) (l:=[]) (e:=e) (K:=K)
 rw [zll] at this
 rw [this]
 simp
def onR (H:AHeap) (id:Nat) (K:Mark→List UInt8→Int→Prop):Prop:=zI (H.get id) K
theorem dw {H:AHeap} {id:Nat} {K:Mark→List UInt8→Int→Prop} (h:onR H id K):∃ m l e,H.get id=some (.cells [.slice m 1 (bys l),.int .i64 e])∧l.length≤100000∧K m l e:=by
 unfold onR zI at h
 split at h
 ·rename_i m l e hg
  obtain ⟨⟨h1,h2⟩,h3⟩:=h
  obtain ⟨xs,rfl⟩:=fY h1
  rw [zlz] at h3
  rw [zlk] at h2
  exact ⟨m,xs,e,hg,h2,h3⟩
 ·exact h.elim
theorem wa {n:Nat} {m:Mark} {l l':List UInt8} (h:(AV.slice m 1 (bys l)).lt n):(AV.slice m 1 (bys l')).lt n:=by
 rw [zms] at h ⊢;exact h
theorem ax {H:AHeap} {id:Nat} {m:Mark} {l:List UInt8} {e:Int} (hg:H.get id=some (.cells [.slice m 1 (bys l),.int .i64 e])) (h:H.Closed) (m':Mark) (hm:m'=m∨m'=.any) (l':List UInt8) (e':Int) :
 (H.set id (.cells [.slice m' 1 (bys l'),.int .i64 e'])).Closed:=by
 refine aP h ?_
 have h0:=h id _ hg 0 (by simp)
 simp only [ltL,and_true]
 refine ⟨?_,by rw [AV.lt]<;>simp⟩
 rcases hm with rfl|rfl
 ·exact wa h0
 ·rw [zms];intro id e;cases e
theorem bd {H:AHeap} {id:Nat} {cs:List AV} (h:id<H.nx):ai (H.set id (.cells cs)) id=some cs:=by rw [eZ h,if_pos rfl]
theorem bA {H:AHeap} {id:Nat} {o:AObj} (h:id<H.nx):(H.set id o).get id=some o:=by rw [jS,if_pos rfl,if_pos h]
def cv (b:List UInt8) (v n:Nat):Nat:=(b.getD v 0).toNat % n
def cp (v k:Nat):Nat:=v+k
def cr (b:List UInt8) (v:Nat):AObj:=.cells [.slice .any 1 (bys b),.int .i64 ((min v b.length:Nat):Int)]
theorem cp0 (v:Nat):cp v 0=v:=rfl
theorem aI {v k n:Nat}:cp v k+n=cp v (k+n):=by unfold cp;omega
theorem p6 {b:List UInt8} {v n:Nat} (h:b.length≤v):cv b v n=0:=by
 unfold cv
 rw [List.getD_eq_getElem?_getD,List.getElem?_eq_none h]
 simp
theorem aG {b:List UInt8} {v n:Nat}:cv b (min v b.length) n=cv b v n:=by
 rcases Nat.le_total v b.length with h|h
 ·rw [Nat.min_eq_left h]
 ·rw [Nat.min_eq_right h,p6 h,p6 (Nat.le_refl _)]
theorem cD {b:List UInt8} {v k n:Nat}:cv b (min v b.length+k) n=cv b (v+k) n:=by
 rcases Nat.le_total v b.length with h|h
 ·rw [Nat.min_eq_left h]
 ·rw [Nat.min_eq_right h,p6 (by omega),p6 (by omega)]
theorem cn {b:List UInt8} {v n:Nat} (h:0<n):cv b v n<n:=Nat.mod_lt _ h
theorem oZ {b:List UInt8} {v n:Nat}:cv b v n≤255:=by
 have h1:(b.getD v 0).toNat % n≤(b.getD v 0).toNat:=Nat.mod_le _ _
 have h2:=UInt8.toNat_lt (b.getD v 0)
 unfold cv;omega
theorem ap {b:List UInt8} {v n:Nat}:cr b (min v b.length+n)=cr b (v+n):=by
 unfold cr
 rw [show min (min v b.length+n) b.length=min (v+n) b.length by omega]
theorem fk {b:List UInt8} {v n:Nat}:ltL n [.slice .any 1 (bys b),.int .i64 ((min v b.length:Nat):Int)]:=by
 simp [znu,znv,znf,zms]
def onC (o:Option AObj) (K:List UInt8→Nat→Prop):Prop :=
 match o with
 |some (.cells [.slice .any 1 l,.int .i64 a])=>(isB l∧l.length≤1000000∧0≤a∧a≤(l.length:Int))∧K (unb l) a.toNat
 |_=>False
@[congr] theorem Hv {o o':Option AObj} {K:List UInt8→Nat→Prop} (h:o=o'):onC o K=onC o' K:=by rw [h]
theorem av {b:List UInt8} {v:Nat} {K:List UInt8→Nat→Prop} (hb:b.length≤1000000):onC (some (cr b v)) K=K b (min v b.length):=by
 unfold cr onC
 simp only [zmb,zlk,zlz,true_and,Int.toNat_natCast]
 refine propext ⟨fun h=>h.2,fun h=>⟨⟨hb,by omega,by omega⟩,h⟩⟩
theorem fp {o:Option AObj} {K:List UInt8→Nat→Prop} (h:onC o K):∃ b v,o=some (cr b (cp v 0))∧b.length≤1000000∧v≤b.length∧K b v:=by
 unfold onC at h
 split at h
 ·rename_i l a
  obtain ⟨⟨h1,h2,h3,h4⟩,h5⟩:=h
  obtain ⟨xs,rfl⟩:=fY h1
  rw [zlz] at h5
  rw [zlk] at h2 h4
  refine ⟨xs,a.toNat,?_,h2,by omega,h5⟩
  unfold cr cp
  rw [show ((min (a.toNat+0) xs.length:Nat):Int)=a by omega]
 ·exact h.elim
end Go.AL
