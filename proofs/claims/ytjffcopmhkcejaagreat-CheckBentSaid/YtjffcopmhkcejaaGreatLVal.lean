/- Lemmas of the proof; no condition. -/
import Derived.Test.YtjffcopmhkcejaaGreatProg
import Derived.Test.YtjffcopmhkcejaaGreatAlBun
import Derived.Test.YtjffcopmhkcejaaGreatAlByte
set_option linter.all false
open Go Go.AL Go.Proofs
namespace Go.AL
abbrev EPp(n:Nat)(p:Wz→AHeap→(AV→Prop)→Prop):Prop:=EntOk Tryz.prog n (Ent.pure p)
abbrev EEe(n:Nat)(p:Wz→AHeap→(AEnd→AHeap→Prop)→Prop):Prop:=EntOk Tryz.prog n (Ent.effect p)
theorem aD:Tryz.prog.follows .mixedOrders=true:=krf
def vOf(hi lo:Nat):Nat:=2^64*hi+lo
def vv(v:Nat):AV:=.agg [.int .u64 ((v/2^64:Nat):Int),.int .u64 ((v%2^64:Nat):Int)]
def zC{hi lo:Nat}(h:lo<2^64):vOf hi lo/2^64=hi:=by unfold vOf;omega
def Tk{hi lo:Nat}(h:lo<2^64):vOf hi lo%2^64=lo:=by unfold vOf;omega
def pE{hi lo:Nat}(h:hi<2^64)(k:lo<2^64):vOf hi lo<2^128:=by unfold vOf;omega
def kx(v:Nat):vOf (v/2^64) (v%2^64)=v:=by unfold vOf;omega
def Co{hi lo:Nat}(h:lo<2^64):vv (vOf hi lo)=.agg [.int .u64 (hi:Int),.int .u64 (lo:Int)]:=by unfold vv;rw[zC h,Tk h]
def rh{hi lo:Nat}(h:lo<2^64)(j:Nat):(vOf hi lo).testBit j=if j<64 then lo.testBit j else hi.testBit (j-64):=Nat.testBit_two_pow_mul_add hi h j
def bl(n:Nat):Nat:=if n=0 then 0 else n.log2+1
def bl_le{n k:Nat}:bl n≤k↔n<2^k:=by
 unfold bl
 by_cases h:n=0
 ·subst h;simp[Nat.two_pow_pos]
 ·rw[if_neg h,← Nat.log2_lt h];omega
def Ul{n k:Nat}(h1:n<2^(k+1))(h2:2^k≤n):bl n=k+1:=by
 have:=(bl_le (n:=n) (k:=k+1)).2 h1
 have:¬ bl n≤k:=fun h=>by have:=bl_le.1 h;omega
 omega
def BJ(n s:Nat)(h:2^s≤n):bl n=s+bl (n >>> s):=by
 have h0:n≠0:=by have:=Nat.two_pow_pos s;omega
 have h1:n >>> s≠0:=by rw[Nat.shiftRight_eq_div_pow];have:=Nat.div_pos h (Nat.two_pow_pos s);omega
 have key:∀ k,bl (n >>> s)≤k↔bl n≤s+k:=by
  intro k
  rw[bl_le,bl_le,Nat.shiftRight_eq_div_pow,Nat.div_lt_iff_lt_mul (Nat.two_pow_pos s),Nat.pow_add,Nat.mul_comm]
 have hs:¬ bl n≤s:=fun h'=>by have:=bl_le.1 h';omega
 have a:=(key (bl (n >>> s))).1 (nrq _)
 have b:=(key (bl n-s)).2 Xa
 omega
def Ss{hi lo:Nat}(h:lo<2^64):bl (vOf hi lo)=if hi=0 then bl lo else 64+bl hi:=by
 by_cases h0:hi=0
 ·subst h0;simp[vOf]
 ·rw[if_neg h0,BJ _ 64 (by unfold vOf;omega)]
  congr 2
  rw[Nat.shiftRight_eq_div_pow,zC h]
def Sp{n i:Nat}(h:n.testBit i=true)(hn:∀ j,i<j→n.testBit j=false):bl n=i+1:=by
 have h1:2^i≤n:=Nat.ge_two_pow_of_testBit h
 have h2:n<2^(i+1):=Nat.lt_pow_two_of_testBit _ fun j hj=>hn j Xa
 exact Ul h2 h1
def CZ{n:Nat}(hn:∀ j,n.testBit j=false):n=0:=Nat.eq_of_testBit_eq fun j=>by rw[hn j];simp
def ey{n:Int}(h:0≤n):∃ m:Nat,n=m:=⟨n.toNat,Xa⟩
def mq(a b:Nat)(h:a<2^64):fI .u64 (a:Int) (b:Int)=((a >>> b:Nat):Int):=by
 unfold fI
 rw[Int.fdiv_eq_ediv_of_nonneg _ (by exact Int.le_of_lt (Int.pow_pos Xb)),Nat.shiftRight_eq_div_pow,iNq]
 have e:((2:Int)^min b IntKind.u64.bits)=((2^min b 64:Nat):Int):=by push_cast;rfl
 rw[e,← Int.natCast_ediv]
 congr 1
 by_cases hb:b≤64
 ·rw[Nat.min_eq_left hb]
 ·rw[Nat.min_eq_right Xa,Nat.div_eq_of_lt h,Nat.div_eq_of_lt]
  exact Nat.lt_of_lt_of_le h (Nat.pow_le_pow_right Xb Xa)
def po(a:Nat):IntKind.wrap .u64 (a:Int)=((a%2^64:Nat):Int):=by
 have:IntKind.wrap .u64 (a:Int)=(a:Int)%18446744073709551616:=by simp[IntKind.wrap,IntKind.signed,IntKind.bits]
 rw[this];omega
def uT(a:Nat)(h:a<2^64):(BitVec.ofInt 64 (a:Int)).toNat=a:=by
 rw[BitVec.ofInt_natCast,BitVec.toNat_ofNat];exact Nat.mod_eq_of_lt h
def wT(a b:Nat)(h:a<2^64)(k:b<2^64):cP .u64 (a:Int) (b:Int)=((a&&&b:Nat):Int):=by
 have hx:a&&&b<2^64:=Nat.and_lt_two_pow _ k
 show IntKind.wrap .u64 ((BitVec.ofInt 64 (a:Int)&&&BitVec.ofInt 64 (b:Int)).toNat:Int)=_
 rw[BitVec.toNat_and,uT a h,uT b k,po,Nat.mod_eq_of_lt hx]
def zd(a b:Nat)(h:a<2^64)(k:b<2^64):ior .u64 (a:Int) (b:Int)=((a ||| b:Nat):Int):=by
 have hx:a ||| b<2^64:=Nat.or_lt_two_pow h k
 show IntKind.wrap .u64 ((BitVec.ofInt 64 (a:Int) ||| BitVec.ofInt 64 (b:Int)).toNat:Int)=_
 rw[BitVec.toNat_or,uT a h,uT b k,po,Nat.mod_eq_of_lt hx]
def A9(a b:Nat):uc .u64 (a:Int) (b:Int)=(((a <<<b)%2^64:Nat):Int):=by
 unfold uc
 rw[Nat.shiftLeft_eq,iNq]
 have e:((a:Int)*(2:Int)^min b IntKind.u64.bits)=((a*2^min b 64:Nat):Int):=by push_cast;rfl
 rw[e,po]
 congr 1
 by_cases hb:b≤64
 ·rw[Nat.min_eq_left hb]
 ·rw[Nat.min_eq_right Xa,show b=64+(b-64) by omega,Nat.pow_add,← Nat.mul_assoc,Nat.mul_mod_left,Nat.mul_assoc,Nat.mul_comm (2^64) _,← Nat.mul_assoc,Nat.mul_mod_left]
def M8(hi lo n:Nat)(h:lo<2^64)(hn:n<64):(vOf hi lo >>> n)%2^64=(lo >>> n) ||| ((hi <<<(64-n))%2^64):=by
 refine Nat.eq_of_testBit_eq fun j=>?_
 rw[Nat.testBit_or,Nat.testBit_mod_two_pow,Nat.testBit_mod_two_pow,Nat.testBit_shiftRight,Nat.testBit_shiftRight,Nat.testBit_shiftLeft,rh h]
 by_cases h1:j<64
 ·by_cases h2:n+j<64
  ·simp[h1,h2,show ¬ (64≤j+n) by omega]
  ·have:lo.testBit (n+j)=false:=Nat.testBit_lt_two_pow (Nat.lt_of_lt_of_le h (Nat.pow_le_pow_right Xb Xa))
   simp[h1,h2,this]
   rw[show n+j-64=j-(64-n) by omega]
   simp;omega
 ·have:lo.testBit (n+j)=false:=Nat.testBit_lt_two_pow (Nat.lt_of_lt_of_le h (Nat.pow_le_pow_right Xb Xa))
  simp[h1,this]
def JX(hi lo n:Nat)(h:lo<2^64):(vOf hi lo >>> n)/2^64=hi >>> n:=by
 rw[Nat.shiftRight_eq_div_pow,Nat.shiftRight_eq_div_pow,Nat.div_div_eq_div_mul,Nat.mul_comm,← Nat.div_div_eq_div_mul,zC h]
def Gr(hi lo n:Nat)(h:lo<2^64)(k:hi<2^64)(hn:64≤n):vOf hi lo >>> n=hi >>> (n-64):=by
 rw[show n=64+(n-64) by omega,Nat.shiftRight_add,Nat.add_sub_cancel_left]
 congr 1
 rw[Nat.shiftRight_eq_div_pow,zC h]
def qv{a n k:Nat}(h:a<2^k):a >>> n<2^k:=Nat.lt_of_le_of_lt (Nat.shiftRight_le a n) h
def beN(v n:Nat):By:=(List.range n).map fun i=>UInt8.ofNat (v >>> (8*(n-1-i)))
def gP(v n:Nat):(beN v n).length=n:=by simp[beN]
def J0(v w n:Nat)(h:n≤w):(beN v w).drop (w-n)=beN v n:=by
 unfold beN
 apply List.ext_getElem
 ·simp;omega
 ·intro i h1 h2
  simp only[List.getElem_drop,List.getElem_map,List.getElem_range]
  simp at h1 h2
  rw[show w-1-(w-n+i)=n-1-i by omega]
def jS(v:Nat):Nat:=max 1 ((bl v+7)/8)
def nz(v:Nat):By:=beN v (jS v)
def tg{v:Nat}(h:v<2^128):jS v≤16:=by
 have:=(bl_le (n:=v) (k:=128)).2 h
 unfold jS;omega
def bits(v:Nat):Wz:=(List.range 128).map fun j=>.bool (v.testBit j)
def kK(v:Nat)(p:Nat→Bool):Wz:=(List.range 128).map fun j=>.bool (p j&&v.testBit j)
def gN(v:Nat):(bits v).length=128:=by simp[bits]
def CM(v:Nat)(p:Nat→Bool):(kK v p).length=128:=by simp[kK]
def Cg(v:Nat)(p:Nat→Bool)(h:∀ j,j<128→p j=true):kK v p=bits v:=by
 unfold kK bits
 refine List.map_congr_left fun j hj=>?_
 rw[h j (List.mem_range.1 hj),Bool.true_and]
def A8(v:Nat)(p:Nat→Bool)(h:∀ j,j<128→p j=false):kK v p=List.replicate 128 (.bool false):=by
 unfold kK
 rw[List.eq_replicate_iff]
 refine⟨Xc,fun b hb=>?_⟩
 obtain⟨j,hj,rfl⟩:=List.mem_map.1 hb
 rw[h j (List.mem_range.1 hj),Bool.false_and]
theorem lS:∀(l:Wz)(n:Nat)(x:AV),splice l n [x]=l.set n x
 |[],n,x=>by simp[splice]
 |a::l,0,x=>by
  have:∀ m:Wz,splice m 0 []=m:=fun m=>by cases m<;>rfl
  simp[splice,this]
 |a::l,n+1,x=>by simp[splice,lS l n x]
def vQ(v:Nat)(p q:Nat→Bool)(i:Nat)(h:∀ j,j≠i→p j=q j)(hq:q i=true):(kK v p).set i (.bool (v.testBit i))=kK v q:=by
 unfold kK
 refine List.ext_getElem Xc fun j h1 h2=>?_
 simp only[List.getElem_set,List.getElem_map,List.getElem_range]
 by_cases hj:i=j
 ·subst hj;rw[if_pos rfl,hq,Bool.true_and]
 ·rw[if_neg hj,h j (fun e=>hj e.symm)]
def qr(v i:Nat)(h:i<128):(bits v).getD i .junk=.bool (v.testBit i):=by
 simp[bits,gEq,h]
theorem IZ{n v:Nat}:ltL n (bits v)=True:=eq_true (ltL_iff.2 fun j hj=>by
 simp only[bits,List.getElem_map]
 rw[AV.lt]<;>simp)
def nR{v:Nat}:dp (bits v)=true:=by
 unfold bits dp;rw[List.all_map];exact List.all_eq_true.2 fun x _=>rfl
def Oj(a i:Nat):(((a >>> i&&&1:Nat):Int)==1)=a.testBit i:=by
 have h:a >>> i&&&1<2:=by rw[Nat.and_one_is_mod];omega
 rw[Nat.testBit,Nat.and_comm 1]
 generalize a >>> i&&&1=b at h ⊢
 rcases(show b=0∨b=1 by omega)with rfl|rfl<;>rfl
def AB(a:Nat)(h:a<2^64):cP .u64 (a:Int) 1=((a&&&1:Nat):Int):=wT a 1 h Xb
def lY{n:Nat}{x y:AV}{ys:Wz}(h:ys.length=n):splice (List.replicate n x) 0 ys=ys:=by
 rw[mc _ _ _ (by simp[h])];simp[h]
def ke(v n i:Nat):By:=(List.range n).map fun j=>UInt8.ofNat ((v%2^i) >>> (8*(n-1-j)))
def ud(v n i:Nat):(ke v n i).length=n:=by simp[ke]
def Do(v n:Nat):ke v n 0=List.replicate n 0:=by
 unfold ke
 rw[List.eq_replicate_iff]
 refine⟨Xc,fun b hb=>?_⟩
 obtain⟨j,_,rfl⟩:=List.mem_map.1 hb
 simp[Nat.mod_one]
def Fm(v n:Nat)(h:v<2^(8*n)):ke v n (8*n)=beN v n:=by
 unfold ke beN;rw[Nat.mod_eq_of_lt h]
def wC{a b:Nat}(h:∀ t,t<8→a.testBit t=b.testBit t):UInt8.ofNat a=UInt8.ofNat b:=by
 rw[UInt8.ofNat_eq_iff_mod_eq_toNat,UInt8.toNat_ofNat']
 refine Nat.eq_of_testBit_eq fun t=>?_
 rw[Nat.testBit_mod_two_pow,Nat.testBit_mod_two_pow]
 by_cases ht:t<8
 ·rw[h t ht]
 ·simp[ht]
def C7(v n i:Nat)(h:v.testBit i=false):ke v n (i+1)=ke v n i:=by
 unfold ke
 refine List.map_congr_left fun j _=>wC fun t _=>?_
 rw[Nat.testBit_shiftRight,Nat.testBit_shiftRight,Nat.testBit_mod_two_pow,Nat.testBit_mod_two_pow]
 by_cases e:8*(n-1-j)+t=i
 ·rw[e,h];simp
 ·congr 1;rw[Bool.eq_iff_iff];simp;omega
def G2(v n i:Nat)(h:v.testBit i=true)(hi:i<8*n):(ke v n i).set (n-1-i/8) (UInt8.ofNat (((ke v n i).getD (n-1-i/8) 0).toNat ||| (1 <<<(i%8))%256))=ke v n (i+1):=by
 have hq:n-1-i/8<n:=Xa
 have hg:(ke v n i).getD (n-1-i/8) 0=UInt8.ofNat ((v%2^i) >>> (8*(i/8))):=by
  simp[ke,gEq,hq]
  rw[show n-1-(n-1-i/8)=i/8 by omega]
 rw[hg]
 refine List.ext_getElem (by simp[ke]) fun j h1 h2=>?_
 simp only[ud]at h2
 simp only[List.getElem_set]
 split
 ·rename_i e
  subst e
  simp only[ke,List.getElem_map,List.getElem_range]
  rw[show n-1-(n-1-i/8)=i/8 by omega]
  refine wC fun t ht=>?_
  rw[Nat.testBit_or,UInt8.toNat_ofNat',Nat.testBit_mod_two_pow,Nat.testBit_shiftRight,Nat.testBit_shiftRight,Nat.testBit_mod_two_pow,Nat.testBit_mod_two_pow,show(256:Nat)=2^8 from rfl,Nat.testBit_mod_two_pow,Nat.testBit_shiftLeft]
  by_cases e:t=i%8
  ·subst e
   rw[show 8*(i/8)+i%8=i by omega,h]
   simp[ht]
  ·have h1:decide (8*(i/8)+t<i+1)=decide (8*(i/8)+t<i):=Xs
   have h2:(decide (t ≥ i%8)&&Nat.testBit 1 (t-i%8))=false:=by
    by_cases h3:t ≥ i%8
    ·have:Nat.testBit 1 (t-i%8)=false:=Nat.testBit_lt_two_pow (Nat.one_lt_two_pow Xa)
     rw[this,Bool.and_false]
    ·simp[h3]
   rw[h1,h2]
   simp[ht]
 ·rename_i e
  simp only[ke,List.getElem_map,List.getElem_range]
  refine wC fun t ht=>?_
  rw[Nat.testBit_shiftRight,Nat.testBit_shiftRight,Nat.testBit_mod_two_pow,Nat.testBit_mod_two_pow]
  congr 1;rw[Bool.eq_iff_iff];simp;omega
def IF(a:Nat)(h:a<2^8):(BitVec.ofInt 8 (a:Int)).toNat=a:=by
 rw[BitVec.ofInt_natCast,BitVec.toNat_ofNat];exact Nat.mod_eq_of_lt h
def nK(a:Nat):IntKind.wrap .u8 (a:Int)=((a%256:Nat):Int):=by
 have:IntKind.wrap .u8 (a:Int)=(a:Int)%256:=by simp[IntKind.wrap,IntKind.signed,IntKind.bits]
 rw[this];omega
def RX(a b:Nat)(h:a<256)(k:b<256):ior .u8 (a:Int) (b:Int)=((a ||| b:Nat):Int):=by
 have hx:a ||| b<2^8:=Nat.or_lt_two_pow h k
 show IntKind.wrap .u8 ((BitVec.ofInt 8 (a:Int) ||| BitVec.ofInt 8 (b:Int)).toNat:Int)=_
 rw[BitVec.toNat_or,IF a h,IF b k,nK,Nat.mod_eq_of_lt hx]
def NS(a b:Nat)(hb:b≤8):uc .u8 (a:Int) (b:Int)=(((a <<<b)%256:Nat):Int):=by
 unfold uc
 rw[Nat.shiftLeft_eq,iNq]
 have e:((a:Int)*(2:Int)^min b IntKind.u8.bits)=((a*2^min b 8:Nat):Int):=by push_cast;rfl
 rw[e,nK,Nat.min_eq_left hb]
def tN{a:Nat}(h:a<256):AV.int .u8 (a:Int)=bC (UInt8.ofNat a):=by
 unfold bC;congr 1;rw[UInt8.toNat_ofNat_of_lt' (by simp[UInt8.size];omega)]
def NE{l:By}{n:Nat}{b:UInt8}:(bys l).set n (bC b)=bys (l.set n b):=by simp[bys,List.map_set]
def AJ{l:By}{n:Nat}{b:UInt8}:splice (bys l) n [bC b]=bys (l.set n b):=by rw[lS,NE]
end Go.AL
