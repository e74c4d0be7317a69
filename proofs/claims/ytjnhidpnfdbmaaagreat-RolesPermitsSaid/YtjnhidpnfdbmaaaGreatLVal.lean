/- Lemmas of the proof; no condition. -/
import Derived.Test.YtjnhidpnfdbmaaaGreatProg
import Derived.Test.YtjnhidpnfdbmaaaGreatAlBun
import Derived.Test.YtjnhidpnfdbmaaaGreatAlByte
set_option linter.all false
open Go Go.AL Go.Proofs
namespace Go.AL
abbrev EPp(n:Nat)(p:List AV→AHeap→(AV→Prop)→Prop):Prop:=EntOk Tryz.prog n (Ent.pure p)
abbrev EEe(n:Nat)(p:List AV→AHeap→(AEnd→AHeap→Prop)→Prop):Prop:=EntOk Tryz.prog n (Ent.effect p)
theorem az:Tryz.prog.follows .mixedOrders=true:=krf
def vOf(hi lo:Nat):Nat:=2^64*hi+lo
def vv(v:Nat):AV:=.agg [.int .u64 ((v/2^64:Nat):Int),.int .u64 ((v%2^64:Nat):Int)]
theorem sC{hi lo:Nat}(h:lo<2^64):vOf hi lo/2^64=hi:=by unfold vOf;omega
theorem Be{hi lo:Nat}(h:lo<2^64):vOf hi lo%2^64=lo:=by unfold vOf;omega
theorem lC{hi lo:Nat}(h:hi<2^64)(k:lo<2^64):vOf hi lo<2^128:=by unfold vOf;omega
theorem bZ(v:Nat):vOf (v/2^64) (v%2^64)=v:=by unfold vOf;omega
theorem sO{hi lo:Nat}(h:lo<2^64):vv (vOf hi lo)=.agg [.int .u64 (hi:Int),.int .u64 (lo:Int)]:=by unfold vv;rw[sC h,Be h]
theorem jU{hi lo:Nat}(h:lo<2^64)(j:Nat):(vOf hi lo).testBit j=if j<64 then lo.testBit j else hi.testBit (j-64):=Nat.testBit_two_pow_mul_add hi h j
def bl(n:Nat):Nat:=if n=0 then 0 else n.log2+1
theorem bl_le{n k:Nat}:bl n≤k↔n<2^k:=by
 unfold bl
 by_cases h:n=0
 ·subst h;simp[Nat.two_pow_pos]
 ·rw[if_neg h,← Nat.log2_lt h];omega
theorem R4{n k:Nat}(h1:n<2^(k+1))(h2:2^k≤n):bl n=k+1:=by
 have:=(bl_le (n:=n) (k:=k+1)).2 h1
 have:¬ bl n≤k:=fun h=>by have:=bl_le.1 h;omega
 omega
theorem Dt(n s:Nat)(h:2^s≤n):bl n=s+bl (n >>> s):=by
 have h0:n≠0:=by have:=Nat.two_pow_pos s;omega
 have h1:n >>> s≠0:=by rw[Nat.shiftRight_eq_div_pow];have:=Nat.div_pos h (Nat.two_pow_pos s);omega
 have key:∀ k,bl (n >>> s)≤k↔bl n≤s+k:=by
  intro k
  rw[bl_le,bl_le,Nat.shiftRight_eq_div_pow,Nat.div_lt_iff_lt_mul (Nat.two_pow_pos s),Nat.pow_add,Nat.mul_comm]
 have hs:¬ bl n≤s:=fun h'=>by have:=bl_le.1 h';omega
 have a:=(key (bl (n >>> s))).1 (nrq _)
 have b:=(key (bl n-s)).2 Xa
 omega
theorem Qg{hi lo:Nat}(h:lo<2^64):bl (vOf hi lo)=if hi=0 then bl lo else 64+bl hi:=by
 by_cases h0:hi=0
 ·subst h0;simp[vOf]
 ·rw[if_neg h0,Dt _ 64 (by unfold vOf;omega)]
  congr 2
  rw[Nat.shiftRight_eq_div_pow,sC h]
theorem QW{n i:Nat}(h:n.testBit i=true)(hn:∀ j,i<j→n.testBit j=false):bl n=i+1:=by
 have h1:2^i≤n:=Nat.ge_two_pow_of_testBit h
 have h2:n<2^(i+1):=Nat.lt_pow_two_of_testBit _ fun j hj=>hn j Xa
 exact R4 h2 h1
theorem EO{n:Nat}(hn:∀ j,n.testBit j=false):n=0:=Nat.eq_of_testBit_eq fun j=>by rw[hn j];simp
theorem bv{n:Int}(h:0≤n):∃ m:Nat,n=m:=⟨n.toNat,Xa⟩
theorem ja(a b:Nat)(h:a<2^64):oA .u64 (a:Int) (b:Int)=((a >>> b:Nat):Int):=by
 unfold oA
 rw[Int.fdiv_eq_ediv_of_nonneg _ (by exact Int.le_of_lt (Int.pow_pos Xc)),Nat.shiftRight_eq_div_pow,iNq]
 have e:((2:Int)^min b IntKind.u64.bits)=((2^min b 64:Nat):Int):=by push_cast;rfl
 rw[e,← Int.natCast_ediv]
 congr 1
 by_cases hb:b≤64
 ·rw[Nat.min_eq_left hb]
 ·rw[Nat.min_eq_right Xa,Nat.div_eq_of_lt h,Nat.div_eq_of_lt]
  exact Nat.lt_of_lt_of_le h (Nat.pow_le_pow_right Xc Xa)
theorem lP(a:Nat):IntKind.wrap .u64 (a:Int)=((a%2^64:Nat):Int):=by
 have:IntKind.wrap .u64 (a:Int)=(a:Int)%18446744073709551616:=by simp[IntKind.wrap,IntKind.signed,IntKind.bits]
 rw[this];omega
theorem qY(a:Nat)(h:a<2^64):(BitVec.ofInt 64 (a:Int)).toNat=a:=by
 rw[BitVec.ofInt_natCast,BitVec.toNat_ofNat];exact Nat.mod_eq_of_lt h
theorem mw(a b:Nat)(h:a<2^64)(k:b<2^64):ul .u64 (a:Int) (b:Int)=((a&&&b:Nat):Int):=by
 have hx:a&&&b<2^64:=Nat.and_lt_two_pow _ k
 show IntKind.wrap .u64 ((BitVec.ofInt 64 (a:Int)&&&BitVec.ofInt 64 (b:Int)).toNat:Int)=_
 rw[BitVec.toNat_and,qY a h,qY b k,lP,Nat.mod_eq_of_lt hx]
theorem oM(a b:Nat)(h:a<2^64)(k:b<2^64):ior .u64 (a:Int) (b:Int)=((a ||| b:Nat):Int):=by
 have hx:a ||| b<2^64:=Nat.or_lt_two_pow h k
 show IntKind.wrap .u64 ((BitVec.ofInt 64 (a:Int) ||| BitVec.ofInt 64 (b:Int)).toNat:Int)=_
 rw[BitVec.toNat_or,qY a h,qY b k,lP,Nat.mod_eq_of_lt hx]
theorem yX(a b:Nat)(h:a<2^64)(k:b<2^64):HK .u64 (a:Int) (b:Int)=((a ^^^ b:Nat):Int):=by
 have hx:a ^^^ b<2^64:=Nat.xor_lt_two_pow h k
 show IntKind.wrap .u64 ((BitVec.ofInt 64 (a:Int) ^^^ BitVec.ofInt 64 (b:Int)).toNat:Int)=_
 rw[BitVec.toNat_xor,qY a h,qY b k,lP,Nat.mod_eq_of_lt hx]
theorem nD(a b:Nat):zo .u64 (a:Int) (b:Int)=(((a <<<b)%2^64:Nat):Int):=by
 unfold zo
 rw[Nat.shiftLeft_eq,iNq]
 have e:((a:Int)*(2:Int)^min b IntKind.u64.bits)=((a*2^min b 64:Nat):Int):=by push_cast;rfl
 rw[e,lP]
 congr 1
 by_cases hb:b≤64
 ·rw[Nat.min_eq_left hb]
 ·rw[Nat.min_eq_right Xa,show b=64+(b-64) by omega,Nat.pow_add,← Nat.mul_assoc,Nat.mul_mod_left,Nat.mul_assoc,Nat.mul_comm (2^64) _,← Nat.mul_assoc,Nat.mul_mod_left]
theorem KR(hi lo n:Nat)(h:lo<2^64)(hn:n<64):(vOf hi lo >>> n)%2^64=(lo >>> n) ||| ((hi <<<(64-n))%2^64):=by
 refine Nat.eq_of_testBit_eq fun j=>?_
 rw[Nat.testBit_or,Nat.testBit_mod_two_pow,Nat.testBit_mod_two_pow,Nat.testBit_shiftRight,Nat.testBit_shiftRight,Nat.testBit_shiftLeft,jU h]
 by_cases h1:j<64
 ·by_cases h2:n+j<64
  ·simp[h1,h2,show ¬ (64≤j+n) by omega]
  ·have:lo.testBit (n+j)=false:=Nat.testBit_lt_two_pow (Nat.lt_of_lt_of_le h (Nat.pow_le_pow_right Xc Xa))
   simp[h1,h2,this]
   rw[show n+j-64=j-(64-n) by omega]
   simp;omega
 ·have:lo.testBit (n+j)=false:=Nat.testBit_lt_two_pow (Nat.lt_of_lt_of_le h (Nat.pow_le_pow_right Xc Xa))
  simp[h1,this]
theorem MM(hi lo n:Nat)(h:lo<2^64):(vOf hi lo >>> n)/2^64=hi >>> n:=by
 rw[Nat.shiftRight_eq_div_pow,Nat.shiftRight_eq_div_pow,Nat.div_div_eq_div_mul,Nat.mul_comm,← Nat.div_div_eq_div_mul,sC h]
theorem Ho(hi lo n:Nat)(h:lo<2^64)(k:hi<2^64)(hn:64≤n):vOf hi lo >>> n=hi >>> (n-64):=by
 rw[show n=64+(n-64) by omega,Nat.shiftRight_add,Nat.add_sub_cancel_left]
 congr 1
 rw[Nat.shiftRight_eq_div_pow,sC h]
theorem nk{a n k:Nat}(h:a<2^k):a >>> n<2^k:=Nat.lt_of_le_of_lt (Nat.shiftRight_le a n) h
def bits(v:Nat):List AV:=(List.range 128).map fun j=>.bool (v.testBit j)
def cM(v:Nat)(p:Nat→Bool):List AV:=(List.range 128).map fun j=>.bool (p j&&v.testBit j)
theorem bJ(v:Nat):(bits v).length=128:=by simp[bits]
theorem oI(v:Nat)(p:Nat→Bool):(cM v p).length=128:=by simp[cM]
theorem oT(v:Nat)(p:Nat→Bool)(h:∀ j,j<128→p j=true):cM v p=bits v:=by
 unfold cM bits
 refine List.map_congr_left fun j hj=>?_
 rw[h j (List.mem_range.1 hj),Bool.true_and]
theorem mG(v:Nat)(p:Nat→Bool)(h:∀ j,j<128→p j=false):cM v p=List.replicate 128 (.bool false):=by
 unfold cM
 rw[List.eq_replicate_iff]
 refine⟨Xb,fun b hb=>?_⟩
 obtain⟨j,hj,rfl⟩:=List.mem_map.1 hb
 rw[h j (List.mem_range.1 hj),Bool.false_and]
theorem fR:∀(l:List AV)(n:Nat)(x:AV),splice l n [x]=l.set n x
 |[],n,x=>by simp[splice]
 |a::l,0,x=>by
  have:∀ m:List AV,splice m 0 []=m:=fun m=>by cases m<;>rfl
  simp[splice,this]
 |a::l,n+1,x=>by simp[splice,fR l n x]
theorem kq(v:Nat)(p q:Nat→Bool)(i:Nat)(h:∀ j,j≠i→p j=q j)(hq:q i=true):(cM v p).set i (.bool (v.testBit i))=cM v q:=by
 unfold cM
 refine List.ext_getElem Xb fun j h1 h2=>?_
 simp only[List.getElem_set,List.getElem_map,List.getElem_range]
 by_cases hj:i=j
 ·subst hj;rw[if_pos rfl,hq,Bool.true_and]
 ·rw[if_neg hj,h j (fun e=>hj e.symm)]
theorem hU(v i:Nat)(h:i<128):(bits v).getD i .junk=.bool (v.testBit i):=by
 simp[bits,gEq,h]
theorem eE{n v:Nat}:ltL n (bits v)=True:=eq_true (ltL_iff.2 fun j hj=>by
 simp only[bits,List.getElem_map]
 rw[AV.lt]<;>simp)
theorem xf{n v:Nat}{p:Nat→Bool}:ltL n (cM v p)=True:=eq_true (ltL_iff.2 fun j hj=>by
 simp only[cM,List.getElem_map]
 rw[AV.lt]<;>simp)
theorem fu{v:Nat}:bG (bits v)=true:=by
 unfold bits bG;rw[List.all_map];exact List.all_eq_true.2 fun x _=>rfl
theorem Gm(a i:Nat):(((a >>> i&&&1:Nat):Int)==1)=a.testBit i:=by
 have h:a >>> i&&&1<2:=by rw[Nat.and_one_is_mod];omega
 rw[Nat.testBit,Nat.and_comm 1]
 generalize a >>> i&&&1=b at h ⊢
 rcases(show b=0∨b=1 by omega)with rfl|rfl<;>rfl
theorem tf(a:Nat)(h:a<2^64):ul .u64 (a:Int) 1=((a&&&1:Nat):Int):=mw a 1 h Xc
theorem eM{n:Nat}{x y:AV}{ys:List AV}(h:ys.length=n):splice (List.replicate n x) 0 ys=ys:=by
 rw[hZ _ _ _ (by simp[h])];simp[h]
end Go.AL
