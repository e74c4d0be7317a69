/- Lemmas of the proof; no condition. -/
import Derived.Test.YtjnhidpnfdbmaaaGreatCG
import Derived.Test.YtjnhidpnfdbmaaaGreatS10z
import Derived.Test.YtjnhidpnfdbmaaaGreatLEntB
import Derived.Test.YtjnhidpnfdbmaaaGreatS10i
set_option linter.all false
set_option maxRecDepth 10000
set_option maxHeartbeats 32000000
open Go Go.AL Go.Proofs
namespace Go.AL
def p2V(f:Nat→Nat→AV):PCt
 |[.agg [.int .u64 a,.int .u64 b],.agg [.int .u64 c,.int .u64 d]],_,K=>(isV a b∧isV c d)∧K (f (vOf a.toNat b.toNat) (vOf c.toNat d.toNat))
 |_,_,_=>False
def nn:=p2V fun x y=>vv (x&&&y)
def FH:=p2V fun x y=>vv (x ^^^ y)
theorem iR:EPp 103 nn:=by
 unfold nn
 refine Ype fun _ H K h=>?_
 unfold p2V at h
 split at h<;>try exact h.elim
 rename_i a b c d
 obtain⟨⟨⟨h0,h1,h2,h3⟩,k0,k1,k2,k3⟩,hK⟩:=h
 refine⟨_,hK,?_⟩
 obtain⟨x,rfl⟩:=bv h0
 obtain⟨y,rfl⟩:=bv h2
 obtain⟨z,rfl⟩:=bv k0
 obtain⟨w,rfl⟩:=bv k2
 clear hK h0 h2 k0 k2
 simp only[iNq]
 have hx:x<2^64:=Xa
 have hy:y<2^64:=Xa
 have hz:z<2^64:=Xa
 have hw:w<2^64:=Xa
 rw[PB x y z w hy hw,sO (Nat.and_lt_two_pow _ hw)]
 refine Yfu az tNq Tryz.func103 [.cell 4 29] fun hcl=>?_
 simp only[go_sem,zav,byq,mw x z hx hz,mw y w hy hw]
 exact Z0
theorem Po:EPp 137 FH:=by
 unfold FH
 refine Ype fun _ H K h=>?_
 unfold p2V at h
 split at h<;>try exact h.elim
 rename_i a b c d
 obtain⟨⟨⟨h0,h1,h2,h3⟩,k0,k1,k2,k3⟩,hK⟩:=h
 refine⟨_,hK,?_⟩
 obtain⟨x,rfl⟩:=bv h0
 obtain⟨y,rfl⟩:=bv h2
 obtain⟨z,rfl⟩:=bv k0
 obtain⟨w,rfl⟩:=bv k2
 clear hK h0 h2 k0 k2
 simp only[iNq]
 have hx:x<2^64:=Xa
 have hy:y<2^64:=Xa
 have hz:z<2^64:=Xa
 have hw:w<2^64:=Xa
 rw[O5 x y z w hy hw,sO (Nat.xor_lt_two_pow hy hw)]
 refine Yfu az tNq Tryz.func137 [.cell 4 29] fun hcl=>?_
 simp only[go_sem,zav,byq,yX x z hx hz,yX y w hy hw]
 exact Z0
def qO:PCt
 |[.int .i64 n],_,K=>K (.int .i64 ((cr n:Nat):Int))
 |_,_,_=>False
theorem xP:EPp 136 qO:=by
 refine Ype fun _ H K h=>?_
 unfold qO at h
 split at h<;>try exact h.elim
 rename_i n
 refine⟨_,h,?_⟩
 clear h
 refine Yfu az tNq Tryz.func136 [.tmp 2] fun hcl=>?_
 have e:min (max 0 n) 128=((cr n:Nat):Int):=by unfold cr;omega
 simp only[go_sem,Bool.false_eq_true,if_true,if_false,e]
 exact Z0
def tJ:PCt
 |[.int .i64 n],_,K=>K (.int .i64 ((cr n:Nat):Int))
 |_,_,_=>False
theorem zA:EPp 156 tJ:=by
 refine Ype fun _ H K h=>?_
 unfold tJ at h
 split at h<;>try exact h.elim
 rename_i n
 refine⟨_,h,?_⟩
 clear h
 refine Yfu az tNq Tryz.func156 [.tmp 2] fun hcl=>?_
 have e:max 0 (min n 128)=((cr n:Nat):Int):=by unfold cr;omega
 simp only[go_sem,Bool.false_eq_true,if_true,if_false,e]
 exact Z0
def jQ:PCt
 |[.int .i64 n],_,K=>K (vv (fC n))
 |_,_,_=>False
theorem fF:EPp 105 jQ:=by
 refine Ype fun _ H K h=>?_
 unfold jQ at h
 split at h<;>try exact h.elim
 rename_i n
 refine⟨_,h,?_⟩
 clear h
 have hc:=kH n
 have e1:IntKind.i64.wrap (128-((cr n:Nat):Int))=((128-cr n:Nat):Int):=Xe
 have e2:vOf 18446744073709551615 18446744073709551615 >>> (128-cr n)=fC n:=Fo hc
 have e3:Int.toNat 18446744073709551615=18446744073709551615:=rfl
 refine Yfu az (tCq xP (tCq IW tNq)) Tryz.func105 [.cell 2 29] fun hcl=>?_
 simp only[go_sem,qO,xT,isV,e1,e3,iNq,e2,vv]
 exact V32
def sk:PCt
 |[.int .i64 w,.int .i64 n],_,K=>K (vv (mc w n))
 |_,_,_=>False
theorem zq(n:Int):cr ((cr n:Nat):Int)=cr n:=by unfold cr;omega
theorem A2(n:Int):fC ((cr n:Nat):Int)=fC n:=by unfold fC;rw[zq]
theorem dH:EPp 104 sk:=by
 refine Ype fun _ H K h=>?_
 unfold sk at h
 split at h<;>try exact h.elim
 rename_i w n
 refine⟨_,h,?_⟩
 clear h
 have hc:=kH w
 have e1:IntKind.i64.wrap (((cr w:Nat):Int)-min (max 0 n) ((cr w:Nat):Int))=((cr w:Nat):Int)-min (max 0 n) ((cr w:Nat):Int):=Xe
 have hx:∀ x y:Nat,x<2^128→y<2^128→(isV ((x/2^64:Nat):Int) ((x%2^64:Nat):Int)∧isV ((y/2^64:Nat):Int) ((y%2^64:Nat):Int))=True:=fun x y hx hy=>eq_true ⟨by unfold isV;omega,by unfold isV;omega⟩
 have o1:=l9 w
 have o2:=l9 (((cr w:Nat):Int)-min (max 0 n) ((cr w:Nat):Int))
 have e2:fC w ^^^ fC (((cr w:Nat):Int)-min (max 0 n) ((cr w:Nat):Int))=mc w n:=by
  unfold mc
  congr 2
  unfold fC
  congr 2
  unfold cr
  unfold cr at hc
  omega
 refine Yfu az (tCq xP (tCq fF (tCq Po tNq))) Tryz.func104 [.cell 4 29] fun hcl=>?_
 simp only[go_sem,Bool.false_eq_true,if_true,if_false,qO,jQ,FH,p2V,e1,A2,vv,iNq,bZ,e2,hx _ _ o1 o2]
 exact Z0
theorem K8{a b c d:Nat}(h:b<2^64)(k:d<2^64):we (vOf a b) (vOf c d)=if a=c∧b=d then 0 else if a<c∨a=c∧b<d then -1 else 1:=by
 unfold we
 simp only[NB h k,P9 h k]
theorem cZ{a b c d:Int}:teq Tryz.prog 9 29 (.agg [.int .u64 a,.int .u64 b]) (.agg [.int .u64 c,.int .u64 d])=some ((a==c)&&((b==d)&&true)):=by
 have g2:Tryz.prog.stoodInHeld 29=false:=krf
 simp[qU,teq,teq.go,teq.part,wB,ceq,g2,TD.agg]
theorem cY:Tryz.prog.eqGuardType Tryz.prog.depth 29=false:=krf
theorem th{a b:Nat}:(((a:Nat):Int)==((b:Nat):Int))=decide (a=b):=by rw[Bool.eq_iff_iff];simp;omega
theorem tL{a b:Nat}:decide (((a:Nat):Int)<((b:Nat):Int))=decide (a<b):=by rw[decide_eq_decide];omega
def gP:=p2V fun x y=>.int .i64 (we x y)
theorem dK:EPp 106 gP:=by
 unfold gP
 refine Ype fun _ H K h=>?_
 unfold p2V at h
 split at h<;>try exact h.elim
 rename_i a b c d
 obtain⟨⟨⟨h0,h1,h2,h3⟩,k0,k1,k2,k3⟩,hK⟩:=h
 refine⟨_,hK,?_⟩
 obtain⟨x,rfl⟩:=bv h0
 obtain⟨y,rfl⟩:=bv h2
 obtain⟨z,rfl⟩:=bv k0
 obtain⟨w,rfl⟩:=bv k2
 clear hK h0 h2 k0 k2
 simp only[iNq]
 have hx:x<2^64:=Xa
 have hy:y<2^64:=Xa
 have hz:z<2^64:=Xa
 have hw:w<2^64:=Xa
 rw[K8 hy hw]
 rcases(Xa:(x=z∧y=w)∨x<z∨(x=z∧y<w)∨z<x∨(x=z∧w<y))with h|h|h|h|h
 ·rw[if_pos h]
  refine Yfu az tNq Tryz.func106 [.tmp 4] fun hcl=>?_
  simp only[go_sem,cZ,cY,th,tL,h.1,h.2,decide_true,Bool.and_self,Bool.bne_false,Bool.and_true]
  exact Z0
 ·rw[if_neg Xa,if_pos (.inl h)]
  have d1:decide (x=z)=false:=dfq Xa
  have d2:decide (x<z)=true:=dtq h
  exact V97
 ·rw[if_neg Xa,if_pos (.inr h)]
  have d1:decide (y=w)=false:=dfq Xa
  have d2:decide (y<w)=true:=dtq h.2
  exact V77
 ·rw[if_neg Xa,if_neg (Xa)]
  have d1:decide (x=z)=false:=dfq Xa
  have d2:decide (x<z)=false:=dfq Xa
  exact V97
 ·rw[if_neg Xa,if_neg (Xa)]
  have d1:decide (y=w)=false:=dfq Xa
  have d2:decide (y<w)=false:=dfq Xa
  exact V77
def gd:PCt
 |[.agg [.int .u64 a,.int .u64 b],.int .i64 n],_,K=>isV a b∧K (.bool (decide (((bl (vOf a.toNat b.toNat):Nat):Int)≤n)))
 |_,_,_=>False
theorem fP:EPp 77 gd:=by
 refine Ype fun _ H K h=>?_
 unfold gd at h
 split at h<;>try exact h.elim
 rename_i a b n
 obtain⟨hv,hK⟩:=h
 refine⟨_,hK,?_⟩
 clear hK
 refine Yfu az (tCq Ly tNq) Tryz.func77 [.tmp 4] fun hcl=>?_
 unfold isV at hv
 simp only[go_sem,Cv]
 refine⟨hv,?_⟩
 exact Z0
def wh(g f:Nat→Bool)(i:Nat):List AV:=bfn fun j=>if j<i then g j else f j
theorem JT{g f:Nat→Bool}:wh g f 0=bfn f:=nu fun j _=>Xb
theorem Nf{g f:Nat→Bool}:wh g f 128=bfn g:=nu fun j hj=>by simp[hj]
theorem DW{g f:Nat→Bool}{i:Nat}:(wh g f i).length=128:=BB _
theorem KF{g f:Nat→Bool}{i:Nat}(h:i<128):(wh g f i).getD i .junk=.bool (f i):=by unfold wh;rw[Ny _ _ h];simp
theorem M2{g f:Nat→Bool}{i:Nat}:(wh g f i).set i (.bool (g i))=wh g f (i+1):=AX fun j hj=>by
 by_cases e:j=i
 ·subst e;simp
 ·rw[if_neg e]
  by_cases h:j<i
  ·rw[if_pos h,if_pos (Xa)]
  ·rw[if_neg h,if_neg (Xa)]
def Ch:=p2V fun x y=>vv (x&&&y)
theorem Ox:EPp 158 Ch:=by
 unfold Ch
 refine Ype fun _ H K h=>?_
 unfold p2V at h
 split at h<;>try exact h.elim
 rename_i a b c d
 obtain⟨⟨⟨h0,h1,h2,h3⟩,k0,k1,k2,k3⟩,hK⟩:=h
 refine⟨_,hK,?_⟩
 obtain⟨x,rfl⟩:=bv h0
 obtain⟨y,rfl⟩:=bv h2
 obtain⟨z,rfl⟩:=bv k0
 obtain⟨w,rfl⟩:=bv k2
 clear hK h0 h2 k0 k2
 simp only[iNq]
 have hv:=lC (hi:=x) (lo:=y) Xa Xa
 have hu:=lC (hi:=z) (lo:=w) Xa Xa
 refine Yfw az (tCq yL (tCq um tNq)) Tryz.func158 [.cell 4 29] (nrq _) (T:=ay [(1,[[],[0],[],[0,1,2],[],[],[0,1,2,3,4,5],[0,1,2,3,4,5]]),(801,[[4,236],[5,236]])]) (h:=fun hcl=>?_)
 generalize hvo:vOf x y=v at *
 generalize huo:vOf z w=u at *
 have hs:v&&&u<2^128:=Nat.and_lt_two_pow _ hu
 have b3:=iA hs
 have u3:=dJ hs
 have es:∀ t,splice (List.replicate 128 (.bool false)) 0 (bits t)=bits t:=fun t=>eM (y:=.junk) (bJ t)
 simp only[go_sem,tU,isV,iNq,hvo,huo,bJ,fu,es]
 refine T0 ?_
 refine eZ (A:=Nat) (fun i=>[(12,.int .i64 (i:Int)),(6,.ptr (H.nx+1+1+1+1) 0),(5,.ptr (H.nx+1+1+1) 0),(4,.ptr (H.nx+1+1) 0)])
  (fun i=>((((H.push (.cells [.int .u64 (x:Int),.int .u64 (y:Int)])).push (.cells [.int .u64 (z:Int),.int .u64 (w:Int)])).push (.cells [.int .u64 0,.int .u64 0])).push (.cells (wh (v&&&u).testBit v.testBit i))).push (.cells (bits u))) (fun i=>i≤128) (fun i=>128-i) 0 Xa ?_ fun i hi=>?_
 ·simp only[bnq,enter,gX,ltF,ne_eq,Nat.reduceEqDiff,reduceCtorEq,JT,← Nc,true_or,and_true]
  all_goals rfl
 refine T9 ?_
 refine aq (fun hc=>?_) (fun hc=>?_)
 ·have hi1:i<128:=sHc
  have e0:IntKind.i64.wrap ((i:Int)+1)=((i+1:Nat):Int):=Xe
  have g1:(wh (v&&&u).testBit v.testBit i).getD i .junk=.bool (v.testBit i):=KF hi1
  have g2:=hU u i hi1
  have st:(wh (v&&&u).testBit v.testBit i).set i (.bool ((v&&&u).testBit i))=wh (v&&&u).testBit v.testBit (i+1):=M2
  have bit:(v&&&u).testBit i=(v.testBit i&&u.testBit i):=Nat.testBit_and _ _ _
  rw[bit]at st
  generalize v.testBit i=b0 at *
  generalize u.testBit i=b1 at *
  cases b0
  ·simp only[Bool.false_and]at st
   exact V93
  ·simp only[Bool.true_and]at st
   exact V93
 ·have hi1:i=128:=sHc
  subst hi1
  have e:wh (v&&&u).testBit v.testBit 128=bits (v&&&u):=Nf
  have et:List.take 128 (bits (v&&&u))=bits (v&&&u):=ybc (by rw[bJ];omega)
  exact V95
def dn:PCt
 |[.int .i64 n],_,K=>K (vv (fC n))
 |_,_,_=>False
theorem fD:EPp 125 dn:=by
 refine Ype fun _ H K h=>?_
 unfold dn at h
 split at h<;>try exact h.elim
 rename_i n
 refine⟨_,h,?_⟩
 clear h
 refine Yfu az (tCq um (tCq zA tNq)) Tryz.func125 [.cell 2 29] fun hcl=>?_
 have hs:=l9 n
 have b3:=iA hs
 have u3:=dJ hs
 have hcn:=kH n
 refine T9 ?_
 refine eZ (A:=Nat) (fun i=>[(4,.int .i64 (i:Int)),(3,.ptr (H.nx+1) 0),(2,.ptr H.nx 0),(0,.int .i64 n)])
  (fun i=>(H.push (.cells [.int .u64 0,.int .u64 0])).push (.cells (bfn fun j=>decide (j<i)))) (fun i=>i≤cr n) (fun i=>cr n-i) 0 Xa ?_ fun i hi=>?_
 ·have e:(bfn fun j=>decide (j<0))=List.replicate 128 (.bool false):=by rw[GC];exact nu fun j _=>by simp
  exact V65
 simp only[go_sem,tJ]
 refine aq (fun hc=>?_) (fun hc=>?_)
 ·have hi1:i<cr n:=sHc
  have e0:IntKind.i64.wrap ((i:Int)+1)=((i+1:Nat):Int):=Xe
  have st:(bfn fun j=>decide (j<i)).set i (.bool true)=bfn fun j=>decide (j<i+1):=AX fun j hj=>by
   by_cases e:j=i
   ·subst e;simp
   ·rw[if_neg e,decide_eq_decide];omega
  exact V98
 ·have hi1:i=cr n:=sHc
  subst hi1
  have e:(bfn fun j=>decide (j<cr n))=bits (fC n):=CQ fun j _=>(AA n j).symm
  have et:List.take 128 (bits (fC n))=bits (fC n):=ybc (by rw[bJ];omega)
  exact V95
theorem Qd(b:Bool):((b==b) !=true)=false:=by cases b<;>rfl
theorem S4:((true==false) !=true)=true:=rfl
theorem SZ:((false==true) !=true)=true:=rfl
def fU:=p2V fun x y=>.int .i64 (we x y)
theorem dp:EPp 128 fU:=by
 unfold fU
 refine Ype fun _ H K h=>?_
 unfold p2V at h
 split at h<;>try exact h.elim
 rename_i a b c d
 obtain⟨⟨⟨h0,h1,h2,h3⟩,k0,k1,k2,k3⟩,hK⟩:=h
 refine⟨_,hK,?_⟩
 obtain⟨x,rfl⟩:=bv h0
 obtain⟨y,rfl⟩:=bv h2
 obtain⟨z,rfl⟩:=bv k0
 obtain⟨w,rfl⟩:=bv k2
 clear hK h0 h2 k0 k2
 simp only[iNq]
 have hv:=lC (hi:=x) (lo:=y) Xa Xa
 have hu:=lC (hi:=z) (lo:=w) Xa Xa
 refine Yfw az (tCq yL tNq) Tryz.func128 [.tmp 4] (nrq _) (T:=ay [(1,[[],[0],[],[0,1,2],[],[],[0,1,2,3,4,5],[0,1,2,3,4,5]]),(801,[[4,236],[5,236]])]) (h:=fun hcl=>?_)
 generalize hvo:vOf x y=v at *
 generalize huo:vOf z w=u at *
 have es:∀ t,splice (List.replicate 128 (.bool false)) 0 (bits t)=bits t:=fun t=>eM (y:=.junk) (bJ t)
 have tv:∀ t j,t<2^128→128≤j→t.testBit j=false:=fun t j ht hj=>Nat.testBit_lt_two_pow (Nat.lt_of_lt_of_le ht (Nat.pow_le_pow_right Xc hj))
 simp only[go_sem,tU,isV,iNq,hvo,huo,bJ,fu,es]
 refine T0 ?_
 refine eZ (A:=Nat) (fun k=>[(7,.int .i64 ((k:Int)-1)),(6,.ptr (H.nx+1+1+1) 0),(5,.ptr (H.nx+1+1) 0)])
  (fun k=>(((H.push (.cells [.int .u64 (x:Int),.int .u64 (y:Int)])).push (.cells [.int .u64 (z:Int),.int .u64 (w:Int)])).push (.cells (bits v))).push (.cells (bits u))) (fun k=>k≤128∧∀ j,k≤j→v.testBit j=u.testBit j) (fun k=>k) 128 ⟨Xa,fun j hj=>by rw[tv v j hv hj,tv u j hu hj]⟩ ?_ fun k hk=>?_
 ·exact V148
 obtain⟨hk,hz⟩:=hk
 refine T9 ?_
 refine aq (fun hc=>?_) (fun hc=>?_)
 ·have hk0:1≤k:=sHc
  obtain⟨j,rfl⟩:∃ j,k=j+1:=⟨k-1,Xa⟩
  have e0:((j+1:Nat):Int)-1=(j:Int):=Xa
  have e1:IntKind.i64.wrap ((j:Int)-1)=(j:Int)-1:=Xe
  have g1:=hU v j Xa
  have g2:=hU u j Xa
  by_cases hj:v.testBit j=u.testBit j
  ·simp only[go_sem,iNq,bJ,e0,e1,Nat.mul_one,nzq,g1,g2,hj,Qd]
   refine T0 ?_
   refine⟨j,⟨Xa,fun i hi=>?_⟩,Xa,?_⟩
   ·by_cases h:i=j
    ·subst h;exact hj
    ·exact hz i Xa
   ·exact Z19
  ·have hz':∀ i,j<i→v.testBit i=u.testBit i:=fun i hi=>hz i Xa
   cases hb:u.testBit j
   ·have hb0:v.testBit j=true:=by
     rw[hb]at hj;simpa using hj
    have hlt:u<v:=J5 hb hb0 fun i hi=>(hz' i hi).symm
    have ec:we v u=1:=by unfold we;rw[if_neg (by omega),if_neg (by omega)]
    rw[hb]at g2;rw[hb0]at g1
    simp only[go_sem,iNq,bJ,e0,e1,Nat.mul_one,nzq,g1,g2,ec,S4]
    refine T0 ?_
    exact Z0
   ·have hb0:v.testBit j=false:=by
     rw[hb]at hj;simpa using hj
    have hlt:v<u:=J5 hb0 hb fun i hi=>(hz' i hi)
    have ec:we v u = -1:=by unfold we;rw[if_neg (by omega),if_pos (by omega)]
    rw[hb]at g2;rw[hb0]at g1
    simp only[go_sem,iNq,bJ,e0,e1,Nat.mul_one,nzq,g1,g2,ec,SZ]
    refine T0 ?_
    exact Z0
 ·have hk0:k=0:=sHc
  subst hk0
  have:v=u:=Nat.eq_of_testBit_eq fun j=>hz j Xa
  subst this
  have ec:we v v=0:=by unfold we;rw[if_pos rfl]
  simp only[go_sem,ec]
  exact Z0
def ixP{α:Type}(q:α→Bool):List α→Nat→Int
 |[],_ => -1
 |x::xs,k=>if q x=true then(k:Int)else ixP q xs (k+1)
theorem ub{α β:Type}{f:α→β}{q:β→Bool}:∀(l:List α)(k:Nat),ixP q (l.map f) k=ixP (fun x=>q (f x)) l k
 |[],_=>rfl
 |x::l,k=>by simp only[yae,ixP,ub l]
theorem oW{α:Type}{q:α→Bool}:∀{l:List α}{k:Nat},ixP q l k<(k:Int)+l.length∧(ixP q l k = -1∨(k:Int)≤ixP q l k)
 |[],k=>by simp[ixP];omega
 |x::l,k=>by
  unfold ixP
  split
  ·simp;omega
  ·have:=oW (q:=q) (l:=l) (k:=k+1)
   simp only[yaz]
   omega
theorem lQ{α:Type}{q:α→Bool}:∀{l:List α}{k i:Nat},ixP q l k=((k+i:Nat):Int)→∃ x,l[i]?=some x∧q x=true∧l.find? q=some x
 |[],k,i,h=>by simp[ixP]at h;omega
 |x::l,k,i,h=>by
  unfold ixP at h
  split at h
  ·rename_i hq
   have:i=0:=Xa
   subst this
   exact⟨x,rfl,hq,by simp[hq]⟩
  ·rename_i hq
   have hi:=(oW (q:=q) (l:=l) (k:=k+1)).2
   obtain⟨j,rfl⟩:∃ j,i=j+1:=⟨i-1,Xa⟩
   obtain⟨y,h1,h2,h3⟩:=lQ (l:=l) (k:=k+1) (i:=j) (by rw[h];congr 1;omega)
   exact⟨y,by simpa using h1,h2,by rw[List.find?_cons_of_neg hq];exact h3⟩
theorem ll{α:Type}{q:α→Bool}:∀{l:List α}{k:Nat},ixP q l k = -1→l.find? q=none
 |[],k,h=>rfl
 |x::l,k,h=>by
  unfold ixP at h
  split at h
  ·omega
  ·rename_i hq
   rw[List.find?_cons_of_neg hq]
   exact ll h
def Fy:PCt
 |[x,.ptr c 0],H,K=>∃ t n,(x=bc t∧H.get c=some (.cells [.int .i64 n]))∧K (.bool (t.id==n))
 |_,_,_=>False
theorem Pu:EPp 64 Fy:=by
 refine Ype fun _ H K h=>?_
 unfold Fy at h
 split at h<;>try exact h.elim
 rename_i x c
 obtain⟨t,n,⟨rfl,hg⟩,hK⟩:=h
 refine⟨_,hK,?_⟩
 clear hK
 unfold bc
 refine Yfv az tNq Tryz.func64 [.tmp 3] fun hcl hlt=>?_
 exact V25
def Ep:PCt
 |[x,.ptr c 0],H,K=>∃ t n,(x=cD t∧H.get c=some (.cells [.int .i64 n]))∧K (.bool (t.id==n))
 |_,_,_=>False
theorem Pt:EPp 140 Ep:=by
 refine Ype fun _ H K h=>?_
 unfold Ep at h
 split at h<;>try exact h.elim
 rename_i x c
 obtain⟨t,n,⟨rfl,hg⟩,hK⟩:=h
 refine⟨_,hK,?_⟩
 clear hK
 unfold cD
 refine Yfv az tNq Tryz.func140 [.tmp 3] fun hcl hlt=>?_
 exact V25
def En:PCt
 |[.slice _ 8 l,.func (.func 64) [] [.ptr c 0]],H,K=>∃ (ts:List STable) (n:Int),(l=ts.map bc∧H.get c=some (.cells [.int .i64 n])∧ts.length≤1000000)∧K (.int .i64 (ixP (fun t:STable=>t.id==n) ts 0))
 |_,_,_=>False
theorem Pa:EPp 63 En:=by
 refine Ype fun _ H K h=>?_
 unfold En at h
 split at h<;>try exact h.elim
 rename_i m l c
 obtain⟨ts,n,⟨rfl,hg,hl⟩,hK⟩:=h
 refine⟨_,hK,?_⟩
 clear hK
 generalize hR:ixP (fun t:STable=>t.id==n) ts 0=R
 refine Yfv az (tCq Pu tNq) Tryz.func63 [.tmp 4] fun hcl hlt=>?_
 have hm:AV.lt H.nx (.slice m 8 (ts.map bc)):=hlt _ Xb
 have hf:AV.lt H.nx (.func (.func 64) [] [.ptr c 0]):=hlt _ Xb
 clear hlt
 simp only[go_sem,ybb]
 refine aA (A:=Nat) (fun k=>[(0,.slice m 8 (ts.map bc)),(1,.func (.func 64) [] [.ptr c 0]),(7,.int .i64 (ts.length:Int)),(8,.int .i64 (k:Int))]) (fun _=>H) (fun k=>k≤ts.length∧ixP (fun t:STable=>t.id==n) (ts.drop k) k=R) (fun k=>ts.length-k) 0 ⟨Xa,hR⟩ ?_ fun k hk=>?_
 ·refine⟨nrq _,lRq _,hcl,?_,?_⟩
  ·simp[ltF,znf,hm,hf]
  ·exact V8
 clear hR
 obtain⟨hk,hR⟩:=hk
 refine T9 ?_
 refine aq (fun hc=>?_) (fun hc=>?_)
 ·have hk':k<ts.length:=sHc
  obtain⟨x,hx⟩:∃ x,x=ts[k]:=⟨_,rfl⟩
  have hd:ts.drop k=x::ts.drop (k+1):=by rw[hx];exact dcq hk'
  have hg':=bf (f:=bc) (l:=ts) (k:=k) (x:=x) (by rw[gQq hk',hx])
  have e5:=Yk5 k
  have hcell:(bc x).cells.length=8:=rfl
  rw[hd]at hR
  unfold ixP at hR
  have hag:∃ cs,bc x=.agg cs∧cs.length=8:=⟨_,rfl,rfl⟩
  obtain⟨cs,hcs,hcl3⟩:=hag
  have hts:List.take 8 cs=cs:=ybc Xa
  simp only[go_sem,iNq,ybb,hg',hcs,hcl3,hts,Fy]
  refine T0 ?_
  refine⟨x,n,⟨hcs.symm,hg⟩,?_⟩
  refine T28 ?_
  refine T0 ?_
  refine aq (fun hq=>?_) (fun hq=>?_)
  ·rw[if_pos hq]at hR
   subst hR
   exact V33
  ·rw[if_neg (by rw[hq];decide)]at hR
   refine T37 ?_
   refine⟨k+1,⟨Xa,hR⟩,Xa,nrq _,lRq _,hcl,?_,?_⟩
   ·simp[ltF,znf,hm,hf]
   ·exact V8
 ·have hk':k=ts.length:=sHc
  exact V22
def A6:PCt
 |[.slice _ 3 l,.func (.func 140) [] [.ptr c 0]],H,K=>∃ (ts:List SField) (n:Int),(l=ts.map cD∧H.get c=some (.cells [.int .i64 n])∧ts.length≤1000000)∧K (.int .i64 (ixP (fun t:SField=>t.id==n) ts 0))
 |_,_,_=>False
theorem Hi:EPp 139 A6:=by
 refine Ype fun _ H K h=>?_
 unfold A6 at h
 split at h<;>try exact h.elim
 rename_i m l c
 obtain⟨ts,n,⟨rfl,hg,hl⟩,hK⟩:=h
 refine⟨_,hK,?_⟩
 clear hK
 generalize hR:ixP (fun t:SField=>t.id==n) ts 0=R
 refine Yfv az (tCq Pt tNq) Tryz.func139 [.tmp 4] fun hcl hlt=>?_
 have hm:AV.lt H.nx (.slice m 3 (ts.map cD)):=hlt _ Xb
 have hf:AV.lt H.nx (.func (.func 140) [] [.ptr c 0]):=hlt _ Xb
 clear hlt
 simp only[go_sem,ybb]
 refine aA (A:=Nat) (fun k=>[(0,.slice m 3 (ts.map cD)),(1,.func (.func 140) [] [.ptr c 0]),(7,.int .i64 (ts.length:Int)),(8,.int .i64 (k:Int))]) (fun _=>H) (fun k=>k≤ts.length∧ixP (fun t:SField=>t.id==n) (ts.drop k) k=R) (fun k=>ts.length-k) 0 ⟨Xa,hR⟩ ?_ fun k hk=>?_
 ·refine⟨nrq _,lRq _,hcl,?_,?_⟩
  ·simp[ltF,znf,hm,hf]
  ·exact V8
 clear hR
 obtain⟨hk,hR⟩:=hk
 refine T9 ?_
 refine aq (fun hc=>?_) (fun hc=>?_)
 ·have hk':k<ts.length:=sHc
  obtain⟨x,hx⟩:∃ x,x=ts[k]:=⟨_,rfl⟩
  have hd:ts.drop k=x::ts.drop (k+1):=by rw[hx];exact dcq hk'
  have hg':=bf (f:=cD) (l:=ts) (k:=k) (x:=x) (by rw[gQq hk',hx])
  have e5:=Yk5 k
  have hcell:(cD x).cells.length=3:=rfl
  rw[hd]at hR
  unfold ixP at hR
  have hag:∃ cs,cD x=.agg cs∧cs.length=3:=⟨_,rfl,rfl⟩
  obtain⟨cs,hcs,hcl3⟩:=hag
  have hts:List.take 3 cs=cs:=ybc Xa
  simp only[go_sem,iNq,ybb,hg',hcs,hcl3,hts,Ep]
  refine T0 ?_
  refine⟨x,n,⟨hcs.symm,hg⟩,?_⟩
  refine T28 ?_
  refine T0 ?_
  refine aq (fun hq=>?_) (fun hq=>?_)
  ·rw[if_pos hq]at hR
   subst hR
   exact V33
  ·rw[if_neg (by rw[hq];decide)]at hR
   refine T37 ?_
   refine⟨k+1,⟨Xa,hR⟩,Xa,nrq _,lRq _,hcl,?_,?_⟩
   ·simp[ltF,znf,hm,hf]
   ·exact V8
 ·have hk':k=ts.length:=sHc
  exact V22
def FJ:PCt
 |[x],H,K=>∃ t,x=bL t∧K (.bool (t.kind==3||t.kind==4))
 |_,_,_=>False
theorem OJ:EPp 109 FJ:=by
 refine Ype fun _ H K h=>?_
 unfold FJ at h
 split at h<;>try exact h.elim
 rename_i x
 obtain⟨t,rfl,hK⟩:=h
 refine⟨_,hK,?_⟩
 clear hK
 unfold bL
 cases h3:(t.kind==3)
 ·rw[Bool.false_or]
  exact V112
 ·rw[Bool.true_or]
  exact V112
def ET:PCt
 |[.slice _ 3 l,.func (.func 109) [] []],H,K=>∃ ts:List SKey,(l=ts.map bL∧ts.length≤1000000)∧K (.int .i64 (ixP (fun t:SKey=>t.kind==3||t.kind==4) ts 0))
 |_,_,_=>False
theorem PD:EPp 141 ET:=by
 refine Ype fun _ H K h=>?_
 unfold ET at h
 split at h<;>try exact h.elim
 rename_i m l
 obtain⟨ts,⟨rfl,hl⟩,hK⟩:=h
 refine⟨_,hK,?_⟩
 clear hK
 generalize hR:ixP (fun t:SKey=>t.kind==3||t.kind==4) ts 0=R
 refine Yfv az (tCq OJ tNq) Tryz.func141 [.tmp 4] fun hcl hlt=>?_
 have hm:AV.lt H.nx (.slice m 3 (ts.map bL)):=hlt _ Xb
 have hf:AV.lt H.nx (.func (.func 109) [] []):=hlt _ Xb
 clear hlt
 simp only[go_sem,ybb]
 refine aA (A:=Nat) (fun k=>[(0,.slice m 3 (ts.map bL)),(1,.func (.func 109) [] []),(7,.int .i64 (ts.length:Int)),(8,.int .i64 (k:Int))]) (fun _=>H) (fun k=>k≤ts.length∧ixP (fun t:SKey=>t.kind==3||t.kind==4) (ts.drop k) k=R) (fun k=>ts.length-k) 0 ⟨Xa,hR⟩ ?_ fun k hk=>?_
 ·refine⟨nrq _,lRq _,hcl,?_,?_⟩
  ·simp[ltF,znf,hm,hf]
  ·exact V8
 clear hR
 obtain⟨hk,hR⟩:=hk
 refine T9 ?_
 refine aq (fun hc=>?_) (fun hc=>?_)
 ·have hk':k<ts.length:=sHc
  obtain⟨x,hx⟩:∃ x,x=ts[k]:=⟨_,rfl⟩
  have hd:ts.drop k=x::ts.drop (k+1):=by rw[hx];exact dcq hk'
  have hg':=bf (f:=bL) (l:=ts) (k:=k) (x:=x) (by rw[gQq hk',hx])
  have e5:=Yk5 k
  have hcell:(bL x).cells.length=3:=rfl
  rw[hd]at hR
  unfold ixP at hR
  have hag:∃ cs,bL x=.agg cs∧cs.length=3:=⟨_,rfl,rfl⟩
  obtain⟨cs,hcs,hcl3⟩:=hag
  have hts:List.take 3 cs=cs:=ybc Xa
  simp only[go_sem,iNq,ybb,hg',hcs,hcl3,hts,FJ]
  refine T0 ?_
  refine⟨x,hcs.symm,?_⟩
  refine T28 ?_
  refine T0 ?_
  refine aq (fun hq=>?_) (fun hq=>?_)
  ·rw[if_pos hq]at hR
   subst hR
   exact V33
  ·rw[if_neg (by rw[hq];decide)]at hR
   refine T37 ?_
   refine⟨k+1,⟨Xa,hR⟩,Xa,nrq _,lRq _,hcl,?_,?_⟩
   ·simp[ltF,znf,hm,hf]
   ·exact V8
 ·have hk':k=ts.length:=sHc
  exact V22
def jt:PCt
 |[.agg l,.int .i64 n],_,K=>∃ S:Sch,(l=bb S∧S.tables.length≤1000000)∧K (.int .i64 (ixP (fun t:STable=>t.id==n) S.tables 0))
 |_,_,_=>False
theorem kY:EPp 31 jt:=by
 refine Ype fun _ H K h=>?_
 unfold jt at h
 split at h<;>try exact h.elim
 rename_i l n
 obtain⟨S,⟨rfl,hl⟩,hK⟩:=h
 refine⟨_,hK,?_⟩
 clear hK
 refine Yfu az (tCq Pa tNq) Tryz.func31 [.tmp 4] fun hcl=>?_
 simp only[go_sem,bb,En]
 refine T0 ?_
 refine⟨S.tables,n,⟨rfl,Xk,hl⟩,?_⟩
 exact V46
def om:PCt
 |[.agg l,.int .i64 n],_,K=>∃ S:Sch,(l=bb S∧S.fields.length≤1000000)∧K (.int .i64 (ixP (fun t:SField=>t.id==n) S.fields 0))
 |_,_,_=>False
theorem wb:EPp 107 om:=by
 refine Ype fun _ H K h=>?_
 unfold om at h
 split at h<;>try exact h.elim
 rename_i l n
 obtain⟨S,⟨rfl,hl⟩,hK⟩:=h
 refine⟨_,hK,?_⟩
 clear hK
 refine Yfu az (tCq Hi tNq) Tryz.func107 [.tmp 4] fun hcl=>?_
 simp only[go_sem,bb,A6]
 refine T0 ?_
 refine⟨S.fields,n,⟨rfl,Xk,hl⟩,?_⟩
 exact V46
theorem pF{fs:List SField}{id:Int}:iw fs id=match fs.find? (fun f=>f.id==id)with|some f=>f.bits|none=>0:=by
 induction fs with
 |nil=>rfl
 |cons f fs ih =>
  unfold iw
  by_cases h:f.id=id
  ·rw[if_pos h,List.find?_cons_of_pos (by simp[h])]
  ·rw[if_neg h,List.find?_cons_of_neg (by simp[h])];exact ih
def qT:PCt
 |[.agg l,.agg [.str nm,.int .i64 fld,.int .i64 kind]],_,K=>∃ S:Sch,(l=bb S∧S.fields.length≤1000000)∧K (.int .i64 (cV S fld))
 |_,_,_=>False
theorem sB:EPp 73 qT:=by
 refine Ype fun _ H K h=>?_
 unfold qT at h
 split at h<;>try exact h.elim
 rename_i l nm fld kind
 obtain⟨S,⟨rfl,hl⟩,hK⟩:=h
 refine⟨_,hK,?_⟩
 clear hK
 unfold cV
 rw[pF]
 obtain⟨b1,b2⟩:=oW (q:=fun f:SField=>f.id==fld) (l:=S.fields) (k:=0)
 rcases b2 with b2|b2
 ·rw[ll b2]
  refine Yfu az (tCq wb tNq) Tryz.func73 [.tmp 4] fun hcl=>?_
  simp only[go_sem,bb,om]
  refine T0 ?_
  refine⟨S,⟨rfl,hl⟩,?_⟩
  rw[b2]
  exact V70
 ·obtain⟨i,hi⟩:∃ i:Nat,ixP (fun f:SField=>f.id==fld) S.fields 0=((0+i:Nat):Int):=⟨(ixP (fun f:SField=>f.id==fld) S.fields 0).toNat,Xa⟩
  obtain⟨x,h1,h2,h3⟩:=lQ hi
  rw[h3]
  rw[nzq]at hi
  have hil:i<S.fields.length:=by
   exact V86
  have hg':=bf (f:=cD) (l:=S.fields) (k:=i) (x:=x) h1
  have d:decide ((i:Int)<0)=false:=Xb
  refine Yfu az (tCq wb tNq) Tryz.func73 [.tmp 4] fun hcl=>?_
  simp only[go_sem,bb,om]
  refine T0 ?_
  refine⟨S,⟨rfl,hl⟩,?_⟩
  rw[hi]
  simp only[aF,go_sem,bb,d,iNq,hg',cD,ybb]
  refine T0 ?_
  exact Z0
def iW(S:Sch)(id:Int):Option STable:=S.tables.find? fun t=>t.id==id
def nV:PCt
 |[.agg l,.agg [.int .i64 id,.slice _ 8 ms,.int .i64 pr,.int .i64 ac,.slice _ 2 ar]],_,K=>∃ S:Sch,(l=bb S∧S.tables.length≤1000000) ∧
   K (match iW S id with|some t=>.tup [bc t,.bool true]|none=>.tup [bc t6,.bool false])
 |_,_,_=>False
theorem qF:EPp 70 nV:=by
 refine Ype fun _ H K h=>?_
 unfold nV at h
 split at h<;>try exact h.elim
 rename_i l id m1 ms pr ac m2 ar
 obtain⟨S,⟨rfl,hl⟩,hK⟩:=h
 refine⟨_,hK,?_⟩
 clear hK
 unfold iW
 obtain⟨b1,b2⟩:=oW (q:=fun f:STable=>f.id==id) (l:=S.tables) (k:=0)
 rcases b2 with b2|b2
 ·rw[ll b2]
  refine Yfu az (tCq kY tNq) Tryz.func70 [.cell 4 91,.tmp 5] fun hcl=>?_
  simp only[go_sem,bb,jt]
  refine T0 ?_
  refine⟨S,⟨rfl,hl⟩,?_⟩
  rw[b2]
  have d:decide ((-1:Int)<0)=true:=rfl
  simp only[aF,go_sem,d,bc,t6,yaf,inL]
  exact Z0
 ·obtain⟨i,hi⟩:∃ i:Nat,ixP (fun f:STable=>f.id==id) S.tables 0=((0+i:Nat):Int):=⟨(ixP (fun f:STable=>f.id==id) S.tables 0).toNat,Xa⟩
  obtain⟨x,h1,h2,h3⟩:=lQ hi
  rw[h3]
  rw[nzq]at hi
  have hil:i<S.tables.length:=by
   rcases Nat.lt_or_ge i S.tables.length with h|h
   ·exact h
   ·rw[gNq h]at h1;cases h1
  have hg':=bf (f:=bc) (l:=S.tables) (k:=i) (x:=x) h1
  have d:decide ((i:Int)<0)=false:=Xb
  have hlx:=dM (n:=H.nx) x
  simp only[bc]at hlx
  refine Yfu az (tCq kY tNq) Tryz.func70 [.cell 4 91,.tmp 5] fun hcl=>?_
  simp only[go_sem,bb,jt]
  refine T0 ?_
  refine⟨S,⟨rfl,hl⟩,?_⟩
  rw[hi]
  simp only[aF,go_sem,bb,d,iNq,hg',bc,ybb]
  refine T0 ?_
  simp (disch:=first|exact Zd|omega) [↓zmo,beq,ybc,ybd,ybe,af,wk,wk2,wk1,wkM,wkL,aj,ybf,hcl,hlx]
end Go.AL
