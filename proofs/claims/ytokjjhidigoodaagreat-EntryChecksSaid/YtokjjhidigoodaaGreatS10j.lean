/- Lemmas of the proof; no condition. -/
import Derived.Test.YtokjjhidigoodaaGreatCG
import Derived.Test.YtokjjhidigoodaaGreatS10z
import Derived.Test.YtokjjhidigoodaaGreatLEntB
import Derived.Test.YtokjjhidigoodaaGreatS10i
set_option linter.all false
set_option maxRecDepth 10000
set_option maxHeartbeats 32000000
open List renaming length_cons → yaz, length_nil → yba, take_of_length_le → ybc, drop_append → ybd, take_append → ybe, drop_eq_nil_of_le → ybf, map_cons → yae, length_map → ybb, map_nil → yaf
open Go Go.AL Go.Proofs
namespace Go.AL
def p2V (f:Nat→Nat→AV):List AV→AHeap→(AV→Prop)→Prop
 |[.agg [.int .u64 a,.int .u64 b],.agg [.int .u64 c,.int .u64 d]],_,K=>(isV a b∧isV c d)∧K (f (vOf a.toNat b.toNat) (vOf c.toNat d.toNat))
 |_,_,_=>False
def kF:=p2V fun x y=>vv (x &&& y)
def Eb:=p2V fun x y=>vv (x ^^^ y)
theorem eo:EntOk Tryz.prog 143 (Ent.pure kF):=by
 unfold kF
 refine Ype fun _ H K h=>?_
 unfold p2V at h
 split at h
 rotate_left
 ·exact h.elim
 rename_i a b c d
 obtain ⟨⟨⟨h0,h1,h2,h3⟩,k0,k1,k2,k3⟩,hK⟩:=h
 refine ⟨_,hK,?_⟩
 obtain ⟨x,rfl⟩:=bj h0
 obtain ⟨y,rfl⟩:=bj h2
 obtain ⟨z,rfl⟩:=bj k0
 obtain ⟨w,rfl⟩:=bj k2
 clear hK h0 h2 k0 k2
 simp only [iNq]
 have hx:x<2^64:=by omega
 have hy:y<2^64:=by omega
 have hz:z<2^64:=by omega
 have hw:w<2^64:=by omega
 rw [L9 x y z w hy hw,qx (Nat.and_lt_two_pow _ hw)]
 refine Yfv ax tNq Tryz.func143 [.cell 4 48] fun hcl hlt=>?_
 clear hlt
 simp only [go_sem,zav,byq,lI x z hx hz,lI y w hy hw]
 exact Z0
theorem LN:EntOk Tryz.prog 296 (Ent.pure Eb):=by
 unfold Eb
 refine Ype fun _ H K h=>?_
 unfold p2V at h
 split at h
 rotate_left
 ·exact h.elim
 rename_i a b c d
 obtain ⟨⟨⟨h0,h1,h2,h3⟩,k0,k1,k2,k3⟩,hK⟩:=h
 refine ⟨_,hK,?_⟩
 obtain ⟨x,rfl⟩:=bj h0
 obtain ⟨y,rfl⟩:=bj h2
 obtain ⟨z,rfl⟩:=bj k0
 obtain ⟨w,rfl⟩:=bj k2
 clear hK h0 h2 k0 k2
 simp only [iNq]
 have hx:x<2^64:=by omega
 have hy:y<2^64:=by omega
 have hz:z<2^64:=by omega
 have hw:w<2^64:=by omega
 rw [Mm x y z w hy hw,qx (Nat.xor_lt_two_pow hy hw)]
 refine Yfv ax tNq Tryz.func296 [.cell 4 48] fun hcl hlt=>?_
 clear hlt
 simp only [go_sem,zav,byq,wK x z hx hz,wK y w hy hw]
 exact Z0
def pB:List AV→AHeap→(AV→Prop)→Prop
 |[.int .i64 n],_,K=>K (.int .i64 ((ca n:Nat):Int))
 |_,_,_=>False
theorem w6:EntOk Tryz.prog 295 (Ent.pure pB):=by
 refine Ype fun _ H K h=>?_
 unfold pB at h
 split at h
 rotate_left
 ·exact h.elim
 rename_i n
 refine ⟨_,h,?_⟩
 clear h
 refine Yfv ax tNq Tryz.func295 [.tmp 2] fun hcl hlt=>?_
 clear hlt
 have e:min (max 0 n) 128=((ca n:Nat):Int):=by unfold ca;omega
 simp only [go_sem,Bool.false_eq_true,if_true,if_false,e]
 exact Z0
def sJ:List AV→AHeap→(AV→Prop)→Prop
 |[.int .i64 n],_,K=>K (.int .i64 ((ca n:Nat):Int))
 |_,_,_=>False
theorem xV:EntOk Tryz.prog 140 (Ent.pure sJ):=by
 refine Ype fun _ H K h=>?_
 unfold sJ at h
 split at h
 rotate_left
 ·exact h.elim
 rename_i n
 refine ⟨_,h,?_⟩
 clear h
 refine Yfv ax tNq Tryz.func140 [.tmp 2] fun hcl hlt=>?_
 clear hlt
 have e:max 0 (min n 128)=((ca n:Nat):Int):=by unfold ca;omega
 simp only [go_sem,Bool.false_eq_true,if_true,if_false,e]
 exact Z0
def jo:List AV→AHeap→(AV→Prop)→Prop
 |[.int .i64 n],_,K=>K (vv (eT n))
 |_,_,_=>False
theorem eZ:EntOk Tryz.prog 145 (Ent.pure jo):=by
 refine Ype fun _ H K h=>?_
 unfold jo at h
 split at h
 rotate_left
 ·exact h.elim
 rename_i n
 refine ⟨_,h,?_⟩
 clear h
 have hc:=jW n
 have e1:IntKind.i64.wrap (128 - ((ca n:Nat):Int))=((128 - ca n:Nat):Int):=by rw [wrap_i64]<;>omega
 have e2:vOf 18446744073709551615 18446744073709551615 >>> (128 - ca n)=eT n:=Ej hc
 have e3:Int.toNat 18446744073709551615=18446744073709551615:=rfl
 refine Yfv ax (tCq w6 (tCq He tNq)) Tryz.func145 [.cell 2 48] fun hcl hlt=>?_
 clear hlt
 simp only [go_sem,pB,vA,isV,e1,e3,iNq,e2,vv]
 exact Y34
def ld:List AV→AHeap→(AV→Prop)→Prop
 |[.int .i64 w,.int .i64 n],_,K=>K (vv (jm w n))
 |_,_,_=>False
theorem xI (n:Int):ca ((ca n:Nat):Int)=ca n:=by unfold ca;omega
theorem zD (n:Int):eT ((ca n:Nat):Int)=eT n:=by unfold eT;rw [xI]
theorem cj:EntOk Tryz.prog 144 (Ent.pure ld):=by
 refine Ype fun _ H K h=>?_
 unfold ld at h
 split at h
 rotate_left
 ·exact h.elim
 rename_i w n
 refine ⟨_,h,?_⟩
 clear h
 have hc:=jW w
 have e1:IntKind.i64.wrap (((ca w:Nat):Int) - min (max 0 n) ((ca w:Nat):Int))=((ca w:Nat):Int) - min (max 0 n) ((ca w:Nat):Int):=by rw [wrap_i64]<;>omega
 have hx:∀ x y:Nat,x<2^128→y<2^128→(isV ((x/2^64:Nat):Int) ((x % 2^64:Nat):Int)∧isV ((y/2^64:Nat):Int) ((y % 2^64:Nat):Int))=True:=fun x y hx hy=>eq_true ⟨by unfold isV;omega,by unfold isV;omega⟩
 have o1:=ka w
 have o2:=ka (((ca w:Nat):Int) - min (max 0 n) ((ca w:Nat):Int))
 have e2:eT w ^^^ eT (((ca w:Nat):Int) - min (max 0 n) ((ca w:Nat):Int))=jm w n:=by
  unfold jm
  congr 2
  unfold eT
  congr 2
  unfold ca
  unfold ca at hc
  omega
 refine Yfv ax (tCq w6 (tCq eZ (tCq LN tNq))) Tryz.func144 [.cell 4 48] fun hcl hlt=>?_
 clear hlt
 simp only [go_sem,Bool.false_eq_true,if_true,if_false,pB,jo,Eb,p2V,e1,zD,vv,iNq,bD,e2,hx _ _ o1 o2]
 exact Z0
theorem Kh {a b c d:Nat} (h:b<2^64) (k:d<2^64):sk (vOf a b) (vOf c d)=if a=c∧b=d then 0 else if a<c∨a=c∧b<d then -1 else 1:=by
 unfold sk
 simp only [Mc h k,NL h k]
theorem cF {a b c d:Int}:teq Tryz.prog 9 48 (.agg [.int .u64 a,.int .u64 b]) (.agg [.int .u64 c,.int .u64 d])=some ((a==c)&&((b==d)&&true)):=by
 have g2:Tryz.prog.stoodInHeld 48=false:=by kernel_rfl
 simp [pC,teq,teq.go,teq.part,uS,ceq,g2,TD.agg]
theorem cE:Tryz.prog.eqGuardType Tryz.prog.depth 48=false:=by kernel_rfl
theorem sx {a b:Nat}:(((a:Nat):Int)==((b:Nat):Int))=decide (a=b):=by rw [Bool.eq_iff_iff];simp;omega
theorem sw {a b:Nat}:decide (((a:Nat):Int)<((b:Nat):Int))=decide (a<b):=by rw [decide_eq_decide];omega
def eY:=p2V fun x y=>.int .i64 (sk x y)
theorem cl:EntOk Tryz.prog 146 (Ent.pure eY):=by
 unfold eY
 refine Ype fun _ H K h=>?_
 unfold p2V at h
 split at h
 rotate_left
 ·exact h.elim
 rename_i a b c d
 obtain ⟨⟨⟨h0,h1,h2,h3⟩,k0,k1,k2,k3⟩,hK⟩:=h
 refine ⟨_,hK,?_⟩
 obtain ⟨x,rfl⟩:=bj h0
 obtain ⟨y,rfl⟩:=bj h2
 obtain ⟨z,rfl⟩:=bj k0
 obtain ⟨w,rfl⟩:=bj k2
 clear hK h0 h2 k0 k2
 simp only [iNq]
 have hx:x<2^64:=by omega
 have hy:y<2^64:=by omega
 have hz:z<2^64:=by omega
 have hw:w<2^64:=by omega
 rw [Kh hy hw]
 rcases (by omega:(x=z∧y=w)∨x<z∨(x=z∧y<w)∨z<x∨(x=z∧w<y)) with h|h|h|h|h
 ·rw [if_pos h]
  refine Yfv ax tNq Tryz.func146 [.tmp 4] fun hcl hlt=>?_
  clear hlt
  simp only [go_sem,cF,cE,sx,sw,h.1,h.2,decide_true,Bool.and_self,Bool.bne_false,Bool.and_true]
  exact Z0
 ·rw [if_neg (by omega),if_pos (.inl h)]
  have d1:decide (x=z)=false:=dfq (by omega)
  have d2:decide (x<z)=true:=dtq h
  exact Y101
 ·rw [if_neg (by omega),if_pos (.inr h)]
  have d1:decide (y=w)=false:=dfq (by omega)
  have d2:decide (y<w)=true:=dtq h.2
  exact Y83
 ·rw [if_neg (by omega),if_neg (by omega)]
  have d1:decide (x=z)=false:=dfq (by omega)
  have d2:decide (x<z)=false:=dfq (by omega)
  exact Y101
 ·rw [if_neg (by omega),if_neg (by omega)]
  have d1:decide (y=w)=false:=dfq (by omega)
  have d2:decide (y<w)=false:=dfq (by omega)
  exact Y83
def fL:List AV→AHeap→(AV→Prop)→Prop
 |[.agg [.int .u64 a,.int .u64 b],.int .i64 n],_,K=>isV a b∧K (.bool (decide (((bl (vOf a.toNat b.toNat):Nat):Int)≤n)))
 |_,_,_=>False
theorem fD:EntOk Tryz.prog 77 (Ent.pure fL):=by
 refine Ype fun _ H K h=>?_
 unfold fL at h
 split at h
 rotate_left
 ·exact h.elim
 rename_i a b n
 obtain ⟨hv,hK⟩:=h
 refine ⟨_,hK,?_⟩
 clear hK
 refine Yfv ax (tCq Kk tNq) Tryz.func77 [.tmp 4] fun hcl hlt=>?_
 clear hlt
 unfold isV at hv
 simp only [go_sem,zK]
 refine ⟨hv,?_⟩
 exact Z0
def uD (g f:Nat→Bool) (i:Nat):List AV:=bfn fun j=>if j<i then g j else f j
theorem FE {g f:Nat→Bool}:uD g f 0=bfn f:=mP fun j _=>by simp
theorem JG {g f:Nat→Bool}:uD g f 128=bfn g:=mP fun j hj=>by simp [hj]
theorem BT {g f:Nat→Bool} {i:Nat}:(uD g f i).length=128:=AA _
theorem J2 {g f:Nat→Bool} {i:Nat} (h:i<128):(uD g f i).getD i .junk=.bool (f i):=by unfold uD;rw [MA _ _ h];simp
theorem Jt {g f:Nat→Bool} {i:Nat}:(uD g f i).set i (.bool (g i))=uD g f (i+1):=z4 fun j hj=>by
 by_cases e:j=i
 ·subst e;simp
 ·rw [if_neg e]
  by_cases h:j<i
  ·rw [if_pos h,if_pos (by omega)]
  ·rw [if_neg h,if_neg (by omega)]
def AB:=p2V fun x y=>vv (x &&& y)
theorem Lr:EntOk Tryz.prog 275 (Ent.pure AB):=by
 unfold AB
 refine Ype fun _ H K h=>?_
 unfold p2V at h
 split at h
 rotate_left
 ·exact h.elim
 rename_i a b c d
 obtain ⟨⟨⟨h0,h1,h2,h3⟩,k0,k1,k2,k3⟩,hK⟩:=h
 refine ⟨_,hK,?_⟩
 obtain ⟨x,rfl⟩:=bj h0
 obtain ⟨y,rfl⟩:=bj h2
 obtain ⟨z,rfl⟩:=bj k0
 obtain ⟨w,rfl⟩:=bj k2
 clear hK h0 h2 k0 k2
 simp only [iNq]
 have hv:=kB (hi:=x) (lo:=y) (by omega) (by omega)
 have hu:=kB (hi:=z) (lo:=w) (by omega) (by omega)
 refine ACalls.fW ax (tCq vX (tCq tX tNq)) Tryz.func275 [.cell 4 48] (nrq _) (T:=av [(1,[[],[0],[],[0,1,2],[],[],[0,1,2,3,4,5],[0,1,2,3,4,5]]),(801,[[4,215],[5,215]])]) (h:=fun hcl hlt=>?_)
 clear hlt
 generalize hvo:vOf x y=v at *
 generalize huo:vOf z w=u at *
 have hs:v &&& u<2^128:=Nat.and_lt_two_pow _ hu
 have b3:=gV hs
 have u3:=dq hs
 have es:∀ t,splice (List.replicate 128 (.bool false)) 0 (bits t)=bits t:=fun t=>dY (y:=.junk) (bJ t)
 simp only [go_sem,rU,isV,iNq,hvo,huo,bJ,eS,es]
 (repeat with_reducible refine Yq ?_)
 refine eJ (A:=Nat) (fun i=>[(12,.int .i64 (i:Int)),(6,.ptr (H.nx+1+1+1+1) 0),(5,.ptr (H.nx+1+1+1) 0),(4,.ptr (H.nx+1+1) 0)])
  (fun i=>((((H.push (.cells [.int .u64 (x:Int),.int .u64 (y:Int)])).push (.cells [.int .u64 (z:Int),.int .u64 (w:Int)])).push (.cells [.int .u64 0,.int .u64 0])).push (.cells (uD (v &&& u).testBit v.testBit i))).push (.cells (bits u))) (fun i=>i≤128) (fun i=>128 - i) 0 (by omega) ?_ fun i hi=>?_
 ·simp only [bnq,enter,gA,ltF,ne_eq,Nat.reduceEqDiff,reduceCtorEq,FE,← KX,true_or,and_true]
  all_goals rfl
 simp only [go_sem]
 refine au (fun hc=>?_) (fun hc=>?_)
 ·have hi1:i<128:=by simp at hc;omega
  have e0:IntKind.i64.wrap ((i:Int)+1)=((i+1:Nat):Int):=by rw [wrap_i64]<;>omega
  have g1:(uD (v &&& u).testBit v.testBit i).getD i .junk=.bool (v.testBit i):=J2 hi1
  have g2:=gF u i hi1
  have st:(uD (v &&& u).testBit v.testBit i).set i (.bool ((v &&& u).testBit i))=uD (v &&& u).testBit v.testBit (i+1):=Jt
  have bit:(v &&& u).testBit i=(v.testBit i&&u.testBit i):=Nat.testBit_and _ _ _
  rw [bit] at st
  generalize v.testBit i=b0 at *
  generalize u.testBit i=b1 at *
  cases b0
  ·simp only [Bool.false_and] at st
   exact Y96
  ·simp only [Bool.true_and] at st
   exact Y96
 ·have hi1:i=128:=by simp at hc;omega
  subst hi1
  have e:uD (v &&& u).testBit v.testBit 128=bits (v &&& u):=JG
  have et:List.take 128 (bits (v &&& u))=bits (v &&& u):=ybc (by rw [bJ];omega)
  exact Y98
def cH:List AV→AHeap→(AV→Prop)→Prop
 |[.int .i64 n],_,K=>K (vv (eT n))
 |_,_,_=>False
theorem dW:EntOk Tryz.prog 66 (Ent.pure cH):=by
 refine Ype fun _ H K h=>?_
 unfold cH at h
 split at h
 rotate_left
 ·exact h.elim
 rename_i n
 refine ⟨_,h,?_⟩
 clear h
 refine Yfv ax (tCq tX (tCq xV tNq)) Tryz.func66 [.cell 2 48] fun hcl hlt=>?_
 clear hlt
 have hs:=ka n
 have b3:=gV hs
 have u3:=dq hs
 have hcn:=jW n
 simp only [go_sem]
 refine eJ (A:=Nat) (fun i=>[(4,.int .i64 (i:Int)),(3,.ptr (H.nx+1) 0),(2,.ptr H.nx 0),(0,.int .i64 n)])
  (fun i=>(H.push (.cells [.int .u64 0,.int .u64 0])).push (.cells (bfn fun j=>decide (j<i)))) (fun i=>i≤ca n) (fun i=>ca n - i) 0 (by omega) ?_ fun i hi=>?_
 ·have e:(bfn fun j=>decide (j<0))=List.replicate 128 (.bool false):=by rw [ET];exact mP fun j _=>by simp
  exact Y70
 simp only [go_sem,sJ]
 refine au (fun hc=>?_) (fun hc=>?_)
 ·have hi1:i<ca n:=by simp at hc;omega
  have e0:IntKind.i64.wrap ((i:Int)+1)=((i+1:Nat):Int):=by rw [wrap_i64]<;>omega
  have st:(bfn fun j=>decide (j<i)).set i (.bool true)=bfn fun j=>decide (j<i+1):=z4 fun j hj=>by
   by_cases e:j=i
   ·subst e;simp
   ·rw [if_neg e,decide_eq_decide];omega
  exact Y102
 ·have hi1:i=ca n:=by simp at hc;omega
  subst hi1
  have e:(bfn fun j=>decide (j<ca n))=bits (eT n):=Cy fun j _=>(xU n j).symm
  have et:List.take 128 (bits (eT n))=bits (eT n):=ybc (by rw [bJ];omega)
  exact Y98
theorem NO (b:Bool):((b==b) != true)=false:=by cases b<;>rfl
theorem O1:((true==false) != true)=true:=rfl
theorem Pd:((false==true) != true)=true:=rfl
def fG:=p2V fun x y=>.int .i64 (sk x y)
theorem c8:EntOk Tryz.prog 151 (Ent.pure fG):=by
 unfold fG
 refine Ype fun _ H K h=>?_
 unfold p2V at h
 split at h
 rotate_left
 ·exact h.elim
 rename_i a b c d
 obtain ⟨⟨⟨h0,h1,h2,h3⟩,k0,k1,k2,k3⟩,hK⟩:=h
 refine ⟨_,hK,?_⟩
 obtain ⟨x,rfl⟩:=bj h0
 obtain ⟨y,rfl⟩:=bj h2
 obtain ⟨z,rfl⟩:=bj k0
 obtain ⟨w,rfl⟩:=bj k2
 clear hK h0 h2 k0 k2
 simp only [iNq]
 have hv:=kB (hi:=x) (lo:=y) (by omega) (by omega)
 have hu:=kB (hi:=z) (lo:=w) (by omega) (by omega)
 refine ACalls.fW ax (tCq vX tNq) Tryz.func151 [.tmp 4] (nrq _) (T:=av [(1,[[],[0],[],[0,1,2],[],[],[0,1,2,3,4,5],[0,1,2,3,4,5]]),(801,[[4,215],[5,215]])]) (h:=fun hcl hlt=>?_)
 clear hlt
 generalize hvo:vOf x y=v at *
 generalize huo:vOf z w=u at *
 have es:∀ t,splice (List.replicate 128 (.bool false)) 0 (bits t)=bits t:=fun t=>dY (y:=.junk) (bJ t)
 have tv:∀ t j,t<2^128→128≤j→t.testBit j=false:=fun t j ht hj=>Nat.testBit_lt_two_pow (Nat.lt_of_lt_of_le ht (Nat.pow_le_pow_right (by decide) hj))
 simp only [go_sem,rU,isV,iNq,hvo,huo,bJ,eS,es]
 (repeat with_reducible refine Yq ?_)
 refine eJ (A:=Nat) (fun k=>[(7,.int .i64 ((k:Int) - 1)),(6,.ptr (H.nx+1+1+1) 0),(5,.ptr (H.nx+1+1) 0)])
  (fun k=>(((H.push (.cells [.int .u64 (x:Int),.int .u64 (y:Int)])).push (.cells [.int .u64 (z:Int),.int .u64 (w:Int)])).push (.cells (bits v))).push (.cells (bits u))) (fun k=>k≤128∧∀ j,k≤j→v.testBit j=u.testBit j) (fun k=>k) 128 ⟨by omega,fun j hj=>by rw [tv v j hv hj,tv u j hu hj]⟩ ?_ fun k hk=>?_
 ·exact Y147
 obtain ⟨hk,hz⟩:=hk
 simp only [go_sem]
 refine au (fun hc=>?_) (fun hc=>?_)
 ·have hk0:1≤k:=by simp at hc;omega
  obtain ⟨j,rfl⟩:∃ j,k=j+1:=⟨k - 1,by omega⟩
  have e0:((j+1:Nat):Int) - 1=(j:Int):=by omega
  have e1:IntKind.i64.wrap ((j:Int) - 1)=(j:Int) - 1:=by rw [wrap_i64]<;>omega
  have g1:=gF v j (by omega)
  have g2:=gF u j (by omega)
  by_cases hj:v.testBit j=u.testBit j
  ·simp only [go_sem,iNq,bJ,e0,e1,Nat.mul_one,nzq,g1,g2,hj,NO]
   (repeat with_reducible refine Yq ?_)
   refine ⟨j,⟨by omega,fun i hi=>?_⟩,by omega,?_⟩
   ·by_cases h:i=j
    ·subst h;exact hj
    ·exact hz i (by omega)
   ·exact Z19
  ·have hz':∀ i,j<i→v.testBit i=u.testBit i:=fun i hi=>hz i (by omega)
   cases hb:u.testBit j
   ·have hb0:v.testBit j=true:=by
     rw [hb] at hj;simpa using hj
    have hlt:u<v:=Kz hb hb0 fun i hi=>(hz' i hi).symm
    have ec:sk v u=1:=by unfold sk;rw [if_neg (by omega),if_neg (by omega)]
    rw [hb] at g2;rw [hb0] at g1
    simp only [go_sem,iNq,bJ,e0,e1,Nat.mul_one,nzq,g1,g2,ec,O1]
    (repeat with_reducible refine Yq ?_)
    exact Z0
   ·have hb0:v.testBit j=false:=by
     rw [hb] at hj;simpa using hj
    have hlt:v<u:=Kz hb0 hb fun i hi=>(hz' i hi)
    have ec:sk v u = -1:=by unfold sk;rw [if_neg (by omega),if_pos (by omega)]
    rw [hb] at g2;rw [hb0] at g1
    simp only [go_sem,iNq,bJ,e0,e1,Nat.mul_one,nzq,g1,g2,ec,Pd]
    (repeat with_reducible refine Yq ?_)
    exact Z0
 ·have hk0:k=0:=by simp at hc;omega
  subst hk0
  have:v=u:=Nat.eq_of_testBit_eq fun j=>hz j (by omega)
  subst this
  have ec:sk v v=0:=by unfold sk;rw [if_pos rfl]
  simp only [go_sem,ec]
  exact Z0
def ixP {α:Type} (q:α→Bool):List α→Nat→Int
 |[],_ => -1
 |x::xs,k=>if q x=true then (k:Int) else ixP q xs (k+1)
theorem uM {α β:Type} {f:α→β} {q:β→Bool}:∀ (l:List α) (k:Nat),ixP q (l.map f) k=ixP (fun x=>q (f x)) l k
 |[],_=>rfl
 |x::l,k=>by simp only [yae,ixP,uM l]
theorem nD {α:Type} {q:α→Bool}:∀ {l:List α} {k:Nat},ixP q l k<(k:Int)+l.length∧(ixP q l k = -1∨(k:Int)≤ixP q l k)
 |[],k=>by simp [ixP];omega
 |x::l,k=>by
  unfold ixP
  split
  ·simp;omega
  ·have:=nD (q:=q) (l:=l) (k:=k+1)
   simp only [yaz]
   omega
theorem kT {α:Type} {q:α→Bool}:∀ {l:List α} {k i:Nat},ixP q l k=((k+i:Nat):Int)→∃ x,l[i]?=some x∧q x=true∧l.find? q=some x
 |[],k,i,h=>by simp [ixP] at h;omega
 |x::l,k,i,h=>by
  unfold ixP at h
  split at h
  ·rename_i hq
   have:i=0:=by omega
   subst this
   exact ⟨x,rfl,hq,by simp [hq]⟩
  ·rename_i hq
   have hi:=(nD (q:=q) (l:=l) (k:=k+1)).2
   obtain ⟨j,rfl⟩:∃ j,i=j+1:=⟨i - 1,by omega⟩
   obtain ⟨y,h1,h2,h3⟩:=kT (l:=l) (k:=k+1) (i:=j) (by rw [h];congr 1;omega)
   exact ⟨y,by simpa using h1,h2,by rw [List.find?_cons_of_neg hq];exact h3⟩
theorem kq {α:Type} {q:α→Bool}:∀ {l:List α} {k:Nat},ixP q l k = -1→l.find? q=none
 |[],k,h=>rfl
 |x::l,k,h=>by
  unfold ixP at h
  split at h
  ·omega
  ·rename_i hq
   rw [List.find?_cons_of_neg hq]
   exact kq h
def DW:List AV→AHeap→(AV→Prop)→Prop
 |[x,.ptr c 0],H,K=>∃ t n,(x=aV t∧H.get c=some (.cells [.int .i64 n]))∧K (.bool (t.id==n))
 |_,_,_=>False
theorem K5:EntOk Tryz.prog 81 (Ent.pure DW):=by
 refine Ype fun _ H K h=>?_
 unfold DW at h
 split at h
 rotate_left
 ·exact h.elim
 rename_i x c
 obtain ⟨t,n,⟨rfl,hg⟩,hK⟩:=h
 refine ⟨_,hK,?_⟩
 clear hK
 unfold aV
 refine Yfv ax tNq Tryz.func81 [.tmp 3] fun hcl hlt=>?_
 exact Y59
def CW:List AV→AHeap→(AV→Prop)→Prop
 |[x,.ptr c 0],H,K=>∃ t n,(x=bX t∧H.get c=some (.cells [.int .i64 n]))∧K (.bool (t.id==n))
 |_,_,_=>False
theorem LV:EntOk Tryz.prog 85 (Ent.pure CW):=by
 refine Ype fun _ H K h=>?_
 unfold CW at h
 split at h
 rotate_left
 ·exact h.elim
 rename_i x c
 obtain ⟨t,n,⟨rfl,hg⟩,hK⟩:=h
 refine ⟨_,hK,?_⟩
 clear hK
 unfold bX
 refine Yfv ax tNq Tryz.func85 [.tmp 3] fun hcl hlt=>?_
 exact Y59
def Ek:List AV→AHeap→(AV→Prop)→Prop
 |[.slice _ 8 l,.func (.func 81) [] [.ptr c 0]],H,K=>∃ (ts:List STable) (n:Int),(l=ts.map aV∧H.get c=some (.cells [.int .i64 n])∧ts.length≤1000000)∧K (.int .i64 (ixP (fun t:STable=>t.id==n) ts 0))
 |_,_,_=>False
theorem Mu:EntOk Tryz.prog 80 (Ent.pure Ek):=by
 refine Ype fun _ H K h=>?_
 unfold Ek at h
 split at h
 rotate_left
 ·exact h.elim
 rename_i m l c
 obtain ⟨ts,n,⟨rfl,hg,hl⟩,hK⟩:=h
 refine ⟨_,hK,?_⟩
 clear hK
 generalize hR:ixP (fun t:STable=>t.id==n) ts 0=R
 refine Yfv ax (tCq K5 tNq) Tryz.func80 [.tmp 4] fun hcl hlt=>?_
 have hm:AV.lt H.nx (.slice m 8 (ts.map aV)):=hlt _ (by simp)
 have hf:AV.lt H.nx (.func (.func 81) [] [.ptr c 0]):=hlt _ (by simp)
 clear hlt
 simp only [go_sem,ybb]
 refine az (A:=Nat) (fun k=>[(0,.slice m 8 (ts.map aV)),(1,.func (.func 81) [] [.ptr c 0]),(7,.int .i64 (ts.length:Int)),(8,.int .i64 (k:Int))]) (fun _=>H) (fun k=>k≤ts.length∧ixP (fun t:STable=>t.id==n) (ts.drop k) k=R) (fun k=>ts.length - k) 0 ⟨by omega,hR⟩ ?_ fun k hk=>?_
 ·refine ⟨nrq _,lRq _,hcl,?_,?_⟩
  ·simp [ltF,znb,hm,hf]
  ·exact Y10
 clear hR
 obtain ⟨hk,hR⟩:=hk
 simp only [go_sem]
 refine au (fun hc=>?_) (fun hc=>?_)
 ·have hk':k<ts.length:=by simp at hc;omega
  obtain ⟨x,hx⟩:∃ x,x=ts[k]:=⟨_,rfl⟩
  have hd:ts.drop k=x::ts.drop (k+1):=by rw [hx];exact dcq hk'
  have hg':=bC (f:=aV) (l:=ts) (k:=k) (x:=x) (by rw [gQq hk',hx])
  have e5:=Yk5 k
  have hcell:(aV x).cells.length=8:=rfl
  rw [hd] at hR
  unfold ixP at hR
  have hag:∃ cs,aV x=.agg cs∧cs.length=8:=⟨_,rfl,rfl⟩
  obtain ⟨cs,hcs,hcl3⟩:=hag
  have hts:List.take 8 cs=cs:=ybc (by omega)
  simp only [go_sem,iNq,ybb,hg',hcs,hcl3,hts,DW]
  (repeat with_reducible refine Yq ?_)
  refine ⟨x,n,⟨hcs.symm,hg⟩,?_⟩
  try simp only [aM,go_sem]
  (repeat with_reducible refine Yq ?_)
  refine au (fun hq=>?_) (fun hq=>?_)
  ·rw [if_pos hq] at hR
   subst hR
   exact Y47
  ·rw [if_neg (by rw [hq];decide)] at hR
   simp only [go_sem,e5]
   refine ⟨k+1,⟨by omega,hR⟩,by omega,nrq _,lRq _,hcl,?_,?_⟩
   ·simp [ltF,znb,hm,hf]
   ·exact Y10
 ·have hk':k=ts.length:=by simp at hc;omega
  exact Y37
def zS:List AV→AHeap→(AV→Prop)→Prop
 |[.slice _ 3 l,.func (.func 85) [] [.ptr c 0]],H,K=>∃ (ts:List SField) (n:Int),(l=ts.map bX∧H.get c=some (.cells [.int .i64 n])∧ts.length≤1000000)∧K (.int .i64 (ixP (fun t:SField=>t.id==n) ts 0))
 |_,_,_=>False
theorem EM:EntOk Tryz.prog 84 (Ent.pure zS):=by
 refine Ype fun _ H K h=>?_
 unfold zS at h
 split at h
 rotate_left
 ·exact h.elim
 rename_i m l c
 obtain ⟨ts,n,⟨rfl,hg,hl⟩,hK⟩:=h
 refine ⟨_,hK,?_⟩
 clear hK
 generalize hR:ixP (fun t:SField=>t.id==n) ts 0=R
 refine Yfv ax (tCq LV tNq) Tryz.func84 [.tmp 4] fun hcl hlt=>?_
 have hm:AV.lt H.nx (.slice m 3 (ts.map bX)):=hlt _ (by simp)
 have hf:AV.lt H.nx (.func (.func 85) [] [.ptr c 0]):=hlt _ (by simp)
 clear hlt
 simp only [go_sem,ybb]
 refine az (A:=Nat) (fun k=>[(0,.slice m 3 (ts.map bX)),(1,.func (.func 85) [] [.ptr c 0]),(7,.int .i64 (ts.length:Int)),(8,.int .i64 (k:Int))]) (fun _=>H) (fun k=>k≤ts.length∧ixP (fun t:SField=>t.id==n) (ts.drop k) k=R) (fun k=>ts.length - k) 0 ⟨by omega,hR⟩ ?_ fun k hk=>?_
 ·refine ⟨nrq _,lRq _,hcl,?_,?_⟩
  ·simp [ltF,znb,hm,hf]
  ·exact Y10
 clear hR
 obtain ⟨hk,hR⟩:=hk
 simp only [go_sem]
 refine au (fun hc=>?_) (fun hc=>?_)
 ·have hk':k<ts.length:=by simp at hc;omega
  obtain ⟨x,hx⟩:∃ x,x=ts[k]:=⟨_,rfl⟩
  have hd:ts.drop k=x::ts.drop (k+1):=by rw [hx];exact dcq hk'
  have hg':=bC (f:=bX) (l:=ts) (k:=k) (x:=x) (by rw [gQq hk',hx])
  have e5:=Yk5 k
  have hcell:(bX x).cells.length=3:=rfl
  rw [hd] at hR
  unfold ixP at hR
  have hag:∃ cs,bX x=.agg cs∧cs.length=3:=⟨_,rfl,rfl⟩
  obtain ⟨cs,hcs,hcl3⟩:=hag
  have hts:List.take 3 cs=cs:=ybc (by omega)
  simp only [go_sem,iNq,ybb,hg',hcs,hcl3,hts,CW]
  (repeat with_reducible refine Yq ?_)
  refine ⟨x,n,⟨hcs.symm,hg⟩,?_⟩
  try simp only [aM,go_sem]
  (repeat with_reducible refine Yq ?_)
  refine au (fun hq=>?_) (fun hq=>?_)
  ·rw [if_pos hq] at hR
   subst hR
   exact Y47
  ·rw [if_neg (by rw [hq];decide)] at hR
   simp only [go_sem,e5]
   refine ⟨k+1,⟨by omega,hR⟩,by omega,nrq _,lRq _,hcl,?_,?_⟩
   ·simp [ltF,znb,hm,hf]
   ·exact Y10
 ·have hk':k=ts.length:=by simp at hc;omega
  exact Y37
def CG:List AV→AHeap→(AV→Prop)→Prop
 |[x],H,K=>∃ t,x=bL t∧K (.bool (t.kind==3||t.kind==4))
 |_,_,_=>False
theorem Mt:EntOk Tryz.prog 148 (Ent.pure CG):=by
 refine Ype fun _ H K h=>?_
 unfold CG at h
 split at h
 rotate_left
 ·exact h.elim
 rename_i x
 obtain ⟨t,rfl,hK⟩:=h
 refine ⟨_,hK,?_⟩
 clear hK
 unfold bL
 cases h3:(t.kind==3)
 ·rw [Bool.false_or]
  exact Y114
 ·rw [Bool.true_or]
  exact Y114
def D5:List AV→AHeap→(AV→Prop)→Prop
 |[.slice _ 3 l,.func (.func 148) [] []],H,K=>∃ ts:List SKey,(l=ts.map bL∧ts.length≤1000000)∧K (.int .i64 (ixP (fun t:SKey=>t.kind==3||t.kind==4) ts 0))
 |_,_,_=>False
theorem MS:EntOk Tryz.prog 298 (Ent.pure D5):=by
 refine Ype fun _ H K h=>?_
 unfold D5 at h
 split at h
 rotate_left
 ·exact h.elim
 rename_i m l
 obtain ⟨ts,⟨rfl,hl⟩,hK⟩:=h
 refine ⟨_,hK,?_⟩
 clear hK
 generalize hR:ixP (fun t:SKey=>t.kind==3||t.kind==4) ts 0=R
 refine Yfv ax (tCq Mt tNq) Tryz.func298 [.tmp 4] fun hcl hlt=>?_
 have hm:AV.lt H.nx (.slice m 3 (ts.map bL)):=hlt _ (by simp)
 have hf:AV.lt H.nx (.func (.func 148) [] []):=hlt _ (by simp)
 clear hlt
 simp only [go_sem,ybb]
 refine az (A:=Nat) (fun k=>[(0,.slice m 3 (ts.map bL)),(1,.func (.func 148) [] []),(7,.int .i64 (ts.length:Int)),(8,.int .i64 (k:Int))]) (fun _=>H) (fun k=>k≤ts.length∧ixP (fun t:SKey=>t.kind==3||t.kind==4) (ts.drop k) k=R) (fun k=>ts.length - k) 0 ⟨by omega,hR⟩ ?_ fun k hk=>?_
 ·refine ⟨nrq _,lRq _,hcl,?_,?_⟩
  ·simp [ltF,znb,hm,hf]
  ·exact Y10
 clear hR
 obtain ⟨hk,hR⟩:=hk
 simp only [go_sem]
 refine au (fun hc=>?_) (fun hc=>?_)
 ·have hk':k<ts.length:=by simp at hc;omega
  obtain ⟨x,hx⟩:∃ x,x=ts[k]:=⟨_,rfl⟩
  have hd:ts.drop k=x::ts.drop (k+1):=by rw [hx];exact dcq hk'
  have hg':=bC (f:=bL) (l:=ts) (k:=k) (x:=x) (by rw [gQq hk',hx])
  have e5:=Yk5 k
  have hcell:(bL x).cells.length=3:=rfl
  rw [hd] at hR
  unfold ixP at hR
  have hag:∃ cs,bL x=.agg cs∧cs.length=3:=⟨_,rfl,rfl⟩
  obtain ⟨cs,hcs,hcl3⟩:=hag
  have hts:List.take 3 cs=cs:=ybc (by omega)
  simp only [go_sem,iNq,ybb,hg',hcs,hcl3,hts,CG]
  (repeat with_reducible refine Yq ?_)
  refine ⟨x,hcs.symm,?_⟩
  try simp only [aM,go_sem]
  (repeat with_reducible refine Yq ?_)
  refine au (fun hq=>?_) (fun hq=>?_)
  ·rw [if_pos hq] at hR
   subst hR
   exact Y47
  ·rw [if_neg (by rw [hq];decide)] at hR
   simp only [go_sem,e5]
   refine ⟨k+1,⟨by omega,hR⟩,by omega,nrq _,lRq _,hcl,?_,?_⟩
   ·simp [ltF,znb,hm,hf]
   ·exact Y10
 ·have hk':k=ts.length:=by simp at hc;omega
  exact Y37
def lf:List AV→AHeap→(AV→Prop)→Prop
 |[.agg l,.int .i64 n],_,K=>∃ S:Sch,(l=bv S∧S.tables.length≤1000000)∧K (.int .i64 (ixP (fun t:STable=>t.id==n) S.tables 0))
 |_,_,_=>False
theorem oM:EntOk Tryz.prog 28 (Ent.pure lf):=by
 refine Ype fun _ H K h=>?_
 unfold lf at h
 split at h
 rotate_left
 ·exact h.elim
 rename_i l n
 obtain ⟨S,⟨rfl,hl⟩,hK⟩:=h
 refine ⟨_,hK,?_⟩
 clear hK
 refine Yfv ax (tCq Mu tNq) Tryz.func28 [.tmp 4] fun hcl hlt=>?_
 clear hlt
 simp only [go_sem,bv,Ek]
 (repeat with_reducible refine Yq ?_)
 refine ⟨S.tables,n,⟨rfl,by simp only [go_sem],hl⟩,?_⟩
 exact Y99
def nN:List AV→AHeap→(AV→Prop)→Prop
 |[.agg l,.int .i64 n],_,K=>∃ S:Sch,(l=bv S∧S.fields.length≤1000000)∧K (.int .i64 (ixP (fun t:SField=>t.id==n) S.fields 0))
 |_,_,_=>False
theorem ul:EntOk Tryz.prog 30 (Ent.pure nN):=by
 refine Ype fun _ H K h=>?_
 unfold nN at h
 split at h
 rotate_left
 ·exact h.elim
 rename_i l n
 obtain ⟨S,⟨rfl,hl⟩,hK⟩:=h
 refine ⟨_,hK,?_⟩
 clear hK
 refine Yfv ax (tCq EM tNq) Tryz.func30 [.tmp 4] fun hcl hlt=>?_
 clear hlt
 simp only [go_sem,bv,zS]
 (repeat with_reducible refine Yq ?_)
 refine ⟨S.fields,n,⟨rfl,by simp only [go_sem],hl⟩,?_⟩
 exact Y99
theorem ox {fs:List SField} {id:Int}:gR fs id=match fs.find? (fun f=>f.id==id) with|some f=>f.bits|none=>0:=by
 induction fs with
 |nil=>rfl
 |cons f fs ih =>
  unfold gR
  by_cases h:f.id=id
  ·rw [if_pos h,List.find?_cons_of_pos (by simp [h])]
  ·rw [if_neg h,List.find?_cons_of_neg (by simp [h])];exact ih
def pH:List AV→AHeap→(AV→Prop)→Prop
 |[.agg l,.agg [.str nm,.int .i64 fld,.int .i64 kind]],_,K=>∃ S:Sch,(l=bv S∧S.fields.length≤1000000)∧K (.int .i64 (cR S fld))
 |_,_,_=>False
theorem qQ:EntOk Tryz.prog 70 (Ent.pure pH):=by
 refine Ype fun _ H K h=>?_
 unfold pH at h
 split at h
 rotate_left
 ·exact h.elim
 rename_i l nm fld kind
 obtain ⟨S,⟨rfl,hl⟩,hK⟩:=h
 refine ⟨_,hK,?_⟩
 clear hK
 unfold cR
 rw [ox]
 obtain ⟨b1,b2⟩:=nD (q:=fun f:SField=>f.id==fld) (l:=S.fields) (k:=0)
 rcases b2 with b2|b2
 ·rw [kq b2]
  refine Yfv ax (tCq ul tNq) Tryz.func70 [.tmp 4] fun hcl hlt=>?_
  clear hlt
  simp only [go_sem,bv,nN]
  (repeat with_reducible refine Yq ?_)
  refine ⟨S,⟨rfl,hl⟩,?_⟩
  rw [b2]
  exact Y76
 ·obtain ⟨i,hi⟩:∃ i:Nat,ixP (fun f:SField=>f.id==fld) S.fields 0=((0+i:Nat):Int):=⟨(ixP (fun f:SField=>f.id==fld) S.fields 0).toNat,by omega⟩
  obtain ⟨x,h1,h2,h3⟩:=kT hi
  rw [h3]
  rw [nzq] at hi
  have hil:i<S.fields.length:=by
   exact Y90
  have hg':=bC (f:=bX) (l:=S.fields) (k:=i) (x:=x) h1
  have d:decide ((i:Int)<0)=false:=by simp
  refine Yfv ax (tCq ul tNq) Tryz.func70 [.tmp 4] fun hcl hlt=>?_
  clear hlt
  simp only [go_sem,bv,nN]
  (repeat with_reducible refine Yq ?_)
  refine ⟨S,⟨rfl,hl⟩,?_⟩
  rw [hi]
  simp only [aM,go_sem,bv,d,iNq,hg',bX,ybb]
  (repeat with_reducible refine Yq ?_)
  exact Z0
def tC (S:Sch) (id:Int):Option STable:=S.tables.find? fun t=>t.id==id
def mM:List AV→AHeap→(AV→Prop)→Prop
 |[.agg l,.agg [.int .i64 id,.slice _ 8 ms,.int .i64 pr,.int .i64 ac,.slice _ 2 ar]],_,K=>∃ S:Sch,(l=bv S∧S.tables.length≤1000000) ∧
   K (match tC S id with|some t=>.tup [aV t,.bool true]|none=>.tup [aV sm,.bool false])
 |_,_,_=>False
theorem pV:EntOk Tryz.prog 67 (Ent.pure mM):=by
 refine Ype fun _ H K h=>?_
 unfold mM at h
 split at h
 rotate_left
 ·exact h.elim
 rename_i l id m1 ms pr ac m2 ar
 obtain ⟨S,⟨rfl,hl⟩,hK⟩:=h
 refine ⟨_,hK,?_⟩
 clear hK
 unfold tC
 obtain ⟨b1,b2⟩:=nD (q:=fun f:STable=>f.id==id) (l:=S.tables) (k:=0)
 rcases b2 with b2|b2
 ·rw [kq b2]
  refine Yfv ax (tCq oM tNq) Tryz.func67 [.cell 4 67,.tmp 5] fun hcl hlt=>?_
  clear hlt
  simp only [go_sem,bv,lf]
  (repeat with_reducible refine Yq ?_)
  refine ⟨S,⟨rfl,hl⟩,?_⟩
  rw [b2]
  have d:decide ((-1:Int)<0)=true:=rfl
  simp only [aM,go_sem,d,aV,sm,yaf,inL]
  exact Z0
 ·obtain ⟨i,hi⟩:∃ i:Nat,ixP (fun f:STable=>f.id==id) S.tables 0=((0+i:Nat):Int):=⟨(ixP (fun f:STable=>f.id==id) S.tables 0).toNat,by omega⟩
  obtain ⟨x,h1,h2,h3⟩:=kT hi
  rw [h3]
  rw [nzq] at hi
  have hil:i<S.tables.length:=by
   rcases Nat.lt_or_ge i S.tables.length with h|h
   ·exact h
   ·rw [gNq h] at h1;cases h1
  have hg':=bC (f:=aV) (l:=S.tables) (k:=i) (x:=x) h1
  have d:decide ((i:Int)<0)=false:=by simp
  have hlx:=cZ (n:=H.nx) x
  simp only [aV] at hlx
  refine Yfv ax (tCq oM tNq) Tryz.func67 [.cell 4 67,.tmp 5] fun hcl hlt=>?_
  clear hlt
  simp only [go_sem,bv,lf]
  (repeat with_reducible refine Yq ?_)
  refine ⟨S,⟨rfl,hl⟩,?_⟩
  rw [hi]
  simp only [aM,go_sem,bv,d,iNq,hg',aV,ybb]
  (repeat with_reducible refine Yq ?_)
  simp (disch:=first|exact Zd|omega) [↓zmk,beq,ybc,ybd,ybe,af,wk,wk2,wk1,wkM,wkL,aj,ybf,hcl,hlx]
end Go.AL
