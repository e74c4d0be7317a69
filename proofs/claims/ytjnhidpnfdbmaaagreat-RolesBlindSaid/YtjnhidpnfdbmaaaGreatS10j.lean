/- Lemmas of the proof; no condition. -/
import Derived.Test.YtjnhidpnfdbmaaaGreatCG
import Derived.Test.YtjnhidpnfdbmaaaGreatS10z
import Derived.Test.YtjnhidpnfdbmaaaGreatLEntB
import Derived.Test.YtjnhidpnfdbmaaaGreatS10i
set_option linter.all false
set_option maxRecDepth 10000
open List renaming length_cons → yaz, length_nil → yba, take_of_length_le → ybc, drop_append → ybd, take_append → ybe, drop_eq_nil_of_le → ybf, map_cons → yae, length_map → ybb, map_nil → yaf
open Go Go.AL Go.Proofs
namespace Go.AL
def p2V (f:Nat→Nat→AV):List AV→AHeap→(AV→Prop)→Prop
 |[.agg [.int .u64 a,.int .u64 b],.agg [.int .u64 c,.int .u64 d]],_,K=>(isV a b∧isV c d)∧K (f (vOf a.toNat b.toNat) (vOf c.toNat d.toNat))
 |_,_,_=>False
def kz:=p2V fun x y=>vv (x &&& y)
def z9:=p2V fun x y=>vv (x ^^^ y)
theorem fL:EntOk Tryz.prog 103 (Ent.pure kz):=by
 unfold kz
 refine Ype fun _ H K h=>?_
 unfold p2V at h
 split at h
 rotate_left
 ·exact h.elim
 rename_i a b c d
 obtain ⟨⟨⟨h0,h1,h2,h3⟩,k0,k1,k2,k3⟩,hK⟩:=h
 refine ⟨_,hK,?_⟩
 obtain ⟨x,rfl⟩:=bL h0
 obtain ⟨y,rfl⟩:=bL h2
 obtain ⟨z,rfl⟩:=bL k0
 obtain ⟨w,rfl⟩:=bL k2
 clear hK h0 h2 k0 k2
 simp only [iNq]
 have hx:x<2^64:=by omega
 have hy:y<2^64:=by omega
 have hz:z<2^64:=by omega
 have hw:w<2^64:=by omega
 rw [Ja x y z w hy hw,oE (Nat.and_lt_two_pow _ hw)]
 refine ACalls.fW au tNq Tryz.func103 [.cell 4 29] (nrq _) (T:=aq []) (h:=fun hcl hlt=>?_)
 clear hlt
 simp only [go_sem,zav,byq,jE x z hx hz,jE y w hy hw]
 exact Z0
theorem JA:EntOk Tryz.prog 137 (Ent.pure z9):=by
 unfold z9
 refine Ype fun _ H K h=>?_
 unfold p2V at h
 split at h
 rotate_left
 ·exact h.elim
 rename_i a b c d
 obtain ⟨⟨⟨h0,h1,h2,h3⟩,k0,k1,k2,k3⟩,hK⟩:=h
 refine ⟨_,hK,?_⟩
 obtain ⟨x,rfl⟩:=bL h0
 obtain ⟨y,rfl⟩:=bL h2
 obtain ⟨z,rfl⟩:=bL k0
 obtain ⟨w,rfl⟩:=bL k2
 clear hK h0 h2 k0 k2
 simp only [iNq]
 have hx:x<2^64:=by omega
 have hy:y<2^64:=by omega
 have hz:z<2^64:=by omega
 have hw:w<2^64:=by omega
 rw [Ir x y z w hy hw,oE (Nat.xor_lt_two_pow hy hw)]
 refine ACalls.fW au tNq Tryz.func137 [.cell 4 29] (nrq _) (T:=aq []) (h:=fun hcl hlt=>?_)
 clear hlt
 simp only [go_sem,zav,byq,tq x z hx hz,tq y w hy hw]
 exact Z0
def nI:List AV→AHeap→(AV→Prop)→Prop
 |[.int .i64 n],_,K=>K (.int .i64 ((cG n:Nat):Int))
 |_,_,_=>False
theorem tV:EntOk Tryz.prog 136 (Ent.pure nI):=by
 refine Ype fun _ H K h=>?_
 unfold nI at h
 split at h
 rotate_left
 ·exact h.elim
 rename_i n
 refine ⟨_,h,?_⟩
 clear h
 refine ACalls.fW au tNq Tryz.func136 [.tmp 2] (nrq _) (T:=aq []) (h:=fun hcl hlt=>?_)
 clear hlt
 have e:min (max 0 n) 128=((cG n:Nat):Int):=by unfold cG;omega
 simp only [go_sem,Bool.false_eq_true,if_true,if_false,e]
 exact Z0
def gT:List AV→AHeap→(AV→Prop)→Prop
 |[.int .i64 n],_,K=>K (vv (jh n))
 |_,_,_=>False
theorem dK:EntOk Tryz.prog 105 (Ent.pure gT):=by
 refine Ype fun _ H K h=>?_
 unfold gT at h
 split at h
 rotate_left
 ·exact h.elim
 rename_i n
 refine ⟨_,h,?_⟩
 clear h
 have hc:=nv n
 have e1:IntKind.i64.wrap (128 - ((cG n:Nat):Int))=((128 - cG n:Nat):Int):=by rw [wrap_i64]<;>omega
 have e2:vOf 18446744073709551615 18446744073709551615 >>> (128 - cG n)=jh n:=Bm hc
 have e3:Int.toNat 18446744073709551615=18446744073709551615:=rfl
 refine ACalls.fW au (tCq tV (tCq Ec tNq)) Tryz.func105 [.cell 2 29] (nrq _) (T:=aq []) (h:=fun hcl hlt=>?_)
 clear hlt
 simp only [go_sem,nI,tX,isV,e1,e3,iNq,e2,vv]
 refine ⟨by omega,?_⟩
 exact Z0
def oA:List AV→AHeap→(AV→Prop)→Prop
 |[.int .i64 w,.int .i64 n],_,K=>K (vv (tt w n))
 |_,_,_=>False
theorem uK (n:Int):cG ((cG n:Nat):Int)=cG n:=by unfold cG;omega
theorem xr (n:Int):jh ((cG n:Nat):Int)=jh n:=by unfold jh;rw [uK]
theorem cH:EntOk Tryz.prog 104 (Ent.pure oA):=by
 refine Ype fun _ H K h=>?_
 unfold oA at h
 split at h
 rotate_left
 ·exact h.elim
 rename_i w n
 refine ⟨_,h,?_⟩
 clear h
 have hc:=nv w
 have e1:IntKind.i64.wrap (((cG w:Nat):Int) - min (max 0 n) ((cG w:Nat):Int))=((cG w:Nat):Int) - min (max 0 n) ((cG w:Nat):Int):=by rw [wrap_i64]<;>omega
 have hx:∀ x y:Nat,x<2^128→y<2^128→(isV ((x/2^64:Nat):Int) ((x % 2^64:Nat):Int)∧isV ((y/2^64:Nat):Int) ((y % 2^64:Nat):Int))=True:=fun x y hx hy=>eq_true ⟨by unfold isV;omega,by unfold isV;omega⟩
 have o1:=mG w
 have o2:=mG (((cG w:Nat):Int) - min (max 0 n) ((cG w:Nat):Int))
 have e2:jh w ^^^ jh (((cG w:Nat):Int) - min (max 0 n) ((cG w:Nat):Int))=tt w n:=by
  unfold tt
  congr 2
  unfold jh
  congr 2
  unfold cG
  unfold cG at hc
  omega
 refine ACalls.fW au (tCq tV (tCq dK (tCq JA tNq))) Tryz.func104 [.cell 4 29] (nrq _) (T:=aq []) (h:=fun hcl hlt=>?_)
 clear hlt
 simp only [go_sem,Bool.false_eq_true,if_true,if_false,nI,gT,z9,p2V,e1,xr,vv,iNq,cu,e2,hx _ _ o1 o2]
 exact Z0
theorem GH {a b c d:Nat} (h:b<2^64) (k:d<2^64):fq (vOf a b) (vOf c d)=if a=c∧b=d then 0 else if a<c∨a=c∧b<d then -1 else 1:=by
 unfold fq
 simp only [IL h k,LO h k]
theorem cN {a b c d:Int}:teq Tryz.prog 9 29 (.agg [.int .u64 a,.int .u64 b]) (.agg [.int .u64 c,.int .u64 d])=some ((a==c)&&((b==d)&&true)):=by
 have g2:Tryz.prog.stoodInHeld 29=false:=by kernel_rfl
 simp [nD,teq,teq.go,teq.part,sx,ceq,g2,TD.agg]
theorem cM:Tryz.prog.eqGuardType Tryz.prog.depth 29=false:=by kernel_rfl
theorem pO {a b:Nat}:(((a:Nat):Int)==((b:Nat):Int))=decide (a=b):=by rw [Bool.eq_iff_iff];simp;omega
theorem pB {a b:Nat}:decide (((a:Nat):Int)<((b:Nat):Int))=decide (a<b):=by rw [decide_eq_decide];omega
def eS:=p2V fun x y=>.int .i64 (fq x y)
theorem cI:EntOk Tryz.prog 106 (Ent.pure eS):=by
 unfold eS
 refine Ype fun _ H K h=>?_
 unfold p2V at h
 split at h
 rotate_left
 ·exact h.elim
 rename_i a b c d
 obtain ⟨⟨⟨h0,h1,h2,h3⟩,k0,k1,k2,k3⟩,hK⟩:=h
 refine ⟨_,hK,?_⟩
 obtain ⟨x,rfl⟩:=bL h0
 obtain ⟨y,rfl⟩:=bL h2
 obtain ⟨z,rfl⟩:=bL k0
 obtain ⟨w,rfl⟩:=bL k2
 clear hK h0 h2 k0 k2
 simp only [iNq]
 have hx:x<2^64:=by omega
 have hy:y<2^64:=by omega
 have hz:z<2^64:=by omega
 have hw:w<2^64:=by omega
 rw [GH hy hw]
 rcases (by omega:(x=z∧y=w)∨x<z∨(x=z∧y<w)∨z<x∨(x=z∧w<y)) with h|h|h|h|h
 ·rw [if_pos h]
  refine ACalls.fW au tNq Tryz.func106 [.tmp 4] (nrq _) (T:=aq []) (h:=fun hcl hlt=>?_)
  clear hlt
  simp only [go_sem,cN,cM,pO,pB,h.1,h.2,decide_true,Bool.and_self,Bool.bne_false,Bool.and_true]
  exact Z0
 ·rw [if_neg (by omega),if_pos (.inl h)]
  have d1:decide (x=z)=false:=dfq (by omega)
  have d2:decide (x<z)=true:=dtq h
  refine ACalls.fW au tNq Tryz.func106 [.tmp 4] (nrq _) (T:=aq []) (h:=fun hcl hlt=>?_)
  clear hlt
  simp only [go_sem,cN,cM,pO,pB,d1,d2,Bool.false_and,Bool.bne_false,Bool.and_true]
  exact Z0
 ·rw [if_neg (by omega),if_pos (.inr h)]
  have d1:decide (y=w)=false:=dfq (by omega)
  have d2:decide (y<w)=true:=dtq h.2
  have d3:decide (z<z)=false:=by simp
  refine ACalls.fW au tNq Tryz.func106 [.tmp 4] (nrq _) (T:=aq []) (h:=fun hcl hlt=>?_)
  clear hlt
  simp only [go_sem,cN,cM,pO,pB,h.1,d1,d2,d3,decide_true,Bool.and_false,Bool.bne_false,Bool.and_true,Bool.true_and]
  exact Z0
 ·rw [if_neg (by omega),if_neg (by omega)]
  have d1:decide (x=z)=false:=dfq (by omega)
  have d2:decide (x<z)=false:=dfq (by omega)
  refine ACalls.fW au tNq Tryz.func106 [.tmp 4] (nrq _) (T:=aq []) (h:=fun hcl hlt=>?_)
  clear hlt
  simp only [go_sem,cN,cM,pO,pB,d1,d2,Bool.false_and,Bool.bne_false,Bool.and_true]
  exact Z0
 ·rw [if_neg (by omega),if_neg (by omega)]
  have d1:decide (y=w)=false:=dfq (by omega)
  have d2:decide (y<w)=false:=dfq (by omega)
  have d3:decide (z<z)=false:=by simp
  refine ACalls.fW au tNq Tryz.func106 [.tmp 4] (nrq _) (T:=aq []) (h:=fun hcl hlt=>?_)
  clear hlt
  simp only [go_sem,cN,cM,pO,pB,h.1,d1,d2,d3,decide_true,Bool.and_false,Bool.bne_false,Bool.and_true,Bool.true_and]
  exact Z0
def eA:List AV→AHeap→(AV→Prop)→Prop
 |[.agg [.int .u64 a,.int .u64 b],.int .i64 n],_,K=>isV a b∧K (.bool (decide (((bl (vOf a.toNat b.toNat):Nat):Int)≤n)))
 |_,_,_=>False
theorem d9:EntOk Tryz.prog 77 (Ent.pure eA):=by
 refine Ype fun _ H K h=>?_
 unfold eA at h
 split at h
 rotate_left
 ·exact h.elim
 rename_i a b n
 obtain ⟨hv,hK⟩:=h
 refine ⟨_,hK,?_⟩
 clear hK
 refine ACalls.fW au (tCq F7 tNq) Tryz.func77 [.tmp 4] (nrq _) (T:=aq []) (h:=fun hcl hlt=>?_)
 clear hlt
 unfold isV at hv
 simp only [go_sem,xB]
 refine ⟨hv,?_⟩
 exact Z0
theorem LA (b:Bool):((b==b) != true)=false:=by cases b<;>rfl
theorem NT:((true==false) != true)=true:=rfl
theorem NM:((false==true) != true)=true:=rfl
def eW:=p2V fun x y=>.int .i64 (fq x y)
set_option maxHeartbeats 2000000 in
theorem fw:EntOk Tryz.prog 128 (Ent.pure eW):=by
 unfold eW
 refine Ype fun _ H K h=>?_
 unfold p2V at h
 split at h
 rotate_left
 ·exact h.elim
 rename_i a b c d
 obtain ⟨⟨⟨h0,h1,h2,h3⟩,k0,k1,k2,k3⟩,hK⟩:=h
 refine ⟨_,hK,?_⟩
 obtain ⟨x,rfl⟩:=bL h0
 obtain ⟨y,rfl⟩:=bL h2
 obtain ⟨z,rfl⟩:=bL k0
 obtain ⟨w,rfl⟩:=bL k2
 clear hK h0 h2 k0 k2
 simp only [iNq]
 have hv:=A3 (hi:=x) (lo:=y) (by omega) (by omega)
 have hu:=A3 (hi:=z) (lo:=w) (by omega) (by omega)
 refine ACalls.fW au (tCq F6 tNq) Tryz.func128 [.tmp 4] (nrq _) (T:=aq [(1,[[],[0],[],[0,1,2],[],[],[0,1,2,3,4,5],[0,1,2,3,4,5]]),(801,[[4,236],[5,236]])]) (h:=fun hcl hlt=>?_)
 clear hlt
 generalize hvo:vOf x y=v at *
 generalize huo:vOf z w=u at *
 have es:∀ t,splice (List.replicate 128 (.bool false)) 0 (bits t)=bits t:=fun t=>kE (y:=.junk) (iV t)
 have tv:∀ t j,t<2^128→128≤j→t.testBit j=false:=fun t j ht hj=>Nat.testBit_lt_two_pow (Nat.lt_of_lt_of_le ht (Nat.pow_le_pow_right (by decide) hj))
 simp only [go_sem,xl,isV,iNq,hvo,huo,iV,rR,es]
 (repeat with_reducible refine Yq ?_)
 refine lK (A:=Nat) (fun k=>[(7,.int .i64 ((k:Int) - 1)),(6,.ptr (H.nx+1+1+1) 0),(5,.ptr (H.nx+1+1) 0)])
  (fun k=>(((H.push (.cells [.int .u64 (x:Int),.int .u64 (y:Int)])).push (.cells [.int .u64 (z:Int),.int .u64 (w:Int)])).push (.cells (bits v))).push (.cells (bits u))) (fun k=>k≤128∧∀ j,k≤j→v.testBit j=u.testBit j) (fun k=>k) 128 ⟨by omega,fun j hj=>by rw [tv v j hv hj,tv u j hu hj]⟩ ?_ fun k hk=>?_
 ·simp only [bnq,enter,oI,ltF,ne_eq,Nat.reduceEqDiff,reduceCtorEq,true_or,and_true]
  all_goals rfl
 obtain ⟨hk,hz⟩:=hk
 simp only [go_sem]
 refine ai (fun hc=>?_) (fun hc=>?_)
 ·have hk0:1≤k:=by simp at hc;omega
  obtain ⟨j,rfl⟩:∃ j,k=j+1:=⟨k - 1,by omega⟩
  have e0:((j+1:Nat):Int) - 1=(j:Int):=by omega
  have e1:IntKind.i64.wrap ((j:Int) - 1)=(j:Int) - 1:=by rw [wrap_i64]<;>omega
  have g1:=zo v j (by omega)
  have g2:=zo u j (by omega)
  by_cases hj:v.testBit j=u.testBit j
  ·simp only [go_sem,iNq,iV,e0,e1,Nat.mul_one,nzq,g1,g2,hj,LA]
   (repeat with_reducible refine Yq ?_)
   refine ⟨j,⟨by omega,fun i hi=>?_⟩,by omega,?_⟩
   ·by_cases h:i=j
    ·subst h;exact hj
    ·exact hz i (by omega)
   ·simp only [bnq,enter,oI,ltF,ne_eq,Nat.reduceEqDiff,reduceCtorEq,true_or,and_self]
  ·have hz':∀ i,j<i→v.testBit i=u.testBit i:=fun i hi=>hz i (by omega)
   cases hb:u.testBit j
   ·have hb0:v.testBit j=true:=by
     rw [hb] at hj;simpa using hj
    have hlt:u<v:=GG hb hb0 fun i hi=>(hz' i hi).symm
    have ec:fq v u=1:=by unfold fq;rw [if_neg (by omega),if_neg (by omega)]
    rw [hb] at g2;rw [hb0] at g1
    simp only [go_sem,iNq,iV,e0,e1,Nat.mul_one,nzq,g1,g2,ec,NT]
    (repeat with_reducible refine Yq ?_)
    exact Z0
   ·have hb0:v.testBit j=false:=by
     rw [hb] at hj;simpa using hj
    have hlt:v<u:=GG hb0 hb fun i hi=>(hz' i hi)
    have ec:fq v u = -1:=by unfold fq;rw [if_neg (by omega),if_pos (by omega)]
    rw [hb] at g2;rw [hb0] at g1
    simp only [go_sem,iNq,iV,e0,e1,Nat.mul_one,nzq,g1,g2,ec,NM]
    (repeat with_reducible refine Yq ?_)
    exact Z0
 ·have hk0:k=0:=by simp at hc;omega
  subst hk0
  have:v=u:=Nat.eq_of_testBit_eq fun j=>hz j (by omega)
  subst this
  have ec:fq v v=0:=by unfold fq;rw [if_pos rfl]
  simp only [go_sem,ec]
  exact Z0
def ixP {α:Type} (q:α→Bool):List α→Nat→Int
 |[],_ => -1
 |x::xs,k=>if q x=true then (k:Int) else ixP q xs (k+1)
theorem Cq {α β:Type} {f:α→β} {q:β→Bool}:∀ (l:List α) (k:Nat),ixP q (l.map f) k=ixP (fun x=>q (f x)) l k
 |[],_=>rfl
 |x::l,k=>by simp only [yae,ixP,Cq l]
theorem om {α:Type} {q:α→Bool}:∀ {l:List α} {k:Nat},ixP q l k<(k:Int)+l.length∧(ixP q l k = -1∨(k:Int)≤ixP q l k)
 |[],k=>by simp [ixP];omega
 |x::l,k=>by
  unfold ixP
  split
  ·simp;omega
  ·have:=om (q:=q) (l:=l) (k:=k+1)
   simp only [yaz]
   omega
theorem nn {α:Type} {q:α→Bool}:∀ {l:List α} {k i:Nat},ixP q l k=((k+i:Nat):Int)→∃ x,l[i]?=some x∧q x=true∧l.find? q=some x
 |[],k,i,h=>by simp [ixP] at h;omega
 |x::l,k,i,h=>by
  unfold ixP at h
  split at h
  ·rename_i hq
   have:i=0:=by omega
   subst this
   exact ⟨x,rfl,hq,by simp [hq]⟩
  ·rename_i hq
   have hi:=(om (q:=q) (l:=l) (k:=k+1)).2
   obtain ⟨j,rfl⟩:∃ j,i=j+1:=⟨i - 1,by omega⟩
   obtain ⟨y,h1,h2,h3⟩:=nn (l:=l) (k:=k+1) (i:=j) (by rw [h];congr 1;omega)
   exact ⟨y,by simpa using h1,h2,by rw [List.find?_cons_of_neg hq];exact h3⟩
theorem lf {α:Type} {q:α→Bool}:∀ {l:List α} {k:Nat},ixP q l k = -1→l.find? q=none
 |[],k,h=>rfl
 |x::l,k,h=>by
  unfold ixP at h
  split at h
  ·omega
  ·rename_i hq
   rw [List.find?_cons_of_neg hq]
   exact lf h
def AE:List AV→AHeap→(AV→Prop)→Prop
 |[x,.ptr c 0],H,K=>∃ t n,(x=ba t∧H.get c=some (.cells [.int .i64 n]))∧K (.bool (t.id==n))
 |_,_,_=>False
theorem Ia:EntOk Tryz.prog 64 (Ent.pure AE):=by
 refine Ype fun _ H K h=>?_
 unfold AE at h
 split at h
 rotate_left
 ·exact h.elim
 rename_i x c
 obtain ⟨t,n,⟨rfl,hg⟩,hK⟩:=h
 refine ⟨_,hK,?_⟩
 clear hK
 unfold ba
 refine ACalls.fW au tNq Tryz.func64 [.tmp 3] (nrq _) (T:=aq []) (h:=fun hcl hlt=>?_)
 clear hlt
 have hcs:=ax hg
 have hl:=glq hg
 have hne:(c=H.nx)=False:=eq_false (by omega)
 simp only [go_sem,hcs,hne]
 (repeat with_reducible refine Yq ?_)
 exact Z0
def Ag:List AV→AHeap→(AV→Prop)→Prop
 |[x,.ptr c 0],H,K=>∃ t n,(x=cn t∧H.get c=some (.cells [.int .i64 n]))∧K (.bool (t.id==n))
 |_,_,_=>False
theorem HW:EntOk Tryz.prog 140 (Ent.pure Ag):=by
 refine Ype fun _ H K h=>?_
 unfold Ag at h
 split at h
 rotate_left
 ·exact h.elim
 rename_i x c
 obtain ⟨t,n,⟨rfl,hg⟩,hK⟩:=h
 refine ⟨_,hK,?_⟩
 clear hK
 unfold cn
 refine ACalls.fW au tNq Tryz.func140 [.tmp 3] (nrq _) (T:=aq []) (h:=fun hcl hlt=>?_)
 clear hlt
 have hcs:=ax hg
 have hl:=glq hg
 have hne:(c=H.nx)=False:=eq_false (by omega)
 simp only [go_sem,hcs,hne]
 (repeat with_reducible refine Yq ?_)
 exact Z0
def Aq:List AV→AHeap→(AV→Prop)→Prop
 |[.slice _ 8 l,.func (.func 64) [] [.ptr c 0]],H,K=>∃ (ts:List STable) (n:Int),(l=ts.map ba∧H.get c=some (.cells [.int .i64 n])∧ts.length≤1000000)∧K (.int .i64 (ixP (fun t:STable=>t.id==n) ts 0))
 |_,_,_=>False
theorem Jp:EntOk Tryz.prog 63 (Ent.pure Aq):=by
 refine Ype fun _ H K h=>?_
 unfold Aq at h
 split at h
 rotate_left
 ·exact h.elim
 rename_i m l c
 obtain ⟨ts,n,⟨rfl,hg,hl⟩,hK⟩:=h
 refine ⟨_,hK,?_⟩
 clear hK
 generalize hR:ixP (fun t:STable=>t.id==n) ts 0=R
 refine ACalls.fW au (tCq Ia tNq) Tryz.func63 [.tmp 4] (nrq _) (T:=aq []) (h:=fun hcl hlt=>?_)
 have hm:AV.lt H.nx (.slice m 8 (ts.map ba)):=hlt _ (by simp)
 have hf:AV.lt H.nx (.func (.func 64) [] [.ptr c 0]):=hlt _ (by simp)
 clear hlt
 simp only [go_sem,ybb]
 refine az (A:=Nat) (fun k=>[(0,.slice m 8 (ts.map ba)),(1,.func (.func 64) [] [.ptr c 0]),(7,.int .i64 (ts.length:Int)),(8,.int .i64 (k:Int))]) (fun _=>H) (fun k=>k≤ts.length∧ixP (fun t:STable=>t.id==n) (ts.drop k) k=R) (fun k=>ts.length - k) 0 ⟨by omega,hR⟩ ?_ fun k hk=>?_
 ·refine ⟨nrq _,lRq _,hcl,?_,?_⟩
  ·simp [ltF,znf,hm,hf]
  ·simp [aJ,wk2,wk1,wkM,Fr.get]
 clear hR
 obtain ⟨hk,hR⟩:=hk
 simp only [go_sem]
 refine ai (fun hc=>?_) (fun hc=>?_)
 ·have hk':k<ts.length:=by simp at hc;omega
  obtain ⟨x,hx⟩:∃ x,x=ts[k]:=⟨_,rfl⟩
  have hd:ts.drop k=x::ts.drop (k+1):=by rw [hx];exact dcq hk'
  have hg':=aU (f:=ba) (l:=ts) (k:=k) (x:=x) (by rw [gQq hk',hx])
  have e5:=Yk5 k
  have hcell:(ba x).cells.length=8:=rfl
  rw [hd] at hR
  unfold ixP at hR
  have hag:∃ cs,ba x=.agg cs∧cs.length=8:=⟨_,rfl,rfl⟩
  obtain ⟨cs,hcs,hcl3⟩:=hag
  have hts:List.take 8 cs=cs:=ybc (by omega)
  simp only [go_sem,iNq,ybb,hg',hcs,hcl3,hts,AE]
  (repeat with_reducible refine Yq ?_)
  refine ⟨x,n,⟨hcs.symm,hg⟩,?_⟩
  try simp only [aH,go_sem]
  (repeat with_reducible refine Yq ?_)
  refine ai (fun hq=>?_) (fun hq=>?_)
  ·rw [if_pos hq] at hR
   subst hR
   simp only [go_sem]
   exact Z0
  ·rw [if_neg (by rw [hq];decide)] at hR
   simp only [go_sem,e5]
   refine ⟨k+1,⟨by omega,hR⟩,by omega,nrq _,lRq _,hcl,?_,?_⟩
   ·simp [ltF,znf,hm,hf]
   ·simp [aJ,wk2,wk1,wkM,Fr.get]
 ·have hk':k=ts.length:=by simp at hc;omega
  subst hk'
  rw [List.drop_length] at hR
  unfold ixP at hR
  subst hR
  simp only [go_sem]
  exact Z0
def xk:List AV→AHeap→(AV→Prop)→Prop
 |[.slice _ 3 l,.func (.func 140) [] [.ptr c 0]],H,K=>∃ (ts:List SField) (n:Int),(l=ts.map cn∧H.get c=some (.cells [.int .i64 n])∧ts.length≤1000000)∧K (.int .i64 (ixP (fun t:SField=>t.id==n) ts 0))
 |_,_,_=>False
theorem Ca:EntOk Tryz.prog 139 (Ent.pure xk):=by
 refine Ype fun _ H K h=>?_
 unfold xk at h
 split at h
 rotate_left
 ·exact h.elim
 rename_i m l c
 obtain ⟨ts,n,⟨rfl,hg,hl⟩,hK⟩:=h
 refine ⟨_,hK,?_⟩
 clear hK
 generalize hR:ixP (fun t:SField=>t.id==n) ts 0=R
 refine ACalls.fW au (tCq HW tNq) Tryz.func139 [.tmp 4] (nrq _) (T:=aq []) (h:=fun hcl hlt=>?_)
 have hm:AV.lt H.nx (.slice m 3 (ts.map cn)):=hlt _ (by simp)
 have hf:AV.lt H.nx (.func (.func 140) [] [.ptr c 0]):=hlt _ (by simp)
 clear hlt
 simp only [go_sem,ybb]
 refine az (A:=Nat) (fun k=>[(0,.slice m 3 (ts.map cn)),(1,.func (.func 140) [] [.ptr c 0]),(7,.int .i64 (ts.length:Int)),(8,.int .i64 (k:Int))]) (fun _=>H) (fun k=>k≤ts.length∧ixP (fun t:SField=>t.id==n) (ts.drop k) k=R) (fun k=>ts.length - k) 0 ⟨by omega,hR⟩ ?_ fun k hk=>?_
 ·refine ⟨nrq _,lRq _,hcl,?_,?_⟩
  ·simp [ltF,znf,hm,hf]
  ·simp [aJ,wk2,wk1,wkM,Fr.get]
 clear hR
 obtain ⟨hk,hR⟩:=hk
 simp only [go_sem]
 refine ai (fun hc=>?_) (fun hc=>?_)
 ·have hk':k<ts.length:=by simp at hc;omega
  obtain ⟨x,hx⟩:∃ x,x=ts[k]:=⟨_,rfl⟩
  have hd:ts.drop k=x::ts.drop (k+1):=by rw [hx];exact dcq hk'
  have hg':=aU (f:=cn) (l:=ts) (k:=k) (x:=x) (by rw [gQq hk',hx])
  have e5:=Yk5 k
  have hcell:(cn x).cells.length=3:=rfl
  rw [hd] at hR
  unfold ixP at hR
  have hag:∃ cs,cn x=.agg cs∧cs.length=3:=⟨_,rfl,rfl⟩
  obtain ⟨cs,hcs,hcl3⟩:=hag
  have hts:List.take 3 cs=cs:=ybc (by omega)
  simp only [go_sem,iNq,ybb,hg',hcs,hcl3,hts,Ag]
  (repeat with_reducible refine Yq ?_)
  refine ⟨x,n,⟨hcs.symm,hg⟩,?_⟩
  try simp only [aH,go_sem]
  (repeat with_reducible refine Yq ?_)
  refine ai (fun hq=>?_) (fun hq=>?_)
  ·rw [if_pos hq] at hR
   subst hR
   simp only [go_sem]
   exact Z0
  ·rw [if_neg (by rw [hq];decide)] at hR
   simp only [go_sem,e5]
   refine ⟨k+1,⟨by omega,hR⟩,by omega,nrq _,lRq _,hcl,?_,?_⟩
   ·simp [ltF,znf,hm,hf]
   ·simp [aJ,wk2,wk1,wkM,Fr.get]
 ·have hk':k=ts.length:=by simp at hc;omega
  subst hk'
  rw [List.drop_length] at hR
  unfold ixP at hR
  subst hR
  simp only [go_sem]
  exact Z0
def A5:List AV→AHeap→(AV→Prop)→Prop
 |[x],H,K=>∃ t,x=bU t∧K (.bool (t.kind==3||t.kind==4))
 |_,_,_=>False
theorem I2:EntOk Tryz.prog 109 (Ent.pure A5):=by
 refine Ype fun _ H K h=>?_
 unfold A5 at h
 split at h
 rotate_left
 ·exact h.elim
 rename_i x
 obtain ⟨t,rfl,hK⟩:=h
 refine ⟨_,hK,?_⟩
 clear hK
 unfold bU
 cases h3:(t.kind==3)
 ·rw [Bool.false_or]
  refine ACalls.fW au tNq Tryz.func109 [.tmp 2] (nrq _) (T:=aq []) (h:=fun hcl hlt=>?_)
  clear hlt
  simp only [go_sem,h3]
  (repeat with_reducible refine Yq ?_)
  exact Z0
 ·rw [Bool.true_or]
  refine ACalls.fW au tNq Tryz.func109 [.tmp 2] (nrq _) (T:=aq []) (h:=fun hcl hlt=>?_)
  clear hlt
  simp only [go_sem,h3]
  (repeat with_reducible refine Yq ?_)
  exact Z0
def zT:List AV→AHeap→(AV→Prop)→Prop
 |[.slice _ 3 l,.func (.func 109) [] []],H,K=>∃ ts:List SKey,(l=ts.map bU∧ts.length≤1000000)∧K (.int .i64 (ixP (fun t:SKey=>t.kind==3||t.kind==4) ts 0))
 |_,_,_=>False
theorem I8:EntOk Tryz.prog 141 (Ent.pure zT):=by
 refine Ype fun _ H K h=>?_
 unfold zT at h
 split at h
 rotate_left
 ·exact h.elim
 rename_i m l
 obtain ⟨ts,⟨rfl,hl⟩,hK⟩:=h
 refine ⟨_,hK,?_⟩
 clear hK
 generalize hR:ixP (fun t:SKey=>t.kind==3||t.kind==4) ts 0=R
 refine ACalls.fW au (tCq I2 tNq) Tryz.func141 [.tmp 4] (nrq _) (T:=aq []) (h:=fun hcl hlt=>?_)
 have hm:AV.lt H.nx (.slice m 3 (ts.map bU)):=hlt _ (by simp)
 have hf:AV.lt H.nx (.func (.func 109) [] []):=hlt _ (by simp)
 clear hlt
 simp only [go_sem,ybb]
 refine az (A:=Nat) (fun k=>[(0,.slice m 3 (ts.map bU)),(1,.func (.func 109) [] []),(7,.int .i64 (ts.length:Int)),(8,.int .i64 (k:Int))]) (fun _=>H) (fun k=>k≤ts.length∧ixP (fun t:SKey=>t.kind==3||t.kind==4) (ts.drop k) k=R) (fun k=>ts.length - k) 0 ⟨by omega,hR⟩ ?_ fun k hk=>?_
 ·refine ⟨nrq _,lRq _,hcl,?_,?_⟩
  ·simp [ltF,znf,hm,hf]
  ·simp [aJ,wk2,wk1,wkM,Fr.get]
 clear hR
 obtain ⟨hk,hR⟩:=hk
 simp only [go_sem]
 refine ai (fun hc=>?_) (fun hc=>?_)
 ·have hk':k<ts.length:=by simp at hc;omega
  obtain ⟨x,hx⟩:∃ x,x=ts[k]:=⟨_,rfl⟩
  have hd:ts.drop k=x::ts.drop (k+1):=by rw [hx];exact dcq hk'
  have hg':=aU (f:=bU) (l:=ts) (k:=k) (x:=x) (by rw [gQq hk',hx])
  have e5:=Yk5 k
  have hcell:(bU x).cells.length=3:=rfl
  rw [hd] at hR
  unfold ixP at hR
  have hag:∃ cs,bU x=.agg cs∧cs.length=3:=⟨_,rfl,rfl⟩
  obtain ⟨cs,hcs,hcl3⟩:=hag
  have hts:List.take 3 cs=cs:=ybc (by omega)
  simp only [go_sem,iNq,ybb,hg',hcs,hcl3,hts,A5]
  (repeat with_reducible refine Yq ?_)
  refine ⟨x,hcs.symm,?_⟩
  try simp only [aH,go_sem]
  (repeat with_reducible refine Yq ?_)
  refine ai (fun hq=>?_) (fun hq=>?_)
  ·rw [if_pos hq] at hR
   subst hR
   simp only [go_sem]
   exact Z0
  ·rw [if_neg (by rw [hq];decide)] at hR
   simp only [go_sem,e5]
   refine ⟨k+1,⟨by omega,hR⟩,by omega,nrq _,lRq _,hcl,?_,?_⟩
   ·simp [ltF,znf,hm,hf]
   ·simp [aJ,wk2,wk1,wkM,Fr.get]
 ·have hk':k=ts.length:=by simp at hc;omega
  subst hk'
  rw [List.drop_length] at hR
  unfold ixP at hR
  subst hR
  simp only [go_sem]
  exact Z0
def gC:List AV→AHeap→(AV→Prop)→Prop
 |[.agg l,.int .i64 n],_,K=>∃ S:Sch,(l=aW S∧S.tables.length≤1000000)∧K (.int .i64 (ixP (fun t:STable=>t.id==n) S.tables 0))
 |_,_,_=>False
theorem ja:EntOk Tryz.prog 31 (Ent.pure gC):=by
 refine Ype fun _ H K h=>?_
 unfold gC at h
 split at h
 rotate_left
 ·exact h.elim
 rename_i l n
 obtain ⟨S,⟨rfl,hl⟩,hK⟩:=h
 refine ⟨_,hK,?_⟩
 clear hK
 refine ACalls.fW au (tCq Jp tNq) Tryz.func31 [.tmp 4] (nrq _) (T:=aq []) (h:=fun hcl hlt=>?_)
 clear hlt
 simp only [go_sem,aW,Aq]
 (repeat with_reducible refine Yq ?_)
 refine ⟨S.tables,n,⟨rfl,by simp only [go_sem],hl⟩,?_⟩
 try simp only [aH,go_sem]
 exact Z0
def ln:List AV→AHeap→(AV→Prop)→Prop
 |[.agg l,.int .i64 n],_,K=>∃ S:Sch,(l=aW S∧S.fields.length≤1000000)∧K (.int .i64 (ixP (fun t:SField=>t.id==n) S.fields 0))
 |_,_,_=>False
theorem rj:EntOk Tryz.prog 107 (Ent.pure ln):=by
 refine Ype fun _ H K h=>?_
 unfold ln at h
 split at h
 rotate_left
 ·exact h.elim
 rename_i l n
 obtain ⟨S,⟨rfl,hl⟩,hK⟩:=h
 refine ⟨_,hK,?_⟩
 clear hK
 refine ACalls.fW au (tCq Ca tNq) Tryz.func107 [.tmp 4] (nrq _) (T:=aq []) (h:=fun hcl hlt=>?_)
 clear hlt
 simp only [go_sem,aW,xk]
 (repeat with_reducible refine Yq ?_)
 refine ⟨S.fields,n,⟨rfl,by simp only [go_sem],hl⟩,?_⟩
 try simp only [aH,go_sem]
 exact Z0
theorem um {fs:List SField} {id:Int}:io fs id=match fs.find? (fun f=>f.id==id) with|some f=>f.bits|none=>0:=by
 induction fs with
 |nil=>rfl
 |cons f fs ih =>
  unfold io
  by_cases h:f.id=id
  ·rw [if_pos h,List.find?_cons_of_pos (by simp [h])]
  ·rw [if_neg h,List.find?_cons_of_neg (by simp [h])];exact ih
def nh:List AV→AHeap→(AV→Prop)→Prop
 |[.agg l,.agg [.str nm,.int .i64 fld,.int .i64 kind]],_,K=>∃ S:Sch,(l=aW S∧S.fields.length≤1000000)∧K (.int .i64 (cO S fld))
 |_,_,_=>False
theorem ol:EntOk Tryz.prog 73 (Ent.pure nh):=by
 refine Ype fun _ H K h=>?_
 unfold nh at h
 split at h
 rotate_left
 ·exact h.elim
 rename_i l nm fld kind
 obtain ⟨S,⟨rfl,hl⟩,hK⟩:=h
 refine ⟨_,hK,?_⟩
 clear hK
 unfold cO
 rw [um]
 obtain ⟨b1,b2⟩:=om (q:=fun f:SField=>f.id==fld) (l:=S.fields) (k:=0)
 rcases b2 with b2|b2
 ·rw [lf b2]
  refine ACalls.fW au (tCq rj tNq) Tryz.func73 [.tmp 4] (nrq _) (T:=aq []) (h:=fun hcl hlt=>?_)
  clear hlt
  simp only [go_sem,aW,ln]
  (repeat with_reducible refine Yq ?_)
  refine ⟨S,⟨rfl,hl⟩,?_⟩
  rw [b2]
  have d:decide ((-1:Int)<0)=true:=rfl
  simp only [aH,go_sem,d]
  exact Z0
 ·obtain ⟨i,hi⟩:∃ i:Nat,ixP (fun f:SField=>f.id==fld) S.fields 0=((0+i:Nat):Int):=⟨(ixP (fun f:SField=>f.id==fld) S.fields 0).toNat,by omega⟩
  obtain ⟨x,h1,h2,h3⟩:=nn hi
  rw [h3]
  rw [nzq] at hi
  have hil:i<S.fields.length:=by
   rcases Nat.lt_or_ge i S.fields.length with h|h
   ·exact h
   ·rw [gNq h] at h1;cases h1
  have hg':=aU (f:=cn) (l:=S.fields) (k:=i) (x:=x) h1
  have d:decide ((i:Int)<0)=false:=by simp
  refine ACalls.fW au (tCq rj tNq) Tryz.func73 [.tmp 4] (nrq _) (T:=aq []) (h:=fun hcl hlt=>?_)
  clear hlt
  simp only [go_sem,aW,ln]
  (repeat with_reducible refine Yq ?_)
  refine ⟨S,⟨rfl,hl⟩,?_⟩
  rw [hi]
  simp only [aH,go_sem,aW,d,iNq,hg',cn,ybb]
  (repeat with_reducible refine Yq ?_)
  exact Z0
def jT (S:Sch) (id:Int):Option STable:=S.tables.find? fun t=>t.id==id
def k9:List AV→AHeap→(AV→Prop)→Prop
 |[.agg l,.agg [.int .i64 id,.slice _ 8 ms,.int .i64 pr,.int .i64 ac,.slice _ 2 ar]],_,K=>∃ S:Sch,(l=aW S∧S.tables.length≤1000000) ∧
   K (match jT S id with|some t=>.tup [ba t,.bool true]|none=>.tup [ba pE,.bool false])
 |_,_,_=>False
theorem nE:EntOk Tryz.prog 70 (Ent.pure k9):=by
 refine Ype fun _ H K h=>?_
 unfold k9 at h
 split at h
 rotate_left
 ·exact h.elim
 rename_i l id m1 ms pr ac m2 ar
 obtain ⟨S,⟨rfl,hl⟩,hK⟩:=h
 refine ⟨_,hK,?_⟩
 clear hK
 unfold jT
 obtain ⟨b1,b2⟩:=om (q:=fun f:STable=>f.id==id) (l:=S.tables) (k:=0)
 rcases b2 with b2|b2
 ·rw [lf b2]
  refine ACalls.fW au (tCq ja tNq) Tryz.func70 [.cell 4 91,.tmp 5] (nrq _) (T:=aq []) (h:=fun hcl hlt=>?_)
  clear hlt
  simp only [go_sem,aW,gC]
  (repeat with_reducible refine Yq ?_)
  refine ⟨S,⟨rfl,hl⟩,?_⟩
  rw [b2]
  have d:decide ((-1:Int)<0)=true:=rfl
  simp only [aH,go_sem,d,ba,pE,yaf,inL]
  exact Z0
 ·obtain ⟨i,hi⟩:∃ i:Nat,ixP (fun f:STable=>f.id==id) S.tables 0=((0+i:Nat):Int):=⟨(ixP (fun f:STable=>f.id==id) S.tables 0).toNat,by omega⟩
  obtain ⟨x,h1,h2,h3⟩:=nn hi
  rw [h3]
  rw [nzq] at hi
  have hil:i<S.tables.length:=by
   rcases Nat.lt_or_ge i S.tables.length with h|h
   ·exact h
   ·rw [gNq h] at h1;cases h1
  have hg':=aU (f:=ba) (l:=S.tables) (k:=i) (x:=x) h1
  have d:decide ((i:Int)<0)=false:=by simp
  have hlx:=cS (n:=H.nx) x
  simp only [ba] at hlx
  refine ACalls.fW au (tCq ja tNq) Tryz.func70 [.cell 4 91,.tmp 5] (nrq _) (T:=aq []) (h:=fun hcl hlt=>?_)
  clear hlt
  simp only [go_sem,aW,gC]
  (repeat with_reducible refine Yq ?_)
  refine ⟨S,⟨rfl,hl⟩,?_⟩
  rw [hi]
  simp only [aH,go_sem,aW,d,iNq,hg',ba,ybb]
  (repeat with_reducible refine Yq ?_)
  simp (disch:=first|exact Zd|omega) [↓zmo,beq,ybc,ybd,ybe,ae,wk,wk2,wk1,wkM,wkL,ah,ybf,hcl,hlx]
end Go.AL
