/- Lemmas of the proof; no condition. -/
import Derived.Test.YthnlhjalhflgfaaGreatCG
import Derived.Test.YthnlhjalhflgfaaGreatS10z
import Derived.Test.YthnlhjalhflgfaaGreatLEntB
import Derived.Test.YthnlhjalhflgfaaGreatS10i
set_option linter.all false
set_option maxRecDepth 10000
open List renaming length_cons → yaz, length_nil → yba, take_of_length_le → ybc, drop_append → ybd, take_append → ybe, drop_eq_nil_of_le → ybf, map_cons → yae, length_map → ybb
open Go Go.AL Go.Proofs
namespace Go.AL
def p2V (f:Nat→Nat→AV):PCt
 |[.agg [.int .u64 a,.int .u64 b],.agg [.int .u64 c,.int .u64 d]],_,K=>(isV a b∧isV c d)∧K (f (vOf a.toNat b.toNat) (vOf c.toNat d.toNat))
 |_,_,_=>False
def pE:=p2V fun x y=>vv (x &&& y)
theorem Ow:EPp 276 pE:=by
 unfold pE
 refine Ype fun _ H K h=>?_
 unfold p2V at h
 split at h<;>try exact h.elim
 rename_i a b c d
 obtain ⟨⟨⟨h0,h1,h2,h3⟩,k0,k1,k2,k3⟩,hK⟩:=h
 refine ⟨_,hK,?_⟩
 obtain ⟨x,rfl⟩:=ea h0
 obtain ⟨y,rfl⟩:=ea h2
 obtain ⟨z,rfl⟩:=ea k0
 obtain ⟨w,rfl⟩:=ea k2
 clear hK h0 h2 k0 k2
 simp only [iNq]
 have hx:x<2^64:=by omega
 have hy:y<2^64:=by omega
 have hz:z<2^64:=by omega
 have hw:w<2^64:=by omega
 rw [Oj x y z w hy hw,CB (Nat.and_lt_two_pow _ hw)]
 refine Yfu aC tNq Tryz.func276 [.cell 4 106] fun hcl=>?_
 simp only [go_sem,zav,byq,u2 x z hx hz,u2 y w hy hw]
 exact Z1
theorem jg {a b c d:Int}:teq Tryz.prog 9 106 (.agg [.int .u64 a,.int .u64 b]) (.agg [.int .u64 c,.int .u64 d])=some ((a==c)&&((b==d)&&true)):=by
 have g2:Tryz.prog.stoodInHeld 106=false:=krf
 simp [pY,teq,teq.go,teq.part,tO,ceq,g2,TD.agg]
theorem jj:Tryz.prog.eqGuardType Tryz.prog.depth 106=false:=krf
def gA:PCt
 |[.agg [.int .u64 a,.int .u64 b],.int .i64 n],_,K=>isV a b∧K (.bool (decide (((bl (vOf a.toNat b.toNat):Nat):Int)≤n)))
 |_,_,_=>False
theorem we:EPp 275 gA:=by
 refine Ype fun _ H K h=>?_
 unfold gA at h
 split at h<;>try exact h.elim
 rename_i a b n
 obtain ⟨hv,hK⟩:=h
 refine ⟨_,hK,?_⟩
 clear hK
 refine Yfu aC (tCq zk tNq) Tryz.func275 [.tmp 4] fun hcl=>?_
 unfold isV at hv
 simp only [go_sem,tU]
 refine ⟨hv,?_⟩
 exact Z1
def tE (g f:Nat→Bool) (i:Nat):List AV:=bfn fun j=>if j<i then g j else f j
theorem E6 {g f:Nat→Bool}:tE g f 0=bfn f:=xy fun j _=>by simp
theorem Hf {g f:Nat→Bool}:tE g f 128=bfn g:=xy fun j hj=>by simp [hj]
theorem zA {g f:Nat→Bool} {i:Nat}:(tE g f i).length=128:=OJ _
theorem Ht {g f:Nat→Bool} {i:Nat} (h:i<128):(tE g f i).getD i .junk=.bool (f i):=by unfold tE;rw [MP _ _ h];simp
theorem Lb {g f:Nat→Bool} {i:Nat}:(tE g f i).set i (.bool (g i))=tE g f (i+1):=On fun j hj=>by
 by_cases e:j=i
 ·subst e;simp
 ·rw [if_neg e]
  by_cases h:j<i
  ·rw [if_pos h,if_pos (by omega)]
  ·rw [if_neg h,if_neg (by omega)]
def gY:=p2V fun x y=>vv (x &&& y)
set_option maxHeartbeats 2000000 in
theorem Ph:EPp 184 gY:=by
 unfold gY
 refine Ype fun _ H K h=>?_
 unfold p2V at h
 split at h<;>try exact h.elim
 rename_i a b c d
 obtain ⟨⟨⟨h0,h1,h2,h3⟩,k0,k1,k2,k3⟩,hK⟩:=h
 refine ⟨_,hK,?_⟩
 obtain ⟨x,rfl⟩:=ea h0
 obtain ⟨y,rfl⟩:=ea h2
 obtain ⟨z,rfl⟩:=ea k0
 obtain ⟨w,rfl⟩:=ea k2
 clear hK h0 h2 k0 k2
 simp only [iNq]
 have hv:=ol (hi:=x) (lo:=y) (by omega) (by omega)
 have hu:=ol (hi:=z) (lo:=w) (by omega) (by omega)
 refine Yfw aC (tCq uw (tCq FW tNq)) Tryz.func184 [.cell 4 106] (nrq _) (T:=aA [(1,[[],[0],[],[0,1,2],[],[],[0,1,2,3,4,5],[0,1,2,3,4,5]]),(801,[[4,312],[5,312]])]) (h:=fun hcl=>?_)
 generalize hvo:vOf x y=v at *
 generalize huo:vOf z w=u at *
 have hs:v &&& u<2^128:=Nat.and_lt_two_pow _ hu
 have b3:=zw hs
 have u3:=mW hs
 have es:∀ t,splice (List.replicate 128 (.bool false)) 0 (bits t)=bits t:=fun t=>lr (y:=.junk) (gx t)
 simp only [go_sem,rh,isV,iNq,hvo,huo,gx,mM,es]
 refine Tq3 ?_
 refine iX (A:=Nat) (fun i=>[(12,.int .i64 (i:Int)),(6,.ptr (H.nx+1+1+1+1) 0),(5,.ptr (H.nx+1+1+1) 0),(4,.ptr (H.nx+1+1) 0)])
  (fun i=>((((H.push (.cells [.int .u64 (x:Int),.int .u64 (y:Int)])).push (.cells [.int .u64 (z:Int),.int .u64 (w:Int)])).push (.cells [.int .u64 0,.int .u64 0])).push (.cells (tE (v &&& u).testBit v.testBit i))).push (.cells (bits u))) (fun i=>i≤128) (fun i=>128 - i) 0 (by omega) ?_ fun i hi=>?_
 ·simp only [bnq,enter,lO,ltF,ne_eq,Nat.reduceEqDiff,reduceCtorEq,E6,← L1,true_or,and_true]
  all_goals rfl
 refine Tq15 ?_
 refine ay (fun hc=>?_) (fun hc=>?_)
 ·have hi1:i<128:=sHc
  have e0:IntKind.i64.wrap ((i:Int)+1)=((i+1:Nat):Int):=by rw [wrap_i64]<;>omega
  have g1:(tE (v &&& u).testBit v.testBit i).getD i .junk=.bool (v.testBit i):=Ht hi1
  have g2:=pe u i hi1
  have st:(tE (v &&& u).testBit v.testBit i).set i (.bool ((v &&& u).testBit i))=tE (v &&& u).testBit v.testBit (i+1):=Lb
  have bit:(v &&& u).testBit i=(v.testBit i&&u.testBit i):=Nat.testBit_and _ _ _
  rw [bit] at st
  generalize v.testBit i=b0 at *
  generalize u.testBit i=b1 at *
  cases b0
  ·simp only [Bool.false_and] at st
   exact Y88
  ·simp only [Bool.true_and] at st
   exact Y88
 ·have hi1:i=128:=sHc
  subst hi1
  have e:tE (v &&& u).testBit v.testBit 128=bits (v &&& u):=Hf
  have et:List.take 128 (bits (v &&& u))=bits (v &&& u):=ybc (by rw [gx];omega)
  simp only [go_sem,wh,e,et,gx,mM,b3,u3,vv]
  refine Tq3 ?_
  exact Z1
def ixP {α:Type} (q:α→Bool):List α→Nat→Int
 |[],_ => -1
 |x::xs,k=>if q x=true then (k:Int) else ixP q xs (k+1)
theorem p4 {α β:Type} {f:α→β} {q:β→Bool}:∀ (l:List α) (k:Nat),ixP q (l.map f) k=ixP (fun x=>q (f x)) l k
 |[],_=>rfl
 |x::l,k=>by simp only [yae,ixP,p4 l]
theorem Bj {α:Type} {q:α→Bool}:∀ {l:List α} {k:Nat},ixP q l k<(k:Int)+l.length∧(ixP q l k = -1∨(k:Int)≤ixP q l k)
 |[],k=>by simp [ixP];omega
 |x::l,k=>by
  unfold ixP
  split
  ·simp;omega
  ·have:=Bj (q:=q) (l:=l) (k:=k+1)
   simp only [yaz]
   omega
theorem yH {α:Type} {q:α→Bool}:∀ {l:List α} {k i:Nat},ixP q l k=((k+i:Nat):Int)→∃ x,l[i]?=some x∧q x=true∧l.find? q=some x
 |[],k,i,h=>by simp [ixP] at h;omega
 |x::l,k,i,h=>by
  unfold ixP at h
  split at h
  ·rename_i hq
   have:i=0:=by omega
   subst this
   exact ⟨x,rfl,hq,by simp [hq]⟩
  ·rename_i hq
   have hi:=(Bj (q:=q) (l:=l) (k:=k+1)).2
   obtain ⟨j,rfl⟩:∃ j,i=j+1:=⟨i - 1,by omega⟩
   obtain ⟨y,h1,h2,h3⟩:=yH (l:=l) (k:=k+1) (i:=j) (by rw [h];congr 1;omega)
   exact ⟨y,by simpa using h1,h2,by rw [List.find?_cons_of_neg hq];exact h3⟩
theorem z8 {α:Type} {q:α→Bool}:∀ {l:List α} {k:Nat},ixP q l k = -1→l.find? q=none
 |[],k,h=>rfl
 |x::l,k,h=>by
  unfold ixP at h
  split at h
  ·omega
  ·rename_i hq
   rw [List.find?_cons_of_neg hq]
   exact z8 h
def BM:PCt
 |[x,.ptr c 0],H,K=>∃ t n,(x=ax t∧H.get c=some (.cells [.int .i64 n]))∧K (.bool (t.id==n))
 |_,_,_=>False
theorem NM:EPp 57 BM:=by
 refine Ype fun _ H K h=>?_
 unfold BM at h
 split at h<;>try exact h.elim
 rename_i x c
 obtain ⟨t,n,⟨rfl,hg⟩,hK⟩:=h
 refine ⟨_,hK,?_⟩
 clear hK
 unfold ax
 refine Yfv aC tNq Tryz.func57 [.tmp 3] fun hcl hlt=>?_
 exact Y44
def Cm:PCt
 |[x,.ptr c 0],H,K=>∃ t n,(x=aH t∧H.get c=some (.cells [.int .i64 n]))∧K (.bool (t.id==n))
 |_,_,_=>False
theorem Ms:EPp 325 Cm:=by
 refine Ype fun _ H K h=>?_
 unfold Cm at h
 split at h<;>try exact h.elim
 rename_i x c
 obtain ⟨t,n,⟨rfl,hg⟩,hK⟩:=h
 refine ⟨_,hK,?_⟩
 clear hK
 unfold aH
 refine Yfv aC tNq Tryz.func325 [.tmp 3] fun hcl hlt=>?_
 exact Y44
def Bs:PCt
 |[.slice _ 8 l,.func (.func 57) [] [.ptr c 0]],H,K=>∃ (ts:List STable) (n:Int),(l=ts.map ax∧H.get c=some (.cells [.int .i64 n])∧ts.length≤1000000)∧K (.int .i64 (ixP (fun t:STable=>t.id==n) ts 0))
 |_,_,_=>False
theorem Nk:EPp 56 Bs:=by
 refine Ype fun _ H K h=>?_
 unfold Bs at h
 split at h<;>try exact h.elim
 rename_i m l c
 obtain ⟨ts,n,⟨rfl,hg,hl⟩,hK⟩:=h
 refine ⟨_,hK,?_⟩
 clear hK
 generalize hR:ixP (fun t:STable=>t.id==n) ts 0=R
 refine Yfv aC (tCq NM tNq) Tryz.func56 [.tmp 4] fun hcl hlt=>?_
 have hm:AV.lt H.nx (.slice m 8 (ts.map ax)):=hlt _ (by simp)
 have hf:AV.lt H.nx (.func (.func 57) [] [.ptr c 0]):=hlt _ (by simp)
 clear hlt
 simp only [go_sem,ybb]
 refine aD (A:=Nat) (fun k=>[(0,.slice m 8 (ts.map ax)),(1,.func (.func 57) [] [.ptr c 0]),(7,.int .i64 (ts.length:Int)),(8,.int .i64 (k:Int))]) (fun _=>H) (fun k=>k≤ts.length∧ixP (fun t:STable=>t.id==n) (ts.drop k) k=R) (fun k=>ts.length - k) 0 ⟨by omega,hR⟩ ?_ fun k hk=>?_
 ·refine ⟨nrq _,lRq _,hcl,?_,?_⟩
  ·simp [ltF,znf,hm,hf]
  ·exact Y14
 clear hR
 obtain ⟨hk,hR⟩:=hk
 refine Tq15 ?_
 refine ay (fun hc=>?_) (fun hc=>?_)
 ·have hk':k<ts.length:=sHc
  obtain ⟨x,hx⟩:∃ x,x=ts[k]:=⟨_,rfl⟩
  have hd:ts.drop k=x::ts.drop (k+1):=by rw [hx];exact dcq hk'
  have hg':=aV (f:=ax) (l:=ts) (k:=k) (x:=x) (by rw [gQq hk',hx])
  have e5:=Yk5 k
  have hcell:(ax x).cells.length=8:=rfl
  rw [hd] at hR
  unfold ixP at hR
  have hag:∃ cs,ax x=.agg cs∧cs.length=8:=⟨_,rfl,rfl⟩
  obtain ⟨cs,hcs,hcl3⟩:=hag
  have hts:List.take 8 cs=cs:=ybc (by omega)
  simp only [go_sem,iNq,ybb,hg',hcs,hcl3,hts,BM]
  refine Tq3 ?_
  refine ⟨x,n,⟨hcs.symm,hg⟩,?_⟩
  try simp only [aF,go_sem]
  refine Tq3 ?_
  refine ay (fun hq=>?_) (fun hq=>?_)
  ·rw [if_pos hq] at hR
   subst hR
   exact Y32
  ·rw [if_neg (by rw [hq];decide)] at hR
   simp only [go_sem,e5]
   refine ⟨k+1,⟨by omega,hR⟩,by omega,nrq _,lRq _,hcl,?_,?_⟩
   ·simp [ltF,znf,hm,hf]
   ·exact Y14
 ·exact Y19
def CJ:PCt
 |[.slice _ 3 l,.func (.func 325) [] [.ptr c 0]],H,K=>∃ (ts:List SField) (n:Int),(l=ts.map aH∧H.get c=some (.cells [.int .i64 n])∧ts.length≤1000000)∧K (.int .i64 (ixP (fun t:SField=>t.id==n) ts 0))
 |_,_,_=>False
theorem Nh:EPp 318 CJ:=by
 refine Ype fun _ H K h=>?_
 unfold CJ at h
 split at h<;>try exact h.elim
 rename_i m l c
 obtain ⟨ts,n,⟨rfl,hg,hl⟩,hK⟩:=h
 refine ⟨_,hK,?_⟩
 clear hK
 generalize hR:ixP (fun t:SField=>t.id==n) ts 0=R
 refine Yfv aC (tCq Ms tNq) Tryz.func318 [.tmp 4] fun hcl hlt=>?_
 have hm:AV.lt H.nx (.slice m 3 (ts.map aH)):=hlt _ (by simp)
 have hf:AV.lt H.nx (.func (.func 325) [] [.ptr c 0]):=hlt _ (by simp)
 clear hlt
 simp only [go_sem,ybb]
 refine aD (A:=Nat) (fun k=>[(0,.slice m 3 (ts.map aH)),(1,.func (.func 325) [] [.ptr c 0]),(7,.int .i64 (ts.length:Int)),(8,.int .i64 (k:Int))]) (fun _=>H) (fun k=>k≤ts.length∧ixP (fun t:SField=>t.id==n) (ts.drop k) k=R) (fun k=>ts.length - k) 0 ⟨by omega,hR⟩ ?_ fun k hk=>?_
 ·refine ⟨nrq _,lRq _,hcl,?_,?_⟩
  ·simp [ltF,znf,hm,hf]
  ·exact Y14
 clear hR
 obtain ⟨hk,hR⟩:=hk
 refine Tq15 ?_
 refine ay (fun hc=>?_) (fun hc=>?_)
 ·have hk':k<ts.length:=sHc
  obtain ⟨x,hx⟩:∃ x,x=ts[k]:=⟨_,rfl⟩
  have hd:ts.drop k=x::ts.drop (k+1):=by rw [hx];exact dcq hk'
  have hg':=aV (f:=aH) (l:=ts) (k:=k) (x:=x) (by rw [gQq hk',hx])
  have e5:=Yk5 k
  have hcell:(aH x).cells.length=3:=rfl
  rw [hd] at hR
  unfold ixP at hR
  have hag:∃ cs,aH x=.agg cs∧cs.length=3:=⟨_,rfl,rfl⟩
  obtain ⟨cs,hcs,hcl3⟩:=hag
  have hts:List.take 3 cs=cs:=ybc (by omega)
  simp only [go_sem,iNq,ybb,hg',hcs,hcl3,hts,Cm]
  refine Tq3 ?_
  refine ⟨x,n,⟨hcs.symm,hg⟩,?_⟩
  try simp only [aF,go_sem]
  refine Tq3 ?_
  refine ay (fun hq=>?_) (fun hq=>?_)
  ·rw [if_pos hq] at hR
   subst hR
   exact Y32
  ·rw [if_neg (by rw [hq];decide)] at hR
   simp only [go_sem,e5]
   refine ⟨k+1,⟨by omega,hR⟩,by omega,nrq _,lRq _,hcl,?_,?_⟩
   ·simp [ltF,znf,hm,hf]
   ·exact Y14
 ·exact Y19
def fh:PCt
 |[.agg l,.int .i64 n],_,K=>∃ S:Sch,(l=aS S∧S.tables.length≤1000000)∧K (.int .i64 (ixP (fun t:STable=>t.id==n) S.tables 0))
 |_,_,_=>False
theorem iR:EPp 19 fh:=by
 refine Ype fun _ H K h=>?_
 unfold fh at h
 split at h<;>try exact h.elim
 rename_i l n
 obtain ⟨S,⟨rfl,hl⟩,hK⟩:=h
 refine ⟨_,hK,?_⟩
 clear hK
 refine Yfu aC (tCq Nk tNq) Tryz.func19 [.tmp 4] fun hcl=>?_
 simp only [go_sem,aS,Bs]
 refine Tq3 ?_
 refine ⟨S.tables,n,⟨rfl,by simp only [go_sem],hl⟩,?_⟩
 exact Y37
def nW:PCt
 |[.agg l,.int .i64 n],_,K=>∃ S:Sch,(l=aS S∧S.fields.length≤1000000)∧K (.int .i64 (ixP (fun t:SField=>t.id==n) S.fields 0))
 |_,_,_=>False
theorem th:EPp 262 nW:=by
 refine Ype fun _ H K h=>?_
 unfold nW at h
 split at h<;>try exact h.elim
 rename_i l n
 obtain ⟨S,⟨rfl,hl⟩,hK⟩:=h
 refine ⟨_,hK,?_⟩
 clear hK
 refine Yfu aC (tCq Nh tNq) Tryz.func262 [.tmp 4] fun hcl=>?_
 simp only [go_sem,aS,CJ]
 refine Tq3 ?_
 refine ⟨S.fields,n,⟨rfl,by simp only [go_sem],hl⟩,?_⟩
 exact Y37
theorem GK {fs:List SField} {id:Int}:Do fs id=match fs.find? (fun f=>f.id==id) with|some f=>f.bits|none=>0:=by
 induction fs with
 |nil=>rfl
 |cons f fs ih =>
  unfold Do
  by_cases h:f.id=id
  ·rw [if_pos h,List.find?_cons_of_pos (by simp [h])]
  ·rw [if_neg h,List.find?_cons_of_neg (by simp [h])];exact ih
end Go.AL
