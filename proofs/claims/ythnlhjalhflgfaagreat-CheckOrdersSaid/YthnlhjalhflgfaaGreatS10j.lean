/- Lemmas of the proof; no condition. -/
import Derived.Test.YthnlhjalhflgfaaGreatCG
import Derived.Test.YthnlhjalhflgfaaGreatS10z
import Derived.Test.YthnlhjalhflgfaaGreatLEntB
import Derived.Test.YthnlhjalhflgfaaGreatS10i
set_option linter.all false
set_option maxRecDepth 10000
open Go Go.AL Go.Proofs
namespace Go.AL
def p2V (f:Nat→Nat→AV):PCt
 |[.agg [.int .u64 a,.int .u64 b],.agg [.int .u64 c,.int .u64 d]],_,K=>(isV a b∧isV c d)∧K (f (vOf a.toNat b.toNat) (vOf c.toNat d.toNat))
 |_,_,_=>False
def oZ:=p2V fun x y=>vv (x &&& y)
theorem LU:EPp 276 oZ:=by
 unfold oZ
 refine Ype fun _ H K h=>?_
 unfold p2V at h
 split at h<;>try exact h.elim
 rename_i a b c d
 obtain ⟨⟨⟨h0,h1,h2,h3⟩,k0,k1,k2,k3⟩,hK⟩:=h
 refine ⟨_,hK,?_⟩
 obtain ⟨x,rfl⟩:=dY h0
 obtain ⟨y,rfl⟩:=dY h2
 obtain ⟨z,rfl⟩:=dY k0
 obtain ⟨w,rfl⟩:=dY k2
 clear hK h0 h2 k0 k2
 simp only [iNq]
 have hx:x<2^64:=by omega
 have hy:y<2^64:=by omega
 have hz:z<2^64:=by omega
 have hw:w<2^64:=by omega
 rw [My x y z w hy hw,Bn (Nat.and_lt_two_pow _ hw)]
 refine Yfu aE tNq Tryz.func276 [.cell 4 106] fun hcl=>?_
 simp only [go_sem,zav,byq,uL x z hx hz,uL y w hy hw]
 exact Z1
theorem jd {a b c d:Int}:teq Tryz.prog 9 106 (.agg [.int .u64 a,.int .u64 b]) (.agg [.int .u64 c,.int .u64 d])=some ((a==c)&&((b==d)&&true)):=by
 have g2:Tryz.prog.stoodInHeld 106=false:=krf
 simp [pJ,teq,teq.go,teq.part,tz,ceq,g2,TD.agg]
theorem jb:Tryz.prog.eqGuardType Tryz.prog.depth 106=false:=krf
def gr:PCt
 |[.agg [.int .u64 a,.int .u64 b],.int .i64 n],_,K=>isV a b∧K (.bool (decide (((bl (vOf a.toNat b.toNat):Nat):Int)≤n)))
 |_,_,_=>False
theorem uz:EPp 275 gr:=by
 refine Ype fun _ H K h=>?_
 unfold gr at h
 split at h<;>try exact h.elim
 rename_i a b n
 obtain ⟨hv,hK⟩:=h
 refine ⟨_,hK,?_⟩
 clear hK
 refine Yfu aE (tCq Ae tNq) Tryz.func275 [.tmp 4] fun hcl=>?_
 unfold isV at hv
 simp only [go_sem,tm]
 refine ⟨hv,?_⟩
 exact Z1
def sY (g f:Nat→Bool) (i:Nat):List AV:=bfn fun j=>if j<i then g j else f j
theorem D1 {g f:Nat→Bool}:sY g f 0=bfn f:=wZ fun j _=>by simp
theorem JV {g f:Nat→Bool}:sY g f 128=bfn g:=wZ fun j hj=>by simp [hj]
theorem zE {g f:Nat→Bool} {i:Nat}:(sY g f i).length=128:=NE _
theorem FJ {g f:Nat→Bool} {i:Nat} (h:i<128):(sY g f i).getD i .junk=.bool (f i):=by unfold sY;rw [NN _ _ h];simp
theorem HJ {g f:Nat→Bool} {i:Nat}:(sY g f i).set i (.bool (g i))=sY g f (i+1):=LP fun j hj=>by
 by_cases e:j=i
 ·subst e;simp
 ·rw [if_neg e]
  by_cases h:j<i
  ·rw [if_pos h,if_pos (by omega)]
  ·rw [if_neg h,if_neg (by omega)]
def gU:=p2V fun x y=>vv (x &&& y)
set_option maxHeartbeats 2000000 in
theorem O7:EPp 184 gU:=by
 unfold gU
 refine Ype fun _ H K h=>?_
 unfold p2V at h
 split at h<;>try exact h.elim
 rename_i a b c d
 obtain ⟨⟨⟨h0,h1,h2,h3⟩,k0,k1,k2,k3⟩,hK⟩:=h
 refine ⟨_,hK,?_⟩
 obtain ⟨x,rfl⟩:=dY h0
 obtain ⟨y,rfl⟩:=dY h2
 obtain ⟨z,rfl⟩:=dY k0
 obtain ⟨w,rfl⟩:=dY k2
 clear hK h0 h2 k0 k2
 simp only [iNq]
 have hv:=n9 (hi:=x) (lo:=y) (by omega) (by omega)
 have hu:=n9 (hi:=z) (lo:=w) (by omega) (by omega)
 refine Yfw aE (tCq uM (tCq El tNq)) Tryz.func184 [.cell 4 106] (nrq _) (T:=aB [(1,[[],[0],[],[0,1,2],[],[],[0,1,2,3,4,5],[0,1,2,3,4,5]]),(801,[[4,312],[5,312]])]) (h:=fun hcl=>?_)
 generalize hvo:vOf x y=v at *
 generalize huo:vOf z w=u at *
 have hs:v &&& u<2^128:=Nat.and_lt_two_pow _ hu
 have b3:=yU hs
 have u3:=mI hs
 have es:∀ t,splice (List.replicate 128 (.bool false)) 0 (bits t)=bits t:=fun t=>kX (y:=.junk) (gf t)
 simp only [go_sem,qY,isV,iNq,hvo,huo,gf,mP,es]
 refine Tq3 ?_
 refine iW (A:=Nat) (fun i=>[(12,.int .i64 (i:Int)),(6,.ptr (H.nx+1+1+1+1) 0),(5,.ptr (H.nx+1+1+1) 0),(4,.ptr (H.nx+1+1) 0)])
  (fun i=>((((H.push (.cells [.int .u64 (x:Int),.int .u64 (y:Int)])).push (.cells [.int .u64 (z:Int),.int .u64 (w:Int)])).push (.cells [.int .u64 0,.int .u64 0])).push (.cells (sY (v &&& u).testBit v.testBit i))).push (.cells (bits u))) (fun i=>i≤128) (fun i=>128 - i) 0 (by omega) ?_ fun i hi=>?_
 ·simp only [bnq,enter,lK,ltF,ne_eq,Nat.reduceEqDiff,reduceCtorEq,D1,← Km,true_or,and_true]
  all_goals rfl
 refine Tq15 ?_
 refine au (fun hc=>?_) (fun hc=>?_)
 ·have hi1:i<128:=sHc
  have e0:IntKind.i64.wrap ((i:Int)+1)=((i+1:Nat):Int):=by rw [wrap_i64]<;>omega
  have g1:(sY (v &&& u).testBit v.testBit i).getD i .junk=.bool (v.testBit i):=FJ hi1
  have g2:=oT u i hi1
  have st:(sY (v &&& u).testBit v.testBit i).set i (.bool ((v &&& u).testBit i))=sY (v &&& u).testBit v.testBit (i+1):=HJ
  have bit:(v &&& u).testBit i=(v.testBit i&&u.testBit i):=Nat.testBit_and _ _ _
  rw [bit] at st
  generalize v.testBit i=b0 at *
  generalize u.testBit i=b1 at *
  cases b0
  ·simp only [Bool.false_and] at st
   exact Y86
  ·simp only [Bool.true_and] at st
   exact Y86
 ·have hi1:i=128:=sHc
  subst hi1
  have e:sY (v &&& u).testBit v.testBit 128=bits (v &&& u):=JV
  have et:List.take 128 (bits (v &&& u))=bits (v &&& u):=ybc (by rw [gf];omega)
  simp only [go_sem,uZ,e,et,gf,mP,b3,u3,vv]
  refine Tq3 ?_
  exact Z1
def ixP {α:Type} (q:α→Bool):List α→Nat→Int
 |[],_ => -1
 |x::xs,k=>if q x=true then (k:Int) else ixP q xs (k+1)
theorem pR {α β:Type} {f:α→β} {q:β→Bool}:∀ (l:List α) (k:Nat),ixP q (l.map f) k=ixP (fun x=>q (f x)) l k
 |[],_=>rfl
 |x::l,k=>by simp only [yae,ixP,pR l]
theorem AG {α:Type} {q:α→Bool}:∀ {l:List α} {k:Nat},ixP q l k<(k:Int)+l.length∧(ixP q l k = -1∨(k:Int)≤ixP q l k)
 |[],k=>by simp [ixP];omega
 |x::l,k=>by
  unfold ixP
  split
  ·simp;omega
  ·have:=AG (q:=q) (l:=l) (k:=k+1)
   simp only [yaz]
   omega
theorem yj {α:Type} {q:α→Bool}:∀ {l:List α} {k i:Nat},ixP q l k=((k+i:Nat):Int)→∃ x,l[i]?=some x∧q x=true∧l.find? q=some x
 |[],k,i,h=>by simp [ixP] at h;omega
 |x::l,k,i,h=>by
  unfold ixP at h
  split at h
  ·rename_i hq
   have:i=0:=by omega
   subst this
   exact ⟨x,rfl,hq,by simp [hq]⟩
  ·rename_i hq
   have hi:=(AG (q:=q) (l:=l) (k:=k+1)).2
   obtain ⟨j,rfl⟩:∃ j,i=j+1:=⟨i - 1,by omega⟩
   obtain ⟨y,h1,h2,h3⟩:=yj (l:=l) (k:=k+1) (i:=j) (by rw [h];congr 1;omega)
   exact ⟨y,by simpa using h1,h2,by rw [List.find?_cons_of_neg hq];exact h3⟩
theorem zV {α:Type} {q:α→Bool}:∀ {l:List α} {k:Nat},ixP q l k = -1→l.find? q=none
 |[],k,h=>rfl
 |x::l,k,h=>by
  unfold ixP at h
  split at h
  ·omega
  ·rename_i hq
   rw [List.find?_cons_of_neg hq]
   exact zV h
def BK:PCt
 |[x,.ptr c 0],H,K=>∃ t n,(x=ax t∧H.get c=some (.cells [.int .i64 n]))∧K (.bool (t.id==n))
 |_,_,_=>False
theorem Mb:EPp 57 BK:=by
 refine Ype fun _ H K h=>?_
 unfold BK at h
 split at h<;>try exact h.elim
 rename_i x c
 obtain ⟨t,n,⟨rfl,hg⟩,hK⟩:=h
 refine ⟨_,hK,?_⟩
 clear hK
 unfold ax
 refine Yfv aE tNq Tryz.func57 [.tmp 3] fun hcl hlt=>?_
 exact Y44
def AX:PCt
 |[x,.ptr c 0],H,K=>∃ t n,(x=aG t∧H.get c=some (.cells [.int .i64 n]))∧K (.bool (t.id==n))
 |_,_,_=>False
theorem OX:EPp 325 AX:=by
 refine Ype fun _ H K h=>?_
 unfold AX at h
 split at h<;>try exact h.elim
 rename_i x c
 obtain ⟨t,n,⟨rfl,hg⟩,hK⟩:=h
 refine ⟨_,hK,?_⟩
 clear hK
 unfold aG
 refine Yfv aE tNq Tryz.func325 [.tmp 3] fun hcl hlt=>?_
 exact Y44
def As:PCt
 |[.slice _ 8 l,.func (.func 57) [] [.ptr c 0]],H,K=>∃ (ts:List STable) (n:Int),(l=ts.map ax∧H.get c=some (.cells [.int .i64 n])∧ts.length≤1000000)∧K (.int .i64 (ixP (fun t:STable=>t.id==n) ts 0))
 |_,_,_=>False
theorem LK:EPp 56 As:=by
 refine Ype fun _ H K h=>?_
 unfold As at h
 split at h<;>try exact h.elim
 rename_i m l c
 obtain ⟨ts,n,⟨rfl,hg,hl⟩,hK⟩:=h
 refine ⟨_,hK,?_⟩
 clear hK
 generalize hR:ixP (fun t:STable=>t.id==n) ts 0=R
 refine Yfv aE (tCq Mb tNq) Tryz.func56 [.tmp 4] fun hcl hlt=>?_
 have hm:AV.lt H.nx (.slice m 8 (ts.map ax)):=hlt _ (by simp)
 have hf:AV.lt H.nx (.func (.func 57) [] [.ptr c 0]):=hlt _ (by simp)
 clear hlt
 simp only [go_sem,ybb]
 refine aC (A:=Nat) (fun k=>[(0,.slice m 8 (ts.map ax)),(1,.func (.func 57) [] [.ptr c 0]),(7,.int .i64 (ts.length:Int)),(8,.int .i64 (k:Int))]) (fun _=>H) (fun k=>k≤ts.length∧ixP (fun t:STable=>t.id==n) (ts.drop k) k=R) (fun k=>ts.length - k) 0 ⟨by omega,hR⟩ ?_ fun k hk=>?_
 ·refine ⟨nrq _,lRq _,hcl,?_,?_⟩
  ·simp [ltF,znf,hm,hf]
  ·exact Y13
 clear hR
 obtain ⟨hk,hR⟩:=hk
 refine Tq15 ?_
 refine au (fun hc=>?_) (fun hc=>?_)
 ·have hk':k<ts.length:=sHc
  obtain ⟨x,hx⟩:∃ x,x=ts[k]:=⟨_,rfl⟩
  have hd:ts.drop k=x::ts.drop (k+1):=by rw [hx];exact dcq hk'
  have hg':=aV (f:=ax) (l:=ts) (k:=k) (x:=x) (by rw [gQq hk',hx])
  have e5:=Yk5 k
  have hcell:(ax x).cells.length=8:=rfl
  rw [hd] at hR
  unfold ixP at hR
  have hag:∃ cs,ax x=.agg cs∧cs.length=8:=⟨_,rfl,rfl⟩
  obtain ⟨cs,hcs,hcl3⟩:=hag
  have hts:List.take 8 cs=cs:=ybc (by omega)
  simp only [go_sem,iNq,ybb,hg',hcs,hcl3,hts,BK]
  refine Tq3 ?_
  refine ⟨x,n,⟨hcs.symm,hg⟩,?_⟩
  try simp only [aD,go_sem]
  refine Tq3 ?_
  refine au (fun hq=>?_) (fun hq=>?_)
  ·rw [if_pos hq] at hR
   subst hR
   exact Y32
  ·rw [if_neg (by rw [hq];decide)] at hR
   simp only [go_sem,e5]
   refine ⟨k+1,⟨by omega,hR⟩,by omega,nrq _,lRq _,hcl,?_,?_⟩
   ·simp [ltF,znf,hm,hf]
   ·exact Y13
 ·exact Y19
def BB:PCt
 |[.slice _ 3 l,.func (.func 325) [] [.ptr c 0]],H,K=>∃ (ts:List SField) (n:Int),(l=ts.map aG∧H.get c=some (.cells [.int .i64 n])∧ts.length≤1000000)∧K (.int .i64 (ixP (fun t:SField=>t.id==n) ts 0))
 |_,_,_=>False
theorem MP:EPp 318 BB:=by
 refine Ype fun _ H K h=>?_
 unfold BB at h
 split at h<;>try exact h.elim
 rename_i m l c
 obtain ⟨ts,n,⟨rfl,hg,hl⟩,hK⟩:=h
 refine ⟨_,hK,?_⟩
 clear hK
 generalize hR:ixP (fun t:SField=>t.id==n) ts 0=R
 refine Yfv aE (tCq OX tNq) Tryz.func318 [.tmp 4] fun hcl hlt=>?_
 have hm:AV.lt H.nx (.slice m 3 (ts.map aG)):=hlt _ (by simp)
 have hf:AV.lt H.nx (.func (.func 325) [] [.ptr c 0]):=hlt _ (by simp)
 clear hlt
 simp only [go_sem,ybb]
 refine aC (A:=Nat) (fun k=>[(0,.slice m 3 (ts.map aG)),(1,.func (.func 325) [] [.ptr c 0]),(7,.int .i64 (ts.length:Int)),(8,.int .i64 (k:Int))]) (fun _=>H) (fun k=>k≤ts.length∧ixP (fun t:SField=>t.id==n) (ts.drop k) k=R) (fun k=>ts.length - k) 0 ⟨by omega,hR⟩ ?_ fun k hk=>?_
 ·refine ⟨nrq _,lRq _,hcl,?_,?_⟩
  ·simp [ltF,znf,hm,hf]
  ·exact Y13
 clear hR
 obtain ⟨hk,hR⟩:=hk
 refine Tq15 ?_
 refine au (fun hc=>?_) (fun hc=>?_)
 ·have hk':k<ts.length:=sHc
  obtain ⟨x,hx⟩:∃ x,x=ts[k]:=⟨_,rfl⟩
  have hd:ts.drop k=x::ts.drop (k+1):=by rw [hx];exact dcq hk'
  have hg':=aV (f:=aG) (l:=ts) (k:=k) (x:=x) (by rw [gQq hk',hx])
  have e5:=Yk5 k
  have hcell:(aG x).cells.length=3:=rfl
  rw [hd] at hR
  unfold ixP at hR
  have hag:∃ cs,aG x=.agg cs∧cs.length=3:=⟨_,rfl,rfl⟩
  obtain ⟨cs,hcs,hcl3⟩:=hag
  have hts:List.take 3 cs=cs:=ybc (by omega)
  simp only [go_sem,iNq,ybb,hg',hcs,hcl3,hts,AX]
  refine Tq3 ?_
  refine ⟨x,n,⟨hcs.symm,hg⟩,?_⟩
  try simp only [aD,go_sem]
  refine Tq3 ?_
  refine au (fun hq=>?_) (fun hq=>?_)
  ·rw [if_pos hq] at hR
   subst hR
   exact Y32
  ·rw [if_neg (by rw [hq];decide)] at hR
   simp only [go_sem,e5]
   refine ⟨k+1,⟨by omega,hR⟩,by omega,nrq _,lRq _,hcl,?_,?_⟩
   ·simp [ltF,znf,hm,hf]
   ·exact Y13
 ·exact Y19
def d9:PCt
 |[.agg l,.int .i64 n],_,K=>∃ S:Sch,(l=aR S∧S.tables.length≤1000000)∧K (.int .i64 (ixP (fun t:STable=>t.id==n) S.tables 0))
 |_,_,_=>False
theorem gO:EPp 19 d9:=by
 refine Ype fun _ H K h=>?_
 unfold d9 at h
 split at h<;>try exact h.elim
 rename_i l n
 obtain ⟨S,⟨rfl,hl⟩,hK⟩:=h
 refine ⟨_,hK,?_⟩
 clear hK
 refine Yfu aE (tCq LK tNq) Tryz.func19 [.tmp 4] fun hcl=>?_
 simp only [go_sem,aR,As]
 refine Tq3 ?_
 refine ⟨S.tables,n,⟨rfl,by simp only [go_sem],hl⟩,?_⟩
 exact Y37
def nK:PCt
 |[.agg l,.int .i64 n],_,K=>∃ S:Sch,(l=aR S∧S.fields.length≤1000000)∧K (.int .i64 (ixP (fun t:SField=>t.id==n) S.fields 0))
 |_,_,_=>False
theorem sQ:EPp 262 nK:=by
 refine Ype fun _ H K h=>?_
 unfold nK at h
 split at h<;>try exact h.elim
 rename_i l n
 obtain ⟨S,⟨rfl,hl⟩,hK⟩:=h
 refine ⟨_,hK,?_⟩
 clear hK
 refine Yfu aE (tCq MP tNq) Tryz.func262 [.tmp 4] fun hcl=>?_
 simp only [go_sem,aR,BB]
 refine Tq3 ?_
 refine ⟨S.fields,n,⟨rfl,by simp only [go_sem],hl⟩,?_⟩
 exact Y37
theorem ID {fs:List SField} {id:Int}:CR fs id=match fs.find? (fun f=>f.id==id) with|some f=>f.bits|none=>0:=by
 induction fs with
 |nil=>rfl
 |cons f fs ih =>
  unfold CR
  by_cases h:f.id=id
  ·rw [if_pos h,List.find?_cons_of_pos (by simp [h])]
  ·rw [if_neg h,List.find?_cons_of_neg (by simp [h])];exact ih
end Go.AL
