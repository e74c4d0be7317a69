/- Lemmas of the proof; no condition. -/
import Derived.Test.YtjffcopmhkcejaaGreatCG
import Derived.Test.YtjffcopmhkcejaaGreatS10z
import Derived.Test.YtjffcopmhkcejaaGreatLEntB
import Derived.Test.YtjffcopmhkcejaaGreatS10i
set_option linter.all false
set_option maxRecDepth 10000
open Go Go.AL Go.Proofs
namespace Go.AL
def p2V(f:Nat→Nat→AV):PCt
 |[.agg [.int .u64 a,.int .u64 b],.agg [.int .u64 c,.int .u64 d]],_,K=>(isV a b∧isV c d)∧K (f (vOf a.toNat b.toNat) (vOf c.toNat d.toNat))
 |_,_,_=>False
def qo:=p2V fun x y=>vv (x&&&y)
def OP:EPp 268 qo:=by
 unfold qo
 refine Ype fun _ H K h=>?_
 unfold p2V at h
 split at h<;>try exact h.elim
 rename_i a b c d
 obtain⟨⟨⟨h0,h1,h2,h3⟩,k0,k1,k2,k3⟩,hK⟩:=h
 refine⟨_,hK,?_⟩
 obtain⟨x,rfl⟩:=ey h0
 obtain⟨y,rfl⟩:=ey h2
 obtain⟨z,rfl⟩:=ey k0
 obtain⟨w,rfl⟩:=ey k2
 clear hK h0 h2 k0 k2
 simp only[iNq]
 have hx:x<2^64:=Xa
 have hy:y<2^64:=Xa
 have hz:z<2^64:=Xa
 have hw:w<2^64:=Xa
 rw[NZ x y z w hy hw,Co (Nat.and_lt_two_pow _ hw)]
 refine Yfu aD tNq Tryz.func268 [.cell 4 94] fun hcl=>?_
 simp only[go_sem,zav,byq,wT x z hx hz,wT y w hy hw]
 exact Z1
def jx{a b c d:Int}:teq Tryz.prog 9 94 (.agg [.int .u64 a,.int .u64 b]) (.agg [.int .u64 c,.int .u64 d])=some ((a==c)&&((b==d)&&true)):=by
 have g2:Tryz.prog.stoodInHeld 94=false:=krf
 simp[rc,teq,teq.go,teq.part,uX,ceq,g2,TD.agg]
theorem jB:Tryz.prog.eqGuardType Tryz.prog.depth 94=false:=krf
def gQ:PCt
 |[.agg [.int .u64 a,.int .u64 b],.int .i64 n],_,K=>isV a b∧K (.bool (decide (((bl (vOf a.toNat b.toNat):Nat):Int)≤n)))
 |_,_,_=>False
def vU:EPp 267 gQ:=by
 refine Ype fun _ H K h=>?_
 unfold gQ at h
 split at h<;>try exact h.elim
 rename_i a b n
 obtain⟨hv,hK⟩:=h
 refine⟨_,hK,?_⟩
 clear hK
 refine Yfu aD (tCq AM tNq) Tryz.func267 [.tmp 4] fun hcl=>?_
 unfold isV at hv
 simp only[go_sem,u7]
 refine⟨hv,?_⟩
 exact Z1
def uL(g f:Nat→Bool)(i:Nat):Wz:=bfn fun j=>if j<i then g j else f j
def FI{g f:Nat→Bool}:uL g f 0=bfn f:=xS fun j _=>Xc
def HF{g f:Nat→Bool}:uL g f 128=bfn g:=xS fun j hj=>by simp[hj]
def Bn{g f:Nat→Bool}{i:Nat}:(uL g f i).length=128:=PO _
def KB{g f:Nat→Bool}{i:Nat}(h:i<128):(uL g f i).getD i .junk=.bool (f i):=by unfold uL;rw[Pu _ _ h];simp
def KT{g f:Nat→Bool}{i:Nat}:(uL g f i).set i (.bool (g i))=uL g f (i+1):=PT fun j hj=>by
 by_cases e:j=i
 ·subst e;simp
 ·rw[if_neg e]
  by_cases h:j<i
  ·rw[if_pos h,if_pos (Xa)]
  ·rw[if_neg h,if_neg (Xa)]
def ip:=p2V fun x y=>vv (x&&&y)
set_option maxHeartbeats 2000000 in
theorem Oz:EPp 176 ip:=by
 unfold ip
 refine Ype fun _ H K h=>?_
 unfold p2V at h
 split at h<;>try exact h.elim
 rename_i a b c d
 obtain⟨⟨⟨h0,h1,h2,h3⟩,k0,k1,k2,k3⟩,hK⟩:=h
 refine⟨_,hK,?_⟩
 obtain⟨x,rfl⟩:=ey h0
 obtain⟨y,rfl⟩:=ey h2
 obtain⟨z,rfl⟩:=ey k0
 obtain⟨w,rfl⟩:=ey k2
 clear hK h0 h2 k0 k2
 simp only[iNq]
 have hv:=pE (hi:=x) (lo:=y) Xa Xa
 have hu:=pE (hi:=z) (lo:=w) Xa Xa
 refine Yfw aD (tCq vq (tCq Fl tNq)) Tryz.func176 [.cell 4 94] (nrq _) (T:=aC [(1,[[],[0],[],[0,1,2],[],[],[0,1,2,3,4,5],[0,1,2,3,4,5]]),(801,[[4,307],[5,307]])]) (h:=fun hcl=>?_)
 generalize hvo:vOf x y=v at *
 generalize huo:vOf z w=u at *
 have hs:v&&&u<2^128:=Nat.and_lt_two_pow _ hu
 have b3:=As hs
 have u3:=nZ hs
 have es:∀ t,splice (List.replicate 128 (.bool false)) 0 (bits t)=bits t:=fun t=>lY (y:=.junk) (gN t)
 simp only[go_sem,sF,isV,iNq,hvo,huo,gN,nR,es]
 refine Tq7 ?_
 refine jr (A:=Nat) (fun i=>[(12,.int .i64 (i:Int)),(6,.ptr (H.nx+1+1+1+1) 0),(5,.ptr (H.nx+1+1+1) 0),(4,.ptr (H.nx+1+1) 0)])
  (fun i=>((((H.push (.cells [.int .u64 (x:Int),.int .u64 (y:Int)])).push (.cells [.int .u64 (z:Int),.int .u64 (w:Int)])).push (.cells [.int .u64 0,.int .u64 0])).push (.cells (uL (v&&&u).testBit v.testBit i))).push (.cells (bits u))) (fun i=>i≤128) (fun i=>128-i) 0 Xa ?_ fun i hi=>?_
 ·simp only[bnq,enter,my,ltF,ne_eq,Nat.reduceEqDiff,reduceCtorEq,FI,← Ly,true_or,and_true]
  all_goals rfl
 refine Tq20 ?_
 refine ax (fun hc=>?_) (fun hc=>?_)
 ·have hi1:i<128:=sHc
  have e0:IntKind.i64.wrap ((i:Int)+1)=((i+1:Nat):Int):=Xe
  have g1:(uL (v&&&u).testBit v.testBit i).getD i .junk=.bool (v.testBit i):=KB hi1
  have g2:=qr u i hi1
  have st:(uL (v&&&u).testBit v.testBit i).set i (.bool ((v&&&u).testBit i))=uL (v&&&u).testBit v.testBit (i+1):=KT
  have bit:(v&&&u).testBit i=(v.testBit i&&u.testBit i):=Nat.testBit_and _ _ _
  rw[bit]at st
  generalize v.testBit i=b0 at *
  generalize u.testBit i=b1 at *
  cases b0
  ·simp only[Bool.false_and]at st
   exact Y90
  ·simp only[Bool.true_and]at st
   exact Y90
 ·have hi1:i=128:=sHc
  subst hi1
  have e:uL (v&&&u).testBit v.testBit 128=bits (v&&&u):=HF
  have et:List.take 128 (bits (v&&&u))=bits (v&&&u):=ybc (by rw[gN];omega)
  simp only[go_sem,w9,e,et,gN,nR,b3,u3,vv]
  refine Tq7 ?_
  exact Z1
def ixP{α:Type}(q:α→Bool):List α→Nat→Int
 |[],_ => -1
 |x::xs,k=>if q x=true then(k:Int)else ixP q xs (k+1)
theorem ra{α β:Type}{f:α→β}{q:β→Bool}:∀(l:List α)(k:Nat),ixP q (l.map f) k=ixP (fun x=>q (f x)) l k
 |[],_=>rfl
 |x::l,k=>by simp only[yae,ixP,ra l]
theorem Dn{α:Type}{q:α→Bool}:∀{l:List α}{k:Nat},ixP q l k<(k:Int)+l.length∧(ixP q l k = -1∨(k:Int)≤ixP q l k)
 |[],k=>by simp[ixP];omega
 |x::l,k=>by
  unfold ixP
  split
  ·simp;omega
  ·have:=Dn (q:=q) (l:=l) (k:=k+1)
   simp only[yaz]
   omega
theorem zx{α:Type}{q:α→Bool}:∀{l:List α}{k i:Nat},ixP q l k=((k+i:Nat):Int)→∃ x,l[i]?=some x∧q x=true∧l.find? q=some x
 |[],k,i,h=>by simp[ixP]at h;omega
 |x::l,k,i,h=>by
  unfold ixP at h
  split at h
  ·rename_i hq
   have:i=0:=Xa
   subst this
   exact⟨x,rfl,hq,by simp[hq]⟩
  ·rename_i hq
   have hi:=(Dn (q:=q) (l:=l) (k:=k+1)).2
   obtain⟨j,rfl⟩:∃ j,i=j+1:=⟨i-1,Xa⟩
   obtain⟨y,h1,h2,h3⟩:=zx (l:=l) (k:=k+1) (i:=j) (by rw[h];congr 1;omega)
   exact⟨y,by simpa using h1,h2,by rw[List.find?_cons_of_neg hq];exact h3⟩
theorem Bi{α:Type}{q:α→Bool}:∀{l:List α}{k:Nat},ixP q l k = -1→l.find? q=none
 |[],k,h=>rfl
 |x::l,k,h=>by
  unfold ixP at h
  split at h
  ·omega
  ·rename_i hq
   rw[List.find?_cons_of_neg hq]
   exact Bi h
def De:PCt
 |[x,.ptr c 0],H,K=>∃ t n,(x=au t∧H.get c=some (.cells [.int .i64 n]))∧K (.bool (t.id==n))
 |_,_,_=>False
def N2:EPp 45 De:=by
 refine Ype fun _ H K h=>?_
 unfold De at h
 split at h<;>try exact h.elim
 rename_i x c
 obtain⟨t,n,⟨rfl,hg⟩,hK⟩:=h
 refine⟨_,hK,?_⟩
 clear hK
 unfold au
 refine Yfv aD tNq Tryz.func45 [.tmp 3] fun hcl hlt=>?_
 exact Y44
def BX:PCt
 |[x,.ptr c 0],H,K=>∃ t n,(x=aJ t∧H.get c=some (.cells [.int .i64 n]))∧K (.bool (t.id==n))
 |_,_,_=>False
def Nr:EPp 317 BX:=by
 refine Ype fun _ H K h=>?_
 unfold BX at h
 split at h<;>try exact h.elim
 rename_i x c
 obtain⟨t,n,⟨rfl,hg⟩,hK⟩:=h
 refine⟨_,hK,?_⟩
 clear hK
 unfold aJ
 refine Yfv aD tNq Tryz.func317 [.tmp 3] fun hcl hlt=>?_
 exact Y44
def B3:PCt
 |[.slice _ 8 l,.func (.func 45) [] [.ptr c 0]],H,K=>∃ (ts:List STable) (n:Int),(l=ts.map au∧H.get c=some (.cells [.int .i64 n])∧ts.length≤1000000)∧K (.int .i64 (ixP (fun t:STable=>t.id==n) ts 0))
 |_,_,_=>False
def QV:EPp 44 B3:=by
 refine Ype fun _ H K h=>?_
 unfold B3 at h
 split at h<;>try exact h.elim
 rename_i m l c
 obtain⟨ts,n,⟨rfl,hg,hl⟩,hK⟩:=h
 refine⟨_,hK,?_⟩
 clear hK
 generalize hR:ixP (fun t:STable=>t.id==n) ts 0=R
 refine Yfv aD (tCq N2 tNq) Tryz.func44 [.tmp 4] fun hcl hlt=>?_
 have hm:AV.lt H.nx (.slice m 8 (ts.map au)):=hlt _ Xc
 have hf:AV.lt H.nx (.func (.func 45) [] [.ptr c 0]):=hlt _ Xc
 clear hlt
 simp only[go_sem,ybb]
 refine aG (A:=Nat) (fun k=>[(0,.slice m 8 (ts.map au)),(1,.func (.func 45) [] [.ptr c 0]),(7,.int .i64 (ts.length:Int)),(8,.int .i64 (k:Int))]) (fun _=>H) (fun k=>k≤ts.length∧ixP (fun t:STable=>t.id==n) (ts.drop k) k=R) (fun k=>ts.length-k) 0 ⟨Xa,hR⟩ ?_ fun k hk=>?_
 ·refine⟨nrq _,lRq _,hcl,?_,?_⟩
  ·simp[ltF,znd,hm,hf]
  ·exact Y14
 clear hR
 obtain⟨hk,hR⟩:=hk
 refine Tq20 ?_
 refine ax (fun hc=>?_) (fun hc=>?_)
 ·have hk':k<ts.length:=sHc
  obtain⟨x,hx⟩:∃ x,x=ts[k]:=⟨_,rfl⟩
  have hd:ts.drop k=x::ts.drop (k+1):=by rw[hx];exact dcq hk'
  have hg':=a9 (f:=au) (l:=ts) (k:=k) (x:=x) (by rw[gQq hk',hx])
  have e5:=Yk5 k
  have hcell:(au x).cells.length=8:=rfl
  rw[hd]at hR
  unfold ixP at hR
  have hag:∃ cs,au x=.agg cs∧cs.length=8:=⟨_,rfl,rfl⟩
  obtain⟨cs,hcs,hcl3⟩:=hag
  have hts:List.take 8 cs=cs:=ybc Xa
  simp only[go_sem,iNq,ybb,hg',hcs,hcl3,hts,De]
  refine Tq7 ?_
  refine⟨x,n,⟨hcs.symm,hg⟩,?_⟩
  try simp only[aA,go_sem]
  refine Tq7 ?_
  refine ax (fun hq=>?_) (fun hq=>?_)
  ·rw[if_pos hq]at hR
   subst hR
   exact Y32
  ·rw[if_neg (by rw[hq];decide)]at hR
   simp only[go_sem,e5]
   refine⟨k+1,⟨Xa,hR⟩,Xa,nrq _,lRq _,hcl,?_,?_⟩
   ·simp[ltF,znd,hm,hf]
   ·exact Y14
 ·exact Y19
def CY:PCt
 |[.slice _ 3 l,.func (.func 317) [] [.ptr c 0]],H,K=>∃ (ts:List SField) (n:Int),(l=ts.map aJ∧H.get c=some (.cells [.int .i64 n])∧ts.length≤1000000)∧K (.int .i64 (ixP (fun t:SField=>t.id==n) ts 0))
 |_,_,_=>False
def O9:EPp 309 CY:=by
 refine Ype fun _ H K h=>?_
 unfold CY at h
 split at h<;>try exact h.elim
 rename_i m l c
 obtain⟨ts,n,⟨rfl,hg,hl⟩,hK⟩:=h
 refine⟨_,hK,?_⟩
 clear hK
 generalize hR:ixP (fun t:SField=>t.id==n) ts 0=R
 refine Yfv aD (tCq Nr tNq) Tryz.func309 [.tmp 4] fun hcl hlt=>?_
 have hm:AV.lt H.nx (.slice m 3 (ts.map aJ)):=hlt _ Xc
 have hf:AV.lt H.nx (.func (.func 317) [] [.ptr c 0]):=hlt _ Xc
 clear hlt
 simp only[go_sem,ybb]
 refine aG (A:=Nat) (fun k=>[(0,.slice m 3 (ts.map aJ)),(1,.func (.func 317) [] [.ptr c 0]),(7,.int .i64 (ts.length:Int)),(8,.int .i64 (k:Int))]) (fun _=>H) (fun k=>k≤ts.length∧ixP (fun t:SField=>t.id==n) (ts.drop k) k=R) (fun k=>ts.length-k) 0 ⟨Xa,hR⟩ ?_ fun k hk=>?_
 ·refine⟨nrq _,lRq _,hcl,?_,?_⟩
  ·simp[ltF,znd,hm,hf]
  ·exact Y14
 clear hR
 obtain⟨hk,hR⟩:=hk
 refine Tq20 ?_
 refine ax (fun hc=>?_) (fun hc=>?_)
 ·have hk':k<ts.length:=sHc
  obtain⟨x,hx⟩:∃ x,x=ts[k]:=⟨_,rfl⟩
  have hd:ts.drop k=x::ts.drop (k+1):=by rw[hx];exact dcq hk'
  have hg':=a9 (f:=aJ) (l:=ts) (k:=k) (x:=x) (by rw[gQq hk',hx])
  have e5:=Yk5 k
  have hcell:(aJ x).cells.length=3:=rfl
  rw[hd]at hR
  unfold ixP at hR
  have hag:∃ cs,aJ x=.agg cs∧cs.length=3:=⟨_,rfl,rfl⟩
  obtain⟨cs,hcs,hcl3⟩:=hag
  have hts:List.take 3 cs=cs:=ybc Xa
  simp only[go_sem,iNq,ybb,hg',hcs,hcl3,hts,BX]
  refine Tq7 ?_
  refine⟨x,n,⟨hcs.symm,hg⟩,?_⟩
  try simp only[aA,go_sem]
  refine Tq7 ?_
  refine ax (fun hq=>?_) (fun hq=>?_)
  ·rw[if_pos hq]at hR
   subst hR
   exact Y32
  ·rw[if_neg (by rw[hq];decide)]at hR
   simp only[go_sem,e5]
   refine⟨k+1,⟨Xa,hR⟩,Xa,nrq _,lRq _,hcl,?_,?_⟩
   ·simp[ltF,znd,hm,hf]
   ·exact Y14
 ·exact Y19
def fG:PCt
 |[.agg l,.int .i64 n],_,K=>∃ S:Sch,(l=aR S∧S.tables.length≤1000000)∧K (.int .i64 (ixP (fun t:STable=>t.id==n) S.tables 0))
 |_,_,_=>False
def jj:EPp 10 fG:=by
 refine Ype fun _ H K h=>?_
 unfold fG at h
 split at h<;>try exact h.elim
 rename_i l n
 obtain⟨S,⟨rfl,hl⟩,hK⟩:=h
 refine⟨_,hK,?_⟩
 clear hK
 refine Yfu aD (tCq QV tNq) Tryz.func10 [.tmp 4] fun hcl=>?_
 simp only[go_sem,aR,B3]
 refine Tq7 ?_
 refine⟨S.tables,n,⟨rfl,Xo,hl⟩,?_⟩
 exact Y37
def pi:PCt
 |[.agg l,.int .i64 n],_,K=>∃ S:Sch,(l=aR S∧S.fields.length≤1000000)∧K (.int .i64 (ixP (fun t:SField=>t.id==n) S.fields 0))
 |_,_,_=>False
def uz:EPp 253 pi:=by
 refine Ype fun _ H K h=>?_
 unfold pi at h
 split at h<;>try exact h.elim
 rename_i l n
 obtain⟨S,⟨rfl,hl⟩,hK⟩:=h
 refine⟨_,hK,?_⟩
 clear hK
 refine Yfu aD (tCq O9 tNq) Tryz.func253 [.tmp 4] fun hcl=>?_
 simp only[go_sem,aR,CY]
 refine Tq7 ?_
 refine⟨S.fields,n,⟨rfl,Xo,hl⟩,?_⟩
 exact Y37
def Li{fs:List SField}{id:Int}:D9 fs id=match fs.find? (fun f=>f.id==id)with|some f=>f.bits|none=>0:=by
 induction fs with
 |nil=>rfl
 |cons f fs ih =>
  unfold D9
  by_cases h:f.id=id
  ·rw[if_pos h,List.find?_cons_of_pos (by simp[h])]
  ·rw[if_neg h,List.find?_cons_of_neg (by simp[h])];exact ih
end Go.AL
