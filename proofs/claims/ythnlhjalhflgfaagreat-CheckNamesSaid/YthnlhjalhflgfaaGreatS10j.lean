/- Lemmas of the proof; no condition. -/
import Derived.Test.YthnlhjalhflgfaaGreatCG
import Derived.Test.YthnlhjalhflgfaaGreatS10z
import Derived.Test.YthnlhjalhflgfaaGreatLEntB
import Derived.Test.YthnlhjalhflgfaaGreatS10i
set_option linter.all false
set_option maxRecDepth 10000
open List renaming length_cons → yaz, length_nil → yba, take_of_length_le → ybc, drop_append → ybd, take_append → ybe, drop_eq_nil_of_le → ybf, length_map → ybb
open Go Go.AL Go.Proofs
namespace Go.AL
def p2V (f:Nat→Nat→AV):List AV→AHeap→(AV→Prop)→Prop
 |[.agg [.int .u64 a,.int .u64 b],.agg [.int .u64 c,.int .u64 d]],_,K=>(isV a b∧isV c d)∧K (f (vOf a.toNat b.toNat) (vOf c.toNat d.toNat))
 |_,_,_=>False
def l5:=p2V fun x y=>vv (x &&& y)
theorem IL:EntOk Tryz.prog 276 (Ent.pure l5):=by
 unfold l5
 refine Ype fun _ H K h=>?_
 unfold p2V at h
 split at h
 rotate_left
 ·exact h.elim
 rename_i a b c d
 obtain ⟨⟨⟨h0,h1,h2,h3⟩,k0,k1,k2,k3⟩,hK⟩:=h
 refine ⟨_,hK,?_⟩
 obtain ⟨x,rfl⟩:=eQ h0
 obtain ⟨y,rfl⟩:=eQ h2
 obtain ⟨z,rfl⟩:=eQ k0
 obtain ⟨w,rfl⟩:=eQ k2
 clear hK h0 h2 k0 k2
 simp only [iNq]
 have hx:x<2^64:=by omega
 have hy:y<2^64:=by omega
 have hz:z<2^64:=by omega
 have hw:w<2^64:=by omega
 rw [Kz x y z w hy hw,x5 (Nat.and_lt_two_pow _ hw)]
 refine ACalls.fW ap tNq Tryz.func276 [.cell 4 106] (nrq _) (T:=aj []) (h:=fun hcl hlt=>?_)
 clear hlt
 simp only [go_sem,zav,byq,v7 x z hx hz,v7 y w hy hw]
 exact Z1
theorem ll {a b c d:Int}:teq Tryz.prog 9 106 (.agg [.int .u64 a,.int .u64 b]) (.agg [.int .u64 c,.int .u64 d])=some ((a==c)&&((b==d)&&true)):=by
 have g2:Tryz.prog.stoodInHeld 106=false:=by kernel_rfl
 simp [m9,teq,teq.go,teq.part,qH,ceq,g2,TD.agg]
theorem kY:Tryz.prog.eqGuardType Tryz.prog.depth 106=false:=by kernel_rfl
def ek:List AV→AHeap→(AV→Prop)→Prop
 |[.agg [.int .u64 a,.int .u64 b],.int .i64 n],_,K=>isV a b∧K (.bool (decide (((bl (vOf a.toNat b.toNat):Nat):Int)≤n)))
 |_,_,_=>False
theorem sP:EntOk Tryz.prog 275 (Ent.pure ek):=by
 refine Ype fun _ H K h=>?_
 unfold ek at h
 split at h
 rotate_left
 ·exact h.elim
 rename_i a b n
 obtain ⟨hv,hK⟩:=h
 refine ⟨_,hK,?_⟩
 clear hK
 refine ACalls.fW ap (tCq vZ tNq) Tryz.func275 [.tmp 4] (nrq _) (T:=aj []) (h:=fun hcl hlt=>?_)
 clear hlt
 unfold isV at hv
 simp only [go_sem,qF]
 refine ⟨hv,?_⟩
 exact Z1
def ixP {α:Type} (q:α→Bool):List α→Nat→Int
 |[],_ => -1
 |x::xs,k=>if q x=true then (k:Int) else ixP q xs (k+1)
theorem yQ {α:Type} {q:α→Bool}:∀ {l:List α} {k:Nat},ixP q l k<(k:Int)+l.length∧(ixP q l k = -1∨(k:Int)≤ixP q l k)
 |[],k=>by simp [ixP];omega
 |x::l,k=>by
  unfold ixP
  split
  ·simp;omega
  ·have:=yQ (q:=q) (l:=l) (k:=k+1)
   simp only [yaz]
   omega
theorem zw {α:Type} {q:α→Bool}:∀ {l:List α} {k i:Nat},ixP q l k=((k+i:Nat):Int)→∃ x,l[i]?=some x∧q x=true∧l.find? q=some x
 |[],k,i,h=>by simp [ixP] at h;omega
 |x::l,k,i,h=>by
  unfold ixP at h
  split at h
  ·rename_i hq
   have:i=0:=by omega
   subst this
   exact ⟨x,rfl,hq,by simp [hq]⟩
  ·rename_i hq
   have hi:=(yQ (q:=q) (l:=l) (k:=k+1)).2
   obtain ⟨j,rfl⟩:∃ j,i=j+1:=⟨i - 1,by omega⟩
   obtain ⟨y,h1,h2,h3⟩:=zw (l:=l) (k:=k+1) (i:=j) (by rw [h];congr 1;omega)
   exact ⟨y,by simpa using h1,h2,by rw [List.find?_cons_of_neg hq];exact h3⟩
theorem vL {α:Type} {q:α→Bool}:∀ {l:List α} {k:Nat},ixP q l k = -1→l.find? q=none
 |[],k,h=>rfl
 |x::l,k,h=>by
  unfold ixP at h
  split at h
  ·omega
  ·rename_i hq
   rw [List.find?_cons_of_neg hq]
   exact vL h
def yW:List AV→AHeap→(AV→Prop)→Prop
 |[x,.ptr c 0],H,K=>∃ t n,(x=aC t∧H.get c=some (.cells [.int .i64 n]))∧K (.bool (t.id==n))
 |_,_,_=>False
theorem Jr:EntOk Tryz.prog 57 (Ent.pure yW):=by
 refine Ype fun _ H K h=>?_
 unfold yW at h
 split at h
 rotate_left
 ·exact h.elim
 rename_i x c
 obtain ⟨t,n,⟨rfl,hg⟩,hK⟩:=h
 refine ⟨_,hK,?_⟩
 clear hK
 unfold aC
 refine ACalls.fW ap tNq Tryz.func57 [.tmp 3] (nrq _) (T:=aj []) (h:=fun hcl hlt=>?_)
 clear hlt
 have hcs:=ag hg
 have hl:=glq hg
 have hne:(c=H.nx)=False:=eq_false (by omega)
 simp only [go_sem,hcs,hne]
 (repeat with_reducible refine Yq ?_)
 exact Z1
def xy:List AV→AHeap→(AV→Prop)→Prop
 |[x,.ptr c 0],H,K=>∃ t n,(x=aX t∧H.get c=some (.cells [.int .i64 n]))∧K (.bool (t.id==n))
 |_,_,_=>False
theorem JB:EntOk Tryz.prog 325 (Ent.pure xy):=by
 refine Ype fun _ H K h=>?_
 unfold xy at h
 split at h
 rotate_left
 ·exact h.elim
 rename_i x c
 obtain ⟨t,n,⟨rfl,hg⟩,hK⟩:=h
 refine ⟨_,hK,?_⟩
 clear hK
 unfold aX
 refine ACalls.fW ap tNq Tryz.func325 [.tmp 3] (nrq _) (T:=aj []) (h:=fun hcl hlt=>?_)
 clear hlt
 have hcs:=ag hg
 have hl:=glq hg
 have hne:(c=H.nx)=False:=eq_false (by omega)
 simp only [go_sem,hcs,hne]
 (repeat with_reducible refine Yq ?_)
 exact Z1
def xx:List AV→AHeap→(AV→Prop)→Prop
 |[.slice _ 8 l,.func (.func 57) [] [.ptr c 0]],H,K=>∃ (ts:List STable) (n:Int),(l=ts.map aC∧H.get c=some (.cells [.int .i64 n])∧ts.length≤1000000)∧K (.int .i64 (ixP (fun t:STable=>t.id==n) ts 0))
 |_,_,_=>False
theorem IQ:EntOk Tryz.prog 56 (Ent.pure xx):=by
 refine Ype fun _ H K h=>?_
 unfold xx at h
 split at h
 rotate_left
 ·exact h.elim
 rename_i m l c
 obtain ⟨ts,n,⟨rfl,hg,hl⟩,hK⟩:=h
 refine ⟨_,hK,?_⟩
 clear hK
 generalize hR:ixP (fun t:STable=>t.id==n) ts 0=R
 refine ACalls.fW ap (tCq Jr tNq) Tryz.func56 [.tmp 4] (nrq _) (T:=aj []) (h:=fun hcl hlt=>?_)
 have hm:AV.lt H.nx (.slice m 8 (ts.map aC)):=hlt _ (by simp)
 have hf:AV.lt H.nx (.func (.func 57) [] [.ptr c 0]):=hlt _ (by simp)
 clear hlt
 simp only [go_sem,ybb]
 refine aD (A:=Nat) (fun k=>[(0,.slice m 8 (ts.map aC)),(1,.func (.func 57) [] [.ptr c 0]),(7,.int .i64 (ts.length:Int)),(8,.int .i64 (k:Int))]) (fun _=>H) (fun k=>k≤ts.length∧ixP (fun t:STable=>t.id==n) (ts.drop k) k=R) (fun k=>ts.length - k) 0 ⟨by omega,hR⟩ ?_ fun k hk=>?_
 ·refine ⟨nrq _,lRq _,hcl,?_,?_⟩
  ·simp [ltF,znf,hm,hf]
  ·simp [bk,wk2,wk1,wkM,Fr.get]
 clear hR
 obtain ⟨hk,hR⟩:=hk
 simp only [go_sem]
 refine ak (fun hc=>?_) (fun hc=>?_)
 ·have hk':k<ts.length:=by simp at hc;omega
  obtain ⟨x,hx⟩:∃ x,x=ts[k]:=⟨_,rfl⟩
  have hd:ts.drop k=x::ts.drop (k+1):=by rw [hx];exact dcq hk'
  have hg':=a0 (f:=aC) (l:=ts) (k:=k) (x:=x) (by rw [gQq hk',hx])
  have e5:=Yk5 k
  have hcell:(aC x).cells.length=8:=rfl
  rw [hd] at hR
  unfold ixP at hR
  have hag:∃ cs,aC x=.agg cs∧cs.length=8:=⟨_,rfl,rfl⟩
  obtain ⟨cs,hcs,hcl3⟩:=hag
  have hts:List.take 8 cs=cs:=ybc (by omega)
  simp only [go_sem,iNq,ybb,hg',hcs,hcl3,hts,yW]
  (repeat with_reducible refine Yq ?_)
  refine ⟨x,n,⟨hcs.symm,hg⟩,?_⟩
  try simp only [ah,go_sem]
  (repeat with_reducible refine Yq ?_)
  refine ak (fun hq=>?_) (fun hq=>?_)
  ·rw [if_pos hq] at hR
   subst hR
   simp only [go_sem]
   exact Z1
  ·rw [if_neg (by rw [hq];decide)] at hR
   simp only [go_sem,e5]
   refine ⟨k+1,⟨by omega,hR⟩,by omega,nrq _,lRq _,hcl,?_,?_⟩
   ·simp [ltF,znf,hm,hf]
   ·simp [bk,wk2,wk1,wkM,Fr.get]
 ·have hk':k=ts.length:=by simp at hc;omega
  subst hk'
  rw [List.drop_length] at hR
  unfold ixP at hR
  subst hR
  simp only [go_sem]
  exact Z1
def xU:List AV→AHeap→(AV→Prop)→Prop
 |[.slice _ 3 l,.func (.func 325) [] [.ptr c 0]],H,K=>∃ (ts:List SField) (n:Int),(l=ts.map aX∧H.get c=some (.cells [.int .i64 n])∧ts.length≤1000000)∧K (.int .i64 (ixP (fun t:SField=>t.id==n) ts 0))
 |_,_,_=>False
theorem Lt:EntOk Tryz.prog 318 (Ent.pure xU):=by
 refine Ype fun _ H K h=>?_
 unfold xU at h
 split at h
 rotate_left
 ·exact h.elim
 rename_i m l c
 obtain ⟨ts,n,⟨rfl,hg,hl⟩,hK⟩:=h
 refine ⟨_,hK,?_⟩
 clear hK
 generalize hR:ixP (fun t:SField=>t.id==n) ts 0=R
 refine ACalls.fW ap (tCq JB tNq) Tryz.func318 [.tmp 4] (nrq _) (T:=aj []) (h:=fun hcl hlt=>?_)
 have hm:AV.lt H.nx (.slice m 3 (ts.map aX)):=hlt _ (by simp)
 have hf:AV.lt H.nx (.func (.func 325) [] [.ptr c 0]):=hlt _ (by simp)
 clear hlt
 simp only [go_sem,ybb]
 refine aD (A:=Nat) (fun k=>[(0,.slice m 3 (ts.map aX)),(1,.func (.func 325) [] [.ptr c 0]),(7,.int .i64 (ts.length:Int)),(8,.int .i64 (k:Int))]) (fun _=>H) (fun k=>k≤ts.length∧ixP (fun t:SField=>t.id==n) (ts.drop k) k=R) (fun k=>ts.length - k) 0 ⟨by omega,hR⟩ ?_ fun k hk=>?_
 ·refine ⟨nrq _,lRq _,hcl,?_,?_⟩
  ·simp [ltF,znf,hm,hf]
  ·simp [bk,wk2,wk1,wkM,Fr.get]
 clear hR
 obtain ⟨hk,hR⟩:=hk
 simp only [go_sem]
 refine ak (fun hc=>?_) (fun hc=>?_)
 ·have hk':k<ts.length:=by simp at hc;omega
  obtain ⟨x,hx⟩:∃ x,x=ts[k]:=⟨_,rfl⟩
  have hd:ts.drop k=x::ts.drop (k+1):=by rw [hx];exact dcq hk'
  have hg':=a0 (f:=aX) (l:=ts) (k:=k) (x:=x) (by rw [gQq hk',hx])
  have e5:=Yk5 k
  have hcell:(aX x).cells.length=3:=rfl
  rw [hd] at hR
  unfold ixP at hR
  have hag:∃ cs,aX x=.agg cs∧cs.length=3:=⟨_,rfl,rfl⟩
  obtain ⟨cs,hcs,hcl3⟩:=hag
  have hts:List.take 3 cs=cs:=ybc (by omega)
  simp only [go_sem,iNq,ybb,hg',hcs,hcl3,hts,xy]
  (repeat with_reducible refine Yq ?_)
  refine ⟨x,n,⟨hcs.symm,hg⟩,?_⟩
  try simp only [ah,go_sem]
  (repeat with_reducible refine Yq ?_)
  refine ak (fun hq=>?_) (fun hq=>?_)
  ·rw [if_pos hq] at hR
   subst hR
   simp only [go_sem]
   exact Z1
  ·rw [if_neg (by rw [hq];decide)] at hR
   simp only [go_sem,e5]
   refine ⟨k+1,⟨by omega,hR⟩,by omega,nrq _,lRq _,hcl,?_,?_⟩
   ·simp [ltF,znf,hm,hf]
   ·simp [bk,wk2,wk1,wkM,Fr.get]
 ·have hk':k=ts.length:=by simp at hc;omega
  subst hk'
  rw [List.drop_length] at hR
  unfold ixP at hR
  subst hR
  simp only [go_sem]
  exact Z1
def da:List AV→AHeap→(AV→Prop)→Prop
 |[.agg l,.int .i64 n],_,K=>∃ S:Sch,(l=aS S∧S.tables.length≤1000000)∧K (.int .i64 (ixP (fun t:STable=>t.id==n) S.tables 0))
 |_,_,_=>False
theorem fK:EntOk Tryz.prog 19 (Ent.pure da):=by
 refine Ype fun _ H K h=>?_
 unfold da at h
 split at h
 rotate_left
 ·exact h.elim
 rename_i l n
 obtain ⟨S,⟨rfl,hl⟩,hK⟩:=h
 refine ⟨_,hK,?_⟩
 clear hK
 refine ACalls.fW ap (tCq IQ tNq) Tryz.func19 [.tmp 4] (nrq _) (T:=aj []) (h:=fun hcl hlt=>?_)
 clear hlt
 simp only [go_sem,aS,xx]
 (repeat with_reducible refine Yq ?_)
 refine ⟨S.tables,n,⟨rfl,by simp only [go_sem],hl⟩,?_⟩
 try simp only [ah,go_sem]
 exact Z1
def lq:List AV→AHeap→(AV→Prop)→Prop
 |[.agg l,.int .i64 n],_,K=>∃ S:Sch,(l=aS S∧S.fields.length≤1000000)∧K (.int .i64 (ixP (fun t:SField=>t.id==n) S.fields 0))
 |_,_,_=>False
theorem qu:EntOk Tryz.prog 262 (Ent.pure lq):=by
 refine Ype fun _ H K h=>?_
 unfold lq at h
 split at h
 rotate_left
 ·exact h.elim
 rename_i l n
 obtain ⟨S,⟨rfl,hl⟩,hK⟩:=h
 refine ⟨_,hK,?_⟩
 clear hK
 refine ACalls.fW ap (tCq Lt tNq) Tryz.func262 [.tmp 4] (nrq _) (T:=aj []) (h:=fun hcl hlt=>?_)
 clear hlt
 simp only [go_sem,aS,xU]
 (repeat with_reducible refine Yq ?_)
 refine ⟨S.fields,n,⟨rfl,by simp only [go_sem],hl⟩,?_⟩
 try simp only [ah,go_sem]
 exact Z1
end Go.AL
