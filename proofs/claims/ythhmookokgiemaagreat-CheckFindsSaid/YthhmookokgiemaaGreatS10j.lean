/- Lemmas of the proof; no condition. -/
import Derived.Test.YthhmookokgiemaaGreatCG
import Derived.Test.YthhmookokgiemaaGreatS10z
import Derived.Test.YthhmookokgiemaaGreatLEntB
import Derived.Test.YthhmookokgiemaaGreatS10i
set_option linter.all false
set_option maxRecDepth 10000
open List renaming length_cons → yaz, length_nil → yba, take_of_length_le → ybc, drop_append → ybd, take_append → ybe, drop_eq_nil_of_le → ybf, length_map → ybb
open Go Go.AL Go.Proofs
namespace Go.AL
def p2V (f:Nat→Nat→AV):List AV→AHeap→(AV→Prop)→Prop
 |[.agg [.int .u64 a,.int .u64 b],.agg [.int .u64 c,.int .u64 d]],_,K=>(isV a b∧isV c d)∧K (f (vOf a.toNat b.toNat) (vOf c.toNat d.toNat))
 |_,_,_=>False
def lT:=p2V fun x y=>vv (x &&& y)
theorem It:EntOk Tryz.prog 291 (Ent.pure lT):=by
 unfold lT
 refine Ype fun _ H K h=>?_
 unfold p2V at h
 split at h
 rotate_left
 ·exact h.elim
 rename_i a b c d
 obtain ⟨⟨⟨h0,h1,h2,h3⟩,k0,k1,k2,k3⟩,hK⟩:=h
 refine ⟨_,hK,?_⟩
 obtain ⟨x,rfl⟩:=eK h0
 obtain ⟨y,rfl⟩:=eK h2
 obtain ⟨z,rfl⟩:=eK k0
 obtain ⟨w,rfl⟩:=eK k2
 clear hK h0 h2 k0 k2
 simp only [iNq]
 have hx:x<2^64:=by omega
 have hy:y<2^64:=by omega
 have hz:z<2^64:=by omega
 have hw:w<2^64:=by omega
 rw [Ia x y z w hy hw,y0 (Nat.and_lt_two_pow _ hw)]
 refine ACalls.fW ak tNq Tryz.func291 [.cell 4 119] (nrq _) (T:=ag []) (h:=fun hcl hlt=>?_)
 clear hlt
 simp only [go_sem,zav,byq,wx x z hx hz,wx y w hy hw]
 exact Z1
theorem kz {a b c d:Int}:teq Tryz.prog 9 119 (.agg [.int .u64 a,.int .u64 b]) (.agg [.int .u64 c,.int .u64 d])=some ((a==c)&&((b==d)&&true)):=by
 have g2:Tryz.prog.stoodInHeld 119=false:=by kernel_rfl
 simp [ma,teq,teq.go,teq.part,pL,ceq,g2,TD.agg]
theorem ki:Tryz.prog.eqGuardType Tryz.prog.depth 119=false:=by kernel_rfl
def eb:List AV→AHeap→(AV→Prop)→Prop
 |[.agg [.int .u64 a,.int .u64 b],.int .i64 n],_,K=>isV a b∧K (.bool (decide (((bl (vOf a.toNat b.toNat):Nat):Int)≤n)))
 |_,_,_=>False
theorem qs:EntOk Tryz.prog 290 (Ent.pure eb):=by
 refine Ype fun _ H K h=>?_
 unfold eb at h
 split at h
 rotate_left
 ·exact h.elim
 rename_i a b n
 obtain ⟨hv,hK⟩:=h
 refine ⟨_,hK,?_⟩
 clear hK
 refine ACalls.fW ak (tCq wA tNq) Tryz.func290 [.tmp 4] (nrq _) (T:=ag []) (h:=fun hcl hlt=>?_)
 clear hlt
 unfold isV at hv
 simp only [go_sem,pE]
 refine ⟨hv,?_⟩
 exact Z1
def ixP {α:Type} (q:α→Bool):List α→Nat→Int
 |[],_ => -1
 |x::xs,k=>if q x=true then (k:Int) else ixP q xs (k+1)
theorem zb {α:Type} {q:α→Bool}:∀ {l:List α} {k:Nat},ixP q l k<(k:Int)+l.length∧(ixP q l k = -1∨(k:Int)≤ixP q l k)
 |[],k=>by simp [ixP];omega
 |x::l,k=>by
  unfold ixP
  split
  ·simp;omega
  ·have:=zb (q:=q) (l:=l) (k:=k+1)
   simp only [yaz]
   omega
theorem zV {α:Type} {q:α→Bool}:∀ {l:List α} {k i:Nat},ixP q l k=((k+i:Nat):Int)→∃ x,l[i]?=some x∧q x=true∧l.find? q=some x
 |[],k,i,h=>by simp [ixP] at h;omega
 |x::l,k,i,h=>by
  unfold ixP at h
  split at h
  ·rename_i hq
   have:i=0:=by omega
   subst this
   exact ⟨x,rfl,hq,by simp [hq]⟩
  ·rename_i hq
   have hi:=(zb (q:=q) (l:=l) (k:=k+1)).2
   obtain ⟨j,rfl⟩:∃ j,i=j+1:=⟨i - 1,by omega⟩
   obtain ⟨y,h1,h2,h3⟩:=zV (l:=l) (k:=k+1) (i:=j) (by rw [h];congr 1;omega)
   exact ⟨y,by simpa using h1,h2,by rw [List.find?_cons_of_neg hq];exact h3⟩
theorem xH {α:Type} {q:α→Bool}:∀ {l:List α} {k:Nat},ixP q l k = -1→l.find? q=none
 |[],k,h=>rfl
 |x::l,k,h=>by
  unfold ixP at h
  split at h
  ·omega
  ·rename_i hq
   rw [List.find?_cons_of_neg hq]
   exact xH h
def zf:List AV→AHeap→(AV→Prop)→Prop
 |[x,.ptr c 0],H,K=>∃ t n,(x=aq t∧H.get c=some (.cells [.int .i64 n]))∧K (.bool (t.id==n))
 |_,_,_=>False
theorem I3:EntOk Tryz.prog 63 (Ent.pure zf):=by
 refine Ype fun _ H K h=>?_
 unfold zf at h
 split at h
 rotate_left
 ·exact h.elim
 rename_i x c
 obtain ⟨t,n,⟨rfl,hg⟩,hK⟩:=h
 refine ⟨_,hK,?_⟩
 clear hK
 unfold aq
 refine ACalls.fW ak tNq Tryz.func63 [.tmp 3] (nrq _) (T:=ag []) (h:=fun hcl hlt=>?_)
 clear hlt
 have hcs:=au hg
 have hl:=glq hg
 have hne:(c=H.nx)=False:=eq_false (by omega)
 simp only [go_sem,hcs,hne]
 (repeat with_reducible refine Yq ?_)
 exact Z1
def zc:List AV→AHeap→(AV→Prop)→Prop
 |[x,.ptr c 0],H,K=>∃ t n,(x=aI t∧H.get c=some (.cells [.int .i64 n]))∧K (.bool (t.id==n))
 |_,_,_=>False
theorem Ja:EntOk Tryz.prog 67 (Ent.pure zc):=by
 refine Ype fun _ H K h=>?_
 unfold zc at h
 split at h
 rotate_left
 ·exact h.elim
 rename_i x c
 obtain ⟨t,n,⟨rfl,hg⟩,hK⟩:=h
 refine ⟨_,hK,?_⟩
 clear hK
 unfold aI
 refine ACalls.fW ak tNq Tryz.func67 [.tmp 3] (nrq _) (T:=ag []) (h:=fun hcl hlt=>?_)
 clear hlt
 have hcs:=au hg
 have hl:=glq hg
 have hne:(c=H.nx)=False:=eq_false (by omega)
 simp only [go_sem,hcs,hne]
 (repeat with_reducible refine Yq ?_)
 exact Z1
def xP:List AV→AHeap→(AV→Prop)→Prop
 |[.slice _ 8 l,.func (.func 63) [] [.ptr c 0]],H,K=>∃ (ts:List STable) (n:Int),(l=ts.map aq∧H.get c=some (.cells [.int .i64 n])∧ts.length≤1000000)∧K (.int .i64 (ixP (fun t:STable=>t.id==n) ts 0))
 |_,_,_=>False
theorem Jn:EntOk Tryz.prog 62 (Ent.pure xP):=by
 refine Ype fun _ H K h=>?_
 unfold xP at h
 split at h
 rotate_left
 ·exact h.elim
 rename_i m l c
 obtain ⟨ts,n,⟨rfl,hg,hl⟩,hK⟩:=h
 refine ⟨_,hK,?_⟩
 clear hK
 generalize hR:ixP (fun t:STable=>t.id==n) ts 0=R
 refine ACalls.fW ak (tCq I3 tNq) Tryz.func62 [.tmp 4] (nrq _) (T:=ag []) (h:=fun hcl hlt=>?_)
 have hm:AV.lt H.nx (.slice m 8 (ts.map aq)):=hlt _ (by simp)
 have hf:AV.lt H.nx (.func (.func 63) [] [.ptr c 0]):=hlt _ (by simp)
 clear hlt
 simp only [go_sem,ybb]
 refine ay (A:=Nat) (fun k=>[(0,.slice m 8 (ts.map aq)),(1,.func (.func 63) [] [.ptr c 0]),(7,.int .i64 (ts.length:Int)),(8,.int .i64 (k:Int))]) (fun _=>H) (fun k=>k≤ts.length∧ixP (fun t:STable=>t.id==n) (ts.drop k) k=R) (fun k=>ts.length - k) 0 ⟨by omega,hR⟩ ?_ fun k hk=>?_
 ·refine ⟨nrq _,lRq _,hcl,?_,?_⟩
  ·simp [ltF,znf,hm,hf]
  ·simp [aS,wk2,wk1,wkM,Fr.get]
 clear hR
 obtain ⟨hk,hR⟩:=hk
 simp only [go_sem]
 refine ah (fun hc=>?_) (fun hc=>?_)
 ·have hk':k<ts.length:=by simp at hc;omega
  obtain ⟨x,hx⟩:∃ x,x=ts[k]:=⟨_,rfl⟩
  have hd:ts.drop k=x::ts.drop (k+1):=by rw [hx];exact dcq hk'
  have hg':=aO (f:=aq) (l:=ts) (k:=k) (x:=x) (by rw [gQq hk',hx])
  have e5:=Yk5 k
  have hcell:(aq x).cells.length=8:=rfl
  rw [hd] at hR
  unfold ixP at hR
  have hag:∃ cs,aq x=.agg cs∧cs.length=8:=⟨_,rfl,rfl⟩
  obtain ⟨cs,hcs,hcl3⟩:=hag
  have hts:List.take 8 cs=cs:=ybc (by omega)
  simp only [go_sem,iNq,ybb,hg',hcs,hcl3,hts,zf]
  (repeat with_reducible refine Yq ?_)
  refine ⟨x,n,⟨hcs.symm,hg⟩,?_⟩
  try simp only [aj,go_sem]
  (repeat with_reducible refine Yq ?_)
  refine ah (fun hq=>?_) (fun hq=>?_)
  ·rw [if_pos hq] at hR
   subst hR
   simp only [go_sem]
   exact Z1
  ·rw [if_neg (by rw [hq];decide)] at hR
   simp only [go_sem,e5]
   refine ⟨k+1,⟨by omega,hR⟩,by omega,nrq _,lRq _,hcl,?_,?_⟩
   ·simp [ltF,znf,hm,hf]
   ·simp [aS,wk2,wk1,wkM,Fr.get]
 ·have hk':k=ts.length:=by simp at hc;omega
  subst hk'
  rw [List.drop_length] at hR
  unfold ixP at hR
  subst hR
  simp only [go_sem]
  exact Z1
def yE:List AV→AHeap→(AV→Prop)→Prop
 |[.slice _ 3 l,.func (.func 67) [] [.ptr c 0]],H,K=>∃ (ts:List SField) (n:Int),(l=ts.map aI∧H.get c=some (.cells [.int .i64 n])∧ts.length≤1000000)∧K (.int .i64 (ixP (fun t:SField=>t.id==n) ts 0))
 |_,_,_=>False
theorem Hv:EntOk Tryz.prog 66 (Ent.pure yE):=by
 refine Ype fun _ H K h=>?_
 unfold yE at h
 split at h
 rotate_left
 ·exact h.elim
 rename_i m l c
 obtain ⟨ts,n,⟨rfl,hg,hl⟩,hK⟩:=h
 refine ⟨_,hK,?_⟩
 clear hK
 generalize hR:ixP (fun t:SField=>t.id==n) ts 0=R
 refine ACalls.fW ak (tCq Ja tNq) Tryz.func66 [.tmp 4] (nrq _) (T:=ag []) (h:=fun hcl hlt=>?_)
 have hm:AV.lt H.nx (.slice m 3 (ts.map aI)):=hlt _ (by simp)
 have hf:AV.lt H.nx (.func (.func 67) [] [.ptr c 0]):=hlt _ (by simp)
 clear hlt
 simp only [go_sem,ybb]
 refine ay (A:=Nat) (fun k=>[(0,.slice m 3 (ts.map aI)),(1,.func (.func 67) [] [.ptr c 0]),(7,.int .i64 (ts.length:Int)),(8,.int .i64 (k:Int))]) (fun _=>H) (fun k=>k≤ts.length∧ixP (fun t:SField=>t.id==n) (ts.drop k) k=R) (fun k=>ts.length - k) 0 ⟨by omega,hR⟩ ?_ fun k hk=>?_
 ·refine ⟨nrq _,lRq _,hcl,?_,?_⟩
  ·simp [ltF,znf,hm,hf]
  ·simp [aS,wk2,wk1,wkM,Fr.get]
 clear hR
 obtain ⟨hk,hR⟩:=hk
 simp only [go_sem]
 refine ah (fun hc=>?_) (fun hc=>?_)
 ·have hk':k<ts.length:=by simp at hc;omega
  obtain ⟨x,hx⟩:∃ x,x=ts[k]:=⟨_,rfl⟩
  have hd:ts.drop k=x::ts.drop (k+1):=by rw [hx];exact dcq hk'
  have hg':=aO (f:=aI) (l:=ts) (k:=k) (x:=x) (by rw [gQq hk',hx])
  have e5:=Yk5 k
  have hcell:(aI x).cells.length=3:=rfl
  rw [hd] at hR
  unfold ixP at hR
  have hag:∃ cs,aI x=.agg cs∧cs.length=3:=⟨_,rfl,rfl⟩
  obtain ⟨cs,hcs,hcl3⟩:=hag
  have hts:List.take 3 cs=cs:=ybc (by omega)
  simp only [go_sem,iNq,ybb,hg',hcs,hcl3,hts,zc]
  (repeat with_reducible refine Yq ?_)
  refine ⟨x,n,⟨hcs.symm,hg⟩,?_⟩
  try simp only [aj,go_sem]
  (repeat with_reducible refine Yq ?_)
  refine ah (fun hq=>?_) (fun hq=>?_)
  ·rw [if_pos hq] at hR
   subst hR
   simp only [go_sem]
   exact Z1
  ·rw [if_neg (by rw [hq];decide)] at hR
   simp only [go_sem,e5]
   refine ⟨k+1,⟨by omega,hR⟩,by omega,nrq _,lRq _,hcl,?_,?_⟩
   ·simp [ltF,znf,hm,hf]
   ·simp [aS,wk2,wk1,wkM,Fr.get]
 ·have hk':k=ts.length:=by simp at hc;omega
  subst hk'
  rw [List.drop_length] at hR
  unfold ixP at hR
  subst hR
  simp only [go_sem]
  exact Z1
def cY:List AV→AHeap→(AV→Prop)→Prop
 |[.agg l,.int .i64 n],_,K=>∃ S:Sch,(l=aG S∧S.tables.length≤1000000)∧K (.int .i64 (ixP (fun t:STable=>t.id==n) S.tables 0))
 |_,_,_=>False
theorem fC:EntOk Tryz.prog 17 (Ent.pure cY):=by
 refine Ype fun _ H K h=>?_
 unfold cY at h
 split at h
 rotate_left
 ·exact h.elim
 rename_i l n
 obtain ⟨S,⟨rfl,hl⟩,hK⟩:=h
 refine ⟨_,hK,?_⟩
 clear hK
 refine ACalls.fW ak (tCq Jn tNq) Tryz.func17 [.tmp 4] (nrq _) (T:=ag []) (h:=fun hcl hlt=>?_)
 clear hlt
 simp only [go_sem,aG,xP]
 (repeat with_reducible refine Yq ?_)
 refine ⟨S.tables,n,⟨rfl,by simp only [go_sem],hl⟩,?_⟩
 try simp only [aj,go_sem]
 exact Z1
def kO:List AV→AHeap→(AV→Prop)→Prop
 |[.agg l,.int .i64 n],_,K=>∃ S:Sch,(l=aG S∧S.fields.length≤1000000)∧K (.int .i64 (ixP (fun t:SField=>t.id==n) S.fields 0))
 |_,_,_=>False
theorem ph:EntOk Tryz.prog 19 (Ent.pure kO):=by
 refine Ype fun _ H K h=>?_
 unfold kO at h
 split at h
 rotate_left
 ·exact h.elim
 rename_i l n
 obtain ⟨S,⟨rfl,hl⟩,hK⟩:=h
 refine ⟨_,hK,?_⟩
 clear hK
 refine ACalls.fW ak (tCq Hv tNq) Tryz.func19 [.tmp 4] (nrq _) (T:=ag []) (h:=fun hcl hlt=>?_)
 clear hlt
 simp only [go_sem,aG,yE]
 (repeat with_reducible refine Yq ?_)
 refine ⟨S.fields,n,⟨rfl,by simp only [go_sem],hl⟩,?_⟩
 try simp only [aj,go_sem]
 exact Z1
end Go.AL
