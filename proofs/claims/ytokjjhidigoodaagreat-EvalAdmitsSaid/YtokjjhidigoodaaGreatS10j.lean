/- Contracts and plain laws, a part of the proof; no condition of its own. -/
import Derived.Test.YtokjjhidigoodaaGreatCG
import Derived.Test.YtokjjhidigoodaaGreatS10z
import Derived.Test.YtokjjhidigoodaaGreatLEntB
import Derived.Test.YtokjjhidigoodaaGreatS10i
open List renaming length_cons → yaz, length_nil → yba, take_of_length_le → ybc, drop_append → ybd, take_append → ybe, drop_eq_nil_of_le → ybf, map_cons → yae, length_map → ybb
open Go Go.AL Go.Proofs
namespace Go.AL
set_option linter.all false
set_option maxRecDepth 10000
def qP:List AV→AHeap→(AV→Prop)→Prop
 |[.int .i64 n],_,K=>K (.int .i64 ((fy n:Nat):Int))
 |_,_,_=>False
theorem Av:EntOk Tryz.prog 295 (Ent.pure qP):=by
 refine EntOk.pure fun args H K h=>?_
 unfold qP at h
 split at h
 rotate_left
 ·exact h.elim
 rename_i n
 refine ⟨_,h,?_⟩
 clear h
 refine ACalls.fW aB TblOk.nil Tryz.func295 [.tmp 2] (Nat.le_refl _) (T:=aA []) (h:=fun hcl hlt=>?_)
 clear hlt
 have e:min (max 0 n) 128=((fy n:Nat):Int):=by unfold fy;omega
 simp only [go_sem,Bool.false_eq_true,if_true,if_false,e]
 exact Z0
def uc:List AV→AHeap→(AV→Prop)→Prop
 |[.int .i64 n],_,K=>K (.int .i64 ((fy n:Nat):Int))
 |_,_,_=>False
theorem Du:EntOk Tryz.prog 140 (Ent.pure uc):=by
 refine EntOk.pure fun args H K h=>?_
 unfold uc at h
 split at h
 rotate_left
 ·exact h.elim
 rename_i n
 refine ⟨_,h,?_⟩
 clear h
 refine ACalls.fW aB TblOk.nil Tryz.func140 [.tmp 2] (Nat.le_refl _) (T:=aA []) (h:=fun hcl hlt=>?_)
 clear hlt
 have e:max 0 (min n 128)=((fy n:Nat):Int):=by unfold fy;omega
 simp only [go_sem,Bool.false_eq_true,if_true,if_false,e]
 exact Z0
def wZ:List AV→AHeap→(AV→Prop)→Prop
 |[.int .i64 n],_,K=>K (vv (kh n))
 |_,_,_=>False
theorem Hz:EntOk Tryz.prog 145 (Ent.pure wZ):=by
 refine EntOk.pure fun args H K h=>?_
 unfold wZ at h
 split at h
 rotate_left
 ·exact h.elim
 rename_i n
 refine ⟨_,h,?_⟩
 clear h
 have hc:=qA n
 have e1:IntKind.i64.wrap (128 - ((fy n:Nat):Int))=((128 - fy n:Nat):Int):=by rw [wrap_i64]<;>omega
 have e2:vOf 18446744073709551615 18446744073709551615 >>> (128 - fy n)=kh n:=Ag hc
 have e3:Int.toNat 18446744073709551615=18446744073709551615:=rfl
 refine ACalls.fW aB (TblOk.cons Av (TblOk.cons EB TblOk.nil)) Tryz.func145 [.cell 2 48] (Nat.le_refl _) (T:=aA []) (h:=fun hcl hlt=>?_)
 clear hlt
 simp only [go_sem,qP,tG,isV,e1,e3,Int.toNat_natCast,e2,vv]
 refine ⟨by omega,?_⟩
 exact Z0
def gM:List AV→AHeap→(AV→Prop)→Prop
 |[.int .i64 n],_,K=>K (vv (kh n))
 |_,_,_=>False
set_option maxHeartbeats 2000000 in
theorem FD:EntOk Tryz.prog 66 (Ent.pure gM):=by
 refine EntOk.pure fun args H K h=>?_
 unfold gM at h
 split at h
 rotate_left
 ·exact h.elim
 rename_i n
 refine ⟨_,h,?_⟩
 clear h
 refine ACalls.fW aB (TblOk.cons DZ (TblOk.cons Du TblOk.nil)) Tryz.func66 [.cell 2 48] (Nat.le_refl _) (T:=aA []) (h:=fun hcl hlt=>?_)
 clear hlt
 have hs:=zr n
 have b3:=jh hs
 have u3:=dy hs
 have hcn:=qA n
 simp only [go_sem]
 refine gU (A:=Nat) (fun i=>[(4,.int .i64 (i:Int)),(3,.ptr (H.nx+1) 0),(2,.ptr H.nx 0),(0,.int .i64 n)])
  (fun i=>(H.push (.cells [.int .u64 0,.int .u64 0])).push (.cells (bfn fun j=>decide (j<i)))) (fun i=>i≤fy n) (fun i=>fy n - i) 0 (by omega) ?_ fun i hi=>?_
 ·have e:(bfn fun j=>decide (j<0))=List.replicate 128 (.bool false):=by rw [HT];exact vZ fun j _=>by simp
  simp only [bnq,enter,iX,ltF,ne_eq,Nat.reduceEqDiff,reduceCtorEq,e,true_or,and_true]
  all_goals rfl
 simp only [go_sem,uc]
 refine aq (fun hc=>?_) (fun hc=>?_)
 ·have hi1:i<fy n:=by simp at hc;omega
  have e0:IntKind.i64.wrap ((i:Int)+1)=((i+1:Nat):Int):=by rw [wrap_i64]<;>omega
  have st:(bfn fun j=>decide (j<i)).set i (.bool true)=bfn fun j=>decide (j<i+1):=Io fun j hj=>by
   by_cases e:j=i
   ·subst e;simp
   ·rw [if_neg e,decide_eq_decide];omega
  simp only [go_sem,Int.toNat_natCast,JH,Nat.mul_one,Nat.zero_add,iZ,st,e0]
  (repeat with_reducible refine And.intro (by first|exact True.intro|decide|omega|(simp [zim,zgm,zgn,zgo,zgq,zgp,zgu];first|done|omega)) ?_)
  refine ⟨i+1,by omega,by omega,?_⟩
  exact Z19
 ·have hi1:i=fy n:=by simp at hc;omega
  subst hi1
  have e:(bfn fun j=>decide (j<fy n))=bits (kh n):=FV fun j _=>(C4 n j).symm
  have et:List.take 128 (bits (kh n))=bits (kh n):=ybc (by rw [co];omega)
  simp only [go_sem,th,e,et,co,jg,b3,u3,vv]
  (repeat with_reducible refine And.intro (by first|exact True.intro|decide|omega|(simp [zim,zgm,zgn,zgo,zgq,zgp,zgu];first|done|omega)) ?_)
  exact Z0
end Go.AL
open Go Go.AL Go.Proofs
namespace Go.AL
set_option linter.all false
set_option maxRecDepth 10000
/-- the index of the first element with a property -/
def ixP {α:Type} (q:α→Bool):List α→Nat→Int
 |[],_ => -1
 |x::xs,k=>if q x=true then (k:Int) else ixP q xs (k+1)
theorem sy {α β:Type} {f:α→β} {q:β→Bool}:∀ (l:List α) (k:Nat),ixP q (l.map f) k=ixP (fun x=>q (f x)) l k
 |[],_=>rfl
 |x::l,k=>by simp only [yae,ixP,sy l]
theorem um {α:Type} {q:α→Bool}:∀ {l:List α} {k:Nat},ixP q l k<(k:Int)+l.length∧(ixP q l k = -1∨(k:Int)≤ixP q l k)
 |[],k=>by simp [ixP];omega
 |x::l,k=>by
  unfold ixP
  split
  ·simp;omega
  ·have:=um (q:=q) (l:=l) (k:=k+1)
   simp only [yaz]
   omega
theorem sC {α:Type} {q:α→Bool}:∀ {l:List α} {k i:Nat},ixP q l k=((k+i:Nat):Int)→∃ x,l[i]?=some x∧q x=true∧l.find? q=some x
 |[],k,i,h=>by simp [ixP] at h;omega
 |x::l,k,i,h=>by
  unfold ixP at h
  split at h
  ·rename_i hq
   have:i=0:=by omega
   subst this
   exact ⟨x,rfl,hq,by simp [hq]⟩
  ·rename_i hq
   have hi:=(um (q:=q) (l:=l) (k:=k+1)).2
   obtain ⟨j,rfl⟩:∃ j,i=j+1:=⟨i - 1,by omega⟩
   obtain ⟨y,h1,h2,h3⟩:=sC (l:=l) (k:=k+1) (i:=j) (by rw [h];congr 1;omega)
   exact ⟨y,by simpa using h1,h2,by rw [List.find?_cons_of_neg hq];exact h3⟩
theorem qf {α:Type} {q:α→Bool}:∀ {l:List α} {k:Nat},ixP q l k = -1→l.find? q=none
 |[],k,h=>rfl
 |x::l,k,h=>by
  unfold ixP at h
  split at h
  ·omega
  ·rename_i hq
   rw [List.find?_cons_of_neg hq]
   exact qf h
def Ao:List AV→AHeap→(AV→Prop)→Prop
 |[x,.ptr c 0],H,K=>∃ t n,(x=bx t∧H.get c=some (.cells [.int .i64 n]))∧K (.bool (t.id==n))
 |_,_,_=>False
theorem Iu:EntOk Tryz.prog 81 (Ent.pure Ao):=by
 refine EntOk.pure fun args H K h=>?_
 unfold Ao at h
 split at h
 rotate_left
 ·exact h.elim
 rename_i x c
 obtain ⟨t,n,⟨rfl,hg⟩,hK⟩:=h
 refine ⟨_,hK,?_⟩
 clear hK
 unfold bx
 refine ACalls.fW aB TblOk.nil Tryz.func81 [.tmp 3] (Nat.le_refl _) (T:=aA []) (h:=fun hcl hlt=>?_)
 clear hlt
 have hcs:=av hg
 have hl:=AHeap.get_lt hg
 have hne:(c=H.nx)=False:=eq_false (by omega)
 simp only [go_sem,hcs,hne]
 (repeat with_reducible refine And.intro (by first|exact True.intro|decide|omega|(simp [zim,zgm,zgn,zgo,zgq,zgp,zgu];first|done|omega)) ?_)
 exact Z0
def BA:List AV→AHeap→(AV→Prop)→Prop
 |[x,.ptr c 0],H,K=>∃ t n,(x=ce t∧H.get c=some (.cells [.int .i64 n]))∧K (.bool (t.id==n))
 |_,_,_=>False
theorem IG:EntOk Tryz.prog 85 (Ent.pure BA):=by
 refine EntOk.pure fun args H K h=>?_
 unfold BA at h
 split at h
 rotate_left
 ·exact h.elim
 rename_i x c
 obtain ⟨t,n,⟨rfl,hg⟩,hK⟩:=h
 refine ⟨_,hK,?_⟩
 clear hK
 unfold ce
 refine ACalls.fW aB TblOk.nil Tryz.func85 [.tmp 3] (Nat.le_refl _) (T:=aA []) (h:=fun hcl hlt=>?_)
 clear hlt
 have hcs:=av hg
 have hl:=AHeap.get_lt hg
 have hne:(c=H.nx)=False:=eq_false (by omega)
 simp only [go_sem,hcs,hne]
 (repeat with_reducible refine And.intro (by first|exact True.intro|decide|omega|(simp [zim,zgm,zgn,zgo,zgq,zgp,zgu];first|done|omega)) ?_)
 exact Z0
def AM:List AV→AHeap→(AV→Prop)→Prop
 |[.slice _ 8 l,.func (.func 81) [] [.ptr c 0]],H,K=>∃ (ts:List STable) (n:Int),(l=ts.map bx∧H.get c=some (.cells [.int .i64 n])∧ts.length≤1000000)∧K (.int .i64 (ixP (fun t:STable=>t.id==n) ts 0))
 |_,_,_=>False
theorem I9:EntOk Tryz.prog 80 (Ent.pure AM):=by
 refine EntOk.pure fun args H K h=>?_
 unfold AM at h
 split at h
 rotate_left
 ·exact h.elim
 rename_i m l c
 obtain ⟨ts,n,⟨rfl,hg,hl⟩,hK⟩:=h
 refine ⟨_,hK,?_⟩
 clear hK
 generalize hR:ixP (fun t:STable=>t.id==n) ts 0=R
 refine ACalls.fW aB (TblOk.cons Iu TblOk.nil) Tryz.func80 [.tmp 4] (Nat.le_refl _) (T:=aA []) (h:=fun hcl hlt=>?_)
 have hm:AV.lt H.nx (.slice m 8 (ts.map bx)):=hlt _ (by simp)
 have hf:AV.lt H.nx (.func (.func 81) [] [.ptr c 0]):=hlt _ (by simp)
 clear hlt
 simp only [go_sem,ybb]
 refine ay (A:=Nat) (fun k=>[(0,.slice m 8 (ts.map bx)),(1,.func (.func 81) [] [.ptr c 0]),(7,.int .i64 (ts.length:Int)),(8,.int .i64 (k:Int))]) (fun _=>H) (fun k=>k≤ts.length∧ixP (fun t:STable=>t.id==n) (ts.drop k) k=R) (fun k=>ts.length - k) 0 ⟨by omega,hR⟩ ?_ fun k hk=>?_
 ·refine ⟨Nat.le_refl _,AHeap.Le.refl _,hcl,?_,?_⟩
  ·simp [ltF,znb,hm,hf]
  ·simp [aI,wk2,wk1,wkM,Fr.get]
 clear hR
 obtain ⟨hk,hR⟩:=hk
 simp only [go_sem]
 refine aq (fun hc=>?_) (fun hc=>?_)
 ·have hk':k<ts.length:=by simp at hc;omega
  obtain ⟨x,hx⟩:∃ x,x=ts[k]:=⟨_,rfl⟩
  have hd:ts.drop k=x::ts.drop (k+1):=by rw [hx];exact List.drop_eq_getElem_cons hk'
  have hg':=cl (f:=bx) (l:=ts) (k:=k) (x:=x) (by rw [List.getElem?_eq_getElem hk',hx])
  have e5:IntKind.i64.wrap ((k:Int)+1)=((k+1:Nat):Int):=by rw [wrap_i64]<;>omega
  have hcell:(bx x).cells.length=8:=rfl
  rw [hd] at hR
  unfold ixP at hR
  have hag:∃ cs,bx x=.agg cs∧cs.length=8:=⟨_,rfl,rfl⟩
  obtain ⟨cs,hcs,hcl3⟩:=hag
  have hts:List.take 8 cs=cs:=ybc (by omega)
  simp only [go_sem,Int.toNat_natCast,ybb,hg',hcs,hcl3,hts,Ao]
  (repeat with_reducible refine And.intro (by first|exact True.intro|decide|omega|(simp [zim,zgm,zgn,zgo,zgq,zgp,zgu];first|done|omega)) ?_)
  refine ⟨x,n,⟨hcs.symm,hg⟩,?_⟩
  try simp only [bv,go_sem]
  (repeat with_reducible refine And.intro (by first|exact True.intro|decide|omega|(simp [zim,zgm,zgn,zgo,zgq,zgp,zgu];first|done|omega)) ?_)
  refine aq (fun hq=>?_) (fun hq=>?_)
  ·rw [if_pos hq] at hR
   subst hR
   simp only [go_sem]
   exact Z0
  ·rw [if_neg (by rw [hq];decide)] at hR
   simp only [go_sem,e5]
   refine ⟨k+1,⟨by omega,hR⟩,by omega,Nat.le_refl _,AHeap.Le.refl _,hcl,?_,?_⟩
   ·simp [ltF,znb,hm,hf]
   ·simp [aI,wk2,wk1,wkM,Fr.get]
 ·have hk':k=ts.length:=by simp at hc;omega
  subst hk'
  rw [List.drop_length] at hR
  unfold ixP at hR
  subst hR
  simp only [go_sem]
  exact Z0
def Au:List AV→AHeap→(AV→Prop)→Prop
 |[.slice _ 3 l,.func (.func 85) [] [.ptr c 0]],H,K=>∃ (ts:List SField) (n:Int),(l=ts.map ce∧H.get c=some (.cells [.int .i64 n])∧ts.length≤1000000)∧K (.int .i64 (ixP (fun t:SField=>t.id==n) ts 0))
 |_,_,_=>False
theorem Jk:EntOk Tryz.prog 84 (Ent.pure Au):=by
 refine EntOk.pure fun args H K h=>?_
 unfold Au at h
 split at h
 rotate_left
 ·exact h.elim
 rename_i m l c
 obtain ⟨ts,n,⟨rfl,hg,hl⟩,hK⟩:=h
 refine ⟨_,hK,?_⟩
 clear hK
 generalize hR:ixP (fun t:SField=>t.id==n) ts 0=R
 refine ACalls.fW aB (TblOk.cons IG TblOk.nil) Tryz.func84 [.tmp 4] (Nat.le_refl _) (T:=aA []) (h:=fun hcl hlt=>?_)
 have hm:AV.lt H.nx (.slice m 3 (ts.map ce)):=hlt _ (by simp)
 have hf:AV.lt H.nx (.func (.func 85) [] [.ptr c 0]):=hlt _ (by simp)
 clear hlt
 simp only [go_sem,ybb]
 refine ay (A:=Nat) (fun k=>[(0,.slice m 3 (ts.map ce)),(1,.func (.func 85) [] [.ptr c 0]),(7,.int .i64 (ts.length:Int)),(8,.int .i64 (k:Int))]) (fun _=>H) (fun k=>k≤ts.length∧ixP (fun t:SField=>t.id==n) (ts.drop k) k=R) (fun k=>ts.length - k) 0 ⟨by omega,hR⟩ ?_ fun k hk=>?_
 ·refine ⟨Nat.le_refl _,AHeap.Le.refl _,hcl,?_,?_⟩
  ·simp [ltF,znb,hm,hf]
  ·simp [aI,wk2,wk1,wkM,Fr.get]
 clear hR
 obtain ⟨hk,hR⟩:=hk
 simp only [go_sem]
 refine aq (fun hc=>?_) (fun hc=>?_)
 ·have hk':k<ts.length:=by simp at hc;omega
  obtain ⟨x,hx⟩:∃ x,x=ts[k]:=⟨_,rfl⟩
  have hd:ts.drop k=x::ts.drop (k+1):=by rw [hx];exact List.drop_eq_getElem_cons hk'
  have hg':=cl (f:=ce) (l:=ts) (k:=k) (x:=x) (by rw [List.getElem?_eq_getElem hk',hx])
  have e5:IntKind.i64.wrap ((k:Int)+1)=((k+1:Nat):Int):=by rw [wrap_i64]<;>omega
  have hcell:(ce x).cells.length=3:=rfl
  rw [hd] at hR
  unfold ixP at hR
  have hag:∃ cs,ce x=.agg cs∧cs.length=3:=⟨_,rfl,rfl⟩
  obtain ⟨cs,hcs,hcl3⟩:=hag
  have hts:List.take 3 cs=cs:=ybc (by omega)
  simp only [go_sem,Int.toNat_natCast,ybb,hg',hcs,hcl3,hts,BA]
  (repeat with_reducible refine And.intro (by first|exact True.intro|decide|omega|(simp [zim,zgm,zgn,zgo,zgq,zgp,zgu];first|done|omega)) ?_)
  refine ⟨x,n,⟨hcs.symm,hg⟩,?_⟩
  try simp only [bv,go_sem]
  (repeat with_reducible refine And.intro (by first|exact True.intro|decide|omega|(simp [zim,zgm,zgn,zgo,zgq,zgp,zgu];first|done|omega)) ?_)
  refine aq (fun hq=>?_) (fun hq=>?_)
  ·rw [if_pos hq] at hR
   subst hR
   simp only [go_sem]
   exact Z0
  ·rw [if_neg (by rw [hq];decide)] at hR
   simp only [go_sem,e5]
   refine ⟨k+1,⟨by omega,hR⟩,by omega,Nat.le_refl _,AHeap.Le.refl _,hcl,?_,?_⟩
   ·simp [ltF,znb,hm,hf]
   ·simp [aI,wk2,wk1,wkM,Fr.get]
 ·have hk':k=ts.length:=by simp at hc;omega
  subst hk'
  rw [List.drop_length] at hR
  unfold ixP at hR
  subst hR
  simp only [go_sem]
  exact Z0
def oL:List AV→AHeap→(AV→Prop)→Prop
 |[.agg l,.int .i64 n],_,K=>∃ S:Sch,(l=br S∧S.tables.length≤1000000)∧K (.int .i64 (ixP (fun t:STable=>t.id==n) S.tables 0))
 |_,_,_=>False
theorem zW:EntOk Tryz.prog 28 (Ent.pure oL):=by
 refine EntOk.pure fun args H K h=>?_
 unfold oL at h
 split at h
 rotate_left
 ·exact h.elim
 rename_i l n
 obtain ⟨S,⟨rfl,hl⟩,hK⟩:=h
 refine ⟨_,hK,?_⟩
 clear hK
 refine ACalls.fW aB (TblOk.cons I9 TblOk.nil) Tryz.func28 [.tmp 4] (Nat.le_refl _) (T:=aA []) (h:=fun hcl hlt=>?_)
 clear hlt
 simp only [go_sem,br,AM]
 (repeat with_reducible refine And.intro (by first|exact True.intro|decide|omega|(simp [zim,zgm,zgn,zgo,zgq,zgp,zgu];first|done|omega)) ?_)
 refine ⟨S.tables,n,⟨rfl,by simp only [go_sem],hl⟩,?_⟩
 try simp only [bv,go_sem]
 exact Z0
/-- the bits of a field, by its index -/
theorem zg {fs:List SField} {id:Int}:gh fs id=match fs.find? (fun f=>f.id==id) with|some f=>f.bits|none=>0:=by
 induction fs with
 |nil=>rfl
 |cons f fs ih =>
  unfold gh
  by_cases h:f.id=id
  ·rw [if_pos h,List.find?_cons_of_pos (by simp [h])]
  ·rw [if_neg h,List.find?_cons_of_neg (by simp [h])];exact ih
def Ki (S:Sch) (id:Int):Option STable:=S.tables.find? fun t=>t.id==id
end Go.AL
