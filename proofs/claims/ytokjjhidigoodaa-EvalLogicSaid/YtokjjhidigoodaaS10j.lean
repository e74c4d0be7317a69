/- Contracts and plain laws, a part of the proof; no condition of its own. -/
import Derived.Test.YtokjjhidigoodaaCG
import Derived.Test.YtokjjhidigoodaaS10z
import Derived.Test.YtokjjhidigoodaaLEntB
import Derived.Test.YtokjjhidigoodaaS10i
open Go Go.AL Go.Proofs
namespace Go.AL
set_option linter.all false
set_option maxRecDepth 10000
def ks:List AV→AHeap→(AV→Prop)→Prop
 |[.int .i64 n],_,K=>K (.int .i64 ((gq n:Nat):Int))
 |_,_,_=>False
theorem sR:EntOk Try.prog 64 (Ent.pure ks):=by
 refine EntOk.pure fun args H K h=>?_
 unfold ks at h
 split at h
 rotate_left
 ·exact h.elim
 rename_i n
 refine ⟨_,h,?_⟩
 clear h
 refine ACalls.fW ay TblOk.nil Try.func64 [.tmp 2] (Nat.le_refl _) (T:=ap []) (h:=fun hcl hlt=>?_)
 clear hlt
 have e:min (max 0 n) 128=((gq n:Nat):Int):=by unfold gq;omega
 simp only [go_sem,Bool.false_eq_true,if_true,if_false,e]
 simp (disch:=first|assumption|omega|(simp;done)|(simp;omega)|(simp only [bt,and_true];first|done|omega|(simp;done))) [↓zmk,beq,List.take_of_length_le,List.drop_append,List.take_append,ae,wk,wk2,wk1,wkM,wkL,ai,List.drop_eq_nil_of_le,hcl]
def pg:List AV→AHeap→(AV→Prop)→Prop
 |[.int .i64 n],_,K=>K (vv (tJ n))
 |_,_,_=>False
theorem xh:EntOk Try.prog 45 (Ent.pure pg):=by
 refine EntOk.pure fun args H K h=>?_
 unfold pg at h
 split at h
 rotate_left
 ·exact h.elim
 rename_i n
 refine ⟨_,h,?_⟩
 clear h
 have hc:=ut n
 have e1:IntKind.i64.wrap (128 - ((gq n:Nat):Int))=((128 - gq n:Nat):Int):=by rw [wrap_i64]<;>omega
 have e2:vOf 18446744073709551615 18446744073709551615 >>> (128 - gq n)=tJ n:=rW hc
 have e3:Int.toNat 18446744073709551615=18446744073709551615:=rfl
 refine ACalls.fW ay (TblOk.cons sR (TblOk.cons uP TblOk.nil)) Try.func45 [.cell 2 95] (Nat.le_refl _) (T:=ap []) (h:=fun hcl hlt=>?_)
 clear hlt
 simp only [go_sem,ks,ml,isV,e1,e3,Int.toNat_natCast,e2,vv]
 refine ⟨by omega,?_⟩
 simp (disch:=first|assumption|omega|(simp;done)|(simp;omega)|(simp only [bt,and_true];first|done|omega|(simp;done))) [↓zmk,beq,List.take_of_length_le,List.drop_append,List.take_append,ae,wk,wk2,wk1,wkM,wkL,ai,List.drop_eq_nil_of_le,hcl]
end Go.AL
open Go Go.AL Go.Proofs
namespace Go.AL
set_option linter.all false
set_option maxRecDepth 10000
/-- the index of the first element with a property -/
def ixP {α:Type} (q:α→Bool):List α→Nat→Int
 |[],_ => -1
 |x::xs,k=>if q x=true then (k:Int) else ixP q xs (k+1)
theorem rS {α:Type} {q:α→Bool}:∀ {l:List α} {k:Nat},ixP q l k<(k:Int)+l.length∧(ixP q l k = -1∨(k:Int)≤ixP q l k)
 |[],k=>by simp [ixP];omega
 |x::l,k=>by
  unfold ixP
  split
  ·simp;omega
  ·have:=rS (q:=q) (l:=l) (k:=k+1)
   simp only [List.length_cons]
   omega
theorem tx {α:Type} {q:α→Bool}:∀ {l:List α} {k i:Nat},ixP q l k=((k+i:Nat):Int)→∃ x,l[i]?=some x∧q x=true∧l.find? q=some x
 |[],k,i,h=>by simp [ixP] at h;omega
 |x::l,k,i,h=>by
  unfold ixP at h
  split at h
  ·rename_i hq
   have:i=0:=by omega
   subst this
   exact ⟨x,rfl,hq,by simp [hq]⟩
  ·rename_i hq
   have hi:=(rS (q:=q) (l:=l) (k:=k+1)).2
   obtain ⟨j,rfl⟩:∃ j,i=j+1:=⟨i - 1,by omega⟩
   obtain ⟨y,h1,h2,h3⟩:=tx (l:=l) (k:=k+1) (i:=j) (by rw [h];congr 1;omega)
   exact ⟨y,by simpa using h1,h2,by rw [List.find?_cons_of_neg hq];exact h3⟩
theorem qp {α:Type} {q:α→Bool}:∀ {l:List α} {k:Nat},ixP q l k = -1→l.find? q=none
 |[],k,h=>rfl
 |x::l,k,h=>by
  unfold ixP at h
  split at h
  ·omega
  ·rename_i hq
   rw [List.find?_cons_of_neg hq]
   exact qp h
def sG:List AV→AHeap→(AV→Prop)→Prop
 |[x,.ptr c 0],H,K=>∃ t n,(x=cW t∧H.get c=some (.cells [.int .i64 n]))∧K (.bool (t.id==n))
 |_,_,_=>False
theorem yQ:EntOk Try.prog 66 (Ent.pure sG):=by
 refine EntOk.pure fun args H K h=>?_
 unfold sG at h
 split at h
 rotate_left
 ·exact h.elim
 rename_i x c
 obtain ⟨t,n,⟨rfl,hg⟩,hK⟩:=h
 refine ⟨_,hK,?_⟩
 clear hK
 unfold cW
 refine ACalls.fW ay TblOk.nil Try.func66 [.tmp 3] (Nat.le_refl _) (T:=ap []) (h:=fun hcl hlt=>?_)
 clear hlt
 have hcs:=ax hg
 have hl:=AHeap.get_lt hg
 have hne:(c=H.nx)=False:=eq_false (by omega)
 simp only [go_sem,hcs,hne]
 (repeat with_reducible refine And.intro (by first|exact True.intro|decide|omega|(simp [zim,zgm,zgn,zgo,zgq,zgp,zgu];first|done|omega)) ?_)
 simp (disch:=first|assumption|omega|(simp;done)|(simp;omega)|(simp only [bt,and_true];first|done|omega|(simp;done))) [↓zmk,beq,List.take_of_length_le,List.drop_append,List.take_append,ae,wk,wk2,wk1,wkM,wkL,ai,List.drop_eq_nil_of_le,hcl]
def rK:List AV→AHeap→(AV→Prop)→Prop
 |[.slice _ 3 l,.func (.func 66) [] [.ptr c 0]],H,K=>∃ (ts:List SField) (n:Int),(l=ts.map cW∧H.get c=some (.cells [.int .i64 n])∧ts.length≤1000000)∧K (.int .i64 (ixP (fun t:SField=>t.id==n) ts 0))
 |_,_,_=>False
theorem y4:EntOk Try.prog 65 (Ent.pure rK):=by
 refine EntOk.pure fun args H K h=>?_
 unfold rK at h
 split at h
 rotate_left
 ·exact h.elim
 rename_i m l c
 obtain ⟨ts,n,⟨rfl,hg,hl⟩,hK⟩:=h
 refine ⟨_,hK,?_⟩
 clear hK
 generalize hR:ixP (fun t:SField=>t.id==n) ts 0=R
 refine ACalls.fW ay (TblOk.cons yQ TblOk.nil) Try.func65 [.tmp 4] (Nat.le_refl _) (T:=ap []) (h:=fun hcl hlt=>?_)
 have hm:AV.lt H.nx (.slice m 3 (ts.map cW)):=hlt _ (by simp)
 have hf:AV.lt H.nx (.func (.func 66) [] [.ptr c 0]):=hlt _ (by simp)
 clear hlt
 simp only [go_sem,List.length_map]
 refine aJ (A:=Nat) (fun k=>[(0,.slice m 3 (ts.map cW)),(1,.func (.func 66) [] [.ptr c 0]),(7,.int .i64 (ts.length:Int)),(8,.int .i64 (k:Int))]) (fun _=>H) (fun k=>k≤ts.length∧ixP (fun t:SField=>t.id==n) (ts.drop k) k=R) (fun k=>ts.length - k) 0 ⟨by omega,hR⟩ ?_ fun k hk=>?_
 ·refine ⟨Nat.le_refl _,AHeap.Le.refl _,hcl,?_,?_⟩
  ·simp [ltF,znb,hm,hf]
  ·simp [bn,wk2,wk1,wkM,Fr.get]
 clear hR
 obtain ⟨hk,hR⟩:=hk
 simp only [go_sem]
 refine al (fun hc=>?_) (fun hc=>?_)
 ·have hk':k<ts.length:=by simp at hc;omega
  obtain ⟨x,hx⟩:∃ x,x=ts[k]:=⟨_,rfl⟩
  have hd:ts.drop k=x::ts.drop (k+1):=by rw [hx];exact List.drop_eq_getElem_cons hk'
  have hg':=lY (f:=cW) (l:=ts) (k:=k) (x:=x) (by rw [List.getElem?_eq_getElem hk',hx])
  have e5:IntKind.i64.wrap ((k:Int)+1)=((k+1:Nat):Int):=by rw [wrap_i64]<;>omega
  have hcell:(cW x).cells.length=3:=rfl
  rw [hd] at hR
  unfold ixP at hR
  have hag:∃ cs,cW x=.agg cs∧cs.length=3:=⟨_,rfl,rfl⟩
  obtain ⟨cs,hcs,hcl3⟩:=hag
  have hts:List.take 3 cs=cs:=List.take_of_length_le (by omega)
  simp only [go_sem,Int.toNat_natCast,List.length_map,hg',hcs,hcl3,hts,sG]
  (repeat with_reducible refine And.intro (by first|exact True.intro|decide|omega|(simp [zim,zgm,zgn,zgo,zgq,zgp,zgu];first|done|omega)) ?_)
  refine ⟨x,n,⟨hcs.symm,hg⟩,?_⟩
  try simp only [oR,go_sem]
  (repeat with_reducible refine And.intro (by first|exact True.intro|decide|omega|(simp [zim,zgm,zgn,zgo,zgq,zgp,zgu];first|done|omega)) ?_)
  refine al (fun hq=>?_) (fun hq=>?_)
  ·rw [if_pos hq] at hR
   subst hR
   simp only [go_sem]
   simp (disch:=first|assumption|omega|(simp;done)|(simp;omega)|(simp only [bt,and_true];first|done|omega|(simp;done))) [↓zmk,beq,List.take_of_length_le,List.drop_append,List.take_append,ae,wk,wk2,wk1,wkM,wkL,ai,List.drop_eq_nil_of_le,hcl]
  ·rw [if_neg (by rw [hq];decide)] at hR
   simp only [go_sem,e5]
   refine ⟨k+1,⟨by omega,hR⟩,by omega,Nat.le_refl _,AHeap.Le.refl _,hcl,?_,?_⟩
   ·simp [ltF,znb,hm,hf]
   ·simp [bn,wk2,wk1,wkM,Fr.get]
 ·have hk':k=ts.length:=by simp at hc;omega
  subst hk'
  rw [List.drop_length] at hR
  unfold ixP at hR
  subst hR
  simp only [go_sem]
  simp (disch:=first|assumption|omega|(simp;done)|(simp;omega)|(simp only [bt,and_true];first|done|omega|(simp;done))) [↓zmk,beq,List.take_of_length_le,List.drop_append,List.take_append,ae,wk,wk2,wk1,wkM,wkL,ai,List.drop_eq_nil_of_le,hcl]
/-- the bits of a field, by its index -/
theorem w6 {fs:List SField} {id:Int}:il fs id=match fs.find? (fun f=>f.id==id) with|some f=>f.bits|none=>0:=by
 induction fs with
 |nil=>rfl
 |cons f fs ih =>
  unfold il
  by_cases h:f.id=id
  ·rw [if_pos h,List.find?_cons_of_pos (by simp [h])]
  ·rw [if_neg h,List.find?_cons_of_neg (by simp [h])];exact ih
end Go.AL
