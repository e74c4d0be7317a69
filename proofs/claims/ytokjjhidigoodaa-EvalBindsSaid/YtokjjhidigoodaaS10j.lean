/- Contracts and plain laws, a part of the proof; no condition of its own. -/
import Derived.Test.YtokjjhidigoodaaCG
import Derived.Test.YtokjjhidigoodaaS10z
import Derived.Test.YtokjjhidigoodaaLEntB
import Derived.Test.YtokjjhidigoodaaS10i
open List renaming length_cons → yaz, length_nil → yba, take_of_length_le → ybc, drop_append → ybd, take_append → ybe, drop_eq_nil_of_le → ybf, map_cons → yae, length_map → ybb
open Go Go.AL Go.Proofs
namespace Go.AL
set_option linter.all false
set_option maxRecDepth 10000
def mw:List AV→AHeap→(AV→Prop)→Prop
 |[.int .i64 n],_,K=>K (.int .i64 ((dw n:Nat):Int))
 |_,_,_=>False
theorem vA:EntOk Try.prog 64 (Ent.pure mw):=by
 refine EntOk.pure fun args H K h=>?_
 unfold mw at h
 split at h
 rotate_left
 ·exact h.elim
 rename_i n
 refine ⟨_,h,?_⟩
 clear h
 refine ACalls.fW aD TblOk.nil Try.func64 [.tmp 2] (Nat.le_refl _) (T:=az []) (h:=fun hcl hlt=>?_)
 clear hlt
 have e:min (max 0 n) 128=((dw n:Nat):Int):=by unfold dw;omega
 simp only [go_sem,Bool.false_eq_true,if_true,if_false,e]
 simp (disch:=first|assumption|omega|(simp;done)|(simp;omega)|(simp only [bt,and_true];first|done|omega|(simp;done))) [↓zmk,beq,ybc,ybd,ybe,ag,wk,wk2,wk1,wkM,wkL,am,ybf,hcl]
def oK:List AV→AHeap→(AV→Prop)→Prop
 |[.int .i64 n],_,K=>K (.int .i64 ((dw n:Nat):Int))
 |_,_,_=>False
theorem xk:EntOk Try.prog 47 (Ent.pure oK):=by
 refine EntOk.pure fun args H K h=>?_
 unfold oK at h
 split at h
 rotate_left
 ·exact h.elim
 rename_i n
 refine ⟨_,h,?_⟩
 clear h
 refine ACalls.fW aD TblOk.nil Try.func47 [.tmp 2] (Nat.le_refl _) (T:=az []) (h:=fun hcl hlt=>?_)
 clear hlt
 have e:max 0 (min n 128)=((dw n:Nat):Int):=by unfold dw;omega
 simp only [go_sem,Bool.false_eq_true,if_true,if_false,e]
 simp (disch:=first|assumption|omega|(simp;done)|(simp;omega)|(simp only [bt,and_true];first|done|omega|(simp;done))) [↓zmk,beq,ybc,ybd,ybe,ag,wk,wk2,wk1,wkM,wkL,am,ybf,hcl]
def rI:List AV→AHeap→(AV→Prop)→Prop
 |[.int .i64 n],_,K=>K (vv (gQ n))
 |_,_,_=>False
theorem zR:EntOk Try.prog 45 (Ent.pure rI):=by
 refine EntOk.pure fun args H K h=>?_
 unfold rI at h
 split at h
 rotate_left
 ·exact h.elim
 rename_i n
 refine ⟨_,h,?_⟩
 clear h
 have hc:=ma n
 have e1:IntKind.i64.wrap (128 - ((dw n:Nat):Int))=((128 - dw n:Nat):Int):=by rw [wrap_i64]<;>omega
 have e2:vOf 18446744073709551615 18446744073709551615 >>> (128 - dw n)=gQ n:=uP hc
 have e3:Int.toNat 18446744073709551615=18446744073709551615:=rfl
 refine ACalls.fW aD (TblOk.cons vA (TblOk.cons wT TblOk.nil)) Try.func45 [.cell 2 95] (Nat.le_refl _) (T:=az []) (h:=fun hcl hlt=>?_)
 clear hlt
 simp only [go_sem,mw,pj,isV,e1,e3,Int.toNat_natCast,e2,vv]
 refine ⟨by omega,?_⟩
 simp (disch:=first|assumption|omega|(simp;done)|(simp;omega)|(simp only [bt,and_true];first|done|omega|(simp;done))) [↓zmk,beq,ybc,ybd,ybe,ag,wk,wk2,wk1,wkM,wkL,am,ybf,hcl]
def eM:List AV→AHeap→(AV→Prop)→Prop
 |[.int .i64 n],_,K=>K (vv (gQ n))
 |_,_,_=>False
set_option maxHeartbeats 2000000 in
theorem yM:EntOk Try.prog 31 (Ent.pure eM):=by
 refine EntOk.pure fun args H K h=>?_
 unfold eM at h
 split at h
 rotate_left
 ·exact h.elim
 rename_i n
 refine ⟨_,h,?_⟩
 clear h
 refine ACalls.fW aD (TblOk.cons wG (TblOk.cons xk TblOk.nil)) Try.func31 [.cell 2 95] (Nat.le_refl _) (T:=az []) (h:=fun hcl hlt=>?_)
 clear hlt
 have hs:=Ba n
 have b3:=sU hs
 have u3:=iq hs
 have hcn:=ma n
 simp only [go_sem]
 refine i7 (A:=Nat) (fun i=>[(4,.int .i64 (i:Int)),(3,.ptr (H.nx+1) 0),(2,.ptr H.nx 0),(0,.int .i64 n)])
  (fun i=>(H.push (.cells [.int .u64 0,.int .u64 0])).push (.cells (bfn fun j=>decide (j<i)))) (fun i=>i≤dw n) (fun i=>dw n - i) 0 (by omega) ?_ fun i hi=>?_
 ·have e:(bfn fun j=>decide (j<0))=List.replicate 128 (.bool false):=by rw [Bx];exact qE fun j _=>by simp
  simp only [bnq,enter,jp,ltF,ne_eq,Nat.reduceEqDiff,reduceCtorEq,e,true_or,and_true]
  all_goals rfl
 simp only [go_sem,oK]
 refine ax (fun hc=>?_) (fun hc=>?_)
 ·have hi1:i<dw n:=by simp at hc;omega
  have e0:IntKind.i64.wrap ((i:Int)+1)=((i+1:Nat):Int):=by rw [wrap_i64]<;>omega
  have st:(bfn fun j=>decide (j<i)).set i (.bool true)=bfn fun j=>decide (j<i+1):=BO fun j hj=>by
   by_cases e:j=i
   ·subst e;simp
   ·rw [if_neg e,decide_eq_decide];omega
  simp only [go_sem,Int.toNat_natCast,BA,Nat.mul_one,Nat.zero_add,kV,st,e0]
  (repeat with_reducible refine And.intro (by first|exact True.intro|decide|omega|(simp [zim,zgm,zgn,zgo,zgq,zgp,zgu];first|done|omega)) ?_)
  refine ⟨i+1,by omega,by omega,?_⟩
  simp only [bnq,enter,jp,ltF,ne_eq,Nat.reduceEqDiff,reduceCtorEq,true_or,and_self]
 ·have hi1:i=dw n:=by simp at hc;omega
  subst hi1
  have e:(bfn fun j=>decide (j<dw n))=bits (gQ n):=zW fun j _=>(wV n j).symm
  have et:List.take 128 (bits (gQ n))=bits (gQ n):=ybc (by rw [iI];omega)
  simp only [go_sem,pt,e,et,iI,uf,b3,u3,vv]
  (repeat with_reducible refine And.intro (by first|exact True.intro|decide|omega|(simp [zim,zgm,zgn,zgo,zgq,zgp,zgu];first|done|omega)) ?_)
  simp (disch:=first|assumption|omega|(simp;done)|(simp;omega)|(simp only [bt,and_true];first|done|omega|(simp;done))) [↓zmk,beq,ybc,ybd,ybe,ag,wk,wk2,wk1,wkM,wkL,am,ybf,hcl]
end Go.AL
open Go Go.AL Go.Proofs
namespace Go.AL
set_option linter.all false
set_option maxRecDepth 10000
/-- the index of the first element with a property -/
def ixP {α:Type} (q:α→Bool):List α→Nat→Int
 |[],_ => -1
 |x::xs,k=>if q x=true then (k:Int) else ixP q xs (k+1)
theorem wg {α β:Type} {f:α→β} {q:β→Bool}:∀ (l:List α) (k:Nat),ixP q (l.map f) k=ixP (fun x=>q (f x)) l k
 |[],_=>rfl
 |x::l,k=>by simp only [yae,ixP,wg l]
theorem rN {α:Type} {q:α→Bool}:∀ {l:List α} {k:Nat},ixP q l k<(k:Int)+l.length∧(ixP q l k = -1∨(k:Int)≤ixP q l k)
 |[],k=>by simp [ixP];omega
 |x::l,k=>by
  unfold ixP
  split
  ·simp;omega
  ·have:=rN (q:=q) (l:=l) (k:=k+1)
   simp only [yaz]
   omega
theorem q9 {α:Type} {q:α→Bool}:∀ {l:List α} {k i:Nat},ixP q l k=((k+i:Nat):Int)→∃ x,l[i]?=some x∧q x=true∧l.find? q=some x
 |[],k,i,h=>by simp [ixP] at h;omega
 |x::l,k,i,h=>by
  unfold ixP at h
  split at h
  ·rename_i hq
   have:i=0:=by omega
   subst this
   exact ⟨x,rfl,hq,by simp [hq]⟩
  ·rename_i hq
   have hi:=(rN (q:=q) (l:=l) (k:=k+1)).2
   obtain ⟨j,rfl⟩:∃ j,i=j+1:=⟨i - 1,by omega⟩
   obtain ⟨y,h1,h2,h3⟩:=q9 (l:=l) (k:=k+1) (i:=j) (by rw [h];congr 1;omega)
   exact ⟨y,by simpa using h1,h2,by rw [List.find?_cons_of_neg hq];exact h3⟩
theorem oo {α:Type} {q:α→Bool}:∀ {l:List α} {k:Nat},ixP q l k = -1→l.find? q=none
 |[],k,h=>rfl
 |x::l,k,h=>by
  unfold ixP at h
  split at h
  ·omega
  ·rename_i hq
   rw [List.find?_cons_of_neg hq]
   exact oo h
def uG:List AV→AHeap→(AV→Prop)→Prop
 |[x,.ptr c 0],H,K=>∃ t n,(x=bY t∧H.get c=some (.cells [.int .i64 n]))∧K (.bool (t.id==n))
 |_,_,_=>False
theorem BV:EntOk Try.prog 66 (Ent.pure uG):=by
 refine EntOk.pure fun args H K h=>?_
 unfold uG at h
 split at h
 rotate_left
 ·exact h.elim
 rename_i x c
 obtain ⟨t,n,⟨rfl,hg⟩,hK⟩:=h
 refine ⟨_,hK,?_⟩
 clear hK
 unfold bY
 refine ACalls.fW aD TblOk.nil Try.func66 [.tmp 3] (Nat.le_refl _) (T:=az []) (h:=fun hcl hlt=>?_)
 clear hlt
 have hcs:=ai hg
 have hl:=AHeap.get_lt hg
 have hne:(c=H.nx)=False:=eq_false (by omega)
 simp only [go_sem,hcs,hne]
 (repeat with_reducible refine And.intro (by first|exact True.intro|decide|omega|(simp [zim,zgm,zgn,zgo,zgq,zgp,zgu];first|done|omega)) ?_)
 simp (disch:=first|assumption|omega|(simp;done)|(simp;omega)|(simp only [bt,and_true];first|done|omega|(simp;done))) [↓zmk,beq,ybc,ybd,ybe,ag,wk,wk2,wk1,wkM,wkL,am,ybf,hcl]
def ux:List AV→AHeap→(AV→Prop)→Prop
 |[.slice _ 3 l,.func (.func 66) [] [.ptr c 0]],H,K=>∃ (ts:List SField) (n:Int),(l=ts.map bY∧H.get c=some (.cells [.int .i64 n])∧ts.length≤1000000)∧K (.int .i64 (ixP (fun t:SField=>t.id==n) ts 0))
 |_,_,_=>False
theorem Cj:EntOk Try.prog 65 (Ent.pure ux):=by
 refine EntOk.pure fun args H K h=>?_
 unfold ux at h
 split at h
 rotate_left
 ·exact h.elim
 rename_i m l c
 obtain ⟨ts,n,⟨rfl,hg,hl⟩,hK⟩:=h
 refine ⟨_,hK,?_⟩
 clear hK
 generalize hR:ixP (fun t:SField=>t.id==n) ts 0=R
 refine ACalls.fW aD (TblOk.cons BV TblOk.nil) Try.func65 [.tmp 4] (Nat.le_refl _) (T:=az []) (h:=fun hcl hlt=>?_)
 have hm:AV.lt H.nx (.slice m 3 (ts.map bY)):=hlt _ (by simp)
 have hf:AV.lt H.nx (.func (.func 66) [] [.ptr c 0]):=hlt _ (by simp)
 clear hlt
 simp only [go_sem,ybb]
 refine aB (A:=Nat) (fun k=>[(0,.slice m 3 (ts.map bY)),(1,.func (.func 66) [] [.ptr c 0]),(7,.int .i64 (ts.length:Int)),(8,.int .i64 (k:Int))]) (fun _=>H) (fun k=>k≤ts.length∧ixP (fun t:SField=>t.id==n) (ts.drop k) k=R) (fun k=>ts.length - k) 0 ⟨by omega,hR⟩ ?_ fun k hk=>?_
 ·refine ⟨Nat.le_refl _,AHeap.Le.refl _,hcl,?_,?_⟩
  ·simp [ltF,znb,hm,hf]
  ·simp [aI,wk2,wk1,wkM,Fr.get]
 clear hR
 obtain ⟨hk,hR⟩:=hk
 simp only [go_sem]
 refine ax (fun hc=>?_) (fun hc=>?_)
 ·have hk':k<ts.length:=by simp at hc;omega
  obtain ⟨x,hx⟩:∃ x,x=ts[k]:=⟨_,rfl⟩
  have hd:ts.drop k=x::ts.drop (k+1):=by rw [hx];exact List.drop_eq_getElem_cons hk'
  have hg':=cJ (f:=bY) (l:=ts) (k:=k) (x:=x) (by rw [List.getElem?_eq_getElem hk',hx])
  have e5:IntKind.i64.wrap ((k:Int)+1)=((k+1:Nat):Int):=by rw [wrap_i64]<;>omega
  have hcell:(bY x).cells.length=3:=rfl
  rw [hd] at hR
  unfold ixP at hR
  have hag:∃ cs,bY x=.agg cs∧cs.length=3:=⟨_,rfl,rfl⟩
  obtain ⟨cs,hcs,hcl3⟩:=hag
  have hts:List.take 3 cs=cs:=ybc (by omega)
  simp only [go_sem,Int.toNat_natCast,ybb,hg',hcs,hcl3,hts,uG]
  (repeat with_reducible refine And.intro (by first|exact True.intro|decide|omega|(simp [zim,zgm,zgn,zgo,zgq,zgp,zgu];first|done|omega)) ?_)
  refine ⟨x,n,⟨hcs.symm,hg⟩,?_⟩
  try simp only [bM,go_sem]
  (repeat with_reducible refine And.intro (by first|exact True.intro|decide|omega|(simp [zim,zgm,zgn,zgo,zgq,zgp,zgu];first|done|omega)) ?_)
  refine ax (fun hq=>?_) (fun hq=>?_)
  ·rw [if_pos hq] at hR
   subst hR
   simp only [go_sem]
   simp (disch:=first|assumption|omega|(simp;done)|(simp;omega)|(simp only [bt,and_true];first|done|omega|(simp;done))) [↓zmk,beq,ybc,ybd,ybe,ag,wk,wk2,wk1,wkM,wkL,am,ybf,hcl]
  ·rw [if_neg (by rw [hq];decide)] at hR
   simp only [go_sem,e5]
   refine ⟨k+1,⟨by omega,hR⟩,by omega,Nat.le_refl _,AHeap.Le.refl _,hcl,?_,?_⟩
   ·simp [ltF,znb,hm,hf]
   ·simp [aI,wk2,wk1,wkM,Fr.get]
 ·have hk':k=ts.length:=by simp at hc;omega
  subst hk'
  rw [List.drop_length] at hR
  unfold ixP at hR
  subst hR
  simp only [go_sem]
  simp (disch:=first|assumption|omega|(simp;done)|(simp;omega)|(simp only [bt,and_true];first|done|omega|(simp;done))) [↓zmk,beq,ybc,ybd,ybe,ag,wk,wk2,wk1,wkM,wkL,am,ybf,hcl]
/-- the bits of a field, by its index -/
theorem tm {fs:List SField} {id:Int}:gl fs id=match fs.find? (fun f=>f.id==id) with|some f=>f.bits|none=>0:=by
 induction fs with
 |nil=>rfl
 |cons f fs ih =>
  unfold gl
  by_cases h:f.id=id
  ·rw [if_pos h,List.find?_cons_of_pos (by simp [h])]
  ·rw [if_neg h,List.find?_cons_of_neg (by simp [h])];exact ih
end Go.AL
