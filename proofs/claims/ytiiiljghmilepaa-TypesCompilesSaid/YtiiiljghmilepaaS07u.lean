/- Contracts and plain laws, a part of the proof; no condition of its own. -/
import Derived.Test.YtiiiljghmilepaaS07v
import Derived.Test.YtiiiljghmilepaaS07c
set_option maxHeartbeats 32000000
open List renaming length_cons → yaz, length_nil → yba, take_of_length_le → ybc, drop_append → ybd, take_append → ybe, drop_eq_nil_of_le → ybf
open Go Go.AL Go.Proofs
namespace Go.AL
set_option linter.all false
set_option maxRecDepth 10000
theorem qx:ti Try.prog 59=some ⟨.struct [(0,3,false),(1,3,false),(2,3,false),(3,9,false),(4,9,false),(5,56,false)],7,72,.agg [.int .i64 0,.int .i64 0,.int .i64 0,.str [],.str [],.int .u64 0,.int .u64 0]⟩:=by kernel_rfl
theorem t8:ti Try.prog 36=some ⟨.slice 59,1,24,.slice .nil 1 []⟩:=by kernel_rfl
theorem sm:ti Try.prog 115=some ⟨.struct [(0,30,false),(1,3,false),(2,4,false),(3,36,false)],4,64,.agg [.slice .nil 1 [],.int .i64 0,.bool false,.slice .nil 1 []]⟩:=by kernel_rfl
attribute [go_sem] qx t8 sm
def rst (m:Mark) (l:List Tok) (p:Nat) (b:Bool) (tb:Nat) (t:List Nd):AObj:=.cells [.slice m 3 (bR l),.int .i64 (p:Int),.bool b,.slice (.own tb) 7 (nds t)]
def onQ (o:Option AObj) (K:Mark→List Tok→Nat→Bool→Nat→List Nd→Prop):Prop:=∃ m l p b tb t,o=some (rst m l p b tb t)∧K m l p b tb t
@[congr] theorem Al {o o':Option AObj} {K:Mark→List Tok→Nat→Bool→Nat→List Nd→Prop} (h:o=o'):onQ o K=onQ o' K:=by rw [h]
theorem ar {m:Mark} {l:List Tok} {p tb:Nat} {b:Bool} {t:List Nd} {K:Mark→List Tok→Nat→Bool→Nat→List Nd→Prop}:onQ (some (rst m l p b tb t)) K=K m l p b tb t:=by
 refine propext ⟨fun ⟨m',l',p',b',tb',t',h,hk⟩=>?_,fun h=>⟨m,l,p,b,tb,t,rfl,h⟩⟩
 simp only [rst,Option.some.injEq,AObj.cells.injEq,List.cons.injEq,AV.slice.injEq,AV.int.injEq,AV.bool.injEq,Mark.own.injEq,true_and,and_true] at h
 obtain ⟨⟨rfl,h1⟩,h2,rfl,rfl,h3⟩:=h
 have:=nb h1
 have:=p7 h3
 have:p=p':=by omega
 subst_vars
 exact hk
theorem bO {m:Mark} {l:List Tok} {p tb:Nat} {b:Bool} {t:List Nd} {K:Mark→List Tok→Nat→Bool→Nat→List Nd→Prop}:onQ (some (.cells [.slice m 3 (bR l),.int .i64 (p:Int),.bool b,.slice (.own tb) 7 (nds t)])) K=K m l p b tb t:=ar
theorem dY {H:AHeap} {id:Nat} {m:Mark} {l:List Tok} {p tb:Nat} {b:Bool} {t:List Nd} (hg:H.get id=some (rst m l p b tb t)) (hcl:H.Closed) (p':Nat) (b':Bool) (t':List Nd):(H.set id (rst m l p' b' tb t')).Closed:=by
 have h0:=hcl id _ hg 0 (by simp)
 have h2:=hcl id _ hg 3 (by simp)
 simp only [List.getElem_cons_zero,List.getElem_cons_succ,kK,cI] at h0 h2
 refine ah hcl ?_
 simp only [zno,znp,kK,cI,zmz,zna,and_true,true_and]
 exact ⟨h0,h2⟩
def au:List AV→AHeap→(AEnd→AHeap→Prop)→Prop
 |[.ptr id 0,.agg [.int .i64 op,.int .i64 a,.int .i64 b,.str nm,.str att,.int .u64 hi,.int .u64 lo]],H,K=>onQ (H.get id) fun m l p bd tb t =>
   (0≤op∧0≤a∧0≤b∧isV hi lo∧id≠tb∧H.get tb=some (.buf 7 t.length)∧t.length≤100000) ∧
   K (.ret (.int .i64 (t.length:Int))) ((H.set id (rst m l p bd tb (t++[⟨op.toNat,a.toNat,b.toNat,nm,att,vOf hi.toNat lo.toNat⟩]))).set tb (.buf 7 (t.length+1)))
 |_,_,_=>False
theorem db:EntOk Try.prog 72 (Ent.effect au):=by
 refine EntOk.effect fun args H K h=>?_
 unfold au at h
 split at h
 rotate_left
 ·exact h.elim
 rename_i id op a b nm att hi lo
 obtain ⟨m,l,p,bd,tb,t,hg,⟨h1,h2,h3,⟨h4,h5,h6,h7⟩,hne,htb,htl⟩,hK⟩:=h
 refine ⟨_,_,hK,?_⟩
 clear hK
 obtain ⟨op,rfl⟩:=bQ h1
 obtain ⟨a,rfl⟩:=bQ h2
 obtain ⟨b,rfl⟩:=bQ h3
 obtain ⟨hi,rfl⟩:=bQ h4
 obtain ⟨lo,rfl⟩:=bQ h6
 simp only [Int.toNat_natCast]
 refine ACalls.fW aI TblOk.nil Try.func72 [.tmp 4] (Nat.le_refl _) (T:=aA [(1,[[],[],[],[],[],[],[5],[4,5],[],[],[4,5]])]) (h:=fun hcl hlt=>?_)
 clear hlt
 have hid:=AHeap.get_lt hg
 have htbl:=AHeap.get_lt htb
 have hcs:=bz (cs:=[.slice m 3 (bR l),.int .i64 (p:Int),.bool bd,.slice (.own tb) 7 (nds t)]) hg
 have f1:=bq hid
 have f2:=bq htbl
 have g1:(id=tb)=False:=eq_false hne
 have g2:(tb=id)=False:=eq_false fun e=>hne e.symm
 have e1:nds t++[AV.agg [.int .i64 (op:Int),.int .i64 (a:Int),.int .i64 (b:Int),.str nm,.str att,.int .u64 (hi:Int),.int .u64 (lo:Int)]]=nds (t++[⟨op,a,b,nm,att,vOf hi lo⟩]):=by
  rw [← qM];unfold ik;simp only;rw [wA (by omega),xB (by omega)]
 have e2:IntKind.i64.wrap (((t.length+1:Nat):Int) - 1)=(t.length:Int):=by rw [wrap_i64]<;>omega
 have hcl1:=dY hg hcl p bd (t++[⟨op,a,b,nm,att,vOf hi lo⟩])
 have hcl2:((H.set id (rst m l p bd tb (t++[⟨op,a,b,nm,att,vOf hi lo⟩]))).set tb (.buf 7 (t.length+1))).Closed:=aa hcl1
 have s1:=gT (H:=H) hne
 have s2:=fun o=>(bC (H:=H) hne o).trans hcs
 have s3:∀ o cs,aC ((H.set id (.cells cs)).set tb o) id=some cs:=fun o cs=>by rw [bC hne,cx hid,if_pos rfl]
 simp only [go_sem,hcs,aD,f1,f2,g1,g2,htb,bL,if_pos htbl,e1,s1,s2,s3,e2,List.length_append]
 refine ⟨⟨by omega,by omega,by simp [aX,AV.cells,AV.one]⟩,?_⟩
 simp only [rst] at hcl2 ⊢
 simp (disch:=first|assumption|omega|(simp;done)|(simp;omega)|(simp only [bt,and_true];first|done|omega|(simp;done))) [↓zmi,beq,ybc,ybd,ybe,ag,wk,wk2,wk1,wkM,wkL,am,ybf,hcl2,htbl,cI]
def aM:List AV→AHeap→(AV→Prop)→Prop
 |[.ptr id 0,.str s],H,K=>onQ (H.get id) fun m l p b tb t=>(p≤l.length∧l.length≤100000)∧K (.bool (!b&&isS l p s))
 |_,_,_=>False
theorem pj:EntOk Try.prog 88 (Ent.pure aM):=by
 refine EntOk.pure fun args H K h=>?_
 unfold aM at h
 split at h
 rotate_left
 ·exact h.elim
 rename_i id s
 obtain ⟨m,l,p,b,tb,t,hg,⟨hp,hl⟩,hK⟩:=h
 have hid:=AHeap.get_lt hg
 have hcs:=bz (cs:=[.slice m 3 (bR l),.int .i64 (p:Int),.bool b,.slice (.own tb) 7 (nds t)]) hg
 refine ⟨_,hK,?_⟩
 clear hK
 refine ACalls.fW aI TblOk.nil Try.func88 [.tmp 4] (Nat.le_refl _) (T:=aA []) (h:=fun hcl hlt=>?_)
 clear hlt
 cases b with
 |true =>
  simp only [go_sem,hcs]
  simp (disch:=first|assumption|omega|(simp;done)|(simp;omega)|(simp only [bt,and_true];first|done|omega|(simp;done))) [↓zmi,beq,ybc,ybd,ybe,ag,wk,wk2,wk1,wkM,wkL,am,ybf,hcl]
 |false =>
  by_cases hlt0:p<l.length
  ·rcases htk:l[p] with ⟨k,x,z⟩
   have hgd:=hP hlt0 htk
   have d1:decide ((p:Int)<(l.length:Int))=true:=by simp;omega
   rw [tg hlt0 htk]
   by_cases hk:k=3
   ·subst hk
    have d2:(((3:Nat):Int)==3)=true:=rfl
    simp only [go_sem,hcs,aB,hgd,d1,d2,Int.toNat_natCast]
    refine ⟨by omega,by omega,?_⟩
    simp (disch:=first|assumption|omega|(simp;done)|(simp;omega)|(simp only [bt,and_true];first|done|omega|(simp;done))) [↓zmi,beq,ybc,ybd,ybe,ag,wk,wk2,wk1,wkM,wkL,am,ybf,hcl]
   ·have d2:((k:Int)==3)=false:=by simp;omega
    have d3:(k==3)=false:=by simpa using hk
    simp only [go_sem,hcs,aB,hgd,d1,d2,Int.toNat_natCast]
    refine ⟨by omega,?_⟩
    simp (disch:=first|assumption|omega|(simp;done)|(simp;omega)|(simp only [bt,and_true];first|done|omega|(simp;done))) [↓zmi,beq,ybc,ybd,ybe,ag,wk,wk2,wk1,wkM,wkL,am,ybf,hcl,d3]
  ·have d1:decide ((p:Int)<(l.length:Int))=false:=by simp;omega
   rw [pP (by omega)]
   simp only [go_sem,hcs,aB,d1]
   simp (disch:=first|assumption|omega|(simp;done)|(simp;omega)|(simp only [bt,and_true];first|done|omega|(simp;done))) [↓zmi,beq,ybc,ybd,ybe,ag,wk,wk2,wk1,wkM,wkL,am,ybf,hcl]
def av:List AV→AHeap→(AEnd→AHeap→Prop)→Prop
 |[.ptr id 0,.str s],H,K=>onQ (H.get id) fun m l p b tb t=>(p≤l.length∧l.length≤100000) ∧
   if (!b&&isS l p s)=true then K (.ret (.bool true)) (H.set id (rst m l (p+1) b tb t)) else K (.ret (.bool false)) H
 |_,_,_=>False
theorem dr:EntOk Try.prog 71 (Ent.effect av):=by
 refine EntOk.effect fun args H K h=>?_
 unfold av at h
 split at h
 rotate_left
 ·exact h.elim
 rename_i id s
 obtain ⟨m,l,p,b,tb,t,hg,⟨hp,hl⟩,hK⟩:=h
 have hid:=AHeap.get_lt hg
 have hcs:=bz (cs:=[.slice m 3 (bR l),.int .i64 (p:Int),.bool b,.slice (.own tb) 7 (nds t)]) hg
 have e1:IntKind.i64.wrap ((p:Int)+1)=((p+1:Nat):Int):=by rw [wrap_i64]<;>omega
 cases hs:(!b&&isS l p s) with
 |true =>
  rw [hs,if_pos rfl] at hK
  refine ⟨_,_,hK,?_⟩
  clear hK
  refine ACalls.fW aI (TblOk.cons pj TblOk.nil) Try.func71 [.tmp 4] (Nat.le_refl _) (T:=aA []) (h:=fun hcl hlt=>?_)
  clear hlt
  have hcl1:=dY hg hcl (p+1) b t
  simp only [go_sem,aM,hg,ar,hp,hl,hs,hcs,e1]
  change ag (H.set id (rst m l (p+1) b tb t)) _ _ _
  simp (disch:=first|assumption|omega|(simp;done)|(simp;omega)|(simp only [bt,and_true];first|done|omega|(simp;done))) [↓zmi,beq,ybc,ybd,ybe,ag,wk,wk2,wk1,wkM,wkL,am,ybf,hcl1]
 |false =>
  rw [hs,if_neg (by simp)] at hK
  refine ⟨_,_,hK,?_⟩
  clear hK
  refine ACalls.fW aI (TblOk.cons pj TblOk.nil) Try.func71 [.tmp 4] (Nat.le_refl _) (T:=aA []) (h:=fun hcl hlt=>?_)
  clear hlt
  simp only [go_sem,aM,hg,ar,hp,hl,hs,hcs,e1]
  simp (disch:=first|assumption|omega|(simp;done)|(simp;omega)|(simp only [bt,and_true];first|done|omega|(simp;done))) [↓zmi,beq,ybc,ybd,ybe,ag,wk,wk2,wk1,wkM,wkL,am,ybf,hcl]
def kp:List AV→AHeap→(AEnd→AHeap→Prop)→Prop
 |[.ptr id 0,.str x],H,K=>onQ (H.get id) fun m l p b tb t=>(b=false∧id≠tb∧H.get tb=some (.buf 7 t.length)∧t.length≤100000∧p≤l.length∧l.length≤100000) ∧
   if isS l p [58,58]=true then
    onW (fw l (p+1)) (fun y=>K (.ret (.int .i64 (t.length:Int))) ((H.set id (rst m l (p+1+1) false tb (t++[⟨3,0,0,x,y,0⟩]))).set tb (.buf 7 (t.length+1)))) (K (.ret (.int .i64 0)) (H.set id (rst m l (p+1) true tb t)))
   else K (.ret (.int .i64 (t.length:Int))) ((H.set id (rst m l p false tb (t++[⟨3,0,0,x,[],0⟩]))).set tb (.buf 7 (t.length+1)))
 |_,_,_=>False
theorem za:EntOk Try.prog 107 (Ent.effect kp):=by
 refine EntOk.effect fun args H K h=>?_
 unfold kp at h
 split at h
 rotate_left
 ·exact h.elim
 rename_i id x
 obtain ⟨m,l,p,b,tb,t,hg,⟨rfl,hne,htb,ht,hp,hl⟩,hK⟩:=h
 have hid:=AHeap.get_lt hg
 have htbl:=AHeap.get_lt htb
 have hcs:=bz (cs:=[.slice m 3 (bR l),.int .i64 (p:Int),.bool false,.slice (.own tb) 7 (nds t)]) hg
 have f1:=bq hid
 have f2:=bq htbl
 have g1:(id=tb)=False:=eq_false hne
 have hgi:∀ o,(H.set id o).get id=some o:=fun o=>AHeap.get_set_same _ _ hid
 have hgt:∀ o,(H.set id o).get tb=some (.buf 7 t.length):=fun o=>by rw [AHeap.get_set_ne _ _ (fun e=>hne e.symm)];exact htb
 have hss:∀ X Y,(H.set id X).set id Y=H.set id Y:=fun X Y=>by simp only [AHeap.set];congr 1;funext k;by_cases hk:k=id<;>simp [hk]
 have hcc:∀ cs,aC (H.set id (.cells cs)) id=some cs:=fun cs=>by rw [cx hid,if_pos rfl]
 cases hs:isS l p [58,58] with
 |false =>
  rw [hs,if_neg (by simp)] at hK
  refine ⟨_,_,hK,?_⟩
  clear hK
  refine ACalls.fW aI (TblOk.cons dr (TblOk.cons db TblOk.nil)) Try.func107 [.tmp 4] (Nat.le_refl _) (T:=aA [(7,[[],[],[],[],[],[],[],[],[],[],[],[],[],[],[],[5,9,13]])]) (h:=fun hcl hlt=>?_)
  clear hlt
  have hcl1:=dY hg hcl p false (t++[⟨3,0,0,x,[],0⟩])
  have hcl2:((H.set id (rst m l p false tb (t++[⟨3,0,0,x,[],0⟩]))).set tb (.buf 7 (t.length+1))).Closed:=aa hcl1
  simp only [go_sem,av,au,hg,ar,hp,hl,hs,Bool.not_false,Bool.true_and,if_false,hne,ne_eq,g1,not_false_eq_true,htb,ht,aG,aH,Int.reduceLE]
  simp (disch:=first|assumption|omega|(simp;done)|(simp;omega)|(simp only [bt,and_true];first|done|omega|(simp;done))) [↓zmi,beq,ybc,ybd,ybe,ag,wk,wk2,wk1,wkM,wkL,am,ybf,hcl2]
 |true =>
  rw [hs,if_pos rfl] at hK
  have hlt0:=bT hs
  have e1:IntKind.i64.wrap (((p+1:Nat):Int)+1)=((p+1+1:Nat):Int):=by rw [wrap_i64]<;>omega
  have e2:IntKind.i64.wrap (((p+1+1:Nat):Int) - 1)=((p+1:Nat):Int):=by rw [wrap_i64]<;>omega
  unfold fw at hK
  by_cases hlt1:p+1<l.length
  ·rcases htk:l[p+1] with ⟨k,y,z⟩
   have hgd:=hP hlt1 htk
   rw [List.getElem?_eq_getElem hlt1,htk] at hK
   dsimp only at hK
   have d1:(((p+1:Nat):Int)==(l.length:Int))=false:=by simp;omega
   by_cases hk:k=2
   ·subst hk
    rw [if_pos rfl,dH] at hK
    refine ⟨_,_,hK,?_⟩
    clear hK
    refine ACalls.fW aI (TblOk.cons dr (TblOk.cons db TblOk.nil)) Try.func107 [.tmp 4] (Nat.le_refl _) (T:=aA [(7,[[],[],[],[],[],[],[],[],[],[],[],[],[],[],[],[5,9,13]])]) (h:=fun hcl hlt=>?_)
    clear hlt
    have d2:(((2:Nat):Int) != 2)=false:=rfl
    have hcl1:=dY hg hcl (p+1+1) false (t++[⟨3,0,0,x,y,0⟩])
    have hcl2:((H.set id (rst m l (p+1+1) false tb (t++[⟨3,0,0,x,y,0⟩]))).set tb (.buf 7 (t.length+1))).Closed:=aa hcl1
    simp only [go_sem,av,au,hg,ar,bO,hp,hl,hs,Bool.not_false,Bool.true_and,if_true,hne,ne_eq,g1,not_false_eq_true,hgi,hgt,hss,hcc,ht,aG,aH,Int.reduceLE,rst,aB,hgd,d1,d2,e1,e2,Int.toNat_natCast]
    refine ⟨by omega,by omega,?_⟩
    change ag ((H.set id (rst m l (p+1+1) false tb (t++[⟨3,0,0,x,y,0⟩]))).set tb (.buf 7 (t.length+1))) _ ((H.set id (rst m l (p+1+1) false tb (t++[⟨3,0,0,x,y,0⟩]))).set tb (.buf 7 (t.length+1))) _
    simp (disch:=first|assumption|omega|(simp;done)|(simp;omega)|(simp only [bt,and_true];first|done|omega|(simp;done))) [↓zmi,beq,ybc,ybd,ybe,ag,wk,wk2,wk1,wkM,wkL,am,ybf,hcl2]
   ·have d2:((k:Int) != 2)=true:=by simp;omega
    rw [if_neg hk,cQ] at hK
    refine ⟨_,_,hK,?_⟩
    clear hK
    refine ACalls.fW aI (TblOk.cons dr (TblOk.cons db TblOk.nil)) Try.func107 [.tmp 4] (Nat.le_refl _) (T:=aA [(7,[[],[],[],[],[],[],[],[],[],[],[],[],[],[],[],[5,9,13]])]) (h:=fun hcl hlt=>?_)
    clear hlt
    have hcl1:=dY hg hcl (p+1) true t
    simp only [go_sem,av,au,hg,ar,bO,hp,hl,hs,Bool.not_false,Bool.true_and,if_true,hne,ne_eq,g1,not_false_eq_true,hgi,hgt,hss,hcc,ht,rst,aB,hgd,d1,d2,Int.toNat_natCast]
    refine ⟨by omega,?_⟩
    change ag (H.set id (rst m l (p+1) true tb t)) _ (H.set id (rst m l (p+1) true tb t)) _
    simp (disch:=first|assumption|omega|(simp;done)|(simp;omega)|(simp only [bt,and_true];first|done|omega|(simp;done))) [↓zmi,beq,ybc,ybd,ybe,ag,wk,wk2,wk1,wkM,wkL,am,ybf,hcl1]
  ·have hpe:p+1=l.length:=by omega
   rw [List.getElem?_eq_none (by omega)] at hK
   dsimp only at hK
   rw [cQ] at hK
   refine ⟨_,_,hK,?_⟩
   clear hK
   refine ACalls.fW aI (TblOk.cons dr (TblOk.cons db TblOk.nil)) Try.func107 [.tmp 4] (Nat.le_refl _) (T:=aA [(7,[[],[],[],[],[],[],[],[],[],[],[],[],[],[],[],[5,9,13]])]) (h:=fun hcl hlt=>?_)
   clear hlt
   have d1:(((p+1:Nat):Int)==(l.length:Int))=true:=by simp;omega
   have hcl1:=dY hg hcl (p+1) true t
   simp only [go_sem,av,au,hg,ar,bO,hp,hl,hs,Bool.not_false,Bool.true_and,if_true,hne,ne_eq,g1,not_false_eq_true,hgi,hgt,hss,hcc,ht,rst,aB,d1,Int.toNat_natCast]
   change ag (H.set id (rst m l (p+1) true tb t)) _ (H.set id (rst m l (p+1) true tb t)) _
   simp (disch:=first|assumption|omega|(simp;done)|(simp;omega)|(simp only [bt,and_true];first|done|omega|(simp;done))) [↓zmi,beq,ybc,ybd,ybe,ag,wk,wk2,wk1,wkM,wkL,am,ybf,hcl1]
end Go.AL
open Go Go.AL Go.Proofs
namespace Go.AL
set_option linter.all false
set_option maxRecDepth 10000
def xn (m:Mark) (l:List Tok) (tb id:Nat) (H:AHeap) (K:AV→AHeap→Prop) (p0:Nat) (t0:List Nd) (o:Option PR):Prop:=match o with
 |none=>False
 |some (.ok a p t)=>K (.int .i64 (a:Int)) ((H.set id (rst m l p false tb t)).set tb (.buf 7 t.length))
 |some (.bad p)=>∀ (a:Nat) (t:List Nd),t.length+p0≤t0.length+p→K (.int .i64 (a:Int)) ((H.set id (rst m l p true tb t)).set tb (.buf 7 t.length))
section
variable {m:Mark} {l:List Tok} {tb id p0:Nat} {H:AHeap} {K:AV→AHeap→Prop} {t0:List Nd}
@[congr] theorem z6 {o o':Option PR} (h:o=o'):xn m l tb id H K p0 t0 o=xn m l tb id H K p0 t0 o':=by rw [h]
theorem az {a p:Nat} {t:List Nd}:xn m l tb id H K p0 t0 (some (.ok a p t))=K (.int .i64 (a:Int)) ((H.set id (rst m l p false tb t)).set tb (.buf 7 t.length)):=rfl
theorem aq {p:Nat}:xn m l tb id H K p0 t0 (some (.bad p))=∀ (a:Nat) (t:List Nd),t.length+p0≤t0.length+p→K (.int .i64 (a:Int)) ((H.set id (rst m l p true tb t)).set tb (.buf 7 t.length)):=rfl
end
/-- is there no literal, unless one is allowed -/
def tA (A:Prop) (l:List Tok):Prop:=∀ p,kh l p=1→A
def aE (A:Prop) (rl:Rl) (f:Nat):List AV→AHeap→(AV→AHeap→Prop)→Prop
 |[.ptr id 0],H,K=>onQ (H.get id) fun m l p b tb t=>(b=false∧dh H id tb l p t∧tA A l)∧xn m l tb id H K p t (run l f rl p t)
 |_,_,_=>False
def dD (A:Prop) (f:Nat):=aE A .imp f
def jR (A:Prop) (f:Nat):=aE A .or f
def gE (A:Prop) (f:Nat):=aE A .and f
def ef (A:Prop) (f:Nat):=aE A .not f
def j6 (A:Prop) (f:Nat):=aE A .cmp f
def gD (A:Prop) (f:Nat):=aE A .sum f
def fo (A:Prop) (f:Nat):=aE A .un f
def g8 (A:Prop) (f:Nat):=aE A .atom f
theorem fE {H:AHeap} {id tb p p':Nat} {o:AObj} {l:List Tok} {t t':List Nd} (h:dh H id tb l p t) (hp:p'≤l.length) (ht:t'.length≤p') (hg:Good t'):dh ((H.set id o).set tb (.buf 7 t'.length)) id tb l p' t':=by
 obtain ⟨h1,h2,h3,h4,h5,h6,h7⟩:=h
 have htb:=AHeap.get_lt h2
 refine ⟨h1,?_,ht,hp,h5,h6,hg⟩
 rw [bL,if_pos rfl,if_pos (by simpa [zkz] using htb)]
theorem dp {H:AHeap} {id tb p:Nat} {m:Mark} {l:List Tok} {b:Bool} {t:List Nd} (hg:H.get id=some (rst m l p b tb t)) (h:dh H id tb l p t) (hcl:H.Closed) :
 (∀ X Y,((H.set id X).set tb Y).get id=some X)∧(∀ X Y,((H.set id X).set tb Y).get tb=some Y)∧(∀ X Y Z,((H.set id X).set tb Y).set id Z=(H.set id Z).set tb Y) ∧
   (∀ p' b' t',((H.set id (rst m l p' b' tb t')).set tb (.buf 7 t'.length)).Closed)∧(∀ X Y Z,((H.set id X).set tb Y).set tb Z=(H.set id X).set tb Z):=by
 obtain ⟨h1,h2,h3,h4,h5,h6,h7⟩:=h
 have hid:=AHeap.get_lt hg
 have htb:=AHeap.get_lt h2
 refine ⟨fun X Y=>?_,fun X Y=>?_,fun X Y Z=>?_,fun p' b' t'=>aa (dY hg hcl p' b' t'),fun X Y Z=>?_⟩
 ·rw [AHeap.get_set_ne _ _ h1];exact AHeap.get_set_same _ _ hid
 ·exact AHeap.get_set_same _ _ (by simpa [zkz] using htb)
 ·rw [gT h1];congr 1;simp only [AHeap.set];congr 1;funext k;by_cases hk:k=id<;>simp [hk]
 ·simp only [AHeap.set];congr 1;funext k;by_cases hk:k=tb<;>simp [hk]
theorem bw {n:Nat} {K:AV→AHeap→Prop} {H1 H':AHeap} {z:Int} (h:K (.int .i64 z) H1) (hn:n≤H1.nx) (hl:H1.Le H') (hc:H1.Closed):k7 n K (.int .i64 z) H' :=
 ⟨_,_,h,hn,by simp [zmi],hl,hc,by simp [zmz]⟩
theorem mG {H:AHeap} {tb:Nat} {t:List Nd} (h:H.get tb=some (.buf 7 t.length)) {id:Nat} (hne:id≠tb) (X:AObj):H.set id X=(H.set id X).set tb (.buf 7 t.length):=by
 have h2:=AHeap.get_lt h
 unfold AHeap.get at h
 rw [if_pos h2] at h
 simp only [AHeap.set]
 congr 1
 funext k
 by_cases hk:k=tb
 ·subst hk;simp [Ne.symm hne,h]
 ·simp [hk]
theorem yI {A:Prop} {f:Nat} (h_zOr:EntOk Try.prog 70 (Ent.some (jR A f))) (h_zImp:EntOk Try.prog 40 (Ent.some (dD A f))):EntOk Try.prog 40 (Ent.some (dD A (f+1))):=by
 refine EntOk.some fun args H K h=>?_
 unfold dD aE at h
 split at h
 rotate_left
 ·exact h.elim
 rename_i id
 obtain ⟨m,l,p,b,tb,t,hg,⟨rfl,hpre,hfree⟩,hK⟩:=h
 cases ho:run l (f+1) .imp p t with
 |none=>rw [ho] at hK;exact hK.elim
 |some r =>
 rw [ho] at hK
 rw [run] at ho
 simp only [cr] at ho
 have hpre':=hpre
 obtain ⟨hne,htb,ht,hp,hl,hgl,hgt⟩:=hpre
 have hid:=AHeap.get_lt hg
 have htbl:=AHeap.get_lt htb
 have f1:=bq hid
 have f2:=bq htbl
 have hl5:l.length≤100000:=by omega
 have i1:=@Int.natCast_nonneg
 have hne':(id=tb)=False:=eq_false hne
 have hnx:∀ X Y,H.nx≤((H.set id X).set tb Y).nx:=fun X Y=>Nat.le_refl _
 refine ACallsP.of_aw (Ω:=[(70,Ent.some (jR A f)),(71,Ent.effect av),(40,Ent.some (dD A f)),(72,Ent.effect au)]) (T:=aA []) aI (TblOk.cons h_zOr (TblOk.cons dr (TblOk.cons h_zImp (TblOk.cons db TblOk.nil)))) Try.func40 (by kernel_rfl) (by rfl) (rs:=[.tmp 2]) (by rfl) (by kernel_rfl) (by simp only [Try.ntmps40,yaz,yba];decide) fun hcl hlt=>?_
 change aw _ _ _ (KI Try.prog [(70,Ent.some (jR A f)),(71,Ent.effect av),(40,Ent.some (dD A f)),(72,Ent.effect au)] (dK Try.prog [.tmp 2] H.nx _) []) _ _
 clear hlt
 obtain ⟨hgi,hgt',hsi,hcl2,hst⟩:=dp hg hpre' hcl
 rcases aJ ho with ⟨q,h1,rfl⟩|⟨a,p1,t1,h1,h2⟩
 ·have hq:=aN _ h1 hgt trivial hp
  obtain ⟨hq1,hq2⟩:=hq
  simp only [go_sem,hfree,f1,f2,hgi,hgt',hsi,hst,ar,aq,az,av,aM,au,aE,hne,ne_eq,hne',hl5,Int.toNat_natCast,aG,aH,i1,Int.reduceLE,eq_self,not_false_eq_true,Bool.not_true,Bool.not_false,Bool.true_and,Bool.false_and,List.length_append,yaz,yba,Nat.zero_add,jR,hg,hpre',h1]
  intro a t' hb
  simp only [aP,go_sem,hfree,f1,f2,hgi,hgt',hsi,hst,ar,aq,az,av,aM,au,aE,hne,ne_eq,hne',hl5,Int.toNat_natCast,aG,aH,i1,Int.reduceLE,eq_self,not_false_eq_true,Bool.not_true,Bool.not_false,Bool.true_and,Bool.false_and,List.length_append,yaz,yba,Nat.zero_add,hq1]
  exact bw (hK a t' hb) (hnx _ _) (AHeap.Le.refl _) (hcl2 _ _ _)
 clear ho
 obtain ⟨k1,k2,k3,k4,k5,k6⟩:=aN _ h1 hgt trivial hp
 simp only [Rl.isL,Bool.false_eq_true,if_false] at k4
 have hp1:dh ((H.set id (rst m l p1 false tb t1)).set tb (.buf 7 t1.length)) id tb l p1 t1:=fE hpre' k2 (by omega) k5
 cases hs:isS l p1 [45,62] with
 |false =>
  rw [hs,if_neg (by simp)] at h2
  cases h2
  simp only [go_sem,hfree,f1,f2,hgi,hgt',hsi,hst,ar,aq,az,av,aM,au,aE,hne,ne_eq,hne',hl5,Int.toNat_natCast,aG,aH,i1,Int.reduceLE,eq_self,not_false_eq_true,Bool.not_true,Bool.not_false,Bool.true_and,Bool.false_and,List.length_append,yaz,yba,Nat.zero_add,jR,hg,hpre',h1,k2,hs,if_false]
  exact bw hK (hnx _ _) (AHeap.Le.refl _) (hcl2 _ _ _)
 |true =>
  rw [hs,if_pos rfl] at h2
  have hlt1:=bT hs
  have hp2:dh ((H.set id (rst m l (p1+1) false tb t1)).set tb (.buf 7 t1.length)) id tb l (p1+1) t1:=fE hpre' hlt1 (by omega) k5
  rcases aJ h2 with ⟨q,h3,rfl⟩|⟨b,p2,t2,h3,h4⟩
  ·obtain ⟨hq1,hq2⟩:=aN _ h3 k5 trivial hlt1
   simp only [go_sem,hfree,f1,f2,hgi,hgt',hsi,hst,ar,aq,az,av,aM,au,aE,hne,ne_eq,hne',hl5,Int.toNat_natCast,aG,aH,i1,Int.reduceLE,eq_self,not_false_eq_true,Bool.not_true,Bool.not_false,Bool.true_and,Bool.false_and,List.length_append,yaz,yba,Nat.zero_add,jR,dD,hg,hpre',h1,k2,hs,if_true,hp2,h3]
   intro b t' hb
   have ht2:t'.length≤100000:=by omega
   simp only [aP,go_sem,hfree,f1,f2,hgi,hgt',hsi,hst,ar,aq,az,av,aM,au,aE,hne,ne_eq,hne',hl5,Int.toNat_natCast,aG,aH,i1,Int.reduceLE,eq_self,not_false_eq_true,Bool.not_true,Bool.not_false,Bool.true_and,Bool.false_and,List.length_append,yaz,yba,Nat.zero_add,hq1,ht2]
   have hK':=hK t'.length (t'++[⟨16,a,b,[],[],0⟩]) (by simp;omega)
   have hc3:=hcl2 q true (t'++[⟨16,a,b,[],[],0⟩])
   simp only [List.length_append,yaz,yba,Nat.zero_add] at hK' hc3
   exact bw hK' (hnx _ _) (AHeap.Le.refl _) hc3
  cases h4
  obtain ⟨k1b,k2b,k3b,k4b,k5b,k6b⟩:=aN _ h3 k5 trivial hlt1
  simp only [Rl.isL,Bool.false_eq_true,if_false] at k4b
  have ht2:t2.length≤100000:=by omega
  simp only [go_sem,hfree,f1,f2,hgi,hgt',hsi,hst,ar,aq,az,av,aM,au,aE,hne,ne_eq,hne',hl5,Int.toNat_natCast,aG,aH,i1,Int.reduceLE,eq_self,not_false_eq_true,Bool.not_true,Bool.not_false,Bool.true_and,Bool.false_and,List.length_append,yaz,yba,Nat.zero_add,jR,dD,hg,hpre',h1,k2,hs,if_true,hp2,h3,ht2,nd2]
  have hc3:=hcl2 p2 false (t2++[⟨16,a,b,[],[],0⟩])
  simp only [List.length_append,yaz,yba,Nat.zero_add,az,nd2] at hK hc3
  exact bw hK (hnx _ _) (AHeap.Le.refl _) hc3
theorem yx {l:List Tok} {p:Nat} {s s':List UInt8} (h:isS l p s=true) (h':isS l p s'=true):s=s':=by
 unfold isS at h h'
 split at h
 ·rename_i k x z e
  rw [e] at h'
  simp only [Bool.and_eq_true,beq_iff_eq] at h h'
  rw [← h.2,h'.2]
 ·cases h
theorem tJ {m:Mark} {l:List Tok} {p tb:Nat} {b:Bool} {t:List Nd}:rst m l p b tb t=.cells [.slice m 3 (bR l),.int .i64 (p:Int),.bool b,.slice (.own tb) 7 (nds t)]:=rfl
theorem zH {A:Prop} {f:Nat} (h_zAnd:EntOk Try.prog 87 (Ent.some (gE A f))):EntOk Try.prog 70 (Ent.some (jR A (f+1))):=by
 refine EntOk.some fun args H K h=>?_
 unfold jR aE at h
 split at h
 rotate_left
 ·exact h.elim
 rename_i id
 obtain ⟨m,l,p,b,tb,t,hg,⟨rfl,hpre,hfree⟩,hK⟩:=h
 cases ho:run l (f+1) .or p t with
 |none=>rw [ho] at hK;exact hK.elim
 |some r =>
 rw [ho] at hK
 rw [run] at ho
 simp only [cr] at ho
 have hpre':=hpre
 obtain ⟨hne,htb,ht,hp,hl,hgl,hgt⟩:=hpre
 have hid:=AHeap.get_lt hg
 have htbl:=AHeap.get_lt htb
 have f1:=bq hid
 have f2:=bq htbl
 have hl5:l.length≤100000:=by omega
 have i1:=@Int.natCast_nonneg
 have hne':(id=tb)=False:=eq_false hne
 have hnx:∀ X Y,H.nx≤((H.set id X).set tb Y).nx:=fun X Y=>Nat.le_refl _
 refine ACallsP.of_aw (Ω:=[(87,Ent.some (gE A f)),(71,Ent.effect av),(72,Ent.effect au)]) (T:=aA []) aI (TblOk.cons h_zAnd (TblOk.cons dr (TblOk.cons db TblOk.nil))) Try.func70 (by kernel_rfl) (by rfl) (rs:=[.tmp 2]) (by rfl) (by kernel_rfl) (by simp only [Try.ntmps70,yaz,yba];decide) fun hcl hlt=>?_
 change aw _ _ _ (KI Try.prog [(87,Ent.some (gE A f)),(71,Ent.effect av),(72,Ent.effect au)] (dK Try.prog [.tmp 2] H.nx _) []) _ _
 clear hlt
 obtain ⟨hgi,hgt',hsi,hcl2,hst⟩:=dp hg hpre' hcl
 rcases aJ ho with ⟨q,h1,hrq⟩|⟨a,p1,t1,h1,h2⟩
 case' inl =>
  obtain ⟨hq1,hq2⟩:=aN _ h1 hgt trivial hp
  simp only [go_sem,hfree,f1,f2,hgi,hgt',hsi,hst,ar,aq,az,av,aM,au,aE,hne,ne_eq,hne',hl5,Int.toNat_natCast,aG,aH,i1,Int.reduceLE,eq_self,not_false_eq_true,Bool.not_true,Bool.not_false,Bool.true_and,Bool.false_and,List.length_append,yaz,yba,Nat.zero_add,gE,hg,hpre',h1]
  intro a t' hb
  try simp only [aP,go_sem,hfree,f1,f2,hgi,hgt',hsi,hst,ar,aq,az,av,aM,au,aE,hne,ne_eq,hne',hl5,Int.toNat_natCast,aG,aH,i1,Int.reduceLE,eq_self,not_false_eq_true,Bool.not_true,Bool.not_false,Bool.true_and,Bool.false_and,List.length_append,yaz,yba,Nat.zero_add,hq1]
  refine ax (A:=Nat × Nat × Nat × List Nd × Bool) (fun x=>[(0,.ptr id 0),(3,.int .i64 (x.2.1:Int))]) (fun x=>(H.set id (rst m l x.2.2.1 x.2.2.2.2 tb x.2.2.2.1)).set tb (.buf 7 x.2.2.2.1.length)) (fun x=>(x.2.2.2.2=false∧x.1≤f∧run l x.1 (.orL x.2.1) x.2.2.1 x.2.2.2.1=some r∧x.2.2.1≤l.length∧x.2.2.2.1.length≤x.2.2.1∧Good x.2.2.2.1∧x.2.1<x.2.2.2.1.length∧x.2.2.2.1.length+p≤t.length+x.2.2.1)∨(x.2.2.2.2=true∧r=.bad x.2.2.1∧x.2.2.1≤l.length∧x.2.2.2.1.length+p≤t.length+x.2.2.1)) (fun x=>if x.2.2.2.2 then 0 else x.1+1) (0,a,q,t',true) (.inr ⟨rfl,hrq,hq1,hb⟩) ?_ ?_
  ·(simp only [bkq,enterW,aR,ltF,ne_eq,Nat.reduceEqDiff,reduceCtorEq,hcl2,hid];try simp (disch:=first|assumption|omega|(simp;done)|(simp;omega)|(simp only [bt,and_true];first|done|omega|(simp;done))) [↓zmi,beq,ybc,ybd,ybe,ag,wk,wk2,wk1,wkM,wkL,am,ybf,byq,biq,ae,hcl,hcl2,hid];try (repeat' (first|assumption|omega|exact True.intro|refine And.intro ?_ ?_|refine af ?_|refine aa ?_|refine ac ?_ ?_|refine ah ?_ ?_|refine aj ?_|exact AHeap.Le.refl _|refine AHeap.Le.push ?_ _|refine AHeap.Le.del ?_ ?_|(simp only [bt,and_true,true_and,hcl2,hid];first|done|omega|(simp;done)))))
 case' inr =>
  clear ho
  obtain ⟨k1,k2,k3,k4,k5,k6⟩:=aN _ h1 hgt trivial hp
  simp only [Rl.isL,Bool.false_eq_true,if_false] at k4
  simp only [go_sem,hfree,f1,f2,hgi,hgt',hsi,hst,ar,aq,az,av,aM,au,aE,hne,ne_eq,hne',hl5,Int.toNat_natCast,aG,aH,i1,Int.reduceLE,eq_self,not_false_eq_true,Bool.not_true,Bool.not_false,Bool.true_and,Bool.false_and,List.length_append,yaz,yba,Nat.zero_add,gE,hg,hpre',h1]
  refine ax (A:=Nat × Nat × Nat × List Nd × Bool) (fun x=>[(0,.ptr id 0),(3,.int .i64 (x.2.1:Int))]) (fun x=>(H.set id (rst m l x.2.2.1 x.2.2.2.2 tb x.2.2.2.1)).set tb (.buf 7 x.2.2.2.1.length)) (fun x=>(x.2.2.2.2=false∧x.1≤f∧run l x.1 (.orL x.2.1) x.2.2.1 x.2.2.2.1=some r∧x.2.2.1≤l.length∧x.2.2.2.1.length≤x.2.2.1∧Good x.2.2.2.1∧x.2.1<x.2.2.2.1.length∧x.2.2.2.1.length+p≤t.length+x.2.2.1)∨(x.2.2.2.2=true∧r=.bad x.2.2.1∧x.2.2.1≤l.length∧x.2.2.2.1.length+p≤t.length+x.2.2.1)) (fun x=>if x.2.2.2.2 then 0 else x.1+1) (f,a,p1,t1,false) (.inl ⟨rfl,Nat.le_refl _,h2,k2,(by show t1.length≤p1;omega),k5,k1,k3⟩) ?_ ?_
  ·(simp only [bkq,enterW,aR,ltF,ne_eq,Nat.reduceEqDiff,reduceCtorEq,hcl2,hid];try simp (disch:=first|assumption|omega|(simp;done)|(simp;omega)|(simp only [bt,and_true];first|done|omega|(simp;done))) [↓zmi,beq,ybc,ybd,ybe,ag,wk,wk2,wk1,wkM,wkL,am,ybf,byq,biq,ae,hcl,hcl2,hid];try (repeat' (first|assumption|omega|exact True.intro|refine And.intro ?_ ?_|refine af ?_|refine aa ?_|refine ac ?_ ?_|refine ah ?_ ?_|refine aj ?_|exact AHeap.Le.refl _|refine AHeap.Le.push ?_ _|refine AHeap.Le.del ?_ ?_|(simp only [bt,and_true,true_and,hcl2,hid];first|done|omega|(simp;done)))))
 all_goals
  clear h1
  intro x hx
  obtain ⟨g,a',p',t',bd⟩:=x
  rcases hx with ⟨hbd,x1,x2,x3,x4,x5,x6,x7⟩|⟨hbd,x1,x3,x7⟩
  ·dsimp only at hbd x1 x2 x3 x4 x5 x6 x7 ⊢
   subst hbd
   have ht':t'.length≤100000:=by omega
   cases g with
   |zero=>cases x2
   |succ g =>
   rw [run] at x2
   simp only [cr] at x2
   cases hs:isS l p' [124,124] with
   |false =>
    rw [hs,if_neg (by simp)] at x2
    rw [← x2,az] at hK
    simp only [go_sem,hfree,f1,f2,hgi,hgt',hsi,hst,ar,aq,az,av,aM,au,aE,hne,ne_eq,hne',hl5,Int.toNat_natCast,aG,aH,i1,Int.reduceLE,eq_self,not_false_eq_true,Bool.not_true,Bool.not_false,Bool.true_and,Bool.false_and,List.length_append,yaz,yba,Nat.zero_add,x3,hs,if_false]
    exact bw hK (hnx _ _) (AHeap.Le.refl _) (hcl2 _ _ _)
   |true =>
    rw [hs,if_pos rfl] at x2
    have hlt1:=bT hs
    have hp2:dh ((H.set id (rst m l (p'+1) false tb t')).set tb (.buf 7 t'.length)) id tb l (p'+1) t':=fE hpre' hlt1 (by omega) x5
    rcases aJ x2 with ⟨q2,h3,hr2⟩|⟨b,p2,t2,h3,h4⟩
    ·have h3':=bI (show g≤f by omega) h3
     obtain ⟨hq3,hq4⟩:=aN _ h3 x5 trivial hlt1
     simp only [go_sem,hfree,f1,f2,hgi,hgt',hsi,hst,ar,aq,az,av,aM,au,aE,hne,ne_eq,hne',hl5,Int.toNat_natCast,aG,aH,i1,Int.reduceLE,eq_self,not_false_eq_true,Bool.not_true,Bool.not_false,Bool.true_and,Bool.false_and,List.length_append,yaz,yba,Nat.zero_add,gE,x3,hs,if_true,hp2,h3']
     intro b t2 hb2
     have ht2:t2.length≤100000:=by omega
     simp only [aP,go_sem,hfree,f1,f2,hgi,hgt',hsi,hst,ar,aq,az,av,aM,au,aE,hne,ne_eq,hne',hl5,Int.toNat_natCast,aG,aH,i1,Int.reduceLE,eq_self,not_false_eq_true,Bool.not_true,Bool.not_false,Bool.true_and,Bool.false_and,List.length_append,yaz,yba,Nat.zero_add,ht2]
     have hc3:=hcl2 q2 true (t2++[⟨15,a',b,[],[],0⟩])
     refine ⟨(0,t2.length,q2,t2++[⟨15,a',b,[],[],0⟩],true),.inr ⟨rfl,hr2,hq3,by simp;omega⟩,by simp,?_⟩
     simp only [List.length_append,yaz,yba,Nat.zero_add] at hc3 ⊢
     (simp only [bkq,enterW,aR,ltF,ne_eq,Nat.reduceEqDiff,reduceCtorEq,hc3,hid];try simp (disch:=first|assumption|omega|(simp;done)|(simp;omega)|(simp only [bt,and_true];first|done|omega|(simp;done))) [↓zmi,beq,ybc,ybd,ybe,ag,wk,wk2,wk1,wkM,wkL,am,ybf,byq,biq,ae,hcl,hc3,hid];try (repeat' (first|assumption|omega|exact True.intro|refine And.intro ?_ ?_|refine af ?_|refine aa ?_|refine ac ?_ ?_|refine ah ?_ ?_|refine aj ?_|exact AHeap.Le.refl _|refine AHeap.Le.push ?_ _|refine AHeap.Le.del ?_ ?_|(simp only [bt,and_true,true_and,hc3,hid];first|done|omega|(simp;done)))))
    ·have h3':=bI (show g≤f by omega) h3
     obtain ⟨k1b,k2b,k3b,k4b,k5b,k6b⟩:=aN _ h3 x5 trivial hlt1
     simp only [Rl.isL,Bool.false_eq_true,if_false] at k4b
     have ht2:t2.length≤100000:=by omega
     simp only [go_sem,hfree,f1,f2,hgi,hgt',hsi,hst,ar,aq,az,av,aM,au,aE,hne,ne_eq,hne',hl5,Int.toNat_natCast,aG,aH,i1,Int.reduceLE,eq_self,not_false_eq_true,Bool.not_true,Bool.not_false,Bool.true_and,Bool.false_and,List.length_append,yaz,yba,Nat.zero_add,gE,x3,hs,if_true,hp2,h3',ht2]
     have hc3:=hcl2 p2 false (t2++[⟨15,a',b,[],[],0⟩])
     refine ⟨(g,t2.length,p2,t2++[⟨15,a',b,[],[],0⟩],false),.inl ⟨rfl,by dsimp only;omega,h4,k2b,by simp;omega,k5b.snoc ⟨(show 1≤15 by decide),(show 15≤16 by decide)⟩ (show (0:Nat)<2^128 by decide) (.inr ⟨by simp only;omega,by simp only;omega⟩),by simp,by simp;omega⟩,by simp,?_⟩
     simp only [List.length_append,yaz,yba,Nat.zero_add] at hc3 ⊢
     (simp only [bkq,enterW,aR,ltF,ne_eq,Nat.reduceEqDiff,reduceCtorEq,hc3,hid];try simp (disch:=first|assumption|omega|(simp;done)|(simp;omega)|(simp only [bt,and_true];first|done|omega|(simp;done))) [↓zmi,beq,ybc,ybd,ybe,ag,wk,wk2,wk1,wkM,wkL,am,ybf,byq,biq,ae,hcl,hc3,hid];try (repeat' (first|assumption|omega|exact True.intro|refine And.intro ?_ ?_|refine af ?_|refine aa ?_|refine ac ?_ ?_|refine ah ?_ ?_|refine aj ?_|exact AHeap.Le.refl _|refine AHeap.Le.push ?_ _|refine AHeap.Le.del ?_ ?_|(simp only [bt,and_true,true_and,hc3,hid];first|done|omega|(simp;done)))))
  ·dsimp only at hbd x1 x3 x7 ⊢
   subst hbd
   rw [x1,aq] at hK
   simp only [go_sem,hfree,f1,f2,hgi,hgt',hsi,hst,ar,aq,az,av,aM,au,aE,hne,ne_eq,hne',hl5,Int.toNat_natCast,aG,aH,i1,Int.reduceLE,eq_self,not_false_eq_true,Bool.not_true,Bool.not_false,Bool.true_and,Bool.false_and,List.length_append,yaz,yba,Nat.zero_add,x3,if_false]
   exact bw (hK a' t' x7) (hnx _ _) (AHeap.Le.refl _) (hcl2 _ _ _)
theorem yu {A:Prop} {f:Nat} (h_zNot:EntOk Try.prog 92 (Ent.some (ef A f))):EntOk Try.prog 87 (Ent.some (gE A (f+1))):=by
 refine EntOk.some fun args H K h=>?_
 unfold gE aE at h
 split at h
 rotate_left
 ·exact h.elim
 rename_i id
 obtain ⟨m,l,p,b,tb,t,hg,⟨rfl,hpre,hfree⟩,hK⟩:=h
 cases ho:run l (f+1) .and p t with
 |none=>rw [ho] at hK;exact hK.elim
 |some r =>
 rw [ho] at hK
 rw [run] at ho
 simp only [cr] at ho
 have hpre':=hpre
 obtain ⟨hne,htb,ht,hp,hl,hgl,hgt⟩:=hpre
 have hid:=AHeap.get_lt hg
 have htbl:=AHeap.get_lt htb
 have f1:=bq hid
 have f2:=bq htbl
 have hl5:l.length≤100000:=by omega
 have i1:=@Int.natCast_nonneg
 have hne':(id=tb)=False:=eq_false hne
 have hnx:∀ X Y,H.nx≤((H.set id X).set tb Y).nx:=fun X Y=>Nat.le_refl _
 refine ACallsP.of_aw (Ω:=[(92,Ent.some (ef A f)),(71,Ent.effect av),(72,Ent.effect au)]) (T:=aA []) aI (TblOk.cons h_zNot (TblOk.cons dr (TblOk.cons db TblOk.nil))) Try.func87 (by kernel_rfl) (by rfl) (rs:=[.tmp 2]) (by rfl) (by kernel_rfl) (by simp only [Try.ntmps87,yaz,yba];decide) fun hcl hlt=>?_
 change aw _ _ _ (KI Try.prog [(92,Ent.some (ef A f)),(71,Ent.effect av),(72,Ent.effect au)] (dK Try.prog [.tmp 2] H.nx _) []) _ _
 clear hlt
 obtain ⟨hgi,hgt',hsi,hcl2,hst⟩:=dp hg hpre' hcl
 rcases aJ ho with ⟨q,h1,hrq⟩|⟨a,p1,t1,h1,h2⟩
 case' inl =>
  obtain ⟨hq1,hq2⟩:=aN _ h1 hgt trivial hp
  simp only [go_sem,hfree,f1,f2,hgi,hgt',hsi,hst,ar,aq,az,av,aM,au,aE,hne,ne_eq,hne',hl5,Int.toNat_natCast,aG,aH,i1,Int.reduceLE,eq_self,not_false_eq_true,Bool.not_true,Bool.not_false,Bool.true_and,Bool.false_and,List.length_append,yaz,yba,Nat.zero_add,ef,hg,hpre',h1]
  intro a t' hb
  try simp only [aP,go_sem,hfree,f1,f2,hgi,hgt',hsi,hst,ar,aq,az,av,aM,au,aE,hne,ne_eq,hne',hl5,Int.toNat_natCast,aG,aH,i1,Int.reduceLE,eq_self,not_false_eq_true,Bool.not_true,Bool.not_false,Bool.true_and,Bool.false_and,List.length_append,yaz,yba,Nat.zero_add,hq1]
  refine ax (A:=Nat × Nat × Nat × List Nd × Bool) (fun x=>[(0,.ptr id 0),(3,.int .i64 (x.2.1:Int))]) (fun x=>(H.set id (rst m l x.2.2.1 x.2.2.2.2 tb x.2.2.2.1)).set tb (.buf 7 x.2.2.2.1.length)) (fun x=>(x.2.2.2.2=false∧x.1≤f∧run l x.1 (.andL x.2.1) x.2.2.1 x.2.2.2.1=some r∧x.2.2.1≤l.length∧x.2.2.2.1.length≤x.2.2.1∧Good x.2.2.2.1∧x.2.1<x.2.2.2.1.length∧x.2.2.2.1.length+p≤t.length+x.2.2.1)∨(x.2.2.2.2=true∧r=.bad x.2.2.1∧x.2.2.1≤l.length∧x.2.2.2.1.length+p≤t.length+x.2.2.1)) (fun x=>if x.2.2.2.2 then 0 else x.1+1) (0,a,q,t',true) (.inr ⟨rfl,hrq,hq1,hb⟩) ?_ ?_
  ·(simp only [bkq,enterW,aR,ltF,ne_eq,Nat.reduceEqDiff,reduceCtorEq,hcl2,hid];try simp (disch:=first|assumption|omega|(simp;done)|(simp;omega)|(simp only [bt,and_true];first|done|omega|(simp;done))) [↓zmi,beq,ybc,ybd,ybe,ag,wk,wk2,wk1,wkM,wkL,am,ybf,byq,biq,ae,hcl,hcl2,hid];try (repeat' (first|assumption|omega|exact True.intro|refine And.intro ?_ ?_|refine af ?_|refine aa ?_|refine ac ?_ ?_|refine ah ?_ ?_|refine aj ?_|exact AHeap.Le.refl _|refine AHeap.Le.push ?_ _|refine AHeap.Le.del ?_ ?_|(simp only [bt,and_true,true_and,hcl2,hid];first|done|omega|(simp;done)))))
 case' inr =>
  clear ho
  obtain ⟨k1,k2,k3,k4,k5,k6⟩:=aN _ h1 hgt trivial hp
  simp only [Rl.isL,Bool.false_eq_true,if_false] at k4
  simp only [go_sem,hfree,f1,f2,hgi,hgt',hsi,hst,ar,aq,az,av,aM,au,aE,hne,ne_eq,hne',hl5,Int.toNat_natCast,aG,aH,i1,Int.reduceLE,eq_self,not_false_eq_true,Bool.not_true,Bool.not_false,Bool.true_and,Bool.false_and,List.length_append,yaz,yba,Nat.zero_add,ef,hg,hpre',h1]
  refine ax (A:=Nat × Nat × Nat × List Nd × Bool) (fun x=>[(0,.ptr id 0),(3,.int .i64 (x.2.1:Int))]) (fun x=>(H.set id (rst m l x.2.2.1 x.2.2.2.2 tb x.2.2.2.1)).set tb (.buf 7 x.2.2.2.1.length)) (fun x=>(x.2.2.2.2=false∧x.1≤f∧run l x.1 (.andL x.2.1) x.2.2.1 x.2.2.2.1=some r∧x.2.2.1≤l.length∧x.2.2.2.1.length≤x.2.2.1∧Good x.2.2.2.1∧x.2.1<x.2.2.2.1.length∧x.2.2.2.1.length+p≤t.length+x.2.2.1)∨(x.2.2.2.2=true∧r=.bad x.2.2.1∧x.2.2.1≤l.length∧x.2.2.2.1.length+p≤t.length+x.2.2.1)) (fun x=>if x.2.2.2.2 then 0 else x.1+1) (f,a,p1,t1,false) (.inl ⟨rfl,Nat.le_refl _,h2,k2,(by show t1.length≤p1;omega),k5,k1,k3⟩) ?_ ?_
  ·(simp only [bkq,enterW,aR,ltF,ne_eq,Nat.reduceEqDiff,reduceCtorEq,hcl2,hid];try simp (disch:=first|assumption|omega|(simp;done)|(simp;omega)|(simp only [bt,and_true];first|done|omega|(simp;done))) [↓zmi,beq,ybc,ybd,ybe,ag,wk,wk2,wk1,wkM,wkL,am,ybf,byq,biq,ae,hcl,hcl2,hid];try (repeat' (first|assumption|omega|exact True.intro|refine And.intro ?_ ?_|refine af ?_|refine aa ?_|refine ac ?_ ?_|refine ah ?_ ?_|refine aj ?_|exact AHeap.Le.refl _|refine AHeap.Le.push ?_ _|refine AHeap.Le.del ?_ ?_|(simp only [bt,and_true,true_and,hcl2,hid];first|done|omega|(simp;done)))))
 all_goals
  clear h1
  intro x hx
  obtain ⟨g,a',p',t',bd⟩:=x
  rcases hx with ⟨hbd,x1,x2,x3,x4,x5,x6,x7⟩|⟨hbd,x1,x3,x7⟩
  ·dsimp only at hbd x1 x2 x3 x4 x5 x6 x7 ⊢
   subst hbd
   have ht':t'.length≤100000:=by omega
   cases g with
   |zero=>cases x2
   |succ g =>
   rw [run] at x2
   simp only [cr] at x2
   cases hs:isS l p' [38,38] with
   |false =>
    rw [hs,if_neg (by simp)] at x2
    rw [← x2,az] at hK
    simp only [go_sem,hfree,f1,f2,hgi,hgt',hsi,hst,ar,aq,az,av,aM,au,aE,hne,ne_eq,hne',hl5,Int.toNat_natCast,aG,aH,i1,Int.reduceLE,eq_self,not_false_eq_true,Bool.not_true,Bool.not_false,Bool.true_and,Bool.false_and,List.length_append,yaz,yba,Nat.zero_add,x3,hs,if_false]
    exact bw hK (hnx _ _) (AHeap.Le.refl _) (hcl2 _ _ _)
   |true =>
    rw [hs,if_pos rfl] at x2
    have hlt1:=bT hs
    have hp2:dh ((H.set id (rst m l (p'+1) false tb t')).set tb (.buf 7 t'.length)) id tb l (p'+1) t':=fE hpre' hlt1 (by omega) x5
    rcases aJ x2 with ⟨q2,h3,hr2⟩|⟨b,p2,t2,h3,h4⟩
    ·have h3':=bI (show g≤f by omega) h3
     obtain ⟨hq3,hq4⟩:=aN _ h3 x5 trivial hlt1
     simp only [go_sem,hfree,f1,f2,hgi,hgt',hsi,hst,ar,aq,az,av,aM,au,aE,hne,ne_eq,hne',hl5,Int.toNat_natCast,aG,aH,i1,Int.reduceLE,eq_self,not_false_eq_true,Bool.not_true,Bool.not_false,Bool.true_and,Bool.false_and,List.length_append,yaz,yba,Nat.zero_add,ef,x3,hs,if_true,hp2,h3']
     intro b t2 hb2
     have ht2:t2.length≤100000:=by omega
     simp only [aP,go_sem,hfree,f1,f2,hgi,hgt',hsi,hst,ar,aq,az,av,aM,au,aE,hne,ne_eq,hne',hl5,Int.toNat_natCast,aG,aH,i1,Int.reduceLE,eq_self,not_false_eq_true,Bool.not_true,Bool.not_false,Bool.true_and,Bool.false_and,List.length_append,yaz,yba,Nat.zero_add,ht2]
     have hc3:=hcl2 q2 true (t2++[⟨14,a',b,[],[],0⟩])
     refine ⟨(0,t2.length,q2,t2++[⟨14,a',b,[],[],0⟩],true),.inr ⟨rfl,hr2,hq3,by simp;omega⟩,by simp,?_⟩
     simp only [List.length_append,yaz,yba,Nat.zero_add] at hc3 ⊢
     (simp only [bkq,enterW,aR,ltF,ne_eq,Nat.reduceEqDiff,reduceCtorEq,hc3,hid];try simp (disch:=first|assumption|omega|(simp;done)|(simp;omega)|(simp only [bt,and_true];first|done|omega|(simp;done))) [↓zmi,beq,ybc,ybd,ybe,ag,wk,wk2,wk1,wkM,wkL,am,ybf,byq,biq,ae,hcl,hc3,hid];try (repeat' (first|assumption|omega|exact True.intro|refine And.intro ?_ ?_|refine af ?_|refine aa ?_|refine ac ?_ ?_|refine ah ?_ ?_|refine aj ?_|exact AHeap.Le.refl _|refine AHeap.Le.push ?_ _|refine AHeap.Le.del ?_ ?_|(simp only [bt,and_true,true_and,hc3,hid];first|done|omega|(simp;done)))))
    ·have h3':=bI (show g≤f by omega) h3
     obtain ⟨k1b,k2b,k3b,k4b,k5b,k6b⟩:=aN _ h3 x5 trivial hlt1
     simp only [Rl.isL,Bool.false_eq_true,if_false] at k4b
     have ht2:t2.length≤100000:=by omega
     simp only [go_sem,hfree,f1,f2,hgi,hgt',hsi,hst,ar,aq,az,av,aM,au,aE,hne,ne_eq,hne',hl5,Int.toNat_natCast,aG,aH,i1,Int.reduceLE,eq_self,not_false_eq_true,Bool.not_true,Bool.not_false,Bool.true_and,Bool.false_and,List.length_append,yaz,yba,Nat.zero_add,ef,x3,hs,if_true,hp2,h3',ht2]
     have hc3:=hcl2 p2 false (t2++[⟨14,a',b,[],[],0⟩])
     refine ⟨(g,t2.length,p2,t2++[⟨14,a',b,[],[],0⟩],false),.inl ⟨rfl,by dsimp only;omega,h4,k2b,by simp;omega,k5b.snoc ⟨(show 1≤14 by decide),(show 14≤16 by decide)⟩ (show (0:Nat)<2^128 by decide) (.inr ⟨by simp only;omega,by simp only;omega⟩),by simp,by simp;omega⟩,by simp,?_⟩
     simp only [List.length_append,yaz,yba,Nat.zero_add] at hc3 ⊢
     (simp only [bkq,enterW,aR,ltF,ne_eq,Nat.reduceEqDiff,reduceCtorEq,hc3,hid];try simp (disch:=first|assumption|omega|(simp;done)|(simp;omega)|(simp only [bt,and_true];first|done|omega|(simp;done))) [↓zmi,beq,ybc,ybd,ybe,ag,wk,wk2,wk1,wkM,wkL,am,ybf,byq,biq,ae,hcl,hc3,hid];try (repeat' (first|assumption|omega|exact True.intro|refine And.intro ?_ ?_|refine af ?_|refine aa ?_|refine ac ?_ ?_|refine ah ?_ ?_|refine aj ?_|exact AHeap.Le.refl _|refine AHeap.Le.push ?_ _|refine AHeap.Le.del ?_ ?_|(simp only [bt,and_true,true_and,hc3,hid];first|done|omega|(simp;done)))))
  ·dsimp only at hbd x1 x3 x7 ⊢
   subst hbd
   rw [x1,aq] at hK
   simp only [go_sem,hfree,f1,f2,hgi,hgt',hsi,hst,ar,aq,az,av,aM,au,aE,hne,ne_eq,hne',hl5,Int.toNat_natCast,aG,aH,i1,Int.reduceLE,eq_self,not_false_eq_true,Bool.not_true,Bool.not_false,Bool.true_and,Bool.false_and,List.length_append,yaz,yba,Nat.zero_add,x3,if_false]
   exact bw (hK a' t' x7) (hnx _ _) (AHeap.Le.refl _) (hcl2 _ _ _)
theorem yU {A:Prop} {f:Nat} (h_zUn:EntOk Try.prog 101 (Ent.some (fo A f))):EntOk Try.prog 97 (Ent.some (gD A (f+1))):=by
 refine EntOk.some fun args H K h=>?_
 unfold gD aE at h
 split at h
 rotate_left
 ·exact h.elim
 rename_i id
 obtain ⟨m,l,p,b,tb,t,hg,⟨rfl,hpre,hfree⟩,hK⟩:=h
 cases ho:run l (f+1) .sum p t with
 |none=>rw [ho] at hK;exact hK.elim
 |some r =>
 rw [ho] at hK
 rw [run] at ho
 simp only [cr] at ho
 have hpre':=hpre
 obtain ⟨hne,htb,ht,hp,hl,hgl,hgt⟩:=hpre
 have hid:=AHeap.get_lt hg
 have htbl:=AHeap.get_lt htb
 have f1:=bq hid
 have f2:=bq htbl
 have hl5:l.length≤100000:=by omega
 have i1:=@Int.natCast_nonneg
 have hne':(id=tb)=False:=eq_false hne
 have hnx:∀ X Y,H.nx≤((H.set id X).set tb Y).nx:=fun X Y=>Nat.le_refl _
 refine ACallsP.of_aw (Ω:=[(101,Ent.some (fo A f)),(88,Ent.pure aM),(72,Ent.effect au)]) (T:=aA []) aI (TblOk.cons h_zUn (TblOk.cons pj (TblOk.cons db TblOk.nil))) Try.func97 (by kernel_rfl) (by rfl) (rs:=[.tmp 2]) (by rfl) (by kernel_rfl) (by simp only [Try.ntmps97,yaz,yba];decide) fun hcl hlt=>?_
 change aw _ _ _ (KI Try.prog [(101,Ent.some (fo A f)),(88,Ent.pure aM),(72,Ent.effect au)] (dK Try.prog [.tmp 2] H.nx _) []) _ _
 clear hlt
 obtain ⟨hgi,hgt',hsi,hcl2,hst⟩:=dp hg hpre' hcl
 rcases aJ ho with ⟨q,h1,hrq⟩|⟨a,p1,t1,h1,h2⟩
 case' inl =>
  obtain ⟨hq1,hq2⟩:=aN _ h1 hgt trivial hp
  simp only [go_sem,hfree,f1,f2,hgi,hgt',hsi,hst,ar,aq,az,av,aM,au,aE,hne,ne_eq,hne',hl5,Int.toNat_natCast,aG,aH,i1,Int.reduceLE,eq_self,not_false_eq_true,Bool.not_true,Bool.not_false,Bool.true_and,Bool.false_and,List.length_append,yaz,yba,Nat.zero_add,fo,hg,hpre',h1]
  intro a t' hb
  try simp only [aP,go_sem,hfree,f1,f2,hgi,hgt',hsi,hst,ar,aq,az,av,aM,au,aE,hne,ne_eq,hne',hl5,Int.toNat_natCast,aG,aH,i1,Int.reduceLE,eq_self,not_false_eq_true,Bool.not_true,Bool.not_false,Bool.true_and,Bool.false_and,List.length_append,yaz,yba,Nat.zero_add,hq1]
  refine ax (A:=Nat × Nat × Nat × List Nd × Bool) (fun x=>[(0,.ptr id 0),(3,.int .i64 (x.2.1:Int))]) (fun x=>(H.set id (rst m l x.2.2.1 x.2.2.2.2 tb x.2.2.2.1)).set tb (.buf 7 x.2.2.2.1.length)) (fun x=>(x.2.2.2.2=false∧x.1≤f∧run l x.1 (.sumL x.2.1) x.2.2.1 x.2.2.2.1=some r∧x.2.2.1≤l.length∧x.2.2.2.1.length≤x.2.2.1∧Good x.2.2.2.1∧x.2.1<x.2.2.2.1.length∧x.2.2.2.1.length+p≤t.length+x.2.2.1)∨(x.2.2.2.2=true∧r=.bad x.2.2.1∧x.2.2.1≤l.length∧x.2.2.2.1.length+p≤t.length+x.2.2.1)) (fun x=>if x.2.2.2.2 then 0 else x.1+1) (0,a,q,t',true) (.inr ⟨rfl,hrq,hq1,hb⟩) ?_ ?_
  ·(simp only [bkq,enterW,aR,ltF,ne_eq,Nat.reduceEqDiff,reduceCtorEq,hcl2,hid];try simp (disch:=first|assumption|omega|(simp;done)|(simp;omega)|(simp only [bt,and_true];first|done|omega|(simp;done))) [↓zmi,beq,ybc,ybd,ybe,ag,wk,wk2,wk1,wkM,wkL,am,ybf,byq,biq,ae,hcl,hcl2,hid];try (repeat' (first|assumption|omega|exact True.intro|refine And.intro ?_ ?_|refine af ?_|refine aa ?_|refine ac ?_ ?_|refine ah ?_ ?_|refine aj ?_|exact AHeap.Le.refl _|refine AHeap.Le.push ?_ _|refine AHeap.Le.del ?_ ?_|(simp only [bt,and_true,true_and,hcl2,hid];first|done|omega|(simp;done)))))
 case' inr =>
  clear ho
  obtain ⟨k1,k2,k3,k4,k5,k6⟩:=aN _ h1 hgt trivial hp
  simp only [Rl.isL,Bool.false_eq_true,if_false] at k4
  simp only [go_sem,hfree,f1,f2,hgi,hgt',hsi,hst,ar,aq,az,av,aM,au,aE,hne,ne_eq,hne',hl5,Int.toNat_natCast,aG,aH,i1,Int.reduceLE,eq_self,not_false_eq_true,Bool.not_true,Bool.not_false,Bool.true_and,Bool.false_and,List.length_append,yaz,yba,Nat.zero_add,fo,hg,hpre',h1]
  refine ax (A:=Nat × Nat × Nat × List Nd × Bool) (fun x=>[(0,.ptr id 0),(3,.int .i64 (x.2.1:Int))]) (fun x=>(H.set id (rst m l x.2.2.1 x.2.2.2.2 tb x.2.2.2.1)).set tb (.buf 7 x.2.2.2.1.length)) (fun x=>(x.2.2.2.2=false∧x.1≤f∧run l x.1 (.sumL x.2.1) x.2.2.1 x.2.2.2.1=some r∧x.2.2.1≤l.length∧x.2.2.2.1.length≤x.2.2.1∧Good x.2.2.2.1∧x.2.1<x.2.2.2.1.length∧x.2.2.2.1.length+p≤t.length+x.2.2.1)∨(x.2.2.2.2=true∧r=.bad x.2.2.1∧x.2.2.1≤l.length∧x.2.2.2.1.length+p≤t.length+x.2.2.1)) (fun x=>if x.2.2.2.2 then 0 else x.1+1) (f,a,p1,t1,false) (.inl ⟨rfl,Nat.le_refl _,h2,k2,(by show t1.length≤p1;omega),k5,k1,k3⟩) ?_ ?_
  ·(simp only [bkq,enterW,aR,ltF,ne_eq,Nat.reduceEqDiff,reduceCtorEq,hcl2,hid];try simp (disch:=first|assumption|omega|(simp;done)|(simp;omega)|(simp only [bt,and_true];first|done|omega|(simp;done))) [↓zmi,beq,ybc,ybd,ybe,ag,wk,wk2,wk1,wkM,wkL,am,ybf,byq,biq,ae,hcl,hcl2,hid];try (repeat' (first|assumption|omega|exact True.intro|refine And.intro ?_ ?_|refine af ?_|refine aa ?_|refine ac ?_ ?_|refine ah ?_ ?_|refine aj ?_|exact AHeap.Le.refl _|refine AHeap.Le.push ?_ _|refine AHeap.Le.del ?_ ?_|(simp only [bt,and_true,true_and,hcl2,hid];first|done|omega|(simp;done)))))
 all_goals
  clear h1
  intro x hx
  obtain ⟨g,a',p',t',bd⟩:=x
  rcases hx with ⟨hbd,x1,x2,x3,x4,x5,x6,x7⟩|⟨hbd,x1,x3,x7⟩
  ·dsimp only at hbd x1 x2 x3 x4 x5 x6 x7 ⊢
   subst hbd
   have ht':t'.length≤100000:=by omega
   cases g with
   |zero=>cases x2
   |succ g =>
   rw [run] at x2
   simp only [cr] at x2
   have e1:IntKind.i64.wrap ((p':Int)+1)=((p'+1:Nat):Int):=by rw [wrap_i64]<;>omega
   have hcc:∀ X Y,aC ((H.set id (.cells X)).set tb Y) id=some X:=fun X Y=>by rw [bC hne,cx hid,if_pos rfl]
   cases hs:dN l p' opsS with
   |none =>
    rw [hs] at x2
    dsimp only at x2
    rw [← x2,az] at hK
    have hs1:isS l p' [43]=false:=by
     cases h:isS l p' [43] with
     |false=>rfl
     |true=>simp [dN,opsS,h] at hs
    have hs2:isS l p' [45]=false:=by
     cases h:isS l p' [45] with
     |false=>rfl
     |true=>simp [dN,opsS,hs1,h] at hs
    simp only [go_sem,hfree,f1,f2,hgi,hgt',hsi,hst,ar,aq,az,av,aM,au,aE,hne,ne_eq,hne',hl5,Int.toNat_natCast,aG,aH,i1,Int.reduceLE,eq_self,not_false_eq_true,Bool.not_true,Bool.not_false,Bool.true_and,Bool.false_and,List.length_append,yaz,yba,Nat.zero_add,x3,hs1,hs2,Bool.and_false]
    exact bw hK (hnx _ _) (AHeap.Le.refl _) (hcl2 _ _ _)
   |some op =>
    rw [hs] at x2
    dsimp only at x2
    obtain ⟨hlt1,so,hso⟩:=fb hs
    obtain ⟨o1,o2⟩:=kX hso
    have hp2:dh ((H.set id (rst m l (p'+1) false tb t')).set tb (.buf 7 t'.length)) id tb l (p'+1) t':=fE hpre' hlt1 (by omega) x5
    have hcases:(isS l p' [43]=true∧isS l p' [45]=false∧op=6)∨(isS l p' [43]=false∧isS l p' [45]=true∧op=7):=by
     cases h1:isS l p' [43] with
     |true =>
      left
      simp only [dN,opsS,h1,if_true] at hs
      cases hs
      refine ⟨rfl,?_,rfl⟩
      cases h2:isS l p' [45] with
      |false=>rfl
      |true=>exact absurd (yx h1 h2) (by decide)
     |false =>
      right
      cases h2:isS l p' [45] with
      |false=>simp [dN,opsS,h1,h2] at hs
      |true=>simp [dN,opsS,h1,h2] at hs;exact ⟨rfl,rfl,hs.symm⟩
    rcases hcases with ⟨hs1,hs2,hop⟩|⟨hs1,hs2,hop⟩
    all_goals
     subst hop
     rcases aJ x2 with ⟨q2,h3,hr2⟩|⟨b,p2,t2,h3,h4⟩
     ·have h3':=bI (show g≤f by omega) h3
      obtain ⟨hq3,hq4⟩:=aN _ h3 x5 trivial hlt1
      simp only [go_sem,hfree,f1,f2,hgi,hgt',hsi,hst,ar,aq,az,av,aM,au,aE,hne,ne_eq,hne',hl5,Int.toNat_natCast,aG,aH,i1,Int.reduceLE,eq_self,not_false_eq_true,Bool.not_true,Bool.not_false,Bool.true_and,Bool.false_and,List.length_append,yaz,yba,Nat.zero_add,fo,x3,hs1,hs2,Bool.and_true,Bool.and_false,bO,rst,hcc,e1]
      simp only [← tJ,go_sem,hfree,f1,f2,hgi,hgt',hsi,hst,ar,aq,az,av,aM,au,aE,hne,ne_eq,hne',hl5,Int.toNat_natCast,aG,aH,i1,Int.reduceLE,eq_self,not_false_eq_true,Bool.not_true,Bool.not_false,Bool.true_and,Bool.false_and,List.length_append,yaz,yba,Nat.zero_add,fo,hp2,h3']
      intro b t2 hb2
      have ht2:t2.length≤100000:=by omega
      simp only [aP,go_sem,hfree,f1,f2,hgi,hgt',hsi,hst,ar,aq,az,av,aM,au,aE,hne,ne_eq,hne',hl5,Int.toNat_natCast,aG,aH,i1,Int.reduceLE,eq_self,not_false_eq_true,Bool.not_true,Bool.not_false,Bool.true_and,Bool.false_and,List.length_append,yaz,yba,Nat.zero_add,ht2]
      first
      |(have hc3:=hcl2 q2 true (t2++[⟨6,a',b,[],[],0⟩])
        refine ⟨(0,t2.length,q2,t2++[⟨6,a',b,[],[],0⟩],true),.inr ⟨rfl,hr2,hq3,by simp;omega⟩,by simp,?_⟩
        simp only [List.length_append,yaz,yba,Nat.zero_add] at hc3 ⊢
        (simp only [bkq,enterW,aR,ltF,ne_eq,Nat.reduceEqDiff,reduceCtorEq,hc3,hid];try simp (disch:=first|assumption|omega|(simp;done)|(simp;omega)|(simp only [bt,and_true];first|done|omega|(simp;done))) [↓zmi,beq,ybc,ybd,ybe,ag,wk,wk2,wk1,wkM,wkL,am,ybf,byq,biq,ae,hcl,hc3,hid];try (repeat' (first|assumption|omega|exact True.intro|refine And.intro ?_ ?_|refine af ?_|refine aa ?_|refine ac ?_ ?_|refine ah ?_ ?_|refine aj ?_|exact AHeap.Le.refl _|refine AHeap.Le.push ?_ _|refine AHeap.Le.del ?_ ?_|(simp only [bt,and_true,true_and,hc3,hid];first|done|omega|(simp;done)))))
        done)
      |(have hc3:=hcl2 q2 true (t2++[⟨7,a',b,[],[],0⟩])
        refine ⟨(0,t2.length,q2,t2++[⟨7,a',b,[],[],0⟩],true),.inr ⟨rfl,hr2,hq3,by simp;omega⟩,by simp,?_⟩
        simp only [List.length_append,yaz,yba,Nat.zero_add] at hc3 ⊢
        (simp only [bkq,enterW,aR,ltF,ne_eq,Nat.reduceEqDiff,reduceCtorEq,hc3,hid];try simp (disch:=first|assumption|omega|(simp;done)|(simp;omega)|(simp only [bt,and_true];first|done|omega|(simp;done))) [↓zmi,beq,ybc,ybd,ybe,ag,wk,wk2,wk1,wkM,wkL,am,ybf,byq,biq,ae,hcl,hc3,hid];try (repeat' (first|assumption|omega|exact True.intro|refine And.intro ?_ ?_|refine af ?_|refine aa ?_|refine ac ?_ ?_|refine ah ?_ ?_|refine aj ?_|exact AHeap.Le.refl _|refine AHeap.Le.push ?_ _|refine AHeap.Le.del ?_ ?_|(simp only [bt,and_true,true_and,hc3,hid];first|done|omega|(simp;done)))))
        done)
     ·have h3':=bI (show g≤f by omega) h3
      obtain ⟨k1b,k2b,k3b,k4b,k5b,k6b⟩:=aN _ h3 x5 trivial hlt1
      simp only [Rl.isL,Bool.false_eq_true,if_false] at k4b
      have ht2:t2.length≤100000:=by omega
      simp only [go_sem,hfree,f1,f2,hgi,hgt',hsi,hst,ar,aq,az,av,aM,au,aE,hne,ne_eq,hne',hl5,Int.toNat_natCast,aG,aH,i1,Int.reduceLE,eq_self,not_false_eq_true,Bool.not_true,Bool.not_false,Bool.true_and,Bool.false_and,List.length_append,yaz,yba,Nat.zero_add,fo,x3,hs1,hs2,Bool.and_true,Bool.and_false,bO,rst,hcc,e1]
      simp only [← tJ,go_sem,hfree,f1,f2,hgi,hgt',hsi,hst,ar,aq,az,av,aM,au,aE,hne,ne_eq,hne',hl5,Int.toNat_natCast,aG,aH,i1,Int.reduceLE,eq_self,not_false_eq_true,Bool.not_true,Bool.not_false,Bool.true_and,Bool.false_and,List.length_append,yaz,yba,Nat.zero_add,fo,hp2,h3',ht2]
      first
      |(have hc3:=hcl2 p2 false (t2++[⟨6,a',b,[],[],0⟩])
        refine ⟨(g,t2.length,p2,t2++[⟨6,a',b,[],[],0⟩],false),.inl ⟨rfl,by dsimp only;omega,h4,k2b,by simp;omega,k5b.snoc ⟨(show 1≤6 by decide),(show 6≤16 by decide)⟩ (show (0:Nat)<2^128 by decide) (.inr ⟨by simp only;omega,by simp only;omega⟩),by simp,by simp;omega⟩,by simp,?_⟩
        simp only [List.length_append,yaz,yba,Nat.zero_add] at hc3 ⊢
        (simp only [bkq,enterW,aR,ltF,ne_eq,Nat.reduceEqDiff,reduceCtorEq,hc3,hid];try simp (disch:=first|assumption|omega|(simp;done)|(simp;omega)|(simp only [bt,and_true];first|done|omega|(simp;done))) [↓zmi,beq,ybc,ybd,ybe,ag,wk,wk2,wk1,wkM,wkL,am,ybf,byq,biq,ae,hcl,hc3,hid];try (repeat' (first|assumption|omega|exact True.intro|refine And.intro ?_ ?_|refine af ?_|refine aa ?_|refine ac ?_ ?_|refine ah ?_ ?_|refine aj ?_|exact AHeap.Le.refl _|refine AHeap.Le.push ?_ _|refine AHeap.Le.del ?_ ?_|(simp only [bt,and_true,true_and,hc3,hid];first|done|omega|(simp;done)))))
        done)
      |(have hc3:=hcl2 p2 false (t2++[⟨7,a',b,[],[],0⟩])
        refine ⟨(g,t2.length,p2,t2++[⟨7,a',b,[],[],0⟩],false),.inl ⟨rfl,by dsimp only;omega,h4,k2b,by simp;omega,k5b.snoc ⟨(show 1≤7 by decide),(show 7≤16 by decide)⟩ (show (0:Nat)<2^128 by decide) (.inr ⟨by simp only;omega,by simp only;omega⟩),by simp,by simp;omega⟩,by simp,?_⟩
        simp only [List.length_append,yaz,yba,Nat.zero_add] at hc3 ⊢
        (simp only [bkq,enterW,aR,ltF,ne_eq,Nat.reduceEqDiff,reduceCtorEq,hc3,hid];try simp (disch:=first|assumption|omega|(simp;done)|(simp;omega)|(simp only [bt,and_true];first|done|omega|(simp;done))) [↓zmi,beq,ybc,ybd,ybe,ag,wk,wk2,wk1,wkM,wkL,am,ybf,byq,biq,ae,hcl,hc3,hid];try (repeat' (first|assumption|omega|exact True.intro|refine And.intro ?_ ?_|refine af ?_|refine aa ?_|refine ac ?_ ?_|refine ah ?_ ?_|refine aj ?_|exact AHeap.Le.refl _|refine AHeap.Le.push ?_ _|refine AHeap.Le.del ?_ ?_|(simp only [bt,and_true,true_and,hc3,hid];first|done|omega|(simp;done)))))
        done)
  ·dsimp only at hbd x1 x3 x7 ⊢
   subst hbd
   rw [x1,aq] at hK
   simp only [go_sem,hfree,f1,f2,hgi,hgt',hsi,hst,ar,aq,az,av,aM,au,aE,hne,ne_eq,hne',hl5,Int.toNat_natCast,aG,aH,i1,Int.reduceLE,eq_self,not_false_eq_true,Bool.not_true,Bool.not_false,Bool.true_and,Bool.false_and,List.length_append,yaz,yba,Nat.zero_add,x3,if_false]
   exact bw (hK a' t' x7) (hnx _ _) (AHeap.Le.refl _) (hcl2 _ _ _)
theorem ye {A:Prop} {f:Nat} (h_zNot:EntOk Try.prog 92 (Ent.some (ef A f))) (h_zCmp:EntOk Try.prog 95 (Ent.some (j6 A f))):EntOk Try.prog 92 (Ent.some (ef A (f+1))):=by
 refine EntOk.some fun args H K h=>?_
 unfold ef aE at h
 split at h
 rotate_left
 ·exact h.elim
 rename_i id
 obtain ⟨m,l,p,b,tb,t,hg,⟨rfl,hpre,hfree⟩,hK⟩:=h
 cases ho:run l (f+1) .not p t with
 |none=>rw [ho] at hK;exact hK.elim
 |some r =>
 rw [ho] at hK
 rw [run] at ho
 simp only [cr] at ho
 have hpre':=hpre
 obtain ⟨hne,htb,ht,hp,hl,hgl,hgt⟩:=hpre
 have hid:=AHeap.get_lt hg
 have htbl:=AHeap.get_lt htb
 have f1:=bq hid
 have f2:=bq htbl
 have hl5:l.length≤100000:=by omega
 have i1:=@Int.natCast_nonneg
 have hne':(id=tb)=False:=eq_false hne
 have hnx:∀ X Y,H.nx≤((H.set id X).set tb Y).nx:=fun X Y=>Nat.le_refl _
 refine ACallsP.of_aw (Ω:=[(71,Ent.effect av),(92,Ent.some (ef A f)),(72,Ent.effect au),(95,Ent.some (j6 A f))]) (T:=aA []) aI (TblOk.cons dr (TblOk.cons h_zNot (TblOk.cons db (TblOk.cons h_zCmp TblOk.nil)))) Try.func92 (by kernel_rfl) (by rfl) (rs:=[.tmp 2]) (by rfl) (by kernel_rfl) (by simp only [Try.ntmps92,yaz,yba];decide) fun hcl hlt=>?_
 change aw _ _ _ (KI Try.prog [(71,Ent.effect av),(92,Ent.some (ef A f)),(72,Ent.effect au),(95,Ent.some (j6 A f))] (dK Try.prog [.tmp 2] H.nx _) []) _ _
 clear hlt
 obtain ⟨hgi,hgt',hsi,hcl2,hst⟩:=dp hg hpre' hcl
 have hgi1:∀ X,(H.set id X).get id=some X:=fun X=>AHeap.get_set_same _ _ hid
 have hss:∀ X Y,(H.set id X).set id Y=H.set id Y:=fun X Y=>by simp only [AHeap.set];congr 1;funext k;by_cases hk:k=id<;>simp [hk]
 cases hs:isS l p [33] with
 |false =>
  rw [hs,if_neg (by simp)] at ho
  simp only [go_sem,hfree,f1,f2,hgi,hgt',hsi,hst,ar,aq,az,av,aM,au,aE,hne,ne_eq,hne',hl5,Int.toNat_natCast,aG,aH,i1,Int.reduceLE,eq_self,not_false_eq_true,Bool.not_true,Bool.not_false,Bool.true_and,Bool.false_and,List.length_append,yaz,yba,Nat.zero_add,j6,hg,hp,hs,if_false,hpre',ho]
  cases r with
  |ok a q u =>
   rw [az] at hK
   simp only [go_sem,hfree,f1,f2,hgi,hgt',hsi,hst,ar,aq,az,av,aM,au,aE,hne,ne_eq,hne',hl5,Int.toNat_natCast,aG,aH,i1,Int.reduceLE,eq_self,not_false_eq_true,Bool.not_true,Bool.not_false,Bool.true_and,Bool.false_and,List.length_append,yaz,yba,Nat.zero_add]
   exact bw hK (hnx _ _) (AHeap.Le.refl _) (hcl2 _ _ _)
  |bad q =>
   rw [aq] at hK
   simp only [go_sem,hfree,f1,f2,hgi,hgt',hsi,hst,ar,aq,az,av,aM,au,aE,hne,ne_eq,hne',hl5,Int.toNat_natCast,aG,aH,i1,Int.reduceLE,eq_self,not_false_eq_true,Bool.not_true,Bool.not_false,Bool.true_and,Bool.false_and,List.length_append,yaz,yba,Nat.zero_add]
   intro a t' hb
   try simp only [aP,go_sem,hfree,f1,f2,hgi,hgt',hsi,hst,ar,aq,az,av,aM,au,aE,hne,ne_eq,hne',hl5,Int.toNat_natCast,aG,aH,i1,Int.reduceLE,eq_self,not_false_eq_true,Bool.not_true,Bool.not_false,Bool.true_and,Bool.false_and,List.length_append,yaz,yba,Nat.zero_add]
   exact bw (hK a t' hb) (hnx _ _) (AHeap.Le.refl _) (hcl2 _ _ _)
 |true =>
  rw [hs,if_pos rfl] at ho
  have hlt1:=bT hs
  have hp2:dh (H.set id (rst m l (p+1) false tb t)) id tb l (p+1) t:=fH hpre' hlt1 (by omega)
  rcases aJ ho with ⟨q,h3,rfl⟩|⟨b,p2,t2,h3,h4⟩
  ·obtain ⟨hq3,hq4⟩:=aN _ h3 hgt trivial hlt1
   rw [aq] at hK
   simp only [go_sem,hfree,f1,f2,hgi,hgt',hsi,hst,ar,aq,az,av,aM,au,aE,hne,ne_eq,hne',hl5,Int.toNat_natCast,aG,aH,i1,Int.reduceLE,eq_self,not_false_eq_true,Bool.not_true,Bool.not_false,Bool.true_and,Bool.false_and,List.length_append,yaz,yba,Nat.zero_add,ef,hg,hp,hs,if_true,hgi1,hss,hp2,h3]
   intro b t' hb
   have ht2:t'.length≤100000:=by omega
   simp only [aP,go_sem,hfree,f1,f2,hgi,hgt',hsi,hst,ar,aq,az,av,aM,au,aE,hne,ne_eq,hne',hl5,Int.toNat_natCast,aG,aH,i1,Int.reduceLE,eq_self,not_false_eq_true,Bool.not_true,Bool.not_false,Bool.true_and,Bool.false_and,List.length_append,yaz,yba,Nat.zero_add,ht2]
   have hK':=hK t'.length (t'++[⟨5,b,0,[],[],0⟩]) (by simp;omega)
   have hc3:=hcl2 q true (t'++[⟨5,b,0,[],[],0⟩])
   simp only [List.length_append,yaz,yba,Nat.zero_add] at hK' hc3
   exact bw hK' (hnx _ _) (AHeap.Le.refl _) hc3
  cases h4
  obtain ⟨k1b,k2b,k3b,k4b,k5b,k6b⟩:=aN _ h3 hgt trivial hlt1
  simp only [Rl.isL,Bool.false_eq_true,if_false] at k4b
  have ht2:t2.length≤100000:=by omega
  simp only [go_sem,hfree,f1,f2,hgi,hgt',hsi,hst,ar,aq,az,av,aM,au,aE,hne,ne_eq,hne',hl5,Int.toNat_natCast,aG,aH,i1,Int.reduceLE,eq_self,not_false_eq_true,Bool.not_true,Bool.not_false,Bool.true_and,Bool.false_and,List.length_append,yaz,yba,Nat.zero_add,ef,hg,hp,hs,if_true,hgi1,hss,hp2,h3,ht2,nd2]
  have hc3:=hcl2 p2 false (t2++[⟨5,b,0,[],[],0⟩])
  simp only [List.length_append,yaz,yba,Nat.zero_add,az,nd2] at hK hc3
  exact bw hK (hnx _ _) (AHeap.Le.refl _) hc3
theorem zM {A:Prop} {f:Nat} (h_zUn:EntOk Try.prog 101 (Ent.some (fo A f))) (h_zAtom:EntOk Try.prog 104 (Ent.some (g8 A f))):EntOk Try.prog 101 (Ent.some (fo A (f+1))):=by
 refine EntOk.some fun args H K h=>?_
 unfold fo aE at h
 split at h
 rotate_left
 ·exact h.elim
 rename_i id
 obtain ⟨m,l,p,b,tb,t,hg,⟨rfl,hpre,hfree⟩,hK⟩:=h
 cases ho:run l (f+1) .un p t with
 |none=>rw [ho] at hK;exact hK.elim
 |some r =>
 rw [ho] at hK
 rw [run] at ho
 simp only [cr] at ho
 have hpre':=hpre
 obtain ⟨hne,htb,ht,hp,hl,hgl,hgt⟩:=hpre
 have hid:=AHeap.get_lt hg
 have htbl:=AHeap.get_lt htb
 have f1:=bq hid
 have f2:=bq htbl
 have hl5:l.length≤100000:=by omega
 have i1:=@Int.natCast_nonneg
 have hne':(id=tb)=False:=eq_false hne
 have hnx:∀ X Y,H.nx≤((H.set id X).set tb Y).nx:=fun X Y=>Nat.le_refl _
 refine ACallsP.of_aw (Ω:=[(71,Ent.effect av),(101,Ent.some (fo A f)),(72,Ent.effect au),(104,Ent.some (g8 A f))]) (T:=aA []) aI (TblOk.cons dr (TblOk.cons h_zUn (TblOk.cons db (TblOk.cons h_zAtom TblOk.nil)))) Try.func101 (by kernel_rfl) (by rfl) (rs:=[.tmp 2]) (by rfl) (by kernel_rfl) (by simp only [Try.ntmps101,yaz,yba];decide) fun hcl hlt=>?_
 change aw _ _ _ (KI Try.prog [(71,Ent.effect av),(101,Ent.some (fo A f)),(72,Ent.effect au),(104,Ent.some (g8 A f))] (dK Try.prog [.tmp 2] H.nx _) []) _ _
 clear hlt
 obtain ⟨hgi,hgt',hsi,hcl2,hst⟩:=dp hg hpre' hcl
 have hgi1:∀ X,(H.set id X).get id=some X:=fun X=>AHeap.get_set_same _ _ hid
 have hss:∀ X Y,(H.set id X).set id Y=H.set id Y:=fun X Y=>by simp only [AHeap.set];congr 1;funext k;by_cases hk:k=id<;>simp [hk]
 cases hs:isS l p [45] with
 |false =>
  rw [hs,if_neg (by simp)] at ho
  simp only [go_sem,hfree,f1,f2,hgi,hgt',hsi,hst,ar,aq,az,av,aM,au,aE,hne,ne_eq,hne',hl5,Int.toNat_natCast,aG,aH,i1,Int.reduceLE,eq_self,not_false_eq_true,Bool.not_true,Bool.not_false,Bool.true_and,Bool.false_and,List.length_append,yaz,yba,Nat.zero_add,g8,hg,hp,hs,if_false,hpre',ho]
  cases r with
  |ok a q u =>
   rw [az] at hK
   simp only [go_sem,hfree,f1,f2,hgi,hgt',hsi,hst,ar,aq,az,av,aM,au,aE,hne,ne_eq,hne',hl5,Int.toNat_natCast,aG,aH,i1,Int.reduceLE,eq_self,not_false_eq_true,Bool.not_true,Bool.not_false,Bool.true_and,Bool.false_and,List.length_append,yaz,yba,Nat.zero_add]
   exact bw hK (hnx _ _) (AHeap.Le.refl _) (hcl2 _ _ _)
  |bad q =>
   rw [aq] at hK
   simp only [go_sem,hfree,f1,f2,hgi,hgt',hsi,hst,ar,aq,az,av,aM,au,aE,hne,ne_eq,hne',hl5,Int.toNat_natCast,aG,aH,i1,Int.reduceLE,eq_self,not_false_eq_true,Bool.not_true,Bool.not_false,Bool.true_and,Bool.false_and,List.length_append,yaz,yba,Nat.zero_add]
   intro a t' hb
   try simp only [aP,go_sem,hfree,f1,f2,hgi,hgt',hsi,hst,ar,aq,az,av,aM,au,aE,hne,ne_eq,hne',hl5,Int.toNat_natCast,aG,aH,i1,Int.reduceLE,eq_self,not_false_eq_true,Bool.not_true,Bool.not_false,Bool.true_and,Bool.false_and,List.length_append,yaz,yba,Nat.zero_add]
   exact bw (hK a t' hb) (hnx _ _) (AHeap.Le.refl _) (hcl2 _ _ _)
 |true =>
  rw [hs,if_pos rfl] at ho
  have hlt1:=bT hs
  have hp2:dh (H.set id (rst m l (p+1) false tb t)) id tb l (p+1) t:=fH hpre' hlt1 (by omega)
  rcases aJ ho with ⟨q,h3,rfl⟩|⟨b,p2,t2,h3,h4⟩
  ·obtain ⟨hq3,hq4⟩:=aN _ h3 hgt trivial hlt1
   rw [aq] at hK
   simp only [go_sem,hfree,f1,f2,hgi,hgt',hsi,hst,ar,aq,az,av,aM,au,aE,hne,ne_eq,hne',hl5,Int.toNat_natCast,aG,aH,i1,Int.reduceLE,eq_self,not_false_eq_true,Bool.not_true,Bool.not_false,Bool.true_and,Bool.false_and,List.length_append,yaz,yba,Nat.zero_add,fo,hg,hp,hs,if_true,hgi1,hss,hp2,h3]
   intro b t' hb
   have ht2:t'.length≤100000:=by omega
   simp only [aP,go_sem,hfree,f1,f2,hgi,hgt',hsi,hst,ar,aq,az,av,aM,au,aE,hne,ne_eq,hne',hl5,Int.toNat_natCast,aG,aH,i1,Int.reduceLE,eq_self,not_false_eq_true,Bool.not_true,Bool.not_false,Bool.true_and,Bool.false_and,List.length_append,yaz,yba,Nat.zero_add,ht2]
   have hK':=hK t'.length (t'++[⟨4,b,0,[],[],0⟩]) (by simp;omega)
   have hc3:=hcl2 q true (t'++[⟨4,b,0,[],[],0⟩])
   simp only [List.length_append,yaz,yba,Nat.zero_add] at hK' hc3
   exact bw hK' (hnx _ _) (AHeap.Le.refl _) hc3
  cases h4
  obtain ⟨k1b,k2b,k3b,k4b,k5b,k6b⟩:=aN _ h3 hgt trivial hlt1
  simp only [Rl.isL,Bool.false_eq_true,if_false] at k4b
  have ht2:t2.length≤100000:=by omega
  simp only [go_sem,hfree,f1,f2,hgi,hgt',hsi,hst,ar,aq,az,av,aM,au,aE,hne,ne_eq,hne',hl5,Int.toNat_natCast,aG,aH,i1,Int.reduceLE,eq_self,not_false_eq_true,Bool.not_true,Bool.not_false,Bool.true_and,Bool.false_and,List.length_append,yaz,yba,Nat.zero_add,fo,hg,hp,hs,if_true,hgi1,hss,hp2,h3,ht2,nd2]
  have hc3:=hcl2 p2 false (t2++[⟨4,b,0,[],[],0⟩])
  simp only [List.length_append,yaz,yba,Nat.zero_add,az,nd2] at hK hc3
  exact bw hK (hnx _ _) (AHeap.Le.refl _) hc3
end Go.AL
open Go Go.AL Go.Proofs
namespace Go.AL
set_option linter.all false
set_option maxRecDepth 10000
theorem u9 {l:List Tok} {p k:Nat} {s:List UInt8} {r:List (Nat × List UInt8)}:dN l p ((k,s)::r)=if isS l p s then some k else dN l p r:=rfl
theorem ws:[AV.str [61,61],AV.str [33,61],AV.str [60],AV.str [60,61],AV.str [62],AV.str [62,61]]=sAV (opsC.map Prod.snd):=rfl
theorem tX {i:Nat} (h:i<6):∃ s,opsC.drop i=(8+i,s)::opsC.drop (i+1)∧(sAV (opsC.map Prod.snd)).getD i .junk=.str s:=by
 rcases (by omega:i=0∨i=1∨i=2∨i=3∨i=4∨i=5) with rfl|rfl|rfl|rfl|rfl|rfl
 all_goals exact ⟨_,rfl,rfl⟩
theorem yW {A:Prop} {f:Nat} (h_zSum:EntOk Try.prog 97 (Ent.some (gD A f))):EntOk Try.prog 95 (Ent.some (j6 A (f+1))):=by
 refine EntOk.some fun args H K h=>?_
 unfold j6 aE at h
 split at h
 rotate_left
 ·exact h.elim
 rename_i id
 obtain ⟨m,l,p,b,tb,t,hg,⟨rfl,hpre,hfree⟩,hK⟩:=h
 cases ho:run l (f+1) .cmp p t with
 |none=>rw [ho] at hK;exact hK.elim
 |some r =>
 rw [ho] at hK
 rw [run] at ho
 simp only [cr] at ho
 have hpre':=hpre
 obtain ⟨hne,htb,ht,hp,hl,hgl,hgt⟩:=hpre
 have hid:=AHeap.get_lt hg
 have htbl:=AHeap.get_lt htb
 have f1:=bq hid
 have f2:=bq htbl
 have hl5:l.length≤100000:=by omega
 have i1:=@Int.natCast_nonneg
 have hne':(id=tb)=False:=eq_false hne
 have hnx:∀ X Y,H.nx≤((H.set id X).set tb Y).nx:=fun X Y=>Nat.le_refl _
 refine ACallsP.of_aw (Ω:=[(97,Ent.some (gD A f)),(71,Ent.effect av),(72,Ent.effect au)]) (T:=aA []) aI (TblOk.cons h_zSum (TblOk.cons dr (TblOk.cons db TblOk.nil))) Try.func95 (by kernel_rfl) (by rfl) (rs:=[.tmp 2]) (by rfl) (by kernel_rfl) (by simp only [Try.ntmps95,yaz,yba];decide) fun hcl hlt=>?_
 change aw _ _ _ (KI Try.prog [(97,Ent.some (gD A f)),(71,Ent.effect av),(72,Ent.effect au)] (dK Try.prog [.tmp 2] H.nx _) []) _ _
 clear hlt
 obtain ⟨hgi,hgt',hsi,hcl2,hst⟩:=dp hg hpre' hcl
 have hsl:(sAV (opsC.map Prod.snd)).length=6:=rfl
 rcases aJ ho with ⟨q,h1,rfl⟩|⟨a,p1,t1,h1,h2⟩
 ·obtain ⟨hq1,hq2⟩:=aN _ h1 hgt trivial hp
  rw [aq] at hK
  simp only [go_sem,hfree,f1,f2,hgi,hgt',hsi,hst,ar,aq,az,av,aM,au,aE,hne,ne_eq,hne',hl5,Int.toNat_natCast,aG,aH,i1,Int.reduceLE,eq_self,not_false_eq_true,Bool.not_true,Bool.not_false,Bool.true_and,Bool.false_and,List.length_append,yaz,yba,Nat.zero_add,gD,hg,hpre',h1]
  intro a t' hb
  try simp only [aP,go_sem,hfree,f1,f2,hgi,hgt',hsi,hst,ar,aq,az,av,aM,au,aE,hne,ne_eq,hne',hl5,Int.toNat_natCast,aG,aH,i1,Int.reduceLE,eq_self,not_false_eq_true,Bool.not_true,Bool.not_false,Bool.true_and,Bool.false_and,List.length_append,yaz,yba,Nat.zero_add,ws]
  refine ax (A:=Nat) (fun i=>[(0,.ptr id 0),(3,.int .i64 (a:Int)),(9,.slice .any 1 (sAV (opsC.map Prod.snd))),(10,.int .i64 6),(11,.int .i64 (i:Int))]) (fun _=>(H.set id (rst m l q true tb t')).set tb (.buf 7 t'.length)) (fun i=>i≤6) (fun i=>6 - i) 0 (by omega) ?_ fun i hi=>?_
  ·(simp only [bkq,enterW,aR,ltF,ne_eq,Nat.reduceEqDiff,reduceCtorEq,hcl2,hid,br];try simp (disch:=first|assumption|omega|(simp;done)|(simp;omega)|(simp only [bt,and_true];first|done|omega|(simp;done))) [↓zmi,beq,ybc,ybd,ybe,ag,wk,wk2,wk1,wkM,wkL,am,ybf,byq,biq,ae,hcl,hcl2,hid,br];try (repeat' (first|assumption|omega|exact True.intro|refine And.intro ?_ ?_|refine af ?_|refine aa ?_|refine ac ?_ ?_|refine ah ?_ ?_|refine aj ?_|exact AHeap.Le.refl _|refine AHeap.Le.push ?_ _|refine AHeap.Le.del ?_ ?_|(simp only [bt,and_true,true_and,hcl2,hid,br];first|done|omega|(simp;done)))))
  simp only [go_sem,hfree,f1,f2,hgi,hgt',hsi,hst,ar,aq,az,av,aM,au,aE,hne,ne_eq,hne',hl5,Int.toNat_natCast,aG,aH,i1,Int.reduceLE,eq_self,not_false_eq_true,Bool.not_true,Bool.not_false,Bool.true_and,Bool.false_and,List.length_append,yaz,yba,Nat.zero_add]
  refine ak (fun hc=>?_) (fun hc=>?_)
  ·have hi6:i<6:=by simp at hc;omega
   obtain ⟨s,e1,e2⟩:=tX hi6
   have e5:IntKind.i64.wrap ((i:Int)+1)=((i+1:Nat):Int):=by rw [wrap_i64]<;>omega
   simp only [go_sem,hfree,f1,f2,hgi,hgt',hsi,hst,ar,aq,az,av,aM,au,aE,hne,ne_eq,hne',hl5,Int.toNat_natCast,aG,aH,i1,Int.reduceLE,eq_self,not_false_eq_true,Bool.not_true,Bool.not_false,Bool.true_and,Bool.false_and,List.length_append,yaz,yba,Nat.zero_add,hsl,e2,e5,hq1,if_false]
   refine ⟨by omega,i+1,by omega,by omega,?_⟩
   (simp only [bkq,enterW,aR,ltF,ne_eq,Nat.reduceEqDiff,reduceCtorEq,hcl2,hid,br];try simp (disch:=first|assumption|omega|(simp;done)|(simp;omega)|(simp only [bt,and_true];first|done|omega|(simp;done))) [↓zmi,beq,ybc,ybd,ybe,ag,wk,wk2,wk1,wkM,wkL,am,ybf,byq,biq,ae,hcl,hcl2,hid,br];try (repeat' (first|assumption|omega|exact True.intro|refine And.intro ?_ ?_|refine af ?_|refine aa ?_|refine ac ?_ ?_|refine ah ?_ ?_|refine aj ?_|exact AHeap.Le.refl _|refine AHeap.Le.push ?_ _|refine AHeap.Le.del ?_ ?_|(simp only [bt,and_true,true_and,hcl2,hid,br];first|done|omega|(simp;done)))))
  ·simp only [go_sem,hfree,f1,f2,hgi,hgt',hsi,hst,ar,aq,az,av,aM,au,aE,hne,ne_eq,hne',hl5,Int.toNat_natCast,aG,aH,i1,Int.reduceLE,eq_self,not_false_eq_true,Bool.not_true,Bool.not_false,Bool.true_and,Bool.false_and,List.length_append,yaz,yba,Nat.zero_add]
   exact bw (hK a t' hb) (hnx _ _) (AHeap.Le.refl _) (hcl2 _ _ _)
 clear ho
 obtain ⟨k1,k2,k3,k4,k5,k6⟩:=aN _ h1 hgt trivial hp
 simp only [Rl.isL,Bool.false_eq_true,if_false] at k4
 simp only [go_sem,hfree,f1,f2,hgi,hgt',hsi,hst,ar,aq,az,av,aM,au,aE,hne,ne_eq,hne',hl5,Int.toNat_natCast,aG,aH,i1,Int.reduceLE,eq_self,not_false_eq_true,Bool.not_true,Bool.not_false,Bool.true_and,Bool.false_and,List.length_append,yaz,yba,Nat.zero_add,gD,hg,hpre',h1]
 try simp only [ws]
 refine ax (A:=Nat) (fun i=>[(0,.ptr id 0),(3,.int .i64 (a:Int)),(9,.slice .any 1 (sAV (opsC.map Prod.snd))),(10,.int .i64 6),(11,.int .i64 (i:Int))]) (fun _=>(H.set id (rst m l p1 false tb t1)).set tb (.buf 7 t1.length)) (fun i=>i≤6∧dN l p1 (opsC.drop i)=dN l p1 opsC) (fun i=>6 - i) 0 ⟨by omega,rfl⟩ ?_ fun i hi=>?_
 ·(simp only [bkq,enterW,aR,ltF,ne_eq,Nat.reduceEqDiff,reduceCtorEq,hcl2,hid,br];try simp (disch:=first|assumption|omega|(simp;done)|(simp;omega)|(simp only [bt,and_true];first|done|omega|(simp;done))) [↓zmi,beq,ybc,ybd,ybe,ag,wk,wk2,wk1,wkM,wkL,am,ybf,byq,biq,ae,hcl,hcl2,hid,br];try (repeat' (first|assumption|omega|exact True.intro|refine And.intro ?_ ?_|refine af ?_|refine aa ?_|refine ac ?_ ?_|refine ah ?_ ?_|refine aj ?_|exact AHeap.Le.refl _|refine AHeap.Le.push ?_ _|refine AHeap.Le.del ?_ ?_|(simp only [bt,and_true,true_and,hcl2,hid,br];first|done|omega|(simp;done)))))
 obtain ⟨hi,hop⟩:=hi
 simp only [go_sem,hfree,f1,f2,hgi,hgt',hsi,hst,ar,aq,az,av,aM,au,aE,hne,ne_eq,hne',hl5,Int.toNat_natCast,aG,aH,i1,Int.reduceLE,eq_self,not_false_eq_true,Bool.not_true,Bool.not_false,Bool.true_and,Bool.false_and,List.length_append,yaz,yba,Nat.zero_add]
 refine ak (fun hc=>?_) (fun hc=>?_)
 ·have hi6:i<6:=by simp at hc;omega
  obtain ⟨s,e1,e2⟩:=tX hi6
  have e5:IntKind.i64.wrap ((i:Int)+1)=((i+1:Nat):Int):=by rw [wrap_i64]<;>omega
  have e6:IntKind.i64.wrap (8+(i:Int))=((8+i:Nat):Int):=by rw [wrap_i64]<;>omega
  rw [e1,u9] at hop
  cases hs:isS l p1 s with
  |false =>
   rw [hs,if_neg (by simp)] at hop
   simp only [go_sem,hfree,f1,f2,hgi,hgt',hsi,hst,ar,aq,az,av,aM,au,aE,hne,ne_eq,hne',hl5,Int.toNat_natCast,aG,aH,i1,Int.reduceLE,eq_self,not_false_eq_true,Bool.not_true,Bool.not_false,Bool.true_and,Bool.false_and,List.length_append,yaz,yba,Nat.zero_add,hsl,e2,e5,k2,hs,if_false]
   refine ⟨by omega,i+1,⟨by omega,hop⟩,by omega,?_⟩
   (simp only [bkq,enterW,aR,ltF,ne_eq,Nat.reduceEqDiff,reduceCtorEq,hcl2,hid,br];try simp (disch:=first|assumption|omega|(simp;done)|(simp;omega)|(simp only [bt,and_true];first|done|omega|(simp;done))) [↓zmi,beq,ybc,ybd,ybe,ag,wk,wk2,wk1,wkM,wkL,am,ybf,byq,biq,ae,hcl,hcl2,hid,br];try (repeat' (first|assumption|omega|exact True.intro|refine And.intro ?_ ?_|refine af ?_|refine aa ?_|refine ac ?_ ?_|refine ah ?_ ?_|refine aj ?_|exact AHeap.Le.refl _|refine AHeap.Le.push ?_ _|refine AHeap.Le.del ?_ ?_|(simp only [bt,and_true,true_and,hcl2,hid,br];first|done|omega|(simp;done)))))
  |true =>
   rw [hs,if_pos rfl] at hop
   rw [← hop] at h2
   dsimp only at h2
   have hlt1:=bT hs
   have hp2:dh ((H.set id (rst m l (p1+1) false tb t1)).set tb (.buf 7 t1.length)) id tb l (p1+1) t1:=fE hpre' hlt1 (by omega) k5
   rcases aJ h2 with ⟨q,h3,rfl⟩|⟨b,p2,t2,h3,h4⟩
   ·obtain ⟨hq1,hq2⟩:=aN _ h3 k5 trivial hlt1
    rw [aq] at hK
    simp only [go_sem,hfree,f1,f2,hgi,hgt',hsi,hst,ar,aq,az,av,aM,au,aE,hne,ne_eq,hne',hl5,Int.toNat_natCast,aG,aH,i1,Int.reduceLE,eq_self,not_false_eq_true,Bool.not_true,Bool.not_false,Bool.true_and,Bool.false_and,List.length_append,yaz,yba,Nat.zero_add,gD,hsl,e2,k2,hs,if_true,hp2,h3]
    refine ⟨by omega,fun b t' hb=>?_⟩
    have ht2:t'.length≤100000:=by omega
    simp only [aP,go_sem,hfree,f1,f2,hgi,hgt',hsi,hst,ar,aq,az,av,aM,au,aE,hne,ne_eq,hne',hl5,Int.toNat_natCast,aG,aH,i1,Int.reduceLE,eq_self,not_false_eq_true,Bool.not_true,Bool.not_false,Bool.true_and,Bool.false_and,List.length_append,yaz,yba,Nat.zero_add,ht2,e6]
    have hK':=hK t'.length (t'++[⟨8+i,a,b,[],[],0⟩]) (by simp;omega)
    have hc3:=hcl2 q true (t'++[⟨8+i,a,b,[],[],0⟩])
    simp only [List.length_append,yaz,yba,Nat.zero_add] at hK' hc3
    exact bw hK' (hnx _ _) (AHeap.Le.refl _) hc3
   cases h4
   obtain ⟨k1b,k2b,k3b,k4b,k5b,k6b⟩:=aN _ h3 k5 trivial hlt1
   simp only [Rl.isL,Bool.false_eq_true,if_false] at k4b
   have ht2:t2.length≤100000:=by omega
   simp only [go_sem,hfree,f1,f2,hgi,hgt',hsi,hst,ar,aq,az,av,aM,au,aE,hne,ne_eq,hne',hl5,Int.toNat_natCast,aG,aH,i1,Int.reduceLE,eq_self,not_false_eq_true,Bool.not_true,Bool.not_false,Bool.true_and,Bool.false_and,List.length_append,yaz,yba,Nat.zero_add,gD,hsl,e2,k2,hs,if_true,hp2,h3,ht2,nd2,e6]
   refine ⟨by omega,?_⟩
   have hc3:=hcl2 p2 false (t2++[⟨8+i,a,b,[],[],0⟩])
   simp only [List.length_append,yaz,yba,Nat.zero_add,az,nd2] at hK hc3
   exact bw hK (hnx _ _) (AHeap.Le.refl _) hc3
 ·have hi6:i=6:=by simp at hc;omega
  subst hi6
  have hno:dN l p1 opsC=none:=by rw [← hop];rfl
  rw [hno] at h2
  cases h2
  rw [az] at hK
  simp only [go_sem,hfree,f1,f2,hgi,hgt',hsi,hst,ar,aq,az,av,aM,au,aE,hne,ne_eq,hne',hl5,Int.toNat_natCast,aG,aH,i1,Int.reduceLE,eq_self,not_false_eq_true,Bool.not_true,Bool.not_false,Bool.true_and,Bool.false_and,List.length_append,yaz,yba,Nat.zero_add]
  exact bw hK (hnx _ _) (AHeap.Le.refl _) (hcl2 _ _ _)
end Go.AL
open Go Go.AL Go.Proofs
namespace Go.AL
set_option linter.all false
set_option maxRecDepth 10000
def iH (A:Prop) (f:Nat):List AV→AHeap→(AV→AHeap→Prop)→Prop
 |[.str s],H,K=>∃ n,(A∧lit s=some n∧s.length≤1000)∧K (vv n) H
 |_,_,_=>False
theorem u4 {H:AHeap} {id tb p:Nat} {o:AObj} {l:List Tok} {t:List Nd} (h:dh H id tb l p t):dh (H.push o) id tb l p t:=by
 obtain ⟨h1,h2,h3,h4,h5,h6,h7⟩:=h
 refine ⟨h1,?_,h3,h4,h5,h6,h7⟩
 rw [AHeap.get_push_lt _ _ (AHeap.get_lt h2)];exact h2
theorem w6 {A:Prop} {f:Nat} (h_zVal:EntOk Try.prog 106 (Ent.some (iH A f))) (h_zImp:EntOk Try.prog 40 (Ent.some (dD A f))):EntOk Try.prog 104 (Ent.some (g8 A (f+1))):=by
 refine EntOk.some fun args H K h=>?_
 unfold g8 aE at h
 split at h
 rotate_left
 ·exact h.elim
 rename_i id
 obtain ⟨m,l,p,b,tb,t,hg,⟨rfl,hpre,hfree⟩,hK⟩:=h
 cases ho:run l (f+1) .atom p t with
 |none=>rw [ho] at hK;exact hK.elim
 |some r =>
 rw [ho] at hK
 rw [run] at ho
 simp only [cr] at ho
 have hpre':=hpre
 obtain ⟨hne,htb,ht,hp,hl,hgl,hgt⟩:=hpre
 have hid:=AHeap.get_lt hg
 have htbl:=AHeap.get_lt htb
 have f1:=bq hid
 have f2:=bq htbl
 have hl5:l.length≤100000:=by omega
 have i1:=@Int.natCast_nonneg
 have hne':(id=tb)=False:=eq_false hne
 have hnx:∀ X Y,H.nx≤((H.set id X).set tb Y).nx:=fun X Y=>Nat.le_refl _
 refine ACallsP.of_aw (Ω:=[(106,Ent.some (iH A f)),(71,Ent.effect av),(72,Ent.effect au),(107,Ent.effect kp),(40,Ent.some (dD A f))]) (T:=aA []) aI (TblOk.cons h_zVal (TblOk.cons dr (TblOk.cons db (TblOk.cons za (TblOk.cons h_zImp TblOk.nil))))) Try.func104 (by kernel_rfl) (by rfl) (rs:=[.tmp 2]) (by rfl) (by kernel_rfl) (by simp only [Try.ntmps104,yaz,yba];decide) fun hcl hlt=>?_
 change aw _ _ _ (KI Try.prog [(106,Ent.some (iH A f)),(71,Ent.effect av),(72,Ent.effect au),(107,Ent.effect kp),(40,Ent.some (dD A f))] (dK Try.prog [.tmp 2] H.nx _) []) _ _
 clear hlt
 obtain ⟨hgi,hgt',hsi,hcl2,hst⟩:=dp hg hpre' hcl
 have hgi1:∀ X,(H.set id X).get id=some X:=fun X=>AHeap.get_set_same _ _ hid
 have hgt1:∀ X,(H.set id X).get tb=some (.buf 7 t.length):=fun X=>by rw [AHeap.get_set_ne _ _ (fun e=>hne e.symm)];exact htb
 have hss:∀ X Y,(H.set id X).set id Y=H.set id Y:=fun X Y=>by simp only [AHeap.set];congr 1;funext k;by_cases hk:k=id<;>simp [hk]
 have hcs:=bz (cs:=[.slice m 3 (bR l),.int .i64 (p:Int),.bool false,.slice (.own tb) 7 (nds t)]) hg
 have ht5:t.length≤100000:=by omega
 have hx1:(id=H.nx)=False:=eq_false (by omega)
 have e1:IntKind.i64.wrap ((p:Int)+1)=((p+1:Nat):Int):=by rw [wrap_i64]<;>omega
 rcases Nat.lt_or_ge p l.length with hlt0|hlt0
 rotate_left
 ·have hpe:p=l.length:=by omega
  subst hpe
  have hge:l[l.length]?=none:=List.getElem?_eq_none (Nat.le_refl _)
  have hs0:isS l l.length [40]=false:=pP (Nat.le_refl _)
  have hr:bX l l.length t=.bad l.length:=by unfold bX;rw [hge]
  have d0:((l.length:Int)==(l.length:Int))=true:=by simp
  rw [hs0,if_neg (by simp),hr] at ho
  cases ho
  rw [aq] at hK
  simp only [go_sem,hfree,f1,f2,hgi,hgt',hsi,hst,ar,aq,az,av,aM,au,aE,hne,ne_eq,hne',hl5,Int.toNat_natCast,aG,aH,i1,Int.reduceLE,eq_self,not_false_eq_true,Bool.not_true,Bool.not_false,Bool.true_and,Bool.false_and,List.length_append,yaz,yba,Nat.zero_add,hg,hp,hcs,aB,bO,hgi1,hgt1,hss,ht5,if_true,if_false,d0]
  have hK':=hK 0 t (Nat.le_refl _)
  have hc3:=hcl2 l.length true t
  rw [← mG htb hne] at hK' hc3
  exact bw (H1:=H.set id (rst m l l.length true tb t)) hK' (Nat.le_refl _) (AHeap.Le.refl _) hc3
 rcases htk:l[p] with ⟨k,x,z⟩
 have hgd:=hP hlt0 htk
 have hge:l[p]?=some (k,x,z):=by rw [List.getElem?_eq_getElem hlt0,htk]
 have d0:((p:Int)==(l.length:Int))=false:=by simp;omega
 have hp1:p+1≤l.length:=hlt0
 obtain ⟨hxl,hxs⟩:=hgl l[p] (List.getElem_mem hlt0)
 rw [htk] at hxl hxs
 dsimp only at hxl hxs
 have hat:=tg hlt0 htk (s:=[40])
 by_cases hk1:k=1
 ·subst hk1
  have hA:A:=hfree p (by unfold kh;rw [hge])
  obtain ⟨n,hn⟩:=Option.isSome_iff_exists.1 (hxs rfl)
  have hn128:=qk hn
  have hvo:vOf (n/2^64) (n % 2^64)=n:=gP n
  have hv1:isV (n/2^64:Nat) (n % 2^64:Nat)=True:=eq_true (by refine ⟨?_,?_,?_,?_⟩<;>omega)
  have hr:bX l p t=.ok t.length (p+1) (t++[⟨1,0,0,[],[],n⟩]):=by unfold bX;rw [hge];simp [hn]
  have hd1:(((1:Nat):Int)==1)=true:=rfl
  have hs0:isS l p [40]=false:=by rw [hat];rfl
  rw [hs0,if_neg (by simp),hr] at ho
  cases ho
  simp only [go_sem,hfree,f1,f2,hgi,hgt',hsi,hst,ar,aq,az,av,aM,au,aE,hne,ne_eq,hne',hl5,Int.toNat_natCast,aG,aH,i1,Int.reduceLE,eq_self,not_false_eq_true,Bool.not_true,Bool.not_false,Bool.true_and,Bool.false_and,List.length_append,yaz,yba,Nat.zero_add,hg,hp,hcs,aB,hgd,bO,hgi1,hgt1,hss,ht5,if_true,if_false,d0,hd1,e1]
  refine ⟨by omega,?_⟩
  simp only [iH]
  refine ⟨n,⟨hA,hn,hxl⟩,?_⟩
  simp only [vv,aP,go_sem,hfree,f1,f2,hgi,hgt',hsi,hst,ar,aq,az,av,aM,au,aE,hne,ne_eq,hne',hl5,Int.toNat_natCast,aG,aH,i1,Int.reduceLE,eq_self,not_false_eq_true,Bool.not_true,Bool.not_false,Bool.true_and,Bool.false_and,List.length_append,yaz,yba,Nat.zero_add,hg,hp,hcs,aB,hgd,bO,hgi1,hgt1,hss,ht5,if_true,if_false,d0,hd1,e1,hvo,hv1]
  have hc3:=hcl2 (p+1) false (t++[⟨1,0,0,[],[],n⟩])
  simp only [List.length_append,yaz,yba,Nat.zero_add,az] at hK hc3
  exact bw hK (Nat.le_refl _) ((AHeap.Le.refl _).push _) hc3
 have d1:((k:Int)==1)=false:=by simp;omega
 by_cases hk2:k=2
 ·subst hk2
  have hs0:isS l p [40]=false:=by rw [hat];rfl
  have hd2:(((2:Nat):Int)==1)=false:=rfl
  have hd3:(((2:Nat):Int)==2)=true:=rfl
  rw [hs0,if_neg (by simp)] at ho
  by_cases hx1':x=lO
  ·have hr:bX l p t=.ok t.length (p+1) (t++[⟨2,0,0,[],[],1⟩]):=by unfold bX;rw [hge];simp [hx1']
   have hb1:(x==[116,114,117,101])=true:=by rw [hx1'];rfl
   rw [hr] at ho
   cases ho
   simp only [go_sem,hfree,f1,f2,hgi,hgt',hsi,hst,ar,aq,az,av,aM,au,aE,hne,ne_eq,hne',hl5,Int.toNat_natCast,aG,aH,i1,Int.reduceLE,eq_self,not_false_eq_true,Bool.not_true,Bool.not_false,Bool.true_and,Bool.false_and,List.length_append,yaz,yba,Nat.zero_add,hg,hp,hcs,aB,hgd,bO,hgi1,hgt1,hss,ht5,if_true,if_false,d0,hd2,hd3,e1,hb1,zF,zA]
   refine ⟨by omega,?_⟩
   have hc3:=hcl2 (p+1) false (t++[⟨2,0,0,[],[],1⟩])
   simp only [List.length_append,yaz,yba,Nat.zero_add,az] at hK hc3
   exact bw hK (Nat.le_refl _) ((AHeap.Le.refl _).push _) hc3
  have hb1:(x==[116,114,117,101])=false:=by simpa [lO] using hx1'
  by_cases hx2:x=i9
  ·have hr:bX l p t=.ok t.length (p+1) (t++[⟨2,0,0,[],[],0⟩]):=by unfold bX;rw [hge];simp [hx1',hx2];decide
   have hb2:(x==[102,97,108,115,101])=true:=by rw [hx2];rfl
   rw [hr] at ho
   cases ho
   simp only [go_sem,hfree,f1,f2,hgi,hgt',hsi,hst,ar,aq,az,av,aM,au,aE,hne,ne_eq,hne',hl5,Int.toNat_natCast,aG,aH,i1,Int.reduceLE,eq_self,not_false_eq_true,Bool.not_true,Bool.not_false,Bool.true_and,Bool.false_and,List.length_append,yaz,yba,Nat.zero_add,hg,hp,hcs,aB,hgd,bO,hgi1,hgt1,hss,ht5,if_true,if_false,d0,hd2,hd3,e1,hb1,hb2]
   refine ⟨by omega,?_⟩
   have hc3:=hcl2 (p+1) false (t++[⟨2,0,0,[],[],0⟩])
   simp only [List.length_append,yaz,yba,Nat.zero_add,az] at hK hc3
   exact bw hK (Nat.le_refl _) ((AHeap.Le.refl _).push _) hc3
  have hb2:(x==[102,97,108,115,101])=false:=by simpa [i9] using hx2
  cases hs3:isS l (p+1) [58,58] with
  |false =>
   have hr:bX l p t=.ok t.length (p+1) (t++[⟨3,0,0,x,[],0⟩]):=by unfold bX;rw [hge];simp [hx1',hx2,hs3]
   rw [hr] at ho
   cases ho
   simp only [go_sem,hfree,f1,f2,hgi,hgt',hsi,hst,ar,aq,az,av,aM,au,aE,hne,ne_eq,hne',hl5,Int.toNat_natCast,aG,aH,i1,Int.reduceLE,eq_self,not_false_eq_true,Bool.not_true,Bool.not_false,Bool.true_and,Bool.false_and,List.length_append,yaz,yba,Nat.zero_add,hg,hp,hcs,aB,hgd,bO,hgi1,hgt1,hss,ht5,if_true,if_false,kp,d0,hd2,hd3,e1,hb1,hb2,hp1,hs3,Bool.false_eq_true]
   refine ⟨by omega,?_⟩
   have hc3:=hcl2 (p+1) false (t++[⟨3,0,0,x,[],0⟩])
   simp only [List.length_append,yaz,yba,Nat.zero_add,az] at hK hc3
   exact bw hK (Nat.le_refl _) ((AHeap.Le.refl _).push _) hc3
  |true =>
   have hlt3:=bT hs3
   cases hw2:fw l (p+1+1) with
   |none =>
    have hr:bX l p t=.bad (p+1+1):=by
     unfold bX;rw [hge];simp [hx1',hx2,hs3]
     unfold fw at hw2
     cases hge2:l[p+1+1]? with
     |none=>rfl
     |some v =>
      obtain ⟨k2,y,z2⟩:=v
      rw [hge2] at hw2
      dsimp only at hw2 ⊢
      split at hw2
      ·cases hw2
      ·rename_i hk;rw [if_neg hk]
    rw [hr] at ho
    cases ho
    rw [aq] at hK
    simp only [go_sem,hfree,f1,f2,hgi,hgt',hsi,hst,ar,aq,az,av,aM,au,aE,hne,ne_eq,hne',hl5,Int.toNat_natCast,aG,aH,i1,Int.reduceLE,eq_self,not_false_eq_true,Bool.not_true,Bool.not_false,Bool.true_and,Bool.false_and,List.length_append,yaz,yba,Nat.zero_add,hg,hp,hcs,aB,hgd,bO,hgi1,hgt1,hss,ht5,if_true,if_false,kp,d0,hd2,hd3,e1,hb1,hb2,hp1,hs3,hw2,cQ]
    refine ⟨by omega,?_⟩
    have hK':=hK 0 t (by omega)
    have hc3:=hcl2 (p+1+1) true t
    rw [← mG htb hne] at hK' hc3
    exact bw hK' (Nat.le_refl _) ((AHeap.Le.refl _).push _) hc3
   |some y =>
    have hr:bX l p t=.ok t.length (p+1+1+1) (t++[⟨3,0,0,x,y,0⟩]):=by
     unfold bX;rw [hge];simp [hx1',hx2,hs3]
     unfold fw at hw2
     cases hge2:l[p+1+1]? with
     |none=>rw [hge2] at hw2;cases hw2
     |some v =>
      obtain ⟨k2,y2,z2⟩:=v
      rw [hge2] at hw2
      dsimp only at hw2 ⊢
      split at hw2
      ·rename_i hk;cases hw2;rw [if_pos hk]
      ·cases hw2
    rw [hr] at ho
    cases ho
    simp only [go_sem,hfree,f1,f2,hgi,hgt',hsi,hst,ar,aq,az,av,aM,au,aE,hne,ne_eq,hne',hl5,Int.toNat_natCast,aG,aH,i1,Int.reduceLE,eq_self,not_false_eq_true,Bool.not_true,Bool.not_false,Bool.true_and,Bool.false_and,List.length_append,yaz,yba,Nat.zero_add,hg,hp,hcs,aB,hgd,bO,hgi1,hgt1,hss,ht5,if_true,if_false,kp,d0,hd2,hd3,e1,hb1,hb2,hp1,hs3,hw2,dH]
    refine ⟨by omega,?_⟩
    have hc3:=hcl2 (p+1+1+1) false (t++[⟨3,0,0,x,y,0⟩])
    simp only [List.length_append,yaz,yba,Nat.zero_add,az] at hK hc3
    exact bw hK (Nat.le_refl _) ((AHeap.Le.refl _).push _) hc3
 have d2:((k:Int)==2)=false:=by simp;omega
 cases hs0:isS l p [40] with
 |false =>
  have hr:bX l p t=.bad p:=by unfold bX;rw [hge];simp [hk1,hk2]
  rw [hs0,if_neg (by simp),hr] at ho
  cases ho
  rw [aq] at hK
  simp only [go_sem,hfree,f1,f2,hgi,hgt',hsi,hst,ar,aq,az,av,aM,au,aE,hne,ne_eq,hne',hl5,Int.toNat_natCast,aG,aH,i1,Int.reduceLE,eq_self,not_false_eq_true,Bool.not_true,Bool.not_false,Bool.true_and,Bool.false_and,List.length_append,yaz,yba,Nat.zero_add,hg,hp,hcs,aB,hgd,bO,hgi1,hgt1,hss,ht5,if_true,if_false,d0,d1,d2,hs0,Bool.false_eq_true]
  refine ⟨by omega,?_⟩
  have hK':=hK 0 t (Nat.le_refl _)
  have hc3:=hcl2 p true t
  rw [← mG htb hne] at hK' hc3
  exact bw (H1:=H.set id (rst m l p true tb t)) hK' (Nat.le_refl _) ((AHeap.Le.refl _).push _) hc3
 |true =>
  rw [hs0,if_pos rfl] at ho
  have hp2:∀ o,dh ((H.set id (rst m l (p+1) false tb t)).push o) id tb l (p+1) t:=fun o=>u4 (fH hpre' hp1 (by omega))
  rcases aJ ho with ⟨q,h3,rfl⟩|⟨a,p1,t1,h3,h4⟩
  ·obtain ⟨hq1,hq2⟩:=aN _ h3 hgt trivial hp1
   rw [aq] at hK
   simp only [go_sem,hfree,f1,f2,hgi,hgt',hsi,hst,ar,aq,az,av,aM,au,aE,hne,ne_eq,hne',hl5,Int.toNat_natCast,aG,aH,i1,Int.reduceLE,eq_self,not_false_eq_true,Bool.not_true,Bool.not_false,Bool.true_and,Bool.false_and,List.length_append,yaz,yba,Nat.zero_add,hg,hp,hcs,aB,hgd,bO,hgi1,hgt1,hss,ht5,if_true,if_false,dD,d0,d1,d2,hs0,hp2,h3]
   refine ⟨by omega,fun a t' hb=>?_⟩
   simp only [aP,go_sem,hfree,f1,f2,hgi,hgt',hsi,hst,ar,aq,az,av,aM,au,aE,hne,ne_eq,hne',hl5,Int.toNat_natCast,aG,aH,i1,Int.reduceLE,eq_self,not_false_eq_true,Bool.not_true,Bool.not_false,Bool.true_and,Bool.false_and,List.length_append,yaz,yba,Nat.zero_add,hq1,hp,rst,bO]
   have hcc:∀ X Y,aC ((H.set id (.cells X)).set tb Y) id=some X:=fun X Y=>by rw [bC hne,cx hid,if_pos rfl]
   simp only [aP,go_sem,hfree,f1,f2,hgi,hgt',hsi,hst,ar,aq,az,av,aM,au,aE,hne,ne_eq,hne',hl5,Int.toNat_natCast,aG,aH,i1,Int.reduceLE,eq_self,not_false_eq_true,Bool.not_true,Bool.not_false,Bool.true_and,Bool.false_and,List.length_append,yaz,yba,Nat.zero_add,hq1,hp,hcc]
   have hK':=hK a t' (by omega)
   have hc3:=hcl2 q true t'
   exact bw hK' (Nat.le_refl _) ((AHeap.Le.refl _).push _) hc3
  ·obtain ⟨k1b,k2b,k3b,k4b,k5b,k6b⟩:=aN _ h3 hgt trivial hp1
   simp only [Rl.isL,Bool.false_eq_true,if_false] at k4b
   cases hs2:isS l p1 [41] with
   |true =>
    rw [hs2,if_pos rfl] at h4
    cases h4
    simp only [go_sem,hfree,f1,f2,hgi,hgt',hsi,hst,ar,aq,az,av,aM,au,aE,hne,ne_eq,hne',hl5,Int.toNat_natCast,aG,aH,i1,Int.reduceLE,eq_self,not_false_eq_true,Bool.not_true,Bool.not_false,Bool.true_and,Bool.false_and,List.length_append,yaz,yba,Nat.zero_add,hg,hp,hcs,aB,hgd,bO,hgi1,hgt1,hss,ht5,if_true,if_false,dD,d0,d1,d2,hs0,hp2,h3,k2b,hs2]
    refine ⟨by omega,?_⟩
    rw [az] at hK
    exact bw hK (Nat.le_refl _) ((AHeap.Le.refl _).push _) (hcl2 _ _ _)
   |false =>
    rw [hs2,if_neg (by simp)] at h4
    cases h4
    rw [aq] at hK
    have hcc:∀ X Y,aC ((H.set id (.cells X)).set tb Y) id=some X:=fun X Y=>by rw [bC hne,cx hid,if_pos rfl]
    simp only [go_sem,hfree,f1,f2,hgi,hgt',hsi,hst,ar,aq,az,av,aM,au,aE,hne,ne_eq,hne',hl5,Int.toNat_natCast,aG,aH,i1,Int.reduceLE,eq_self,not_false_eq_true,Bool.not_true,Bool.not_false,Bool.true_and,Bool.false_and,List.length_append,yaz,yba,Nat.zero_add,hg,hp,hcs,aB,hgd,bO,hgi1,hgt1,hss,ht5,if_true,if_false,dD,d0,d1,d2,hs0,hp2,h3,k2b,hs2,Bool.false_eq_true]
    simp only [rst,go_sem,hfree,f1,f2,hgi,hgt',hsi,hst,ar,aq,az,av,aM,au,aE,hne,ne_eq,hne',hl5,Int.toNat_natCast,aG,aH,i1,Int.reduceLE,eq_self,not_false_eq_true,Bool.not_true,Bool.not_false,Bool.true_and,Bool.false_and,List.length_append,yaz,yba,Nat.zero_add,hcc]
    refine ⟨by omega,?_⟩
    exact bw (hK a t1 (by omega)) (Nat.le_refl _) ((AHeap.Le.refl _).push _) (hcl2 _ _ _)
end Go.AL
