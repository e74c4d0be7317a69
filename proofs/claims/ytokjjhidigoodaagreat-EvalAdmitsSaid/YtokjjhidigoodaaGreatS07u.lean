/- Contracts and plain laws, a part of the proof; no condition of its own. -/
import Derived.Test.YtokjjhidigoodaaGreatS07v
import Derived.Test.YtokjjhidigoodaaGreatS07c
set_option maxHeartbeats 32000000
open List renaming length_cons → yaz, length_nil → yba, take_of_length_le → ybc, drop_append → ybd, take_append → ybe, drop_eq_nil_of_le → ybf
open Go Go.AL Go.Proofs
namespace Go.AL
set_option linter.all false
set_option maxRecDepth 10000
theorem E8:ti Tryz.prog 356=some ⟨.struct [(0,3,false),(1,3,false),(2,3,false),(3,9,false),(4,9,false),(5,48,false)],7,72,.agg [.int .i64 0,.int .i64 0,.int .i64 0,.str [],.str [],.int .u64 0,.int .u64 0]⟩:=by kernel_rfl
theorem Ed:ti Tryz.prog 207=some ⟨.slice 356,1,24,.slice .nil 1 []⟩:=by kernel_rfl
theorem BB:ti Tryz.prog 459=some ⟨.struct [(0,357,false),(1,3,false),(2,4,false),(3,207,false)],4,64,.agg [.slice .nil 1 [],.int .i64 0,.bool false,.slice .nil 1 []]⟩:=by kernel_rfl
attribute [go_sem] E8 Ed BB
def rst (m:Mark) (l:List Tok) (p:Nat) (b:Bool) (tb:Nat) (t:List Nd):AObj:=.cells [.slice m 3 (cU l),.int .i64 (p:Int),.bool b,.slice (.own tb) 7 (nds t)]
def onQ (o:Option AObj) (K:Mark→List Tok→Nat→Bool→Nat→List Nd→Prop):Prop:=∃ m l p b tb t,o=some (rst m l p b tb t)∧K m l p b tb t
@[congr] theorem K7 {o o':Option AObj} {K:Mark→List Tok→Nat→Bool→Nat→List Nd→Prop} (h:o=o'):onQ o K=onQ o' K:=by rw [h]
theorem aG {m:Mark} {l:List Tok} {p tb:Nat} {b:Bool} {t:List Nd} {K:Mark→List Tok→Nat→Bool→Nat→List Nd→Prop}:onQ (some (rst m l p b tb t)) K=K m l p b tb t:=by
 refine propext ⟨fun ⟨m',l',p',b',tb',t',h,hk⟩=>?_,fun h=>⟨m,l,p,b,tb,t,rfl,h⟩⟩
 simp only [rst,Option.some.injEq,AObj.cells.injEq,List.cons.injEq,AV.slice.injEq,AV.int.injEq,AV.bool.injEq,Mark.own.injEq,true_and,and_true] at h
 obtain ⟨⟨rfl,h1⟩,h2,rfl,rfl,h3⟩:=h
 have:=tu h1
 have:=xC h3
 have:p=p':=by omega
 subst_vars
 exact hk
theorem cO {m:Mark} {l:List Tok} {p tb:Nat} {b:Bool} {t:List Nd} {K:Mark→List Tok→Nat→Bool→Nat→List Nd→Prop}:onQ (some (.cells [.slice m 3 (cU l),.int .i64 (p:Int),.bool b,.slice (.own tb) 7 (nds t)])) K=K m l p b tb t:=aG
theorem gS {H:AHeap} {id:Nat} {m:Mark} {l:List Tok} {p tb:Nat} {b:Bool} {t:List Nd} (hg:H.get id=some (rst m l p b tb t)) (hcl:H.Closed) (p':Nat) (b':Bool) (t':List Nd):(H.set id (rst m l p' b' tb t')).Closed:=by
 have h0:=hcl id _ hg 0 (by simp)
 have h2:=hcl id _ hg 3 (by simp)
 simp only [List.getElem_cons_zero,List.getElem_cons_succ,pP,jx] at h0 h2
 refine ai hcl ?_
 simp only [znq,znr,pP,jx,znb,znc,and_true,true_and]
 exact ⟨h0,h2⟩
def aH:List AV→AHeap→(AEnd→AHeap→Prop)→Prop
 |[.ptr id 0,.agg [.int .i64 op,.int .i64 a,.int .i64 b,.str nm,.str att,.int .u64 hi,.int .u64 lo]],H,K=>onQ (H.get id) fun m l p bd tb t =>
   (0≤op∧0≤a∧0≤b∧kq hi lo∧id≠tb∧H.get tb=some (.buf 7 t.length)∧t.length≤100000) ∧
   K (.ret (.int .i64 (t.length:Int))) ((H.set id (rst m l p bd tb (t++[⟨op.toNat,a.toNat,b.toNat,nm,att,vOf hi.toNat lo.toNat⟩]))).set tb (.buf 7 (t.length+1)))
 |_,_,_=>False
theorem fD:EntOk Tryz.prog 471 (Ent.effect aH):=by
 refine EntOk.effect fun args H K h=>?_
 unfold aH at h
 split at h
 rotate_left
 ·exact h.elim
 rename_i id op a b nm att hi lo
 obtain ⟨m,l,p,bd,tb,t,hg,⟨h1,h2,h3,⟨h4,h5,h6,h7⟩,hne,htb,htl⟩,hK⟩:=h
 refine ⟨_,_,hK,?_⟩
 clear hK
 obtain ⟨op,rfl⟩:=cf h1
 obtain ⟨a,rfl⟩:=cf h2
 obtain ⟨b,rfl⟩:=cf h3
 obtain ⟨hi,rfl⟩:=cf h4
 obtain ⟨lo,rfl⟩:=cf h6
 simp only [Int.toNat_natCast]
 refine ACalls.fW aB TblOk.nil Tryz.func471 [.tmp 4] (Nat.le_refl _) (T:=aA [(1,[[],[],[],[],[],[],[5],[4,5],[],[],[4,5]])]) (h:=fun hcl hlt=>?_)
 clear hlt
 have hid:=AHeap.get_lt hg
 have htbl:=AHeap.get_lt htb
 have hcs:=av (cs:=[.slice m 3 (cU l),.int .i64 (p:Int),.bool bd,.slice (.own tb) 7 (nds t)]) hg
 have f1:=cm hid
 have f2:=cm htbl
 have g1:(id=tb)=False:=eq_false hne
 have g2:(tb=id)=False:=eq_false fun e=>hne e.symm
 have e1:nds t++[AV.agg [.int .i64 (op:Int),.int .i64 (a:Int),.int .i64 (b:Int),.str nm,.str att,.int .u64 (hi:Int),.int .u64 (lo:Int)]]=nds (t++[⟨op,a,b,nm,att,vOf hi lo⟩]):=by
  rw [← y5];unfold jD;simp only;rw [qT (by omega),wX (by omega)]
 have e2:IntKind.i64.wrap (((t.length+1:Nat):Int) - 1)=(t.length:Int):=by rw [wrap_i64]<;>omega
 have hcl1:=gS hg hcl p bd (t++[⟨op,a,b,nm,att,vOf hi lo⟩])
 have hcl2:((H.set id (rst m l p bd tb (t++[⟨op,a,b,nm,att,vOf hi lo⟩]))).set tb (.buf 7 (t.length+1))).Closed:=aa hcl1
 have s1:=lv (H:=H) hne
 have s2:=fun o=>(cx (H:=H) hne o).trans hcs
 have s3:∀ o cs,aL ((H.set id (.cells cs)).set tb o) id=some cs:=fun o cs=>by rw [cx hne,ex hid,if_pos rfl]
 simp only [go_sem,hcs,aF,f1,f2,g1,g2,htb,az,if_pos htbl,e1,s1,s2,s3,e2,List.length_append]
 refine ⟨⟨by omega,by omega,by simp [bI,AV.cells,AV.one]⟩,?_⟩
 simp only [rst] at hcl2 ⊢
 simp (disch:=first|exact Zd|omega) [↓zmk,beq,ybc,ybd,ybe,ag,wk,wk2,wk1,wkM,wkL,au,ybf,hcl2,htbl,jx]
def aW:List AV→AHeap→(AV→Prop)→Prop
 |[.ptr id 0,.str s],H,K=>onQ (H.get id) fun m l p b tb t=>(p≤l.length∧l.length≤100000)∧K (.bool (!b&&isS l p s))
 |_,_,_=>False
theorem xL:EntOk Tryz.prog 489 (Ent.pure aW):=by
 refine EntOk.pure fun args H K h=>?_
 unfold aW at h
 split at h
 rotate_left
 ·exact h.elim
 rename_i id s
 obtain ⟨m,l,p,b,tb,t,hg,⟨hp,hl⟩,hK⟩:=h
 have hid:=AHeap.get_lt hg
 have hcs:=av (cs:=[.slice m 3 (cU l),.int .i64 (p:Int),.bool b,.slice (.own tb) 7 (nds t)]) hg
 refine ⟨_,hK,?_⟩
 clear hK
 refine ACalls.fW aB TblOk.nil Tryz.func489 [.tmp 4] (Nat.le_refl _) (T:=aA []) (h:=fun hcl hlt=>?_)
 clear hlt
 cases b with
 |true =>
  simp only [go_sem,hcs]
  exact Z0
 |false =>
  by_cases hlt0:p<l.length
  ·rcases htk:l[p] with ⟨k,x,z⟩
   have hgd:=lY hlt0 htk
   have d1:decide ((p:Int)<(l.length:Int))=true:=by simp;omega
   rw [A0 hlt0 htk]
   by_cases hk:k=3
   ·subst hk
    have d2:(((3:Nat):Int)==3)=true:=rfl
    simp only [go_sem,hcs,aO,hgd,d1,d2,Int.toNat_natCast]
    refine ⟨by omega,by omega,?_⟩
    exact Z0
   ·have d2:((k:Int)==3)=false:=by simp;omega
    have d3:(k==3)=false:=by simpa using hk
    simp only [go_sem,hcs,aO,hgd,d1,d2,Int.toNat_natCast]
    refine ⟨by omega,?_⟩
    simp (disch:=first|exact Zd|omega) [↓zmk,beq,ybc,ybd,ybe,ag,wk,wk2,wk1,wkM,wkL,au,ybf,hcl,d3]
  ·have d1:decide ((p:Int)<(l.length:Int))=false:=by simp;omega
   rw [yk (by omega)]
   simp only [go_sem,hcs,aO,d1]
   exact Z0
def aJ:List AV→AHeap→(AEnd→AHeap→Prop)→Prop
 |[.ptr id 0,.str s],H,K=>onQ (H.get id) fun m l p b tb t=>(p≤l.length∧l.length≤100000) ∧
   if (!b&&isS l p s)=true then K (.ret (.bool true)) (H.set id (rst m l (p+1) b tb t)) else K (.ret (.bool false)) H
 |_,_,_=>False
theorem fQ:EntOk Tryz.prog 470 (Ent.effect aJ):=by
 refine EntOk.effect fun args H K h=>?_
 unfold aJ at h
 split at h
 rotate_left
 ·exact h.elim
 rename_i id s
 obtain ⟨m,l,p,b,tb,t,hg,⟨hp,hl⟩,hK⟩:=h
 have hid:=AHeap.get_lt hg
 have hcs:=av (cs:=[.slice m 3 (cU l),.int .i64 (p:Int),.bool b,.slice (.own tb) 7 (nds t)]) hg
 have e1:IntKind.i64.wrap ((p:Int)+1)=((p+1:Nat):Int):=by rw [wrap_i64]<;>omega
 cases hs:(!b&&isS l p s) with
 |true =>
  rw [hs,if_pos rfl] at hK
  refine ⟨_,_,hK,?_⟩
  clear hK
  refine ACalls.fW aB (TblOk.cons xL TblOk.nil) Tryz.func470 [.tmp 4] (Nat.le_refl _) (T:=aA []) (h:=fun hcl hlt=>?_)
  clear hlt
  have hcl1:=gS hg hcl (p+1) b t
  simp only [go_sem,aW,hg,aG,hp,hl,hs,hcs,e1]
  change ag (H.set id (rst m l (p+1) b tb t)) _ _ _
  exact Z25
 |false =>
  rw [hs,if_neg (by simp)] at hK
  refine ⟨_,_,hK,?_⟩
  clear hK
  refine ACalls.fW aB (TblOk.cons xL TblOk.nil) Tryz.func470 [.tmp 4] (Nat.le_refl _) (T:=aA []) (h:=fun hcl hlt=>?_)
  clear hlt
  simp only [go_sem,aW,hg,aG,hp,hl,hs,hcs,e1]
  exact Z0
def pq:List AV→AHeap→(AEnd→AHeap→Prop)→Prop
 |[.ptr id 0,.str x],H,K=>onQ (H.get id) fun m l p b tb t=>(b=false∧id≠tb∧H.get tb=some (.buf 7 t.length)∧t.length≤100000∧p≤l.length∧l.length≤100000) ∧
   if isS l p [58,58]=true then
    onW (jA l (p+1)) (fun y=>K (.ret (.int .i64 (t.length:Int))) ((H.set id (rst m l (p+1+1) false tb (t++[⟨3,0,0,x,y,0⟩]))).set tb (.buf 7 (t.length+1)))) (K (.ret (.int .i64 0)) (H.set id (rst m l (p+1) true tb t)))
   else K (.ret (.int .i64 (t.length:Int))) ((H.set id (rst m l p false tb (t++[⟨3,0,0,x,[],0⟩]))).set tb (.buf 7 (t.length+1)))
 |_,_,_=>False
theorem Ji:EntOk Tryz.prog 513 (Ent.effect pq):=by
 refine EntOk.effect fun args H K h=>?_
 unfold pq at h
 split at h
 rotate_left
 ·exact h.elim
 rename_i id x
 obtain ⟨m,l,p,b,tb,t,hg,⟨rfl,hne,htb,ht,hp,hl⟩,hK⟩:=h
 have hid:=AHeap.get_lt hg
 have htbl:=AHeap.get_lt htb
 have hcs:=av (cs:=[.slice m 3 (cU l),.int .i64 (p:Int),.bool false,.slice (.own tb) 7 (nds t)]) hg
 have f1:=cm hid
 have f2:=cm htbl
 have g1:(id=tb)=False:=eq_false hne
 have hgi:∀ o,(H.set id o).get id=some o:=fun o=>AHeap.get_set_same _ _ hid
 have hgt:∀ o,(H.set id o).get tb=some (.buf 7 t.length):=fun o=>by rw [AHeap.get_set_ne _ _ (fun e=>hne e.symm)];exact htb
 have hss:∀ X Y,(H.set id X).set id Y=H.set id Y:=fun X Y=>by simp only [AHeap.set];congr 1;funext k;by_cases hk:k=id<;>simp [hk]
 have hcc:∀ cs,aL (H.set id (.cells cs)) id=some cs:=fun cs=>by rw [ex hid,if_pos rfl]
 cases hs:isS l p [58,58] with
 |false =>
  rw [hs,if_neg (by simp)] at hK
  refine ⟨_,_,hK,?_⟩
  clear hK
  refine ACalls.fW aB (TblOk.cons fQ (TblOk.cons fD TblOk.nil)) Tryz.func513 [.tmp 4] (Nat.le_refl _) (T:=aA [(7,[[],[],[],[],[],[],[],[],[],[],[],[],[],[],[],[5,9,13]])]) (h:=fun hcl hlt=>?_)
  clear hlt
  have hcl1:=gS hg hcl p false (t++[⟨3,0,0,x,[],0⟩])
  have hcl2:((H.set id (rst m l p false tb (t++[⟨3,0,0,x,[],0⟩]))).set tb (.buf 7 (t.length+1))).Closed:=aa hcl1
  simp only [go_sem,aJ,aH,hg,aG,hp,hl,hs,Bool.not_false,Bool.true_and,if_false,hne,ne_eq,g1,not_false_eq_true,htb,ht,aQ,aR,Int.reduceLE]
  exact Z23
 |true =>
  rw [hs,if_pos rfl] at hK
  have hlt0:=cX hs
  have e1:IntKind.i64.wrap (((p+1:Nat):Int)+1)=((p+1+1:Nat):Int):=by rw [wrap_i64]<;>omega
  have e2:IntKind.i64.wrap (((p+1+1:Nat):Int) - 1)=((p+1:Nat):Int):=by rw [wrap_i64]<;>omega
  unfold jA at hK
  by_cases hlt1:p+1<l.length
  ·rcases htk:l[p+1] with ⟨k,y,z⟩
   have hgd:=lY hlt1 htk
   rw [List.getElem?_eq_getElem hlt1,htk] at hK
   dsimp only at hK
   have d1:(((p+1:Nat):Int)==(l.length:Int))=false:=by simp;omega
   by_cases hk:k=2
   ·subst hk
    rw [if_pos rfl,fV] at hK
    refine ⟨_,_,hK,?_⟩
    clear hK
    refine ACalls.fW aB (TblOk.cons fQ (TblOk.cons fD TblOk.nil)) Tryz.func513 [.tmp 4] (Nat.le_refl _) (T:=aA [(7,[[],[],[],[],[],[],[],[],[],[],[],[],[],[],[],[5,9,13]])]) (h:=fun hcl hlt=>?_)
    clear hlt
    have d2:(((2:Nat):Int) != 2)=false:=rfl
    have hcl1:=gS hg hcl (p+1+1) false (t++[⟨3,0,0,x,y,0⟩])
    have hcl2:((H.set id (rst m l (p+1+1) false tb (t++[⟨3,0,0,x,y,0⟩]))).set tb (.buf 7 (t.length+1))).Closed:=aa hcl1
    simp only [go_sem,aJ,aH,hg,aG,cO,hp,hl,hs,Bool.not_false,Bool.true_and,if_true,hne,ne_eq,g1,not_false_eq_true,hgi,hgt,hss,hcc,ht,aQ,aR,Int.reduceLE,rst,aO,hgd,d1,d2,e1,e2,Int.toNat_natCast]
    refine ⟨by omega,by omega,?_⟩
    change ag ((H.set id (rst m l (p+1+1) false tb (t++[⟨3,0,0,x,y,0⟩]))).set tb (.buf 7 (t.length+1))) _ ((H.set id (rst m l (p+1+1) false tb (t++[⟨3,0,0,x,y,0⟩]))).set tb (.buf 7 (t.length+1))) _
    exact Z23
   ·have d2:((k:Int) != 2)=true:=by simp;omega
    rw [if_neg hk,fb] at hK
    refine ⟨_,_,hK,?_⟩
    clear hK
    refine ACalls.fW aB (TblOk.cons fQ (TblOk.cons fD TblOk.nil)) Tryz.func513 [.tmp 4] (Nat.le_refl _) (T:=aA [(7,[[],[],[],[],[],[],[],[],[],[],[],[],[],[],[],[5,9,13]])]) (h:=fun hcl hlt=>?_)
    clear hlt
    have hcl1:=gS hg hcl (p+1) true t
    simp only [go_sem,aJ,aH,hg,aG,cO,hp,hl,hs,Bool.not_false,Bool.true_and,if_true,hne,ne_eq,g1,not_false_eq_true,hgi,hgt,hss,hcc,ht,rst,aO,hgd,d1,d2,Int.toNat_natCast]
    refine ⟨by omega,?_⟩
    change ag (H.set id (rst m l (p+1) true tb t)) _ (H.set id (rst m l (p+1) true tb t)) _
    exact Z25
  ·have hpe:p+1=l.length:=by omega
   rw [List.getElem?_eq_none (by omega)] at hK
   dsimp only at hK
   rw [fb] at hK
   refine ⟨_,_,hK,?_⟩
   clear hK
   refine ACalls.fW aB (TblOk.cons fQ (TblOk.cons fD TblOk.nil)) Tryz.func513 [.tmp 4] (Nat.le_refl _) (T:=aA [(7,[[],[],[],[],[],[],[],[],[],[],[],[],[],[],[],[5,9,13]])]) (h:=fun hcl hlt=>?_)
   clear hlt
   have d1:(((p+1:Nat):Int)==(l.length:Int))=true:=by simp;omega
   have hcl1:=gS hg hcl (p+1) true t
   simp only [go_sem,aJ,aH,hg,aG,cO,hp,hl,hs,Bool.not_false,Bool.true_and,if_true,hne,ne_eq,g1,not_false_eq_true,hgi,hgt,hss,hcc,ht,rst,aO,d1,Int.toNat_natCast]
   change ag (H.set id (rst m l (p+1) true tb t)) _ (H.set id (rst m l (p+1) true tb t)) _
   exact Z25
end Go.AL
open Go Go.AL Go.Proofs
namespace Go.AL
set_option linter.all false
set_option maxRecDepth 10000
def FG (m:Mark) (l:List Tok) (tb id:Nat) (H:AHeap) (K:AV→AHeap→Prop) (p0:Nat) (t0:List Nd) (o:Option PR):Prop:=match o with
 |none=>False
 |some (.ok a p t)=>K (.int .i64 (a:Int)) ((H.set id (rst m l p false tb t)).set tb (.buf 7 t.length))
 |some (.bad p)=>∀ (a:Nat) (t:List Nd),t.length+p0≤t0.length+p→K (.int .i64 (a:Int)) ((H.set id (rst m l p true tb t)).set tb (.buf 7 t.length))
section
variable {m:Mark} {l:List Tok} {tb id p0:Nat} {H:AHeap} {K:AV→AHeap→Prop} {t0:List Nd}
@[congr] theorem J8 {o o':Option PR} (h:o=o'):FG m l tb id H K p0 t0 o=FG m l tb id H K p0 t0 o':=by rw [h]
theorem aK {a p:Nat} {t:List Nd}:FG m l tb id H K p0 t0 (some (.ok a p t))=K (.int .i64 (a:Int)) ((H.set id (rst m l p false tb t)).set tb (.buf 7 t.length)):=rfl
theorem aE {p:Nat}:FG m l tb id H K p0 t0 (some (.bad p))=∀ (a:Nat) (t:List Nd),t.length+p0≤t0.length+p→K (.int .i64 (a:Int)) ((H.set id (rst m l p true tb t)).set tb (.buf 7 t.length)):=rfl
end
/-- is there no literal, unless one is allowed -/
def Cd (A:Prop) (l:List Tok):Prop:=∀ p,oZ l p=1→A
def aP (A:Prop) (rl:Rl) (f:Nat):List AV→AHeap→(AV→AHeap→Prop)→Prop
 |[.ptr id 0],H,K=>onQ (H.get id) fun m l p b tb t=>(b=false∧fJ H id tb l p t∧Cd A l)∧FG m l tb id H K p t (run l f rl p t)
 |_,_,_=>False
def fZ (A:Prop) (f:Nat):=aP A .imp f
def ow (A:Prop) (f:Nat):=aP A .or f
def kT (A:Prop) (f:Nat):=aP A .and f
def gW (A:Prop) (f:Nat):=aP A .not f
def ph (A:Prop) (f:Nat):=aP A .cmp f
def kZ (A:Prop) (f:Nat):=aP A .sum f
def jp (A:Prop) (f:Nat):=aP A .un f
def l9 (A:Prop) (f:Nat):=aP A .atom f
theorem jR {H:AHeap} {id tb p p':Nat} {o:AObj} {l:List Tok} {t t':List Nd} (h:fJ H id tb l p t) (hp:p'≤l.length) (ht:t'.length≤p') (hg:Good t'):fJ ((H.set id o).set tb (.buf 7 t'.length)) id tb l p' t':=by
 obtain ⟨h1,h2,h3,h4,h5,h6,h7⟩:=h
 have htb:=AHeap.get_lt h2
 refine ⟨h1,?_,ht,hp,h5,h6,hg⟩
 rw [az,if_pos rfl,if_pos (by simpa [zlb] using htb)]
theorem gf {H:AHeap} {id tb p:Nat} {m:Mark} {l:List Tok} {b:Bool} {t:List Nd} (hg:H.get id=some (rst m l p b tb t)) (h:fJ H id tb l p t) (hcl:H.Closed) :
 (∀ X Y,((H.set id X).set tb Y).get id=some X)∧(∀ X Y,((H.set id X).set tb Y).get tb=some Y)∧(∀ X Y Z,((H.set id X).set tb Y).set id Z=(H.set id Z).set tb Y) ∧
   (∀ p' b' t',((H.set id (rst m l p' b' tb t')).set tb (.buf 7 t'.length)).Closed)∧(∀ X Y Z,((H.set id X).set tb Y).set tb Z=(H.set id X).set tb Z):=by
 obtain ⟨h1,h2,h3,h4,h5,h6,h7⟩:=h
 have hid:=AHeap.get_lt hg
 have htb:=AHeap.get_lt h2
 refine ⟨fun X Y=>?_,fun X Y=>?_,fun X Y Z=>?_,fun p' b' t'=>aa (gS hg hcl p' b' t'),fun X Y Z=>?_⟩
 ·rw [AHeap.get_set_ne _ _ h1];exact AHeap.get_set_same _ _ hid
 ·exact AHeap.get_set_same _ _ (by simpa [zlb] using htb)
 ·rw [lv h1];congr 1;simp only [AHeap.set];congr 1;funext k;by_cases hk:k=id<;>simp [hk]
 ·simp only [AHeap.set];congr 1;funext k;by_cases hk:k=tb<;>simp [hk]
theorem cj {n:Nat} {K:AV→AHeap→Prop} {H1 H':AHeap} {z:Int} (h:K (.int .i64 z) H1) (hn:n≤H1.nx) (hl:H1.Le H') (hc:H1.Closed):tT n K (.int .i64 z) H' :=
 ⟨_,_,h,hn,by simp [zmk],hl,hc,by simp [znb]⟩
theorem tE {H:AHeap} {tb:Nat} {t:List Nd} (h:H.get tb=some (.buf 7 t.length)) {id:Nat} (hne:id≠tb) (X:AObj):H.set id X=(H.set id X).set tb (.buf 7 t.length):=by
 have h2:=AHeap.get_lt h
 unfold AHeap.get at h
 rw [if_pos h2] at h
 simp only [AHeap.set]
 congr 1
 funext k
 by_cases hk:k=tb
 ·subst hk;simp [Ne.symm hne,h]
 ·simp [hk]
theorem Jz {A:Prop} {f:Nat} (h_zOr:EntOk Tryz.prog 469 (Ent.some (ow A f))) (h_zImp:EntOk Tryz.prog 411 (Ent.some (fZ A f))):EntOk Tryz.prog 411 (Ent.some (fZ A (f+1))):=by
 refine EntOk.some fun args H K h=>?_
 unfold fZ aP at h
 split at h
 rotate_left
 ·exact h.elim
 rename_i id
 obtain ⟨m,l,p,b,tb,t,hg,⟨rfl,hpre,hfree⟩,hK⟩:=h
 cases ho:run l (f+1) .imp p t with
 |none=>rw [ho] at hK;exact hK.elim
 |some r =>
 rw [ho] at hK
 rw [run] at ho
 simp only [dJ] at ho
 have hpre':=hpre
 obtain ⟨hne,htb,ht,hp,hl,hgl,hgt⟩:=hpre
 have hid:=AHeap.get_lt hg
 have htbl:=AHeap.get_lt htb
 have f1:=cm hid
 have f2:=cm htbl
 have hl5:l.length≤100000:=by omega
 have i1:=@Int.natCast_nonneg
 have hne':(id=tb)=False:=eq_false hne
 have hnx:∀ X Y,H.nx≤((H.set id X).set tb Y).nx:=fun X Y=>Nat.le_refl _
 refine ACallsP.of_aw (Ω:=[(469,Ent.some (ow A f)),(470,Ent.effect aJ),(411,Ent.some (fZ A f)),(471,Ent.effect aH)]) (T:=aA []) aB (TblOk.cons h_zOr (TblOk.cons fQ (TblOk.cons h_zImp (TblOk.cons fD TblOk.nil)))) Tryz.func411 (by kernel_rfl) (by rfl) (rs:=[.tmp 2]) (by rfl) (by kernel_rfl) (by simp only [Tryz.ntmps411,yaz,yba];decide) fun hcl hlt=>?_
 change aw _ _ _ (KI Tryz.prog [(469,Ent.some (ow A f)),(470,Ent.effect aJ),(411,Ent.some (fZ A f)),(471,Ent.effect aH)] (km Tryz.prog [.tmp 2] H.nx _) []) _ _
 clear hlt
 obtain ⟨hgi,hgt',hsi,hcl2,hst⟩:=gf hg hpre' hcl
 rcases aT ho with ⟨q,h1,rfl⟩|⟨a,p1,t1,h1,h2⟩
 ·have hq:=aX _ h1 hgt trivial hp
  obtain ⟨hq1,hq2⟩:=hq
  simp only [go_sem,hfree,f1,f2,hgi,hgt',hsi,hst,aG,aE,aK,aJ,aW,aH,aP,hne,ne_eq,hne',hl5,Int.toNat_natCast,aQ,aR,i1,Int.reduceLE,eq_self,not_false_eq_true,Bool.not_true,Bool.not_false,Bool.true_and,Bool.false_and,List.length_append,yaz,yba,Nat.zero_add,ow,hg,hpre',h1]
  intro a t' hb
  simp only [ki,go_sem,hfree,f1,f2,hgi,hgt',hsi,hst,aG,aE,aK,aJ,aW,aH,aP,hne,ne_eq,hne',hl5,Int.toNat_natCast,aQ,aR,i1,Int.reduceLE,eq_self,not_false_eq_true,Bool.not_true,Bool.not_false,Bool.true_and,Bool.false_and,List.length_append,yaz,yba,Nat.zero_add,hq1]
  exact cj (hK a t' hb) (hnx _ _) (AHeap.Le.refl _) (hcl2 _ _ _)
 clear ho
 obtain ⟨k1,k2,k3,k4,k5,k6⟩:=aX _ h1 hgt trivial hp
 simp only [Rl.isL,Bool.false_eq_true,if_false] at k4
 have hp1:fJ ((H.set id (rst m l p1 false tb t1)).set tb (.buf 7 t1.length)) id tb l p1 t1:=jR hpre' k2 (by omega) k5
 cases hs:isS l p1 [45,62] with
 |false =>
  rw [hs,if_neg (by simp)] at h2
  cases h2
  simp only [go_sem,hfree,f1,f2,hgi,hgt',hsi,hst,aG,aE,aK,aJ,aW,aH,aP,hne,ne_eq,hne',hl5,Int.toNat_natCast,aQ,aR,i1,Int.reduceLE,eq_self,not_false_eq_true,Bool.not_true,Bool.not_false,Bool.true_and,Bool.false_and,List.length_append,yaz,yba,Nat.zero_add,ow,hg,hpre',h1,k2,hs,if_false]
  exact cj hK (hnx _ _) (AHeap.Le.refl _) (hcl2 _ _ _)
 |true =>
  rw [hs,if_pos rfl] at h2
  have hlt1:=cX hs
  have hp2:fJ ((H.set id (rst m l (p1+1) false tb t1)).set tb (.buf 7 t1.length)) id tb l (p1+1) t1:=jR hpre' hlt1 (by omega) k5
  rcases aT h2 with ⟨q,h3,rfl⟩|⟨b,p2,t2,h3,h4⟩
  ·obtain ⟨hq1,hq2⟩:=aX _ h3 k5 trivial hlt1
   simp only [go_sem,hfree,f1,f2,hgi,hgt',hsi,hst,aG,aE,aK,aJ,aW,aH,aP,hne,ne_eq,hne',hl5,Int.toNat_natCast,aQ,aR,i1,Int.reduceLE,eq_self,not_false_eq_true,Bool.not_true,Bool.not_false,Bool.true_and,Bool.false_and,List.length_append,yaz,yba,Nat.zero_add,ow,fZ,hg,hpre',h1,k2,hs,if_true,hp2,h3]
   intro b t' hb
   have ht2:t'.length≤100000:=by omega
   simp only [ki,go_sem,hfree,f1,f2,hgi,hgt',hsi,hst,aG,aE,aK,aJ,aW,aH,aP,hne,ne_eq,hne',hl5,Int.toNat_natCast,aQ,aR,i1,Int.reduceLE,eq_self,not_false_eq_true,Bool.not_true,Bool.not_false,Bool.true_and,Bool.false_and,List.length_append,yaz,yba,Nat.zero_add,hq1,ht2]
   have hK':=hK t'.length (t'++[⟨16,a,b,[],[],0⟩]) (by simp;omega)
   have hc3:=hcl2 q true (t'++[⟨16,a,b,[],[],0⟩])
   simp only [List.length_append,yaz,yba,Nat.zero_add] at hK' hc3
   exact cj hK' (hnx _ _) (AHeap.Le.refl _) hc3
  cases h4
  obtain ⟨k1b,k2b,k3b,k4b,k5b,k6b⟩:=aX _ h3 k5 trivial hlt1
  simp only [Rl.isL,Bool.false_eq_true,if_false] at k4b
  have ht2:t2.length≤100000:=by omega
  simp only [go_sem,hfree,f1,f2,hgi,hgt',hsi,hst,aG,aE,aK,aJ,aW,aH,aP,hne,ne_eq,hne',hl5,Int.toNat_natCast,aQ,aR,i1,Int.reduceLE,eq_self,not_false_eq_true,Bool.not_true,Bool.not_false,Bool.true_and,Bool.false_and,List.length_append,yaz,yba,Nat.zero_add,ow,fZ,hg,hpre',h1,k2,hs,if_true,hp2,h3,ht2,nd2]
  have hc3:=hcl2 p2 false (t2++[⟨16,a,b,[],[],0⟩])
  simp only [List.length_append,yaz,yba,Nat.zero_add,aK,nd2] at hK hc3
  exact cj hK (hnx _ _) (AHeap.Le.refl _) hc3
theorem Ix {l:List Tok} {p:Nat} {s s':List UInt8} (h:isS l p s=true) (h':isS l p s'=true):s=s':=by
 unfold isS at h h'
 split at h
 ·rename_i k x z e
  rw [e] at h'
  simp only [Bool.and_eq_true,beq_iff_eq] at h h'
  rw [← h.2,h'.2]
 ·cases h
theorem Cl {m:Mark} {l:List Tok} {p tb:Nat} {b:Bool} {t:List Nd}:rst m l p b tb t=.cells [.slice m 3 (cU l),.int .i64 (p:Int),.bool b,.slice (.own tb) 7 (nds t)]:=rfl
theorem J0 {A:Prop} {f:Nat} (h_zAnd:EntOk Tryz.prog 488 (Ent.some (kT A f))):EntOk Tryz.prog 469 (Ent.some (ow A (f+1))):=by
 refine EntOk.some fun args H K h=>?_
 unfold ow aP at h
 split at h
 rotate_left
 ·exact h.elim
 rename_i id
 obtain ⟨m,l,p,b,tb,t,hg,⟨rfl,hpre,hfree⟩,hK⟩:=h
 cases ho:run l (f+1) .or p t with
 |none=>rw [ho] at hK;exact hK.elim
 |some r =>
 rw [ho] at hK
 rw [run] at ho
 simp only [dJ] at ho
 have hpre':=hpre
 obtain ⟨hne,htb,ht,hp,hl,hgl,hgt⟩:=hpre
 have hid:=AHeap.get_lt hg
 have htbl:=AHeap.get_lt htb
 have f1:=cm hid
 have f2:=cm htbl
 have hl5:l.length≤100000:=by omega
 have i1:=@Int.natCast_nonneg
 have hne':(id=tb)=False:=eq_false hne
 have hnx:∀ X Y,H.nx≤((H.set id X).set tb Y).nx:=fun X Y=>Nat.le_refl _
 refine ACallsP.of_aw (Ω:=[(488,Ent.some (kT A f)),(470,Ent.effect aJ),(471,Ent.effect aH)]) (T:=aA []) aB (TblOk.cons h_zAnd (TblOk.cons fQ (TblOk.cons fD TblOk.nil))) Tryz.func469 (by kernel_rfl) (by rfl) (rs:=[.tmp 2]) (by rfl) (by kernel_rfl) (by simp only [Tryz.ntmps469,yaz,yba];decide) fun hcl hlt=>?_
 change aw _ _ _ (KI Tryz.prog [(488,Ent.some (kT A f)),(470,Ent.effect aJ),(471,Ent.effect aH)] (km Tryz.prog [.tmp 2] H.nx _) []) _ _
 clear hlt
 obtain ⟨hgi,hgt',hsi,hcl2,hst⟩:=gf hg hpre' hcl
 rcases aT ho with ⟨q,h1,hrq⟩|⟨a,p1,t1,h1,h2⟩
 case' inl =>
  obtain ⟨hq1,hq2⟩:=aX _ h1 hgt trivial hp
  simp only [go_sem,hfree,f1,f2,hgi,hgt',hsi,hst,aG,aE,aK,aJ,aW,aH,aP,hne,ne_eq,hne',hl5,Int.toNat_natCast,aQ,aR,i1,Int.reduceLE,eq_self,not_false_eq_true,Bool.not_true,Bool.not_false,Bool.true_and,Bool.false_and,List.length_append,yaz,yba,Nat.zero_add,kT,hg,hpre',h1]
  intro a t' hb
  try simp only [ki,go_sem,hfree,f1,f2,hgi,hgt',hsi,hst,aG,aE,aK,aJ,aW,aH,aP,hne,ne_eq,hne',hl5,Int.toNat_natCast,aQ,aR,i1,Int.reduceLE,eq_self,not_false_eq_true,Bool.not_true,Bool.not_false,Bool.true_and,Bool.false_and,List.length_append,yaz,yba,Nat.zero_add,hq1]
  refine ay (A:=Nat × Nat × Nat × List Nd × Bool) (fun x=>[(0,.ptr id 0),(3,.int .i64 (x.2.1:Int))]) (fun x=>(H.set id (rst m l x.2.2.1 x.2.2.2.2 tb x.2.2.2.1)).set tb (.buf 7 x.2.2.2.1.length)) (fun x=>(x.2.2.2.2=false∧x.1≤f∧run l x.1 (.orL x.2.1) x.2.2.1 x.2.2.2.1=some r∧x.2.2.1≤l.length∧x.2.2.2.1.length≤x.2.2.1∧Good x.2.2.2.1∧x.2.1<x.2.2.2.1.length∧x.2.2.2.1.length+p≤t.length+x.2.2.1)∨(x.2.2.2.2=true∧r=.bad x.2.2.1∧x.2.2.1≤l.length∧x.2.2.2.1.length+p≤t.length+x.2.2.1)) (fun x=>if x.2.2.2.2 then 0 else x.1+1) (0,a,q,t',true) (.inr ⟨rfl,hrq,hq1,hb⟩) ?_ ?_
  ·exact Z31
 case' inr =>
  clear ho
  obtain ⟨k1,k2,k3,k4,k5,k6⟩:=aX _ h1 hgt trivial hp
  simp only [Rl.isL,Bool.false_eq_true,if_false] at k4
  simp only [go_sem,hfree,f1,f2,hgi,hgt',hsi,hst,aG,aE,aK,aJ,aW,aH,aP,hne,ne_eq,hne',hl5,Int.toNat_natCast,aQ,aR,i1,Int.reduceLE,eq_self,not_false_eq_true,Bool.not_true,Bool.not_false,Bool.true_and,Bool.false_and,List.length_append,yaz,yba,Nat.zero_add,kT,hg,hpre',h1]
  refine ay (A:=Nat × Nat × Nat × List Nd × Bool) (fun x=>[(0,.ptr id 0),(3,.int .i64 (x.2.1:Int))]) (fun x=>(H.set id (rst m l x.2.2.1 x.2.2.2.2 tb x.2.2.2.1)).set tb (.buf 7 x.2.2.2.1.length)) (fun x=>(x.2.2.2.2=false∧x.1≤f∧run l x.1 (.orL x.2.1) x.2.2.1 x.2.2.2.1=some r∧x.2.2.1≤l.length∧x.2.2.2.1.length≤x.2.2.1∧Good x.2.2.2.1∧x.2.1<x.2.2.2.1.length∧x.2.2.2.1.length+p≤t.length+x.2.2.1)∨(x.2.2.2.2=true∧r=.bad x.2.2.1∧x.2.2.1≤l.length∧x.2.2.2.1.length+p≤t.length+x.2.2.1)) (fun x=>if x.2.2.2.2 then 0 else x.1+1) (f,a,p1,t1,false) (.inl ⟨rfl,Nat.le_refl _,h2,k2,(by show t1.length≤p1;omega),k5,k1,k3⟩) ?_ ?_
  ·exact Z31
 all_goals
  clear h1
  intro x hx
  obtain ⟨g,a',p',t',bd⟩:=x
  rcases hx with ⟨hbd,x1,x2,x3,x4,x5,x6,x7⟩|⟨hbd,x1,x3,x7⟩
  ·dsimp only at hbd x1 x2 x3 x4 x5 x6 x7 ⊢
   subst hbd
   have ht':t'.length≤100000:=by omega
   cases g with
   |zero=>cases x2
   |succ g =>
   rw [run] at x2
   simp only [dJ] at x2
   cases hs:isS l p' [124,124] with
   |false =>
    rw [hs,if_neg (by simp)] at x2
    rw [← x2,aK] at hK
    simp only [go_sem,hfree,f1,f2,hgi,hgt',hsi,hst,aG,aE,aK,aJ,aW,aH,aP,hne,ne_eq,hne',hl5,Int.toNat_natCast,aQ,aR,i1,Int.reduceLE,eq_self,not_false_eq_true,Bool.not_true,Bool.not_false,Bool.true_and,Bool.false_and,List.length_append,yaz,yba,Nat.zero_add,x3,hs,if_false]
    exact cj hK (hnx _ _) (AHeap.Le.refl _) (hcl2 _ _ _)
   |true =>
    rw [hs,if_pos rfl] at x2
    have hlt1:=cX hs
    have hp2:fJ ((H.set id (rst m l (p'+1) false tb t')).set tb (.buf 7 t'.length)) id tb l (p'+1) t':=jR hpre' hlt1 (by omega) x5
    rcases aT x2 with ⟨q2,h3,hr2⟩|⟨b,p2,t2,h3,h4⟩
    ·have h3':=cE (show g≤f by omega) h3
     obtain ⟨hq3,hq4⟩:=aX _ h3 x5 trivial hlt1
     simp only [go_sem,hfree,f1,f2,hgi,hgt',hsi,hst,aG,aE,aK,aJ,aW,aH,aP,hne,ne_eq,hne',hl5,Int.toNat_natCast,aQ,aR,i1,Int.reduceLE,eq_self,not_false_eq_true,Bool.not_true,Bool.not_false,Bool.true_and,Bool.false_and,List.length_append,yaz,yba,Nat.zero_add,kT,x3,hs,if_true,hp2,h3']
     intro b t2 hb2
     have ht2:t2.length≤100000:=by omega
     simp only [ki,go_sem,hfree,f1,f2,hgi,hgt',hsi,hst,aG,aE,aK,aJ,aW,aH,aP,hne,ne_eq,hne',hl5,Int.toNat_natCast,aQ,aR,i1,Int.reduceLE,eq_self,not_false_eq_true,Bool.not_true,Bool.not_false,Bool.true_and,Bool.false_and,List.length_append,yaz,yba,Nat.zero_add,ht2]
     have hc3:=hcl2 q2 true (t2++[⟨15,a',b,[],[],0⟩])
     refine ⟨(0,t2.length,q2,t2++[⟨15,a',b,[],[],0⟩],true),.inr ⟨rfl,hr2,hq3,by simp;omega⟩,by simp,?_⟩
     simp only [List.length_append,yaz,yba,Nat.zero_add] at hc3 ⊢
     exact Z32
    ·have h3':=cE (show g≤f by omega) h3
     obtain ⟨k1b,k2b,k3b,k4b,k5b,k6b⟩:=aX _ h3 x5 trivial hlt1
     simp only [Rl.isL,Bool.false_eq_true,if_false] at k4b
     have ht2:t2.length≤100000:=by omega
     simp only [go_sem,hfree,f1,f2,hgi,hgt',hsi,hst,aG,aE,aK,aJ,aW,aH,aP,hne,ne_eq,hne',hl5,Int.toNat_natCast,aQ,aR,i1,Int.reduceLE,eq_self,not_false_eq_true,Bool.not_true,Bool.not_false,Bool.true_and,Bool.false_and,List.length_append,yaz,yba,Nat.zero_add,kT,x3,hs,if_true,hp2,h3',ht2]
     have hc3:=hcl2 p2 false (t2++[⟨15,a',b,[],[],0⟩])
     refine ⟨(g,t2.length,p2,t2++[⟨15,a',b,[],[],0⟩],false),.inl ⟨rfl,by dsimp only;omega,h4,k2b,by simp;omega,k5b.snoc ⟨(show 1≤15 by decide),(show 15≤16 by decide)⟩ (show (0:Nat)<2^128 by decide) (.inr ⟨by simp only;omega,by simp only;omega⟩),by simp,by simp;omega⟩,by simp,?_⟩
     simp only [List.length_append,yaz,yba,Nat.zero_add] at hc3 ⊢
     exact Z32
  ·dsimp only at hbd x1 x3 x7 ⊢
   subst hbd
   rw [x1,aE] at hK
   simp only [go_sem,hfree,f1,f2,hgi,hgt',hsi,hst,aG,aE,aK,aJ,aW,aH,aP,hne,ne_eq,hne',hl5,Int.toNat_natCast,aQ,aR,i1,Int.reduceLE,eq_self,not_false_eq_true,Bool.not_true,Bool.not_false,Bool.true_and,Bool.false_and,List.length_append,yaz,yba,Nat.zero_add,x3,if_false]
   exact cj (hK a' t' x7) (hnx _ _) (AHeap.Le.refl _) (hcl2 _ _ _)
theorem I1 {A:Prop} {f:Nat} (h_zNot:EntOk Tryz.prog 496 (Ent.some (gW A f))):EntOk Tryz.prog 488 (Ent.some (kT A (f+1))):=by
 refine EntOk.some fun args H K h=>?_
 unfold kT aP at h
 split at h
 rotate_left
 ·exact h.elim
 rename_i id
 obtain ⟨m,l,p,b,tb,t,hg,⟨rfl,hpre,hfree⟩,hK⟩:=h
 cases ho:run l (f+1) .and p t with
 |none=>rw [ho] at hK;exact hK.elim
 |some r =>
 rw [ho] at hK
 rw [run] at ho
 simp only [dJ] at ho
 have hpre':=hpre
 obtain ⟨hne,htb,ht,hp,hl,hgl,hgt⟩:=hpre
 have hid:=AHeap.get_lt hg
 have htbl:=AHeap.get_lt htb
 have f1:=cm hid
 have f2:=cm htbl
 have hl5:l.length≤100000:=by omega
 have i1:=@Int.natCast_nonneg
 have hne':(id=tb)=False:=eq_false hne
 have hnx:∀ X Y,H.nx≤((H.set id X).set tb Y).nx:=fun X Y=>Nat.le_refl _
 refine ACallsP.of_aw (Ω:=[(496,Ent.some (gW A f)),(470,Ent.effect aJ),(471,Ent.effect aH)]) (T:=aA []) aB (TblOk.cons h_zNot (TblOk.cons fQ (TblOk.cons fD TblOk.nil))) Tryz.func488 (by kernel_rfl) (by rfl) (rs:=[.tmp 2]) (by rfl) (by kernel_rfl) (by simp only [Tryz.ntmps488,yaz,yba];decide) fun hcl hlt=>?_
 change aw _ _ _ (KI Tryz.prog [(496,Ent.some (gW A f)),(470,Ent.effect aJ),(471,Ent.effect aH)] (km Tryz.prog [.tmp 2] H.nx _) []) _ _
 clear hlt
 obtain ⟨hgi,hgt',hsi,hcl2,hst⟩:=gf hg hpre' hcl
 rcases aT ho with ⟨q,h1,hrq⟩|⟨a,p1,t1,h1,h2⟩
 case' inl =>
  obtain ⟨hq1,hq2⟩:=aX _ h1 hgt trivial hp
  simp only [go_sem,hfree,f1,f2,hgi,hgt',hsi,hst,aG,aE,aK,aJ,aW,aH,aP,hne,ne_eq,hne',hl5,Int.toNat_natCast,aQ,aR,i1,Int.reduceLE,eq_self,not_false_eq_true,Bool.not_true,Bool.not_false,Bool.true_and,Bool.false_and,List.length_append,yaz,yba,Nat.zero_add,gW,hg,hpre',h1]
  intro a t' hb
  try simp only [ki,go_sem,hfree,f1,f2,hgi,hgt',hsi,hst,aG,aE,aK,aJ,aW,aH,aP,hne,ne_eq,hne',hl5,Int.toNat_natCast,aQ,aR,i1,Int.reduceLE,eq_self,not_false_eq_true,Bool.not_true,Bool.not_false,Bool.true_and,Bool.false_and,List.length_append,yaz,yba,Nat.zero_add,hq1]
  refine ay (A:=Nat × Nat × Nat × List Nd × Bool) (fun x=>[(0,.ptr id 0),(3,.int .i64 (x.2.1:Int))]) (fun x=>(H.set id (rst m l x.2.2.1 x.2.2.2.2 tb x.2.2.2.1)).set tb (.buf 7 x.2.2.2.1.length)) (fun x=>(x.2.2.2.2=false∧x.1≤f∧run l x.1 (.andL x.2.1) x.2.2.1 x.2.2.2.1=some r∧x.2.2.1≤l.length∧x.2.2.2.1.length≤x.2.2.1∧Good x.2.2.2.1∧x.2.1<x.2.2.2.1.length∧x.2.2.2.1.length+p≤t.length+x.2.2.1)∨(x.2.2.2.2=true∧r=.bad x.2.2.1∧x.2.2.1≤l.length∧x.2.2.2.1.length+p≤t.length+x.2.2.1)) (fun x=>if x.2.2.2.2 then 0 else x.1+1) (0,a,q,t',true) (.inr ⟨rfl,hrq,hq1,hb⟩) ?_ ?_
  ·exact Z31
 case' inr =>
  clear ho
  obtain ⟨k1,k2,k3,k4,k5,k6⟩:=aX _ h1 hgt trivial hp
  simp only [Rl.isL,Bool.false_eq_true,if_false] at k4
  simp only [go_sem,hfree,f1,f2,hgi,hgt',hsi,hst,aG,aE,aK,aJ,aW,aH,aP,hne,ne_eq,hne',hl5,Int.toNat_natCast,aQ,aR,i1,Int.reduceLE,eq_self,not_false_eq_true,Bool.not_true,Bool.not_false,Bool.true_and,Bool.false_and,List.length_append,yaz,yba,Nat.zero_add,gW,hg,hpre',h1]
  refine ay (A:=Nat × Nat × Nat × List Nd × Bool) (fun x=>[(0,.ptr id 0),(3,.int .i64 (x.2.1:Int))]) (fun x=>(H.set id (rst m l x.2.2.1 x.2.2.2.2 tb x.2.2.2.1)).set tb (.buf 7 x.2.2.2.1.length)) (fun x=>(x.2.2.2.2=false∧x.1≤f∧run l x.1 (.andL x.2.1) x.2.2.1 x.2.2.2.1=some r∧x.2.2.1≤l.length∧x.2.2.2.1.length≤x.2.2.1∧Good x.2.2.2.1∧x.2.1<x.2.2.2.1.length∧x.2.2.2.1.length+p≤t.length+x.2.2.1)∨(x.2.2.2.2=true∧r=.bad x.2.2.1∧x.2.2.1≤l.length∧x.2.2.2.1.length+p≤t.length+x.2.2.1)) (fun x=>if x.2.2.2.2 then 0 else x.1+1) (f,a,p1,t1,false) (.inl ⟨rfl,Nat.le_refl _,h2,k2,(by show t1.length≤p1;omega),k5,k1,k3⟩) ?_ ?_
  ·exact Z31
 all_goals
  clear h1
  intro x hx
  obtain ⟨g,a',p',t',bd⟩:=x
  rcases hx with ⟨hbd,x1,x2,x3,x4,x5,x6,x7⟩|⟨hbd,x1,x3,x7⟩
  ·dsimp only at hbd x1 x2 x3 x4 x5 x6 x7 ⊢
   subst hbd
   have ht':t'.length≤100000:=by omega
   cases g with
   |zero=>cases x2
   |succ g =>
   rw [run] at x2
   simp only [dJ] at x2
   cases hs:isS l p' [38,38] with
   |false =>
    rw [hs,if_neg (by simp)] at x2
    rw [← x2,aK] at hK
    simp only [go_sem,hfree,f1,f2,hgi,hgt',hsi,hst,aG,aE,aK,aJ,aW,aH,aP,hne,ne_eq,hne',hl5,Int.toNat_natCast,aQ,aR,i1,Int.reduceLE,eq_self,not_false_eq_true,Bool.not_true,Bool.not_false,Bool.true_and,Bool.false_and,List.length_append,yaz,yba,Nat.zero_add,x3,hs,if_false]
    exact cj hK (hnx _ _) (AHeap.Le.refl _) (hcl2 _ _ _)
   |true =>
    rw [hs,if_pos rfl] at x2
    have hlt1:=cX hs
    have hp2:fJ ((H.set id (rst m l (p'+1) false tb t')).set tb (.buf 7 t'.length)) id tb l (p'+1) t':=jR hpre' hlt1 (by omega) x5
    rcases aT x2 with ⟨q2,h3,hr2⟩|⟨b,p2,t2,h3,h4⟩
    ·have h3':=cE (show g≤f by omega) h3
     obtain ⟨hq3,hq4⟩:=aX _ h3 x5 trivial hlt1
     simp only [go_sem,hfree,f1,f2,hgi,hgt',hsi,hst,aG,aE,aK,aJ,aW,aH,aP,hne,ne_eq,hne',hl5,Int.toNat_natCast,aQ,aR,i1,Int.reduceLE,eq_self,not_false_eq_true,Bool.not_true,Bool.not_false,Bool.true_and,Bool.false_and,List.length_append,yaz,yba,Nat.zero_add,gW,x3,hs,if_true,hp2,h3']
     intro b t2 hb2
     have ht2:t2.length≤100000:=by omega
     simp only [ki,go_sem,hfree,f1,f2,hgi,hgt',hsi,hst,aG,aE,aK,aJ,aW,aH,aP,hne,ne_eq,hne',hl5,Int.toNat_natCast,aQ,aR,i1,Int.reduceLE,eq_self,not_false_eq_true,Bool.not_true,Bool.not_false,Bool.true_and,Bool.false_and,List.length_append,yaz,yba,Nat.zero_add,ht2]
     have hc3:=hcl2 q2 true (t2++[⟨14,a',b,[],[],0⟩])
     refine ⟨(0,t2.length,q2,t2++[⟨14,a',b,[],[],0⟩],true),.inr ⟨rfl,hr2,hq3,by simp;omega⟩,by simp,?_⟩
     simp only [List.length_append,yaz,yba,Nat.zero_add] at hc3 ⊢
     exact Z32
    ·have h3':=cE (show g≤f by omega) h3
     obtain ⟨k1b,k2b,k3b,k4b,k5b,k6b⟩:=aX _ h3 x5 trivial hlt1
     simp only [Rl.isL,Bool.false_eq_true,if_false] at k4b
     have ht2:t2.length≤100000:=by omega
     simp only [go_sem,hfree,f1,f2,hgi,hgt',hsi,hst,aG,aE,aK,aJ,aW,aH,aP,hne,ne_eq,hne',hl5,Int.toNat_natCast,aQ,aR,i1,Int.reduceLE,eq_self,not_false_eq_true,Bool.not_true,Bool.not_false,Bool.true_and,Bool.false_and,List.length_append,yaz,yba,Nat.zero_add,gW,x3,hs,if_true,hp2,h3',ht2]
     have hc3:=hcl2 p2 false (t2++[⟨14,a',b,[],[],0⟩])
     refine ⟨(g,t2.length,p2,t2++[⟨14,a',b,[],[],0⟩],false),.inl ⟨rfl,by dsimp only;omega,h4,k2b,by simp;omega,k5b.snoc ⟨(show 1≤14 by decide),(show 14≤16 by decide)⟩ (show (0:Nat)<2^128 by decide) (.inr ⟨by simp only;omega,by simp only;omega⟩),by simp,by simp;omega⟩,by simp,?_⟩
     simp only [List.length_append,yaz,yba,Nat.zero_add] at hc3 ⊢
     exact Z32
  ·dsimp only at hbd x1 x3 x7 ⊢
   subst hbd
   rw [x1,aE] at hK
   simp only [go_sem,hfree,f1,f2,hgi,hgt',hsi,hst,aG,aE,aK,aJ,aW,aH,aP,hne,ne_eq,hne',hl5,Int.toNat_natCast,aQ,aR,i1,Int.reduceLE,eq_self,not_false_eq_true,Bool.not_true,Bool.not_false,Bool.true_and,Bool.false_and,List.length_append,yaz,yba,Nat.zero_add,x3,if_false]
   exact cj (hK a' t' x7) (hnx _ _) (AHeap.Le.refl _) (hcl2 _ _ _)
theorem HO {A:Prop} {f:Nat} (h_zUn:EntOk Tryz.prog 506 (Ent.some (jp A f))):EntOk Tryz.prog 503 (Ent.some (kZ A (f+1))):=by
 refine EntOk.some fun args H K h=>?_
 unfold kZ aP at h
 split at h
 rotate_left
 ·exact h.elim
 rename_i id
 obtain ⟨m,l,p,b,tb,t,hg,⟨rfl,hpre,hfree⟩,hK⟩:=h
 cases ho:run l (f+1) .sum p t with
 |none=>rw [ho] at hK;exact hK.elim
 |some r =>
 rw [ho] at hK
 rw [run] at ho
 simp only [dJ] at ho
 have hpre':=hpre
 obtain ⟨hne,htb,ht,hp,hl,hgl,hgt⟩:=hpre
 have hid:=AHeap.get_lt hg
 have htbl:=AHeap.get_lt htb
 have f1:=cm hid
 have f2:=cm htbl
 have hl5:l.length≤100000:=by omega
 have i1:=@Int.natCast_nonneg
 have hne':(id=tb)=False:=eq_false hne
 have hnx:∀ X Y,H.nx≤((H.set id X).set tb Y).nx:=fun X Y=>Nat.le_refl _
 refine ACallsP.of_aw (Ω:=[(506,Ent.some (jp A f)),(489,Ent.pure aW),(471,Ent.effect aH)]) (T:=aA []) aB (TblOk.cons h_zUn (TblOk.cons xL (TblOk.cons fD TblOk.nil))) Tryz.func503 (by kernel_rfl) (by rfl) (rs:=[.tmp 2]) (by rfl) (by kernel_rfl) (by simp only [Tryz.ntmps503,yaz,yba];decide) fun hcl hlt=>?_
 change aw _ _ _ (KI Tryz.prog [(506,Ent.some (jp A f)),(489,Ent.pure aW),(471,Ent.effect aH)] (km Tryz.prog [.tmp 2] H.nx _) []) _ _
 clear hlt
 obtain ⟨hgi,hgt',hsi,hcl2,hst⟩:=gf hg hpre' hcl
 rcases aT ho with ⟨q,h1,hrq⟩|⟨a,p1,t1,h1,h2⟩
 case' inl =>
  obtain ⟨hq1,hq2⟩:=aX _ h1 hgt trivial hp
  simp only [go_sem,hfree,f1,f2,hgi,hgt',hsi,hst,aG,aE,aK,aJ,aW,aH,aP,hne,ne_eq,hne',hl5,Int.toNat_natCast,aQ,aR,i1,Int.reduceLE,eq_self,not_false_eq_true,Bool.not_true,Bool.not_false,Bool.true_and,Bool.false_and,List.length_append,yaz,yba,Nat.zero_add,jp,hg,hpre',h1]
  intro a t' hb
  try simp only [ki,go_sem,hfree,f1,f2,hgi,hgt',hsi,hst,aG,aE,aK,aJ,aW,aH,aP,hne,ne_eq,hne',hl5,Int.toNat_natCast,aQ,aR,i1,Int.reduceLE,eq_self,not_false_eq_true,Bool.not_true,Bool.not_false,Bool.true_and,Bool.false_and,List.length_append,yaz,yba,Nat.zero_add,hq1]
  refine ay (A:=Nat × Nat × Nat × List Nd × Bool) (fun x=>[(0,.ptr id 0),(3,.int .i64 (x.2.1:Int))]) (fun x=>(H.set id (rst m l x.2.2.1 x.2.2.2.2 tb x.2.2.2.1)).set tb (.buf 7 x.2.2.2.1.length)) (fun x=>(x.2.2.2.2=false∧x.1≤f∧run l x.1 (.sumL x.2.1) x.2.2.1 x.2.2.2.1=some r∧x.2.2.1≤l.length∧x.2.2.2.1.length≤x.2.2.1∧Good x.2.2.2.1∧x.2.1<x.2.2.2.1.length∧x.2.2.2.1.length+p≤t.length+x.2.2.1)∨(x.2.2.2.2=true∧r=.bad x.2.2.1∧x.2.2.1≤l.length∧x.2.2.2.1.length+p≤t.length+x.2.2.1)) (fun x=>if x.2.2.2.2 then 0 else x.1+1) (0,a,q,t',true) (.inr ⟨rfl,hrq,hq1,hb⟩) ?_ ?_
  ·exact Z31
 case' inr =>
  clear ho
  obtain ⟨k1,k2,k3,k4,k5,k6⟩:=aX _ h1 hgt trivial hp
  simp only [Rl.isL,Bool.false_eq_true,if_false] at k4
  simp only [go_sem,hfree,f1,f2,hgi,hgt',hsi,hst,aG,aE,aK,aJ,aW,aH,aP,hne,ne_eq,hne',hl5,Int.toNat_natCast,aQ,aR,i1,Int.reduceLE,eq_self,not_false_eq_true,Bool.not_true,Bool.not_false,Bool.true_and,Bool.false_and,List.length_append,yaz,yba,Nat.zero_add,jp,hg,hpre',h1]
  refine ay (A:=Nat × Nat × Nat × List Nd × Bool) (fun x=>[(0,.ptr id 0),(3,.int .i64 (x.2.1:Int))]) (fun x=>(H.set id (rst m l x.2.2.1 x.2.2.2.2 tb x.2.2.2.1)).set tb (.buf 7 x.2.2.2.1.length)) (fun x=>(x.2.2.2.2=false∧x.1≤f∧run l x.1 (.sumL x.2.1) x.2.2.1 x.2.2.2.1=some r∧x.2.2.1≤l.length∧x.2.2.2.1.length≤x.2.2.1∧Good x.2.2.2.1∧x.2.1<x.2.2.2.1.length∧x.2.2.2.1.length+p≤t.length+x.2.2.1)∨(x.2.2.2.2=true∧r=.bad x.2.2.1∧x.2.2.1≤l.length∧x.2.2.2.1.length+p≤t.length+x.2.2.1)) (fun x=>if x.2.2.2.2 then 0 else x.1+1) (f,a,p1,t1,false) (.inl ⟨rfl,Nat.le_refl _,h2,k2,(by show t1.length≤p1;omega),k5,k1,k3⟩) ?_ ?_
  ·exact Z31
 all_goals
  clear h1
  intro x hx
  obtain ⟨g,a',p',t',bd⟩:=x
  rcases hx with ⟨hbd,x1,x2,x3,x4,x5,x6,x7⟩|⟨hbd,x1,x3,x7⟩
  ·dsimp only at hbd x1 x2 x3 x4 x5 x6 x7 ⊢
   subst hbd
   have ht':t'.length≤100000:=by omega
   cases g with
   |zero=>cases x2
   |succ g =>
   rw [run] at x2
   simp only [dJ] at x2
   have e1:IntKind.i64.wrap ((p':Int)+1)=((p'+1:Nat):Int):=by rw [wrap_i64]<;>omega
   have hcc:∀ X Y,aL ((H.set id (.cells X)).set tb Y) id=some X:=fun X Y=>by rw [cx hne,ex hid,if_pos rfl]
   cases hs:gB l p' opsS with
   |none =>
    rw [hs] at x2
    dsimp only at x2
    rw [← x2,aK] at hK
    have hs1:isS l p' [43]=false:=by
     cases h:isS l p' [43] with
     |false=>rfl
     |true=>simp [gB,opsS,h] at hs
    have hs2:isS l p' [45]=false:=by
     cases h:isS l p' [45] with
     |false=>rfl
     |true=>simp [gB,opsS,hs1,h] at hs
    simp only [go_sem,hfree,f1,f2,hgi,hgt',hsi,hst,aG,aE,aK,aJ,aW,aH,aP,hne,ne_eq,hne',hl5,Int.toNat_natCast,aQ,aR,i1,Int.reduceLE,eq_self,not_false_eq_true,Bool.not_true,Bool.not_false,Bool.true_and,Bool.false_and,List.length_append,yaz,yba,Nat.zero_add,x3,hs1,hs2,Bool.and_false]
    exact cj hK (hnx _ _) (AHeap.Le.refl _) (hcl2 _ _ _)
   |some op =>
    rw [hs] at x2
    dsimp only at x2
    obtain ⟨hlt1,so,hso⟩:=gP hs
    obtain ⟨o1,o2⟩:=p9 hso
    have hp2:fJ ((H.set id (rst m l (p'+1) false tb t')).set tb (.buf 7 t'.length)) id tb l (p'+1) t':=jR hpre' hlt1 (by omega) x5
    have hcases:(isS l p' [43]=true∧isS l p' [45]=false∧op=6)∨(isS l p' [43]=false∧isS l p' [45]=true∧op=7):=by
     cases h1:isS l p' [43] with
     |true =>
      left
      simp only [gB,opsS,h1,if_true] at hs
      cases hs
      refine ⟨rfl,?_,rfl⟩
      cases h2:isS l p' [45] with
      |false=>rfl
      |true=>exact absurd (Ix h1 h2) (by decide)
     |false =>
      right
      cases h2:isS l p' [45] with
      |false=>simp [gB,opsS,h1,h2] at hs
      |true=>simp [gB,opsS,h1,h2] at hs;exact ⟨rfl,rfl,hs.symm⟩
    rcases hcases with ⟨hs1,hs2,hop⟩|⟨hs1,hs2,hop⟩
    all_goals
     subst hop
     rcases aT x2 with ⟨q2,h3,hr2⟩|⟨b,p2,t2,h3,h4⟩
     ·have h3':=cE (show g≤f by omega) h3
      obtain ⟨hq3,hq4⟩:=aX _ h3 x5 trivial hlt1
      simp only [go_sem,hfree,f1,f2,hgi,hgt',hsi,hst,aG,aE,aK,aJ,aW,aH,aP,hne,ne_eq,hne',hl5,Int.toNat_natCast,aQ,aR,i1,Int.reduceLE,eq_self,not_false_eq_true,Bool.not_true,Bool.not_false,Bool.true_and,Bool.false_and,List.length_append,yaz,yba,Nat.zero_add,jp,x3,hs1,hs2,Bool.and_true,Bool.and_false,cO,rst,hcc,e1]
      simp only [← Cl,go_sem,hfree,f1,f2,hgi,hgt',hsi,hst,aG,aE,aK,aJ,aW,aH,aP,hne,ne_eq,hne',hl5,Int.toNat_natCast,aQ,aR,i1,Int.reduceLE,eq_self,not_false_eq_true,Bool.not_true,Bool.not_false,Bool.true_and,Bool.false_and,List.length_append,yaz,yba,Nat.zero_add,jp,hp2,h3']
      intro b t2 hb2
      have ht2:t2.length≤100000:=by omega
      simp only [ki,go_sem,hfree,f1,f2,hgi,hgt',hsi,hst,aG,aE,aK,aJ,aW,aH,aP,hne,ne_eq,hne',hl5,Int.toNat_natCast,aQ,aR,i1,Int.reduceLE,eq_self,not_false_eq_true,Bool.not_true,Bool.not_false,Bool.true_and,Bool.false_and,List.length_append,yaz,yba,Nat.zero_add,ht2]
      first
      |(have hc3:=hcl2 q2 true (t2++[⟨6,a',b,[],[],0⟩])
        refine ⟨(0,t2.length,q2,t2++[⟨6,a',b,[],[],0⟩],true),.inr ⟨rfl,hr2,hq3,by simp;omega⟩,by simp,?_⟩
        simp only [List.length_append,yaz,yba,Nat.zero_add] at hc3 ⊢
        (simp only [bkq,enterW,aI,ltF,ne_eq,Nat.reduceEqDiff,reduceCtorEq,hc3,hid];try simp (disch:=first|exact Zd|omega) [↓zmk,beq,ybc,ybd,ybe,ag,wk,wk2,wk1,wkM,wkL,au,ybf,byq,biq,ah,hcl,hc3,hid];try (repeat' (first|assumption|omega|exact True.intro|refine And.intro ?_ ?_|refine af ?_|refine aa ?_|refine ae ?_ ?_|refine ai ?_ ?_|refine aj ?_|exact AHeap.Le.refl _|refine AHeap.Le.push ?_ _|refine AHeap.Le.del ?_ ?_|(simp only [bt,and_true,true_and,hc3,hid];first|done|omega|(simp;done)))))
        done)
      |(have hc3:=hcl2 q2 true (t2++[⟨7,a',b,[],[],0⟩])
        refine ⟨(0,t2.length,q2,t2++[⟨7,a',b,[],[],0⟩],true),.inr ⟨rfl,hr2,hq3,by simp;omega⟩,by simp,?_⟩
        simp only [List.length_append,yaz,yba,Nat.zero_add] at hc3 ⊢
        (simp only [bkq,enterW,aI,ltF,ne_eq,Nat.reduceEqDiff,reduceCtorEq,hc3,hid];try simp (disch:=first|exact Zd|omega) [↓zmk,beq,ybc,ybd,ybe,ag,wk,wk2,wk1,wkM,wkL,au,ybf,byq,biq,ah,hcl,hc3,hid];try (repeat' (first|assumption|omega|exact True.intro|refine And.intro ?_ ?_|refine af ?_|refine aa ?_|refine ae ?_ ?_|refine ai ?_ ?_|refine aj ?_|exact AHeap.Le.refl _|refine AHeap.Le.push ?_ _|refine AHeap.Le.del ?_ ?_|(simp only [bt,and_true,true_and,hc3,hid];first|done|omega|(simp;done)))))
        done)
     ·have h3':=cE (show g≤f by omega) h3
      obtain ⟨k1b,k2b,k3b,k4b,k5b,k6b⟩:=aX _ h3 x5 trivial hlt1
      simp only [Rl.isL,Bool.false_eq_true,if_false] at k4b
      have ht2:t2.length≤100000:=by omega
      simp only [go_sem,hfree,f1,f2,hgi,hgt',hsi,hst,aG,aE,aK,aJ,aW,aH,aP,hne,ne_eq,hne',hl5,Int.toNat_natCast,aQ,aR,i1,Int.reduceLE,eq_self,not_false_eq_true,Bool.not_true,Bool.not_false,Bool.true_and,Bool.false_and,List.length_append,yaz,yba,Nat.zero_add,jp,x3,hs1,hs2,Bool.and_true,Bool.and_false,cO,rst,hcc,e1]
      simp only [← Cl,go_sem,hfree,f1,f2,hgi,hgt',hsi,hst,aG,aE,aK,aJ,aW,aH,aP,hne,ne_eq,hne',hl5,Int.toNat_natCast,aQ,aR,i1,Int.reduceLE,eq_self,not_false_eq_true,Bool.not_true,Bool.not_false,Bool.true_and,Bool.false_and,List.length_append,yaz,yba,Nat.zero_add,jp,hp2,h3',ht2]
      first
      |(have hc3:=hcl2 p2 false (t2++[⟨6,a',b,[],[],0⟩])
        refine ⟨(g,t2.length,p2,t2++[⟨6,a',b,[],[],0⟩],false),.inl ⟨rfl,by dsimp only;omega,h4,k2b,by simp;omega,k5b.snoc ⟨(show 1≤6 by decide),(show 6≤16 by decide)⟩ (show (0:Nat)<2^128 by decide) (.inr ⟨by simp only;omega,by simp only;omega⟩),by simp,by simp;omega⟩,by simp,?_⟩
        simp only [List.length_append,yaz,yba,Nat.zero_add] at hc3 ⊢
        (simp only [bkq,enterW,aI,ltF,ne_eq,Nat.reduceEqDiff,reduceCtorEq,hc3,hid];try simp (disch:=first|exact Zd|omega) [↓zmk,beq,ybc,ybd,ybe,ag,wk,wk2,wk1,wkM,wkL,au,ybf,byq,biq,ah,hcl,hc3,hid];try (repeat' (first|assumption|omega|exact True.intro|refine And.intro ?_ ?_|refine af ?_|refine aa ?_|refine ae ?_ ?_|refine ai ?_ ?_|refine aj ?_|exact AHeap.Le.refl _|refine AHeap.Le.push ?_ _|refine AHeap.Le.del ?_ ?_|(simp only [bt,and_true,true_and,hc3,hid];first|done|omega|(simp;done)))))
        done)
      |(have hc3:=hcl2 p2 false (t2++[⟨7,a',b,[],[],0⟩])
        refine ⟨(g,t2.length,p2,t2++[⟨7,a',b,[],[],0⟩],false),.inl ⟨rfl,by dsimp only;omega,h4,k2b,by simp;omega,k5b.snoc ⟨(show 1≤7 by decide),(show 7≤16 by decide)⟩ (show (0:Nat)<2^128 by decide) (.inr ⟨by simp only;omega,by simp only;omega⟩),by simp,by simp;omega⟩,by simp,?_⟩
        simp only [List.length_append,yaz,yba,Nat.zero_add] at hc3 ⊢
        (simp only [bkq,enterW,aI,ltF,ne_eq,Nat.reduceEqDiff,reduceCtorEq,hc3,hid];try simp (disch:=first|exact Zd|omega) [↓zmk,beq,ybc,ybd,ybe,ag,wk,wk2,wk1,wkM,wkL,au,ybf,byq,biq,ah,hcl,hc3,hid];try (repeat' (first|assumption|omega|exact True.intro|refine And.intro ?_ ?_|refine af ?_|refine aa ?_|refine ae ?_ ?_|refine ai ?_ ?_|refine aj ?_|exact AHeap.Le.refl _|refine AHeap.Le.push ?_ _|refine AHeap.Le.del ?_ ?_|(simp only [bt,and_true,true_and,hc3,hid];first|done|omega|(simp;done)))))
        done)
  ·dsimp only at hbd x1 x3 x7 ⊢
   subst hbd
   rw [x1,aE] at hK
   simp only [go_sem,hfree,f1,f2,hgi,hgt',hsi,hst,aG,aE,aK,aJ,aW,aH,aP,hne,ne_eq,hne',hl5,Int.toNat_natCast,aQ,aR,i1,Int.reduceLE,eq_self,not_false_eq_true,Bool.not_true,Bool.not_false,Bool.true_and,Bool.false_and,List.length_append,yaz,yba,Nat.zero_add,x3,if_false]
   exact cj (hK a' t' x7) (hnx _ _) (AHeap.Le.refl _) (hcl2 _ _ _)
theorem Jq {A:Prop} {f:Nat} (h_zNot:EntOk Tryz.prog 496 (Ent.some (gW A f))) (h_zCmp:EntOk Tryz.prog 499 (Ent.some (ph A f))):EntOk Tryz.prog 496 (Ent.some (gW A (f+1))):=by
 refine EntOk.some fun args H K h=>?_
 unfold gW aP at h
 split at h
 rotate_left
 ·exact h.elim
 rename_i id
 obtain ⟨m,l,p,b,tb,t,hg,⟨rfl,hpre,hfree⟩,hK⟩:=h
 cases ho:run l (f+1) .not p t with
 |none=>rw [ho] at hK;exact hK.elim
 |some r =>
 rw [ho] at hK
 rw [run] at ho
 simp only [dJ] at ho
 have hpre':=hpre
 obtain ⟨hne,htb,ht,hp,hl,hgl,hgt⟩:=hpre
 have hid:=AHeap.get_lt hg
 have htbl:=AHeap.get_lt htb
 have f1:=cm hid
 have f2:=cm htbl
 have hl5:l.length≤100000:=by omega
 have i1:=@Int.natCast_nonneg
 have hne':(id=tb)=False:=eq_false hne
 have hnx:∀ X Y,H.nx≤((H.set id X).set tb Y).nx:=fun X Y=>Nat.le_refl _
 refine ACallsP.of_aw (Ω:=[(470,Ent.effect aJ),(496,Ent.some (gW A f)),(471,Ent.effect aH),(499,Ent.some (ph A f))]) (T:=aA []) aB (TblOk.cons fQ (TblOk.cons h_zNot (TblOk.cons fD (TblOk.cons h_zCmp TblOk.nil)))) Tryz.func496 (by kernel_rfl) (by rfl) (rs:=[.tmp 2]) (by rfl) (by kernel_rfl) (by simp only [Tryz.ntmps496,yaz,yba];decide) fun hcl hlt=>?_
 change aw _ _ _ (KI Tryz.prog [(470,Ent.effect aJ),(496,Ent.some (gW A f)),(471,Ent.effect aH),(499,Ent.some (ph A f))] (km Tryz.prog [.tmp 2] H.nx _) []) _ _
 clear hlt
 obtain ⟨hgi,hgt',hsi,hcl2,hst⟩:=gf hg hpre' hcl
 have hgi1:∀ X,(H.set id X).get id=some X:=fun X=>AHeap.get_set_same _ _ hid
 have hss:∀ X Y,(H.set id X).set id Y=H.set id Y:=fun X Y=>by simp only [AHeap.set];congr 1;funext k;by_cases hk:k=id<;>simp [hk]
 cases hs:isS l p [33] with
 |false =>
  rw [hs,if_neg (by simp)] at ho
  simp only [go_sem,hfree,f1,f2,hgi,hgt',hsi,hst,aG,aE,aK,aJ,aW,aH,aP,hne,ne_eq,hne',hl5,Int.toNat_natCast,aQ,aR,i1,Int.reduceLE,eq_self,not_false_eq_true,Bool.not_true,Bool.not_false,Bool.true_and,Bool.false_and,List.length_append,yaz,yba,Nat.zero_add,ph,hg,hp,hs,if_false,hpre',ho]
  cases r with
  |ok a q u =>
   rw [aK] at hK
   simp only [go_sem,hfree,f1,f2,hgi,hgt',hsi,hst,aG,aE,aK,aJ,aW,aH,aP,hne,ne_eq,hne',hl5,Int.toNat_natCast,aQ,aR,i1,Int.reduceLE,eq_self,not_false_eq_true,Bool.not_true,Bool.not_false,Bool.true_and,Bool.false_and,List.length_append,yaz,yba,Nat.zero_add]
   exact cj hK (hnx _ _) (AHeap.Le.refl _) (hcl2 _ _ _)
  |bad q =>
   rw [aE] at hK
   simp only [go_sem,hfree,f1,f2,hgi,hgt',hsi,hst,aG,aE,aK,aJ,aW,aH,aP,hne,ne_eq,hne',hl5,Int.toNat_natCast,aQ,aR,i1,Int.reduceLE,eq_self,not_false_eq_true,Bool.not_true,Bool.not_false,Bool.true_and,Bool.false_and,List.length_append,yaz,yba,Nat.zero_add]
   intro a t' hb
   try simp only [ki,go_sem,hfree,f1,f2,hgi,hgt',hsi,hst,aG,aE,aK,aJ,aW,aH,aP,hne,ne_eq,hne',hl5,Int.toNat_natCast,aQ,aR,i1,Int.reduceLE,eq_self,not_false_eq_true,Bool.not_true,Bool.not_false,Bool.true_and,Bool.false_and,List.length_append,yaz,yba,Nat.zero_add]
   exact cj (hK a t' hb) (hnx _ _) (AHeap.Le.refl _) (hcl2 _ _ _)
 |true =>
  rw [hs,if_pos rfl] at ho
  have hlt1:=cX hs
  have hp2:fJ (H.set id (rst m l (p+1) false tb t)) id tb l (p+1) t:=jO hpre' hlt1 (by omega)
  rcases aT ho with ⟨q,h3,rfl⟩|⟨b,p2,t2,h3,h4⟩
  ·obtain ⟨hq3,hq4⟩:=aX _ h3 hgt trivial hlt1
   rw [aE] at hK
   simp only [go_sem,hfree,f1,f2,hgi,hgt',hsi,hst,aG,aE,aK,aJ,aW,aH,aP,hne,ne_eq,hne',hl5,Int.toNat_natCast,aQ,aR,i1,Int.reduceLE,eq_self,not_false_eq_true,Bool.not_true,Bool.not_false,Bool.true_and,Bool.false_and,List.length_append,yaz,yba,Nat.zero_add,gW,hg,hp,hs,if_true,hgi1,hss,hp2,h3]
   intro b t' hb
   have ht2:t'.length≤100000:=by omega
   simp only [ki,go_sem,hfree,f1,f2,hgi,hgt',hsi,hst,aG,aE,aK,aJ,aW,aH,aP,hne,ne_eq,hne',hl5,Int.toNat_natCast,aQ,aR,i1,Int.reduceLE,eq_self,not_false_eq_true,Bool.not_true,Bool.not_false,Bool.true_and,Bool.false_and,List.length_append,yaz,yba,Nat.zero_add,ht2]
   have hK':=hK t'.length (t'++[⟨5,b,0,[],[],0⟩]) (by simp;omega)
   have hc3:=hcl2 q true (t'++[⟨5,b,0,[],[],0⟩])
   simp only [List.length_append,yaz,yba,Nat.zero_add] at hK' hc3
   exact cj hK' (hnx _ _) (AHeap.Le.refl _) hc3
  cases h4
  obtain ⟨k1b,k2b,k3b,k4b,k5b,k6b⟩:=aX _ h3 hgt trivial hlt1
  simp only [Rl.isL,Bool.false_eq_true,if_false] at k4b
  have ht2:t2.length≤100000:=by omega
  simp only [go_sem,hfree,f1,f2,hgi,hgt',hsi,hst,aG,aE,aK,aJ,aW,aH,aP,hne,ne_eq,hne',hl5,Int.toNat_natCast,aQ,aR,i1,Int.reduceLE,eq_self,not_false_eq_true,Bool.not_true,Bool.not_false,Bool.true_and,Bool.false_and,List.length_append,yaz,yba,Nat.zero_add,gW,hg,hp,hs,if_true,hgi1,hss,hp2,h3,ht2,nd2]
  have hc3:=hcl2 p2 false (t2++[⟨5,b,0,[],[],0⟩])
  simp only [List.length_append,yaz,yba,Nat.zero_add,aK,nd2] at hK hc3
  exact cj hK (hnx _ _) (AHeap.Le.refl _) hc3
theorem J2 {A:Prop} {f:Nat} (h_zUn:EntOk Tryz.prog 506 (Ent.some (jp A f))) (h_zAtom:EntOk Tryz.prog 508 (Ent.some (l9 A f))):EntOk Tryz.prog 506 (Ent.some (jp A (f+1))):=by
 refine EntOk.some fun args H K h=>?_
 unfold jp aP at h
 split at h
 rotate_left
 ·exact h.elim
 rename_i id
 obtain ⟨m,l,p,b,tb,t,hg,⟨rfl,hpre,hfree⟩,hK⟩:=h
 cases ho:run l (f+1) .un p t with
 |none=>rw [ho] at hK;exact hK.elim
 |some r =>
 rw [ho] at hK
 rw [run] at ho
 simp only [dJ] at ho
 have hpre':=hpre
 obtain ⟨hne,htb,ht,hp,hl,hgl,hgt⟩:=hpre
 have hid:=AHeap.get_lt hg
 have htbl:=AHeap.get_lt htb
 have f1:=cm hid
 have f2:=cm htbl
 have hl5:l.length≤100000:=by omega
 have i1:=@Int.natCast_nonneg
 have hne':(id=tb)=False:=eq_false hne
 have hnx:∀ X Y,H.nx≤((H.set id X).set tb Y).nx:=fun X Y=>Nat.le_refl _
 refine ACallsP.of_aw (Ω:=[(470,Ent.effect aJ),(506,Ent.some (jp A f)),(471,Ent.effect aH),(508,Ent.some (l9 A f))]) (T:=aA []) aB (TblOk.cons fQ (TblOk.cons h_zUn (TblOk.cons fD (TblOk.cons h_zAtom TblOk.nil)))) Tryz.func506 (by kernel_rfl) (by rfl) (rs:=[.tmp 2]) (by rfl) (by kernel_rfl) (by simp only [Tryz.ntmps506,yaz,yba];decide) fun hcl hlt=>?_
 change aw _ _ _ (KI Tryz.prog [(470,Ent.effect aJ),(506,Ent.some (jp A f)),(471,Ent.effect aH),(508,Ent.some (l9 A f))] (km Tryz.prog [.tmp 2] H.nx _) []) _ _
 clear hlt
 obtain ⟨hgi,hgt',hsi,hcl2,hst⟩:=gf hg hpre' hcl
 have hgi1:∀ X,(H.set id X).get id=some X:=fun X=>AHeap.get_set_same _ _ hid
 have hss:∀ X Y,(H.set id X).set id Y=H.set id Y:=fun X Y=>by simp only [AHeap.set];congr 1;funext k;by_cases hk:k=id<;>simp [hk]
 cases hs:isS l p [45] with
 |false =>
  rw [hs,if_neg (by simp)] at ho
  simp only [go_sem,hfree,f1,f2,hgi,hgt',hsi,hst,aG,aE,aK,aJ,aW,aH,aP,hne,ne_eq,hne',hl5,Int.toNat_natCast,aQ,aR,i1,Int.reduceLE,eq_self,not_false_eq_true,Bool.not_true,Bool.not_false,Bool.true_and,Bool.false_and,List.length_append,yaz,yba,Nat.zero_add,l9,hg,hp,hs,if_false,hpre',ho]
  cases r with
  |ok a q u =>
   rw [aK] at hK
   simp only [go_sem,hfree,f1,f2,hgi,hgt',hsi,hst,aG,aE,aK,aJ,aW,aH,aP,hne,ne_eq,hne',hl5,Int.toNat_natCast,aQ,aR,i1,Int.reduceLE,eq_self,not_false_eq_true,Bool.not_true,Bool.not_false,Bool.true_and,Bool.false_and,List.length_append,yaz,yba,Nat.zero_add]
   exact cj hK (hnx _ _) (AHeap.Le.refl _) (hcl2 _ _ _)
  |bad q =>
   rw [aE] at hK
   simp only [go_sem,hfree,f1,f2,hgi,hgt',hsi,hst,aG,aE,aK,aJ,aW,aH,aP,hne,ne_eq,hne',hl5,Int.toNat_natCast,aQ,aR,i1,Int.reduceLE,eq_self,not_false_eq_true,Bool.not_true,Bool.not_false,Bool.true_and,Bool.false_and,List.length_append,yaz,yba,Nat.zero_add]
   intro a t' hb
   try simp only [ki,go_sem,hfree,f1,f2,hgi,hgt',hsi,hst,aG,aE,aK,aJ,aW,aH,aP,hne,ne_eq,hne',hl5,Int.toNat_natCast,aQ,aR,i1,Int.reduceLE,eq_self,not_false_eq_true,Bool.not_true,Bool.not_false,Bool.true_and,Bool.false_and,List.length_append,yaz,yba,Nat.zero_add]
   exact cj (hK a t' hb) (hnx _ _) (AHeap.Le.refl _) (hcl2 _ _ _)
 |true =>
  rw [hs,if_pos rfl] at ho
  have hlt1:=cX hs
  have hp2:fJ (H.set id (rst m l (p+1) false tb t)) id tb l (p+1) t:=jO hpre' hlt1 (by omega)
  rcases aT ho with ⟨q,h3,rfl⟩|⟨b,p2,t2,h3,h4⟩
  ·obtain ⟨hq3,hq4⟩:=aX _ h3 hgt trivial hlt1
   rw [aE] at hK
   simp only [go_sem,hfree,f1,f2,hgi,hgt',hsi,hst,aG,aE,aK,aJ,aW,aH,aP,hne,ne_eq,hne',hl5,Int.toNat_natCast,aQ,aR,i1,Int.reduceLE,eq_self,not_false_eq_true,Bool.not_true,Bool.not_false,Bool.true_and,Bool.false_and,List.length_append,yaz,yba,Nat.zero_add,jp,hg,hp,hs,if_true,hgi1,hss,hp2,h3]
   intro b t' hb
   have ht2:t'.length≤100000:=by omega
   simp only [ki,go_sem,hfree,f1,f2,hgi,hgt',hsi,hst,aG,aE,aK,aJ,aW,aH,aP,hne,ne_eq,hne',hl5,Int.toNat_natCast,aQ,aR,i1,Int.reduceLE,eq_self,not_false_eq_true,Bool.not_true,Bool.not_false,Bool.true_and,Bool.false_and,List.length_append,yaz,yba,Nat.zero_add,ht2]
   have hK':=hK t'.length (t'++[⟨4,b,0,[],[],0⟩]) (by simp;omega)
   have hc3:=hcl2 q true (t'++[⟨4,b,0,[],[],0⟩])
   simp only [List.length_append,yaz,yba,Nat.zero_add] at hK' hc3
   exact cj hK' (hnx _ _) (AHeap.Le.refl _) hc3
  cases h4
  obtain ⟨k1b,k2b,k3b,k4b,k5b,k6b⟩:=aX _ h3 hgt trivial hlt1
  simp only [Rl.isL,Bool.false_eq_true,if_false] at k4b
  have ht2:t2.length≤100000:=by omega
  simp only [go_sem,hfree,f1,f2,hgi,hgt',hsi,hst,aG,aE,aK,aJ,aW,aH,aP,hne,ne_eq,hne',hl5,Int.toNat_natCast,aQ,aR,i1,Int.reduceLE,eq_self,not_false_eq_true,Bool.not_true,Bool.not_false,Bool.true_and,Bool.false_and,List.length_append,yaz,yba,Nat.zero_add,jp,hg,hp,hs,if_true,hgi1,hss,hp2,h3,ht2,nd2]
  have hc3:=hcl2 p2 false (t2++[⟨4,b,0,[],[],0⟩])
  simp only [List.length_append,yaz,yba,Nat.zero_add,aK,nd2] at hK hc3
  exact cj hK (hnx _ _) (AHeap.Le.refl _) hc3
end Go.AL
open Go Go.AL Go.Proofs
namespace Go.AL
set_option linter.all false
set_option maxRecDepth 10000
theorem C9 {l:List Tok} {p k:Nat} {s:List UInt8} {r:List (Nat × List UInt8)}:gB l p ((k,s)::r)=if isS l p s then some k else gB l p r:=rfl
theorem Gj:[AV.str [61,61],AV.str [33,61],AV.str [60],AV.str [60,61],AV.str [62],AV.str [62,61]]=sAV (opsC.map Prod.snd):=rfl
theorem B0 {i:Nat} (h:i<6):∃ s,opsC.drop i=(8+i,s)::opsC.drop (i+1)∧(sAV (opsC.map Prod.snd)).getD i .junk=.str s:=by
 rcases (by omega:i=0∨i=1∨i=2∨i=3∨i=4∨i=5) with rfl|rfl|rfl|rfl|rfl|rfl
 all_goals exact ⟨_,rfl,rfl⟩
theorem IE {A:Prop} {f:Nat} (h_zSum:EntOk Tryz.prog 503 (Ent.some (kZ A f))):EntOk Tryz.prog 499 (Ent.some (ph A (f+1))):=by
 refine EntOk.some fun args H K h=>?_
 unfold ph aP at h
 split at h
 rotate_left
 ·exact h.elim
 rename_i id
 obtain ⟨m,l,p,b,tb,t,hg,⟨rfl,hpre,hfree⟩,hK⟩:=h
 cases ho:run l (f+1) .cmp p t with
 |none=>rw [ho] at hK;exact hK.elim
 |some r =>
 rw [ho] at hK
 rw [run] at ho
 simp only [dJ] at ho
 have hpre':=hpre
 obtain ⟨hne,htb,ht,hp,hl,hgl,hgt⟩:=hpre
 have hid:=AHeap.get_lt hg
 have htbl:=AHeap.get_lt htb
 have f1:=cm hid
 have f2:=cm htbl
 have hl5:l.length≤100000:=by omega
 have i1:=@Int.natCast_nonneg
 have hne':(id=tb)=False:=eq_false hne
 have hnx:∀ X Y,H.nx≤((H.set id X).set tb Y).nx:=fun X Y=>Nat.le_refl _
 refine ACallsP.of_aw (Ω:=[(503,Ent.some (kZ A f)),(470,Ent.effect aJ),(471,Ent.effect aH)]) (T:=aA []) aB (TblOk.cons h_zSum (TblOk.cons fQ (TblOk.cons fD TblOk.nil))) Tryz.func499 (by kernel_rfl) (by rfl) (rs:=[.tmp 2]) (by rfl) (by kernel_rfl) (by simp only [Tryz.ntmps499,yaz,yba];decide) fun hcl hlt=>?_
 change aw _ _ _ (KI Tryz.prog [(503,Ent.some (kZ A f)),(470,Ent.effect aJ),(471,Ent.effect aH)] (km Tryz.prog [.tmp 2] H.nx _) []) _ _
 clear hlt
 obtain ⟨hgi,hgt',hsi,hcl2,hst⟩:=gf hg hpre' hcl
 have hsl:(sAV (opsC.map Prod.snd)).length=6:=rfl
 rcases aT ho with ⟨q,h1,rfl⟩|⟨a,p1,t1,h1,h2⟩
 ·obtain ⟨hq1,hq2⟩:=aX _ h1 hgt trivial hp
  rw [aE] at hK
  simp only [go_sem,hfree,f1,f2,hgi,hgt',hsi,hst,aG,aE,aK,aJ,aW,aH,aP,hne,ne_eq,hne',hl5,Int.toNat_natCast,aQ,aR,i1,Int.reduceLE,eq_self,not_false_eq_true,Bool.not_true,Bool.not_false,Bool.true_and,Bool.false_and,List.length_append,yaz,yba,Nat.zero_add,kZ,hg,hpre',h1]
  intro a t' hb
  try simp only [ki,go_sem,hfree,f1,f2,hgi,hgt',hsi,hst,aG,aE,aK,aJ,aW,aH,aP,hne,ne_eq,hne',hl5,Int.toNat_natCast,aQ,aR,i1,Int.reduceLE,eq_self,not_false_eq_true,Bool.not_true,Bool.not_false,Bool.true_and,Bool.false_and,List.length_append,yaz,yba,Nat.zero_add,Gj]
  refine ay (A:=Nat) (fun i=>[(0,.ptr id 0),(3,.int .i64 (a:Int)),(9,.slice .any 1 (sAV (opsC.map Prod.snd))),(10,.int .i64 6),(11,.int .i64 (i:Int))]) (fun _=>(H.set id (rst m l q true tb t')).set tb (.buf 7 t'.length)) (fun i=>i≤6) (fun i=>6 - i) 0 (by omega) ?_ fun i hi=>?_
  ·exact Z33
  simp only [go_sem,hfree,f1,f2,hgi,hgt',hsi,hst,aG,aE,aK,aJ,aW,aH,aP,hne,ne_eq,hne',hl5,Int.toNat_natCast,aQ,aR,i1,Int.reduceLE,eq_self,not_false_eq_true,Bool.not_true,Bool.not_false,Bool.true_and,Bool.false_and,List.length_append,yaz,yba,Nat.zero_add]
  refine aq (fun hc=>?_) (fun hc=>?_)
  ·have hi6:i<6:=by simp at hc;omega
   obtain ⟨s,e1,e2⟩:=B0 hi6
   have e5:IntKind.i64.wrap ((i:Int)+1)=((i+1:Nat):Int):=by rw [wrap_i64]<;>omega
   simp only [go_sem,hfree,f1,f2,hgi,hgt',hsi,hst,aG,aE,aK,aJ,aW,aH,aP,hne,ne_eq,hne',hl5,Int.toNat_natCast,aQ,aR,i1,Int.reduceLE,eq_self,not_false_eq_true,Bool.not_true,Bool.not_false,Bool.true_and,Bool.false_and,List.length_append,yaz,yba,Nat.zero_add,hsl,e2,e5,hq1,if_false]
   refine ⟨by omega,i+1,by omega,by omega,?_⟩
   exact Z33
  ·simp only [go_sem,hfree,f1,f2,hgi,hgt',hsi,hst,aG,aE,aK,aJ,aW,aH,aP,hne,ne_eq,hne',hl5,Int.toNat_natCast,aQ,aR,i1,Int.reduceLE,eq_self,not_false_eq_true,Bool.not_true,Bool.not_false,Bool.true_and,Bool.false_and,List.length_append,yaz,yba,Nat.zero_add]
   exact cj (hK a t' hb) (hnx _ _) (AHeap.Le.refl _) (hcl2 _ _ _)
 clear ho
 obtain ⟨k1,k2,k3,k4,k5,k6⟩:=aX _ h1 hgt trivial hp
 simp only [Rl.isL,Bool.false_eq_true,if_false] at k4
 simp only [go_sem,hfree,f1,f2,hgi,hgt',hsi,hst,aG,aE,aK,aJ,aW,aH,aP,hne,ne_eq,hne',hl5,Int.toNat_natCast,aQ,aR,i1,Int.reduceLE,eq_self,not_false_eq_true,Bool.not_true,Bool.not_false,Bool.true_and,Bool.false_and,List.length_append,yaz,yba,Nat.zero_add,kZ,hg,hpre',h1]
 try simp only [Gj]
 refine ay (A:=Nat) (fun i=>[(0,.ptr id 0),(3,.int .i64 (a:Int)),(9,.slice .any 1 (sAV (opsC.map Prod.snd))),(10,.int .i64 6),(11,.int .i64 (i:Int))]) (fun _=>(H.set id (rst m l p1 false tb t1)).set tb (.buf 7 t1.length)) (fun i=>i≤6∧gB l p1 (opsC.drop i)=gB l p1 opsC) (fun i=>6 - i) 0 ⟨by omega,rfl⟩ ?_ fun i hi=>?_
 ·exact Z33
 obtain ⟨hi,hop⟩:=hi
 simp only [go_sem,hfree,f1,f2,hgi,hgt',hsi,hst,aG,aE,aK,aJ,aW,aH,aP,hne,ne_eq,hne',hl5,Int.toNat_natCast,aQ,aR,i1,Int.reduceLE,eq_self,not_false_eq_true,Bool.not_true,Bool.not_false,Bool.true_and,Bool.false_and,List.length_append,yaz,yba,Nat.zero_add]
 refine aq (fun hc=>?_) (fun hc=>?_)
 ·have hi6:i<6:=by simp at hc;omega
  obtain ⟨s,e1,e2⟩:=B0 hi6
  have e5:IntKind.i64.wrap ((i:Int)+1)=((i+1:Nat):Int):=by rw [wrap_i64]<;>omega
  have e6:IntKind.i64.wrap (8+(i:Int))=((8+i:Nat):Int):=by rw [wrap_i64]<;>omega
  rw [e1,C9] at hop
  cases hs:isS l p1 s with
  |false =>
   rw [hs,if_neg (by simp)] at hop
   simp only [go_sem,hfree,f1,f2,hgi,hgt',hsi,hst,aG,aE,aK,aJ,aW,aH,aP,hne,ne_eq,hne',hl5,Int.toNat_natCast,aQ,aR,i1,Int.reduceLE,eq_self,not_false_eq_true,Bool.not_true,Bool.not_false,Bool.true_and,Bool.false_and,List.length_append,yaz,yba,Nat.zero_add,hsl,e2,e5,k2,hs,if_false]
   refine ⟨by omega,i+1,⟨by omega,hop⟩,by omega,?_⟩
   exact Z33
  |true =>
   rw [hs,if_pos rfl] at hop
   rw [← hop] at h2
   dsimp only at h2
   have hlt1:=cX hs
   have hp2:fJ ((H.set id (rst m l (p1+1) false tb t1)).set tb (.buf 7 t1.length)) id tb l (p1+1) t1:=jR hpre' hlt1 (by omega) k5
   rcases aT h2 with ⟨q,h3,rfl⟩|⟨b,p2,t2,h3,h4⟩
   ·obtain ⟨hq1,hq2⟩:=aX _ h3 k5 trivial hlt1
    rw [aE] at hK
    simp only [go_sem,hfree,f1,f2,hgi,hgt',hsi,hst,aG,aE,aK,aJ,aW,aH,aP,hne,ne_eq,hne',hl5,Int.toNat_natCast,aQ,aR,i1,Int.reduceLE,eq_self,not_false_eq_true,Bool.not_true,Bool.not_false,Bool.true_and,Bool.false_and,List.length_append,yaz,yba,Nat.zero_add,kZ,hsl,e2,k2,hs,if_true,hp2,h3]
    refine ⟨by omega,fun b t' hb=>?_⟩
    have ht2:t'.length≤100000:=by omega
    simp only [ki,go_sem,hfree,f1,f2,hgi,hgt',hsi,hst,aG,aE,aK,aJ,aW,aH,aP,hne,ne_eq,hne',hl5,Int.toNat_natCast,aQ,aR,i1,Int.reduceLE,eq_self,not_false_eq_true,Bool.not_true,Bool.not_false,Bool.true_and,Bool.false_and,List.length_append,yaz,yba,Nat.zero_add,ht2,e6]
    have hK':=hK t'.length (t'++[⟨8+i,a,b,[],[],0⟩]) (by simp;omega)
    have hc3:=hcl2 q true (t'++[⟨8+i,a,b,[],[],0⟩])
    simp only [List.length_append,yaz,yba,Nat.zero_add] at hK' hc3
    exact cj hK' (hnx _ _) (AHeap.Le.refl _) hc3
   cases h4
   obtain ⟨k1b,k2b,k3b,k4b,k5b,k6b⟩:=aX _ h3 k5 trivial hlt1
   simp only [Rl.isL,Bool.false_eq_true,if_false] at k4b
   have ht2:t2.length≤100000:=by omega
   simp only [go_sem,hfree,f1,f2,hgi,hgt',hsi,hst,aG,aE,aK,aJ,aW,aH,aP,hne,ne_eq,hne',hl5,Int.toNat_natCast,aQ,aR,i1,Int.reduceLE,eq_self,not_false_eq_true,Bool.not_true,Bool.not_false,Bool.true_and,Bool.false_and,List.length_append,yaz,yba,Nat.zero_add,kZ,hsl,e2,k2,hs,if_true,hp2,h3,ht2,nd2,e6]
   refine ⟨by omega,?_⟩
   have hc3:=hcl2 p2 false (t2++[⟨8+i,a,b,[],[],0⟩])
   simp only [List.length_append,yaz,yba,Nat.zero_add,aK,nd2] at hK hc3
   exact cj hK (hnx _ _) (AHeap.Le.refl _) hc3
 ·have hi6:i=6:=by simp at hc;omega
  subst hi6
  have hno:gB l p1 opsC=none:=by rw [← hop];rfl
  rw [hno] at h2
  cases h2
  rw [aK] at hK
  simp only [go_sem,hfree,f1,f2,hgi,hgt',hsi,hst,aG,aE,aK,aJ,aW,aH,aP,hne,ne_eq,hne',hl5,Int.toNat_natCast,aQ,aR,i1,Int.reduceLE,eq_self,not_false_eq_true,Bool.not_true,Bool.not_false,Bool.true_and,Bool.false_and,List.length_append,yaz,yba,Nat.zero_add]
  exact cj hK (hnx _ _) (AHeap.Le.refl _) (hcl2 _ _ _)
end Go.AL
open Go Go.AL Go.Proofs
namespace Go.AL
set_option linter.all false
set_option maxRecDepth 10000
def mK (A:Prop) (f:Nat):List AV→AHeap→(AV→AHeap→Prop)→Prop
 |[.str s],H,K=>∃ n,(A∧lit s=some n∧s.length≤1000)∧K (vv n) H
 |_,_,_=>False
theorem D8 {H:AHeap} {id tb p:Nat} {o:AObj} {l:List Tok} {t:List Nd} (h:fJ H id tb l p t):fJ (H.push o) id tb l p t:=by
 obtain ⟨h1,h2,h3,h4,h5,h6,h7⟩:=h
 refine ⟨h1,?_,h3,h4,h5,h6,h7⟩
 rw [AHeap.get_push_lt _ _ (AHeap.get_lt h2)];exact h2
theorem Fc {A:Prop} {f:Nat} (h_zVal:EntOk Tryz.prog 512 (Ent.some (mK A f))) (h_zImp:EntOk Tryz.prog 411 (Ent.some (fZ A f))):EntOk Tryz.prog 508 (Ent.some (l9 A (f+1))):=by
 refine EntOk.some fun args H K h=>?_
 unfold l9 aP at h
 split at h
 rotate_left
 ·exact h.elim
 rename_i id
 obtain ⟨m,l,p,b,tb,t,hg,⟨rfl,hpre,hfree⟩,hK⟩:=h
 cases ho:run l (f+1) .atom p t with
 |none=>rw [ho] at hK;exact hK.elim
 |some r =>
 rw [ho] at hK
 rw [run] at ho
 simp only [dJ] at ho
 have hpre':=hpre
 obtain ⟨hne,htb,ht,hp,hl,hgl,hgt⟩:=hpre
 have hid:=AHeap.get_lt hg
 have htbl:=AHeap.get_lt htb
 have f1:=cm hid
 have f2:=cm htbl
 have hl5:l.length≤100000:=by omega
 have i1:=@Int.natCast_nonneg
 have hne':(id=tb)=False:=eq_false hne
 have hnx:∀ X Y,H.nx≤((H.set id X).set tb Y).nx:=fun X Y=>Nat.le_refl _
 refine ACallsP.of_aw (Ω:=[(512,Ent.some (mK A f)),(470,Ent.effect aJ),(471,Ent.effect aH),(513,Ent.effect pq),(411,Ent.some (fZ A f))]) (T:=aA []) aB (TblOk.cons h_zVal (TblOk.cons fQ (TblOk.cons fD (TblOk.cons Ji (TblOk.cons h_zImp TblOk.nil))))) Tryz.func508 (by kernel_rfl) (by rfl) (rs:=[.tmp 2]) (by rfl) (by kernel_rfl) (by simp only [Tryz.ntmps508,yaz,yba];decide) fun hcl hlt=>?_
 change aw _ _ _ (KI Tryz.prog [(512,Ent.some (mK A f)),(470,Ent.effect aJ),(471,Ent.effect aH),(513,Ent.effect pq),(411,Ent.some (fZ A f))] (km Tryz.prog [.tmp 2] H.nx _) []) _ _
 clear hlt
 obtain ⟨hgi,hgt',hsi,hcl2,hst⟩:=gf hg hpre' hcl
 have hgi1:∀ X,(H.set id X).get id=some X:=fun X=>AHeap.get_set_same _ _ hid
 have hgt1:∀ X,(H.set id X).get tb=some (.buf 7 t.length):=fun X=>by rw [AHeap.get_set_ne _ _ (fun e=>hne e.symm)];exact htb
 have hss:∀ X Y,(H.set id X).set id Y=H.set id Y:=fun X Y=>by simp only [AHeap.set];congr 1;funext k;by_cases hk:k=id<;>simp [hk]
 have hcs:=av (cs:=[.slice m 3 (cU l),.int .i64 (p:Int),.bool false,.slice (.own tb) 7 (nds t)]) hg
 have ht5:t.length≤100000:=by omega
 have hx1:(id=H.nx)=False:=eq_false (by omega)
 have e1:IntKind.i64.wrap ((p:Int)+1)=((p+1:Nat):Int):=by rw [wrap_i64]<;>omega
 rcases Nat.lt_or_ge p l.length with hlt0|hlt0
 rotate_left
 ·have hpe:p=l.length:=by omega
  subst hpe
  have hge:l[l.length]?=none:=List.getElem?_eq_none (Nat.le_refl _)
  have hs0:isS l l.length [40]=false:=yk (Nat.le_refl _)
  have hr:cQ l l.length t=.bad l.length:=by unfold cQ;rw [hge]
  have d0:((l.length:Int)==(l.length:Int))=true:=by simp
  rw [hs0,if_neg (by simp),hr] at ho
  cases ho
  rw [aE] at hK
  simp only [go_sem,hfree,f1,f2,hgi,hgt',hsi,hst,aG,aE,aK,aJ,aW,aH,aP,hne,ne_eq,hne',hl5,Int.toNat_natCast,aQ,aR,i1,Int.reduceLE,eq_self,not_false_eq_true,Bool.not_true,Bool.not_false,Bool.true_and,Bool.false_and,List.length_append,yaz,yba,Nat.zero_add,hg,hp,hcs,aO,cO,hgi1,hgt1,hss,ht5,if_true,if_false,d0]
  have hK':=hK 0 t (Nat.le_refl _)
  have hc3:=hcl2 l.length true t
  rw [← tE htb hne] at hK' hc3
  exact cj (H1:=H.set id (rst m l l.length true tb t)) hK' (Nat.le_refl _) (AHeap.Le.refl _) hc3
 rcases htk:l[p] with ⟨k,x,z⟩
 have hgd:=lY hlt0 htk
 have hge:l[p]?=some (k,x,z):=by rw [List.getElem?_eq_getElem hlt0,htk]
 have d0:((p:Int)==(l.length:Int))=false:=by simp;omega
 have hp1:p+1≤l.length:=hlt0
 obtain ⟨hxl,hxs⟩:=hgl l[p] (List.getElem_mem hlt0)
 rw [htk] at hxl hxs
 dsimp only at hxl hxs
 have hat:=A0 hlt0 htk (s:=[40])
 by_cases hk1:k=1
 ·subst hk1
  have hA:A:=hfree p (by unfold oZ;rw [hge])
  obtain ⟨n,hn⟩:=Option.isSome_iff_exists.1 (hxs rfl)
  have hn128:=yd hn
  have hvo:vOf (n/2^64) (n % 2^64)=n:=lu n
  have hv1:kq (n/2^64:Nat) (n % 2^64:Nat)=True:=eq_true (by refine ⟨?_,?_,?_,?_⟩<;>omega)
  have hr:cQ l p t=.ok t.length (p+1) (t++[⟨1,0,0,[],[],n⟩]):=by unfold cQ;rw [hge];simp [hn]
  have hd1:(((1:Nat):Int)==1)=true:=rfl
  have hs0:isS l p [40]=false:=by rw [hat];rfl
  rw [hs0,if_neg (by simp),hr] at ho
  cases ho
  simp only [go_sem,hfree,f1,f2,hgi,hgt',hsi,hst,aG,aE,aK,aJ,aW,aH,aP,hne,ne_eq,hne',hl5,Int.toNat_natCast,aQ,aR,i1,Int.reduceLE,eq_self,not_false_eq_true,Bool.not_true,Bool.not_false,Bool.true_and,Bool.false_and,List.length_append,yaz,yba,Nat.zero_add,hg,hp,hcs,aO,hgd,cO,hgi1,hgt1,hss,ht5,if_true,if_false,d0,hd1,e1]
  refine ⟨by omega,?_⟩
  simp only [mK]
  refine ⟨n,⟨hA,hn,hxl⟩,?_⟩
  simp only [vv,ki,go_sem,hfree,f1,f2,hgi,hgt',hsi,hst,aG,aE,aK,aJ,aW,aH,aP,hne,ne_eq,hne',hl5,Int.toNat_natCast,aQ,aR,i1,Int.reduceLE,eq_self,not_false_eq_true,Bool.not_true,Bool.not_false,Bool.true_and,Bool.false_and,List.length_append,yaz,yba,Nat.zero_add,hg,hp,hcs,aO,hgd,cO,hgi1,hgt1,hss,ht5,if_true,if_false,d0,hd1,e1,hvo,hv1]
  have hc3:=hcl2 (p+1) false (t++[⟨1,0,0,[],[],n⟩])
  simp only [List.length_append,yaz,yba,Nat.zero_add,aK] at hK hc3
  exact cj hK (Nat.le_refl _) ((AHeap.Le.refl _).push _) hc3
 have d1:((k:Int)==1)=false:=by simp;omega
 by_cases hk2:k=2
 ·subst hk2
  have hs0:isS l p [40]=false:=by rw [hat];rfl
  have hd2:(((2:Nat):Int)==1)=false:=rfl
  have hd3:(((2:Nat):Int)==2)=true:=rfl
  rw [hs0,if_neg (by simp)] at ho
  by_cases hx1':x=rT
  ·have hr:cQ l p t=.ok t.length (p+1) (t++[⟨2,0,0,[],[],1⟩]):=by unfold cQ;rw [hge];simp [hx1']
   have hb1:(x==[116,114,117,101])=true:=by rw [hx1'];rfl
   rw [hr] at ho
   cases ho
   simp only [go_sem,hfree,f1,f2,hgi,hgt',hsi,hst,aG,aE,aK,aJ,aW,aH,aP,hne,ne_eq,hne',hl5,Int.toNat_natCast,aQ,aR,i1,Int.reduceLE,eq_self,not_false_eq_true,Bool.not_true,Bool.not_false,Bool.true_and,Bool.false_and,List.length_append,yaz,yba,Nat.zero_add,hg,hp,hcs,aO,hgd,cO,hgi1,hgt1,hss,ht5,if_true,if_false,d0,hd2,hd3,e1,hb1,JO,JX]
   refine ⟨by omega,?_⟩
   have hc3:=hcl2 (p+1) false (t++[⟨2,0,0,[],[],1⟩])
   simp only [List.length_append,yaz,yba,Nat.zero_add,aK] at hK hc3
   exact cj hK (Nat.le_refl _) ((AHeap.Le.refl _).push _) hc3
  have hb1:(x==[116,114,117,101])=false:=by simpa [rT] using hx1'
  by_cases hx2:x=mH
  ·have hr:cQ l p t=.ok t.length (p+1) (t++[⟨2,0,0,[],[],0⟩]):=by unfold cQ;rw [hge];simp [hx1',hx2];decide
   have hb2:(x==[102,97,108,115,101])=true:=by rw [hx2];rfl
   rw [hr] at ho
   cases ho
   simp only [go_sem,hfree,f1,f2,hgi,hgt',hsi,hst,aG,aE,aK,aJ,aW,aH,aP,hne,ne_eq,hne',hl5,Int.toNat_natCast,aQ,aR,i1,Int.reduceLE,eq_self,not_false_eq_true,Bool.not_true,Bool.not_false,Bool.true_and,Bool.false_and,List.length_append,yaz,yba,Nat.zero_add,hg,hp,hcs,aO,hgd,cO,hgi1,hgt1,hss,ht5,if_true,if_false,d0,hd2,hd3,e1,hb1,hb2]
   refine ⟨by omega,?_⟩
   have hc3:=hcl2 (p+1) false (t++[⟨2,0,0,[],[],0⟩])
   simp only [List.length_append,yaz,yba,Nat.zero_add,aK] at hK hc3
   exact cj hK (Nat.le_refl _) ((AHeap.Le.refl _).push _) hc3
  have hb2:(x==[102,97,108,115,101])=false:=by simpa [mH] using hx2
  cases hs3:isS l (p+1) [58,58] with
  |false =>
   have hr:cQ l p t=.ok t.length (p+1) (t++[⟨3,0,0,x,[],0⟩]):=by unfold cQ;rw [hge];simp [hx1',hx2,hs3]
   rw [hr] at ho
   cases ho
   simp only [go_sem,hfree,f1,f2,hgi,hgt',hsi,hst,aG,aE,aK,aJ,aW,aH,aP,hne,ne_eq,hne',hl5,Int.toNat_natCast,aQ,aR,i1,Int.reduceLE,eq_self,not_false_eq_true,Bool.not_true,Bool.not_false,Bool.true_and,Bool.false_and,List.length_append,yaz,yba,Nat.zero_add,hg,hp,hcs,aO,hgd,cO,hgi1,hgt1,hss,ht5,if_true,if_false,pq,d0,hd2,hd3,e1,hb1,hb2,hp1,hs3,Bool.false_eq_true]
   refine ⟨by omega,?_⟩
   have hc3:=hcl2 (p+1) false (t++[⟨3,0,0,x,[],0⟩])
   simp only [List.length_append,yaz,yba,Nat.zero_add,aK] at hK hc3
   exact cj hK (Nat.le_refl _) ((AHeap.Le.refl _).push _) hc3
  |true =>
   have hlt3:=cX hs3
   cases hw2:jA l (p+1+1) with
   |none =>
    have hr:cQ l p t=.bad (p+1+1):=by
     unfold cQ;rw [hge];simp [hx1',hx2,hs3]
     unfold jA at hw2
     cases hge2:l[p+1+1]? with
     |none=>rfl
     |some v =>
      obtain ⟨k2,y,z2⟩:=v
      rw [hge2] at hw2
      dsimp only at hw2 ⊢
      split at hw2
      ·cases hw2
      ·rename_i hk;rw [if_neg hk]
    rw [hr] at ho
    cases ho
    rw [aE] at hK
    simp only [go_sem,hfree,f1,f2,hgi,hgt',hsi,hst,aG,aE,aK,aJ,aW,aH,aP,hne,ne_eq,hne',hl5,Int.toNat_natCast,aQ,aR,i1,Int.reduceLE,eq_self,not_false_eq_true,Bool.not_true,Bool.not_false,Bool.true_and,Bool.false_and,List.length_append,yaz,yba,Nat.zero_add,hg,hp,hcs,aO,hgd,cO,hgi1,hgt1,hss,ht5,if_true,if_false,pq,d0,hd2,hd3,e1,hb1,hb2,hp1,hs3,hw2,fb]
    refine ⟨by omega,?_⟩
    have hK':=hK 0 t (by omega)
    have hc3:=hcl2 (p+1+1) true t
    rw [← tE htb hne] at hK' hc3
    exact cj hK' (Nat.le_refl _) ((AHeap.Le.refl _).push _) hc3
   |some y =>
    have hr:cQ l p t=.ok t.length (p+1+1+1) (t++[⟨3,0,0,x,y,0⟩]):=by
     unfold cQ;rw [hge];simp [hx1',hx2,hs3]
     unfold jA at hw2
     cases hge2:l[p+1+1]? with
     |none=>rw [hge2] at hw2;cases hw2
     |some v =>
      obtain ⟨k2,y2,z2⟩:=v
      rw [hge2] at hw2
      dsimp only at hw2 ⊢
      split at hw2
      ·rename_i hk;cases hw2;rw [if_pos hk]
      ·cases hw2
    rw [hr] at ho
    cases ho
    simp only [go_sem,hfree,f1,f2,hgi,hgt',hsi,hst,aG,aE,aK,aJ,aW,aH,aP,hne,ne_eq,hne',hl5,Int.toNat_natCast,aQ,aR,i1,Int.reduceLE,eq_self,not_false_eq_true,Bool.not_true,Bool.not_false,Bool.true_and,Bool.false_and,List.length_append,yaz,yba,Nat.zero_add,hg,hp,hcs,aO,hgd,cO,hgi1,hgt1,hss,ht5,if_true,if_false,pq,d0,hd2,hd3,e1,hb1,hb2,hp1,hs3,hw2,fV]
    refine ⟨by omega,?_⟩
    have hc3:=hcl2 (p+1+1+1) false (t++[⟨3,0,0,x,y,0⟩])
    simp only [List.length_append,yaz,yba,Nat.zero_add,aK] at hK hc3
    exact cj hK (Nat.le_refl _) ((AHeap.Le.refl _).push _) hc3
 have d2:((k:Int)==2)=false:=by simp;omega
 cases hs0:isS l p [40] with
 |false =>
  have hr:cQ l p t=.bad p:=by unfold cQ;rw [hge];simp [hk1,hk2]
  rw [hs0,if_neg (by simp),hr] at ho
  cases ho
  rw [aE] at hK
  simp only [go_sem,hfree,f1,f2,hgi,hgt',hsi,hst,aG,aE,aK,aJ,aW,aH,aP,hne,ne_eq,hne',hl5,Int.toNat_natCast,aQ,aR,i1,Int.reduceLE,eq_self,not_false_eq_true,Bool.not_true,Bool.not_false,Bool.true_and,Bool.false_and,List.length_append,yaz,yba,Nat.zero_add,hg,hp,hcs,aO,hgd,cO,hgi1,hgt1,hss,ht5,if_true,if_false,d0,d1,d2,hs0,Bool.false_eq_true]
  refine ⟨by omega,?_⟩
  have hK':=hK 0 t (Nat.le_refl _)
  have hc3:=hcl2 p true t
  rw [← tE htb hne] at hK' hc3
  exact cj (H1:=H.set id (rst m l p true tb t)) hK' (Nat.le_refl _) ((AHeap.Le.refl _).push _) hc3
 |true =>
  rw [hs0,if_pos rfl] at ho
  have hp2:∀ o,fJ ((H.set id (rst m l (p+1) false tb t)).push o) id tb l (p+1) t:=fun o=>D8 (jO hpre' hp1 (by omega))
  rcases aT ho with ⟨q,h3,rfl⟩|⟨a,p1,t1,h3,h4⟩
  ·obtain ⟨hq1,hq2⟩:=aX _ h3 hgt trivial hp1
   rw [aE] at hK
   simp only [go_sem,hfree,f1,f2,hgi,hgt',hsi,hst,aG,aE,aK,aJ,aW,aH,aP,hne,ne_eq,hne',hl5,Int.toNat_natCast,aQ,aR,i1,Int.reduceLE,eq_self,not_false_eq_true,Bool.not_true,Bool.not_false,Bool.true_and,Bool.false_and,List.length_append,yaz,yba,Nat.zero_add,hg,hp,hcs,aO,hgd,cO,hgi1,hgt1,hss,ht5,if_true,if_false,fZ,d0,d1,d2,hs0,hp2,h3]
   refine ⟨by omega,fun a t' hb=>?_⟩
   simp only [ki,go_sem,hfree,f1,f2,hgi,hgt',hsi,hst,aG,aE,aK,aJ,aW,aH,aP,hne,ne_eq,hne',hl5,Int.toNat_natCast,aQ,aR,i1,Int.reduceLE,eq_self,not_false_eq_true,Bool.not_true,Bool.not_false,Bool.true_and,Bool.false_and,List.length_append,yaz,yba,Nat.zero_add,hq1,hp,rst,cO]
   have hcc:∀ X Y,aL ((H.set id (.cells X)).set tb Y) id=some X:=fun X Y=>by rw [cx hne,ex hid,if_pos rfl]
   simp only [ki,go_sem,hfree,f1,f2,hgi,hgt',hsi,hst,aG,aE,aK,aJ,aW,aH,aP,hne,ne_eq,hne',hl5,Int.toNat_natCast,aQ,aR,i1,Int.reduceLE,eq_self,not_false_eq_true,Bool.not_true,Bool.not_false,Bool.true_and,Bool.false_and,List.length_append,yaz,yba,Nat.zero_add,hq1,hp,hcc]
   have hK':=hK a t' (by omega)
   have hc3:=hcl2 q true t'
   exact cj hK' (Nat.le_refl _) ((AHeap.Le.refl _).push _) hc3
  ·obtain ⟨k1b,k2b,k3b,k4b,k5b,k6b⟩:=aX _ h3 hgt trivial hp1
   simp only [Rl.isL,Bool.false_eq_true,if_false] at k4b
   cases hs2:isS l p1 [41] with
   |true =>
    rw [hs2,if_pos rfl] at h4
    cases h4
    simp only [go_sem,hfree,f1,f2,hgi,hgt',hsi,hst,aG,aE,aK,aJ,aW,aH,aP,hne,ne_eq,hne',hl5,Int.toNat_natCast,aQ,aR,i1,Int.reduceLE,eq_self,not_false_eq_true,Bool.not_true,Bool.not_false,Bool.true_and,Bool.false_and,List.length_append,yaz,yba,Nat.zero_add,hg,hp,hcs,aO,hgd,cO,hgi1,hgt1,hss,ht5,if_true,if_false,fZ,d0,d1,d2,hs0,hp2,h3,k2b,hs2]
    refine ⟨by omega,?_⟩
    rw [aK] at hK
    exact cj hK (Nat.le_refl _) ((AHeap.Le.refl _).push _) (hcl2 _ _ _)
   |false =>
    rw [hs2,if_neg (by simp)] at h4
    cases h4
    rw [aE] at hK
    have hcc:∀ X Y,aL ((H.set id (.cells X)).set tb Y) id=some X:=fun X Y=>by rw [cx hne,ex hid,if_pos rfl]
    simp only [go_sem,hfree,f1,f2,hgi,hgt',hsi,hst,aG,aE,aK,aJ,aW,aH,aP,hne,ne_eq,hne',hl5,Int.toNat_natCast,aQ,aR,i1,Int.reduceLE,eq_self,not_false_eq_true,Bool.not_true,Bool.not_false,Bool.true_and,Bool.false_and,List.length_append,yaz,yba,Nat.zero_add,hg,hp,hcs,aO,hgd,cO,hgi1,hgt1,hss,ht5,if_true,if_false,fZ,d0,d1,d2,hs0,hp2,h3,k2b,hs2,Bool.false_eq_true]
    simp only [rst,go_sem,hfree,f1,f2,hgi,hgt',hsi,hst,aG,aE,aK,aJ,aW,aH,aP,hne,ne_eq,hne',hl5,Int.toNat_natCast,aQ,aR,i1,Int.reduceLE,eq_self,not_false_eq_true,Bool.not_true,Bool.not_false,Bool.true_and,Bool.false_and,List.length_append,yaz,yba,Nat.zero_add,hcc]
    refine ⟨by omega,?_⟩
    exact cj (hK a t1 (by omega)) (Nat.le_refl _) ((AHeap.Le.refl _).push _) (hcl2 _ _ _)
end Go.AL
