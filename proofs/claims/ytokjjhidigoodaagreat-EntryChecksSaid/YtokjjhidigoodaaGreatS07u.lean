/- Lemmas of the proof; no condition. -/
import Derived.Test.YtokjjhidigoodaaGreatS07v
import Derived.Test.YtokjjhidigoodaaGreatS07c
set_option linter.all false
set_option maxRecDepth 10000
set_option maxHeartbeats 32000000
open List renaming length_cons → yaz, length_nil → yba, take_of_length_le → ybc, drop_append → ybd, take_append → ybe, drop_eq_nil_of_le → ybf
open Go Go.AL Go.Proofs
namespace Go.AL
theorem JP:ti Tryz.prog 356=some ⟨.struct [(0,3,false),(1,3,false),(2,3,false),(3,9,false),(4,9,false),(5,48,false)],7,72,.agg [.int .i64 0,.int .i64 0,.int .i64 0,.str [],.str [],.int .u64 0,.int .u64 0]⟩:=by kernel_rfl
theorem Hy:ti Tryz.prog 207=some ⟨.slice 356,1,24,.slice .nil 1 []⟩:=by kernel_rfl
theorem D4:ti Tryz.prog 459=some ⟨.struct [(0,357,false),(1,3,false),(2,4,false),(3,207,false)],4,64,.agg [.slice .nil 1 [],.int .i64 0,.bool false,.slice .nil 1 []]⟩:=by kernel_rfl
attribute [go_sem] JP Hy D4
def rst (m:Mark) (l:List Tok) (p:Nat) (b:Bool) (tb:Nat) (t:List Nd):AObj:=.cells [.slice m 3 (dr l),.int .i64 (p:Int),.bool b,.slice (.own tb) 7 (nds t)]
def onQ (o:Option AObj) (K:Mark→List Tok→Nat→Bool→Nat→List Nd→Prop):Prop:=∃ m l p b tb t,o=some (rst m l p b tb t)∧K m l p b tb t
@[congr] theorem N8 {o o':Option AObj} {K:Mark→List Tok→Nat→Bool→Nat→List Nd→Prop} (h:o=o'):onQ o K=onQ o' K:=by rw [h]
theorem aL {m:Mark} {l:List Tok} {p tb:Nat} {b:Bool} {t:List Nd} {K:Mark→List Tok→Nat→Bool→Nat→List Nd→Prop}:onQ (some (rst m l p b tb t)) K=K m l p b tb t:=by
 refine propext ⟨fun ⟨m',l',p',b',tb',t',h,hk⟩=>?_,fun h=>⟨m,l,p,b,tb,t,rfl,h⟩⟩
 simp only [rst,Option.some.injEq,AObj.cells.injEq,List.cons.injEq,AV.slice.injEq,AV.int.injEq,AV.bool.injEq,Mark.own.injEq,true_and,and_true] at h
 obtain ⟨⟨rfl,h1⟩,h2,rfl,rfl,h3⟩:=h
 have:=vp h1
 have:=zo h3
 have:p=p':=by omega
 subst_vars
 exact hk
theorem df {m:Mark} {l:List Tok} {p tb:Nat} {b:Bool} {t:List Nd} {K:Mark→List Tok→Nat→Bool→Nat→List Nd→Prop}:onQ (some (.cells [.slice m 3 (dr l),.int .i64 (p:Int),.bool b,.slice (.own tb) 7 (nds t)])) K=K m l p b tb t:=aL
theorem iV {H:AHeap} {id:Nat} {m:Mark} {l:List Tok} {p tb:Nat} {b:Bool} {t:List Nd} (hg:H.get id=some (rst m l p b tb t)) (hcl:H.Closed) (p':Nat) (b':Bool) (t':List Nd):(H.set id (rst m l p' b' tb t')).Closed:=by
 have h0:=hcl id _ hg 0 (by simp)
 have h2:=hcl id _ hg 3 (by simp)
 simp only [List.getElem_cons_zero,List.getElem_cons_succ,rO,kE] at h0 h2
 refine ai hcl ?_
 simp only [znq,znr,rO,kE,znb,znc,and_true,true_and]
 exact ⟨h0,h2⟩
def aN:List AV→AHeap→(AEnd→AHeap→Prop)→Prop
 |[.ptr id 0,.agg [.int .i64 op,.int .i64 a,.int .i64 b,.str nm,.str att,.int .u64 hi,.int .u64 lo]],H,K=>onQ (H.get id) fun m l p bd tb t =>
   (0≤op∧0≤a∧0≤b∧lK hi lo∧id≠tb∧H.get tb=some (.buf 7 t.length)∧t.length≤100000) ∧
   K (.ret (.int .i64 (t.length:Int))) ((H.set id (rst m l p bd tb (t++[⟨op.toNat,a.toNat,b.toNat,nm,att,vOf hi.toNat lo.toNat⟩]))).set tb (.buf 7 (t.length+1)))
 |_,_,_=>False
theorem gu:EntOk Tryz.prog 471 (Ent.effect aN):=by
 refine EntOk.effect fun args H K h=>?_
 unfold aN at h
 split at h
 rotate_left
 ·exact h.elim
 rename_i id op a b nm att hi lo
 obtain ⟨m,l,p,bd,tb,t,hg,⟨h1,h2,h3,⟨h4,h5,h6,h7⟩,hne,htb,htl⟩,hK⟩:=h
 refine ⟨_,_,hK,?_⟩
 clear hK
 obtain ⟨op,rfl⟩:=bj h1
 obtain ⟨a,rfl⟩:=bj h2
 obtain ⟨b,rfl⟩:=bj h3
 obtain ⟨hi,rfl⟩:=bj h4
 obtain ⟨lo,rfl⟩:=bj h6
 simp only [iNq]
 refine ACalls.fW ax tNq Tryz.func471 [.tmp 4] (nrq _) (T:=av [(1,[[],[],[],[],[],[],[5],[4,5],[],[],[4,5]])]) (h:=fun hcl hlt=>?_)
 clear hlt
 have hid:=glq hg
 have htbl:=glq htb
 have hcs:=ay (cs:=[.slice m 3 (dr l),.int .i64 (p:Int),.bool bd,.slice (.own tb) 7 (nds t)]) hg
 have f1:=cD hid
 have f2:=cD htbl
 have g1:(id=tb)=False:=eq_false hne
 have g2:(tb=id)=False:=eq_false fun e=>hne e.symm
 have e1:nds t++[AV.agg [.int .i64 (op:Int),.int .i64 (a:Int),.int .i64 (b:Int),.str nm,.str att,.int .u64 (hi:Int),.int .u64 (lo:Int)]]=nds (t++[⟨op,a,b,nm,att,vOf hi lo⟩]):=by
  rw [← CB];unfold kL;simp only;rw [rn (by omega),AR (by omega)]
 have e2:IntKind.i64.wrap (((t.length+1:Nat):Int) - 1)=(t.length:Int):=by rw [wrap_i64]<;>omega
 have hcl1:=iV hg hcl p bd (t++[⟨op,a,b,nm,att,vOf hi lo⟩])
 have hcl2:((H.set id (rst m l p bd tb (t++[⟨op,a,b,nm,att,vOf hi lo⟩]))).set tb (.buf 7 (t.length+1))).Closed:=aa hcl1
 have s1:=mY (H:=H) hne
 have s2:=fun o=>(cL (H:=H) hne o).trans hcs
 have s3:∀ o cs,aR ((H.set id (.cells cs)).set tb o) id=some cs:=fun o cs=>by rw [cL hne,eX hid,if_pos rfl]
 simp only [go_sem,hcs,aJ,f1,f2,g1,g2,htb,aB,if_pos htbl,e1,s1,s2,s3,e2,lAq]
 refine ⟨⟨by omega,by omega,by simp [bM,AV.cells,AV.one]⟩,?_⟩
 simp only [rst] at hcl2 ⊢
 simp (disch:=first|exact Zd|omega) [↓zmk,beq,ybc,ybd,ybe,af,wk,wk2,wk1,wkM,wkL,aj,ybf,hcl2,htbl,kE]
def bq:List AV→AHeap→(AV→Prop)→Prop
 |[.ptr id 0,.str s],H,K=>onQ (H.get id) fun m l p b tb t=>(p≤l.length∧l.length≤100000)∧K (.bool (!b&&isS l p s))
 |_,_,_=>False
theorem zj:EntOk Tryz.prog 489 (Ent.pure bq):=by
 refine Ype fun _ H K h=>?_
 unfold bq at h
 split at h
 rotate_left
 ·exact h.elim
 rename_i id s
 obtain ⟨m,l,p,b,tb,t,hg,⟨hp,hl⟩,hK⟩:=h
 have hid:=glq hg
 have hcs:=ay (cs:=[.slice m 3 (dr l),.int .i64 (p:Int),.bool b,.slice (.own tb) 7 (nds t)]) hg
 refine ⟨_,hK,?_⟩
 clear hK
 refine Yfv ax tNq Tryz.func489 [.tmp 4] fun hcl hlt=>?_
 clear hlt
 cases b with
 |true =>
  simp only [go_sem,hcs]
  exact Z0
 |false =>
  by_cases hlt0:p<l.length
  ·rcases htk:l[p] with ⟨k,x,z⟩
   have hgd:=nt hlt0 htk
   have d1:decide ((p:Int)<(l.length:Int))=true:=by simp;omega
   rw [CC hlt0 htk]
   by_cases hk:k=3
   ·subst hk
    have d2:(((3:Nat):Int)==3)=true:=rfl
    simp only [go_sem,hcs,aT,hgd,d1,d2,iNq]
    exact Y112
   ·have d2:((k:Int)==3)=false:=by simp;omega
    have d3:(k==3)=false:=by simpa using hk
    simp only [go_sem,hcs,aT,hgd,d1,d2,iNq]
    refine ⟨by omega,?_⟩
    simp (disch:=first|exact Zd|omega) [↓zmk,beq,ybc,ybd,ybe,af,wk,wk2,wk1,wkM,wkL,aj,ybf,hcl,d3]
  ·have d1:decide ((p:Int)<(l.length:Int))=false:=by simp;omega
   rw [AH (by omega)]
   simp only [go_sem,hcs,aT,d1]
   exact Z0
def aO:List AV→AHeap→(AEnd→AHeap→Prop)→Prop
 |[.ptr id 0,.str s],H,K=>onQ (H.get id) fun m l p b tb t=>(p≤l.length∧l.length≤100000) ∧
   if (!b&&isS l p s)=true then K (.ret (.bool true)) (H.set id (rst m l (p+1) b tb t)) else K (.ret (.bool false)) H
 |_,_,_=>False
theorem gQ:EntOk Tryz.prog 470 (Ent.effect aO):=by
 refine EntOk.effect fun args H K h=>?_
 unfold aO at h
 split at h
 rotate_left
 ·exact h.elim
 rename_i id s
 obtain ⟨m,l,p,b,tb,t,hg,⟨hp,hl⟩,hK⟩:=h
 have hid:=glq hg
 have hcs:=ay (cs:=[.slice m 3 (dr l),.int .i64 (p:Int),.bool b,.slice (.own tb) 7 (nds t)]) hg
 have e1:IntKind.i64.wrap ((p:Int)+1)=((p+1:Nat):Int):=by rw [wrap_i64]<;>omega
 cases hs:(!b&&isS l p s) with
 |true =>
  rw [hs,if_pos rfl] at hK
  refine ⟨_,_,hK,?_⟩
  clear hK
  refine ACalls.fW ax (tCq zj tNq) Tryz.func470 [.tmp 4] (nrq _) (T:=av []) (h:=fun hcl hlt=>?_)
  clear hlt
  have hcl1:=iV hg hcl (p+1) b t
  simp only [go_sem,bq,hg,aL,hp,hl,hs,hcs,e1]
  change af (H.set id (rst m l (p+1) b tb t)) _ _ _
  exact Z27
 |false =>
  rw [hs,if_neg (by simp)] at hK
  refine ⟨_,_,hK,?_⟩
  clear hK
  refine ACalls.fW ax (tCq zj tNq) Tryz.func470 [.tmp 4] (nrq _) (T:=av []) (h:=fun hcl hlt=>?_)
  clear hlt
  simp only [go_sem,bq,hg,aL,hp,hl,hs,hcs,e1]
  exact Z0
def rp:List AV→AHeap→(AEnd→AHeap→Prop)→Prop
 |[.ptr id 0,.str x],H,K=>onQ (H.get id) fun m l p b tb t=>(b=false∧id≠tb∧H.get tb=some (.buf 7 t.length)∧t.length≤100000∧p≤l.length∧l.length≤100000) ∧
   if isS l p [58,58]=true then
    onW (kH l (p+1)) (fun y=>K (.ret (.int .i64 (t.length:Int))) ((H.set id (rst m l (p+1+1) false tb (t++[⟨3,0,0,x,y,0⟩]))).set tb (.buf 7 (t.length+1)))) (K (.ret (.int .i64 0)) (H.set id (rst m l (p+1) true tb t)))
   else K (.ret (.int .i64 (t.length:Int))) ((H.set id (rst m l p false tb (t++[⟨3,0,0,x,[],0⟩]))).set tb (.buf 7 (t.length+1)))
 |_,_,_=>False
theorem K8:EntOk Tryz.prog 513 (Ent.effect rp):=by
 refine EntOk.effect fun args H K h=>?_
 unfold rp at h
 split at h
 rotate_left
 ·exact h.elim
 rename_i id x
 obtain ⟨m,l,p,b,tb,t,hg,⟨rfl,hne,htb,ht,hp,hl⟩,hK⟩:=h
 have hid:=glq hg
 have htbl:=glq htb
 have hcs:=ay (cs:=[.slice m 3 (dr l),.int .i64 (p:Int),.bool false,.slice (.own tb) 7 (nds t)]) hg
 have f1:=cD hid
 have f2:=cD htbl
 have g1:(id=tb)=False:=eq_false hne
 have hgi:∀ o,(H.set id o).get id=some o:=fun o=>AHeap.get_set_same _ _ hid
 have hgt:∀ o,(H.set id o).get tb=some (.buf 7 t.length):=fun o=>by rw [AHeap.get_set_ne _ _ (fun e=>hne e.symm)];exact htb
 have hss:∀ X Y,(H.set id X).set id Y=H.set id Y:=fun X Y=>by simp only [AHeap.set];congr 1;funext k;by_cases hk:k=id<;>simp [hk]
 have hcc:∀ cs,aR (H.set id (.cells cs)) id=some cs:=fun cs=>by rw [eX hid,if_pos rfl]
 cases hs:isS l p [58,58] with
 |false =>
  rw [hs,if_neg (by simp)] at hK
  refine ⟨_,_,hK,?_⟩
  clear hK
  refine ACalls.fW ax (tCq gQ (tCq gu tNq)) Tryz.func513 [.tmp 4] (nrq _) (T:=av [(7,[[],[],[],[],[],[],[],[],[],[],[],[],[],[],[],[5,9,13]])]) (h:=fun hcl hlt=>?_)
  clear hlt
  have hcl1:=iV hg hcl p false (t++[⟨3,0,0,x,[],0⟩])
  have hcl2:((H.set id (rst m l p false tb (t++[⟨3,0,0,x,[],0⟩]))).set tb (.buf 7 (t.length+1))).Closed:=aa hcl1
  simp only [go_sem,aO,aN,hg,aL,hp,hl,hs,Bool.not_false,Bool.true_and,if_false,hne,ne_eq,g1,nFq,htb,ht,aY,aX,Int.reduceLE]
  exact Z25
 |true =>
  rw [hs,if_pos rfl] at hK
  have hlt0:=dt hs
  have e1:IntKind.i64.wrap (((p+1:Nat):Int)+1)=((p+1+1:Nat):Int):=by rw [wrap_i64]<;>omega
  have e2:IntKind.i64.wrap (((p+1+1:Nat):Int) - 1)=((p+1:Nat):Int):=by rw [wrap_i64]<;>omega
  unfold kH at hK
  by_cases hlt1:p+1<l.length
  ·rcases htk:l[p+1] with ⟨k,y,z⟩
   have hgd:=nt hlt1 htk
   rw [gQq hlt1,htk] at hK
   dsimp only at hK
   have d1:(((p+1:Nat):Int)==(l.length:Int))=false:=by simp;omega
   by_cases hk:k=2
   ·subst hk
    rw [if_pos rfl,ic] at hK
    refine ⟨_,_,hK,?_⟩
    clear hK
    refine ACalls.fW ax (tCq gQ (tCq gu tNq)) Tryz.func513 [.tmp 4] (nrq _) (T:=av [(7,[[],[],[],[],[],[],[],[],[],[],[],[],[],[],[],[5,9,13]])]) (h:=fun hcl hlt=>?_)
    clear hlt
    have d2:(((2:Nat):Int) != 2)=false:=rfl
    have hcl1:=iV hg hcl (p+1+1) false (t++[⟨3,0,0,x,y,0⟩])
    have hcl2:((H.set id (rst m l (p+1+1) false tb (t++[⟨3,0,0,x,y,0⟩]))).set tb (.buf 7 (t.length+1))).Closed:=aa hcl1
    simp only [go_sem,aO,aN,hg,aL,df,hp,hl,hs,Bool.not_false,Bool.true_and,if_true,hne,ne_eq,g1,nFq,hgi,hgt,hss,hcc,ht,aY,aX,Int.reduceLE,rst,aT,hgd,d1,d2,e1,e2,iNq]
    refine ⟨by omega,by omega,?_⟩
    change af ((H.set id (rst m l (p+1+1) false tb (t++[⟨3,0,0,x,y,0⟩]))).set tb (.buf 7 (t.length+1))) _ ((H.set id (rst m l (p+1+1) false tb (t++[⟨3,0,0,x,y,0⟩]))).set tb (.buf 7 (t.length+1))) _
    exact Z25
   ·have d2:((k:Int) != 2)=true:=by simp;omega
    rw [if_neg hk,fT] at hK
    refine ⟨_,_,hK,?_⟩
    clear hK
    refine ACalls.fW ax (tCq gQ (tCq gu tNq)) Tryz.func513 [.tmp 4] (nrq _) (T:=av [(7,[[],[],[],[],[],[],[],[],[],[],[],[],[],[],[],[5,9,13]])]) (h:=fun hcl hlt=>?_)
    clear hlt
    have hcl1:=iV hg hcl (p+1) true t
    simp only [go_sem,aO,aN,hg,aL,df,hp,hl,hs,Bool.not_false,Bool.true_and,if_true,hne,ne_eq,g1,nFq,hgi,hgt,hss,hcc,ht,rst,aT,hgd,d1,d2,iNq]
    refine ⟨by omega,?_⟩
    exact Y145
  ·have hpe:p+1=l.length:=by omega
   rw [gNq (by omega)] at hK
   dsimp only at hK
   rw [fT] at hK
   refine ⟨_,_,hK,?_⟩
   clear hK
   refine ACalls.fW ax (tCq gQ (tCq gu tNq)) Tryz.func513 [.tmp 4] (nrq _) (T:=av [(7,[[],[],[],[],[],[],[],[],[],[],[],[],[],[],[],[5,9,13]])]) (h:=fun hcl hlt=>?_)
   clear hlt
   have d1:(((p+1:Nat):Int)==(l.length:Int))=true:=by simp;omega
   have hcl1:=iV hg hcl (p+1) true t
   simp only [go_sem,aO,aN,hg,aL,df,hp,hl,hs,Bool.not_false,Bool.true_and,if_true,hne,ne_eq,g1,nFq,hgi,hgt,hss,hcc,ht,rst,aT,d1,iNq]
   exact Y145
def Jl (m:Mark) (l:List Tok) (tb id:Nat) (H:AHeap) (K:AV→AHeap→Prop) (p0:Nat) (t0:List Nd) (o:Option PR):Prop:=match o with
 |none=>False
 |some (.ok a p t)=>K (.int .i64 (a:Int)) ((H.set id (rst m l p false tb t)).set tb (.buf 7 t.length))
 |some (.bad p)=>∀ (a:Nat) (t:List Nd),t.length+p0≤t0.length+p→K (.int .i64 (a:Int)) ((H.set id (rst m l p true tb t)).set tb (.buf 7 t.length))
section
variable {m:Mark} {l:List Tok} {tb id p0:Nat} {H:AHeap} {K:AV→AHeap→Prop} {t0:List Nd}
@[congr] theorem NI {o o':Option PR} (h:o=o'):Jl m l tb id H K p0 t0 o=Jl m l tb id H K p0 t0 o':=by rw [h]
theorem aP {a p:Nat} {t:List Nd}:Jl m l tb id H K p0 t0 (some (.ok a p t))=K (.int .i64 (a:Int)) ((H.set id (rst m l p false tb t)).set tb (.buf 7 t.length)):=rfl
theorem aI {p:Nat}:Jl m l tb id H K p0 t0 (some (.bad p))=∀ (a:Nat) (t:List Nd),t.length+p0≤t0.length+p→K (.int .i64 (a:Int)) ((H.set id (rst m l p true tb t)).set tb (.buf 7 t.length)):=rfl
end
def Fg (A:Prop) (l:List Tok):Prop:=∀ p,qW l p=1→A
def aW (A:Prop) (rl:Rl) (f:Nat):List AV→AHeap→(AV→AHeap→Prop)→Prop
 |[.ptr id 0],H,K=>onQ (H.get id) fun m l p b tb t=>(b=false∧gM H id tb l p t∧Fg A l)∧Jl m l tb id H K p t (run l f rl p t)
 |_,_,_=>False
def gY (A:Prop) (f:Nat):=aW A .imp f
def qi (A:Prop) (f:Nat):=aW A .or f
def mw (A:Prop) (f:Nat):=aW A .and f
def iX (A:Prop) (f:Nat):=aW A .not f
def qT (A:Prop) (f:Nat):=aW A .cmp f
def mF (A:Prop) (f:Nat):=aW A .sum f
def kx (A:Prop) (f:Nat):=aW A .un f
def nB (A:Prop) (f:Nat):=aW A .atom f
theorem kZ {H:AHeap} {id tb p p':Nat} {o:AObj} {l:List Tok} {t t':List Nd} (h:gM H id tb l p t) (hp:p'≤l.length) (ht:t'.length≤p') (hg:Good t'):gM ((H.set id o).set tb (.buf 7 t'.length)) id tb l p' t':=by
 exact Y110
theorem ig {H:AHeap} {id tb p:Nat} {m:Mark} {l:List Tok} {b:Bool} {t:List Nd} (hg:H.get id=some (rst m l p b tb t)) (h:gM H id tb l p t) (hcl:H.Closed) :
 (∀ X Y,((H.set id X).set tb Y).get id=some X)∧(∀ X Y,((H.set id X).set tb Y).get tb=some Y)∧(∀ X Y Z,((H.set id X).set tb Y).set id Z=(H.set id Z).set tb Y) ∧
   (∀ p' b' t',((H.set id (rst m l p' b' tb t')).set tb (.buf 7 t'.length)).Closed)∧(∀ X Y Z,((H.set id X).set tb Y).set tb Z=(H.set id X).set tb Z):=by
 obtain ⟨h1,h2,h3,h4,h5,h6,h7⟩:=h
 have hid:=glq hg
 have htb:=glq h2
 refine ⟨fun X Y=>?_,fun X Y=>?_,fun X Y Z=>?_,fun p' b' t'=>aa (iV hg hcl p' b' t'),fun X Y Z=>?_⟩
 ·rw [AHeap.get_set_ne _ _ h1];exact AHeap.get_set_same _ _ hid
 ·exact AHeap.get_set_same _ _ (by simpa [zlb] using htb)
 ·exact Y157
 ·simp only [AHeap.set];congr 1;funext k;by_cases hk:k=tb<;>simp [hk]
theorem cA {n:Nat} {K:AV→AHeap→Prop} {H1 H':AHeap} {z:Int} (h:K (.int .i64 z) H1) (hn:n≤H1.nx) (hl:H1.Le H') (hc:H1.Closed):wQ n K (.int .i64 z) H' :=
 ⟨_,_,h,hn,by simp [zmk],hl,hc,by simp [znb]⟩
theorem wA {H:AHeap} {tb:Nat} {t:List Nd} (h:H.get tb=some (.buf 7 t.length)) {id:Nat} (hne:id≠tb) (X:AObj):H.set id X=(H.set id X).set tb (.buf 7 t.length):=by
 have h2:=glq h
 unfold AHeap.get at h
 rw [if_pos h2] at h
 simp only [AHeap.set]
 congr 1
 funext k
 by_cases hk:k=tb
 ·subst hk;simp [Ne.symm hne,h]
 ·simp [hk]
theorem LF {A:Prop} {f:Nat} (h_zOr:EntOk Tryz.prog 469 (Ent.some (qi A f))) (h_zImp:EntOk Tryz.prog 411 (Ent.some (gY A f))):EntOk Tryz.prog 411 (Ent.some (gY A (f+1))):=by
 refine EntOk.some fun args H K h=>?_
 unfold gY aW at h
 split at h
 rotate_left
 ·exact h.elim
 rename_i id
 obtain ⟨m,l,p,b,tb,t,hg,⟨rfl,hpre,hfree⟩,hK⟩:=h
 cases ho:run l (f+1) .imp p t with
 |none=>rw [ho] at hK;exact hK.elim
 |some r =>
 rw [ho] at hK
 rw [run] at ho
 simp only [eD] at ho
 have hpre':=hpre
 obtain ⟨hne,htb,ht,hp,hl,hgl,hgt⟩:=hpre
 have hid:=glq hg
 have htbl:=glq htb
 have f1:=cD hid
 have f2:=cD htbl
 have hl5:l.length≤100000:=by omega
 have i1:=@Int.natCast_nonneg
 have hne':(id=tb)=False:=eq_false hne
 have hnx:∀ X Y,H.nx≤((H.set id X).set tb Y).nx:=fun X Y=>nrq _
 refine ACallsP.of_aw (Ω:=[(469,Ent.some (qi A f)),(470,Ent.effect aO),(411,Ent.some (gY A f)),(471,Ent.effect aN)]) (T:=av []) ax (tCq h_zOr (tCq gQ (tCq h_zImp (tCq gu tNq)))) Tryz.func411 (by kernel_rfl) (by rfl) (rs:=[.tmp 2]) (by rfl) (by kernel_rfl) (by simp only [Tryz.ntmps411,yaz,yba];decide) fun hcl hlt=>?_
 change aw _ _ _ (KI Tryz.prog [(469,Ent.some (qi A f)),(470,Ent.effect aO),(411,Ent.some (gY A f)),(471,Ent.effect aN)] (lh Tryz.prog [.tmp 2] H.nx _) []) _ _
 clear hlt
 obtain ⟨hgi,hgt',hsi,hcl2,hst⟩:=ig hg hpre' hcl
 rcases bg ho with ⟨q,h1,rfl⟩|⟨a,p1,t1,h1,h2⟩
 ·have hq:=br _ h1 hgt trivial hp
  obtain ⟨hq1,hq2⟩:=hq
  simp only [go_sem,hfree,f1,f2,hgi,hgt',hsi,hst,aL,aI,aP,aO,bq,aN,aW,hne,ne_eq,hne',hl5,iNq,aY,aX,i1,Int.reduceLE,eq_self,nFq,Bool.not_true,Bool.not_false,Bool.true_and,Bool.false_and,lAq,yaz,yba,nzq,qi,hg,hpre',h1]
  intro a t' hb
  simp only [lA,go_sem,hfree,f1,f2,hgi,hgt',hsi,hst,aL,aI,aP,aO,bq,aN,aW,hne,ne_eq,hne',hl5,iNq,aY,aX,i1,Int.reduceLE,eq_self,nFq,Bool.not_true,Bool.not_false,Bool.true_and,Bool.false_and,lAq,yaz,yba,nzq,hq1]
  exact cA (hK a t' hb) (hnx _ _) (lRq _) (hcl2 _ _ _)
 clear ho
 obtain ⟨k1,k2,k3,k4,k5,k6⟩:=br _ h1 hgt trivial hp
 simp only [Rl.isL,Bool.false_eq_true,if_false] at k4
 have hp1:gM ((H.set id (rst m l p1 false tb t1)).set tb (.buf 7 t1.length)) id tb l p1 t1:=kZ hpre' k2 (by omega) k5
 cases hs:isS l p1 [45,62] with
 |false =>
  rw [hs,if_neg (by simp)] at h2
  cases h2
  simp only [go_sem,hfree,f1,f2,hgi,hgt',hsi,hst,aL,aI,aP,aO,bq,aN,aW,hne,ne_eq,hne',hl5,iNq,aY,aX,i1,Int.reduceLE,eq_self,nFq,Bool.not_true,Bool.not_false,Bool.true_and,Bool.false_and,lAq,yaz,yba,nzq,qi,hg,hpre',h1,k2,hs,if_false]
  exact Y74
 |true =>
  rw [hs,if_pos rfl] at h2
  have hlt1:=dt hs
  have hp2:gM ((H.set id (rst m l (p1+1) false tb t1)).set tb (.buf 7 t1.length)) id tb l (p1+1) t1:=kZ hpre' hlt1 (by omega) k5
  rcases bg h2 with ⟨q,h3,rfl⟩|⟨b,p2,t2,h3,h4⟩
  ·obtain ⟨hq1,hq2⟩:=br _ h3 k5 trivial hlt1
   simp only [go_sem,hfree,f1,f2,hgi,hgt',hsi,hst,aL,aI,aP,aO,bq,aN,aW,hne,ne_eq,hne',hl5,iNq,aY,aX,i1,Int.reduceLE,eq_self,nFq,Bool.not_true,Bool.not_false,Bool.true_and,Bool.false_and,lAq,yaz,yba,nzq,qi,gY,hg,hpre',h1,k2,hs,if_true,hp2,h3]
   intro b t' hb
   have ht2:t'.length≤100000:=by omega
   simp only [lA,go_sem,hfree,f1,f2,hgi,hgt',hsi,hst,aL,aI,aP,aO,bq,aN,aW,hne,ne_eq,hne',hl5,iNq,aY,aX,i1,Int.reduceLE,eq_self,nFq,Bool.not_true,Bool.not_false,Bool.true_and,Bool.false_and,lAq,yaz,yba,nzq,hq1,ht2]
   have hK':=hK t'.length (t'++[⟨16,a,b,[],[],0⟩]) (by simp;omega)
   have hc3:=hcl2 q true (t'++[⟨16,a,b,[],[],0⟩])
   exact Y67
  cases h4
  obtain ⟨k1b,k2b,k3b,k4b,k5b,k6b⟩:=br _ h3 k5 trivial hlt1
  simp only [Rl.isL,Bool.false_eq_true,if_false] at k4b
  have ht2:t2.length≤100000:=by omega
  simp only [go_sem,hfree,f1,f2,hgi,hgt',hsi,hst,aL,aI,aP,aO,bq,aN,aW,hne,ne_eq,hne',hl5,iNq,aY,aX,i1,Int.reduceLE,eq_self,nFq,Bool.not_true,Bool.not_false,Bool.true_and,Bool.false_and,lAq,yaz,yba,nzq,qi,gY,hg,hpre',h1,k2,hs,if_true,hp2,h3,ht2,nd2]
  have hc3:=hcl2 p2 false (t2++[⟨16,a,b,[],[],0⟩])
  exact Y63
theorem Ln {l:List Tok} {p:Nat} {s s':List UInt8} (h:isS l p s=true) (h':isS l p s'=true):s=s':=by
 unfold isS at h h'
 split at h
 ·rename_i k x z e
  rw [e] at h'
  simp only [Bool.and_eq_true,beq_iff_eq] at h h'
  rw [← h.2,h'.2]
 ·cases h
theorem E6 {m:Mark} {l:List Tok} {p tb:Nat} {b:Bool} {t:List Nd}:rst m l p b tb t=.cells [.slice m 3 (dr l),.int .i64 (p:Int),.bool b,.slice (.own tb) 7 (nds t)]:=rfl
theorem Ns {A:Prop} {f:Nat} (h_zAnd:EntOk Tryz.prog 488 (Ent.some (mw A f))):EntOk Tryz.prog 469 (Ent.some (qi A (f+1))):=by
 refine EntOk.some fun args H K h=>?_
 unfold qi aW at h
 split at h
 rotate_left
 ·exact h.elim
 rename_i id
 obtain ⟨m,l,p,b,tb,t,hg,⟨rfl,hpre,hfree⟩,hK⟩:=h
 cases ho:run l (f+1) .or p t with
 |none=>rw [ho] at hK;exact hK.elim
 |some r =>
 rw [ho] at hK
 rw [run] at ho
 simp only [eD] at ho
 have hpre':=hpre
 obtain ⟨hne,htb,ht,hp,hl,hgl,hgt⟩:=hpre
 have hid:=glq hg
 have htbl:=glq htb
 have f1:=cD hid
 have f2:=cD htbl
 have hl5:l.length≤100000:=by omega
 have i1:=@Int.natCast_nonneg
 have hne':(id=tb)=False:=eq_false hne
 have hnx:∀ X Y,H.nx≤((H.set id X).set tb Y).nx:=fun X Y=>nrq _
 refine ACallsP.of_aw (Ω:=[(488,Ent.some (mw A f)),(470,Ent.effect aO),(471,Ent.effect aN)]) (T:=av []) ax (tCq h_zAnd (tCq gQ (tCq gu tNq))) Tryz.func469 (by kernel_rfl) (by rfl) (rs:=[.tmp 2]) (by rfl) (by kernel_rfl) (by simp only [Tryz.ntmps469,yaz,yba];decide) fun hcl hlt=>?_
 change aw _ _ _ (KI Tryz.prog [(488,Ent.some (mw A f)),(470,Ent.effect aO),(471,Ent.effect aN)] (lh Tryz.prog [.tmp 2] H.nx _) []) _ _
 clear hlt
 obtain ⟨hgi,hgt',hsi,hcl2,hst⟩:=ig hg hpre' hcl
 rcases bg ho with ⟨q,h1,hrq⟩|⟨a,p1,t1,h1,h2⟩
 case' inl =>
  obtain ⟨hq1,hq2⟩:=br _ h1 hgt trivial hp
  simp only [go_sem,hfree,f1,f2,hgi,hgt',hsi,hst,aL,aI,aP,aO,bq,aN,aW,hne,ne_eq,hne',hl5,iNq,aY,aX,i1,Int.reduceLE,eq_self,nFq,Bool.not_true,Bool.not_false,Bool.true_and,Bool.false_and,lAq,yaz,yba,nzq,mw,hg,hpre',h1]
  intro a t' hb
  try simp only [lA,go_sem,hfree,f1,f2,hgi,hgt',hsi,hst,aL,aI,aP,aO,bq,aN,aW,hne,ne_eq,hne',hl5,iNq,aY,aX,i1,Int.reduceLE,eq_self,nFq,Bool.not_true,Bool.not_false,Bool.true_and,Bool.false_and,lAq,yaz,yba,nzq,hq1]
  refine az (A:=Nat × Nat × Nat × List Nd × Bool) (fun x=>[(0,.ptr id 0),(3,.int .i64 (x.2.1:Int))]) (fun x=>(H.set id (rst m l x.2.2.1 x.2.2.2.2 tb x.2.2.2.1)).set tb (.buf 7 x.2.2.2.1.length)) (fun x=>(x.2.2.2.2=false∧x.1≤f∧run l x.1 (.orL x.2.1) x.2.2.1 x.2.2.2.1=some r∧x.2.2.1≤l.length∧x.2.2.2.1.length≤x.2.2.1∧Good x.2.2.2.1∧x.2.1<x.2.2.2.1.length∧x.2.2.2.1.length+p≤t.length+x.2.2.1)∨(x.2.2.2.2=true∧r=.bad x.2.2.1∧x.2.2.1≤l.length∧x.2.2.2.1.length+p≤t.length+x.2.2.1)) (fun x=>if x.2.2.2.2 then 0 else x.1+1) (0,a,q,t',true) (.inr ⟨rfl,hrq,hq1,hb⟩) ?_ ?_
  ·exact Z33
 case' inr =>
  clear ho
  obtain ⟨k1,k2,k3,k4,k5,k6⟩:=br _ h1 hgt trivial hp
  simp only [Rl.isL,Bool.false_eq_true,if_false] at k4
  simp only [go_sem,hfree,f1,f2,hgi,hgt',hsi,hst,aL,aI,aP,aO,bq,aN,aW,hne,ne_eq,hne',hl5,iNq,aY,aX,i1,Int.reduceLE,eq_self,nFq,Bool.not_true,Bool.not_false,Bool.true_and,Bool.false_and,lAq,yaz,yba,nzq,mw,hg,hpre',h1]
  refine az (A:=Nat × Nat × Nat × List Nd × Bool) (fun x=>[(0,.ptr id 0),(3,.int .i64 (x.2.1:Int))]) (fun x=>(H.set id (rst m l x.2.2.1 x.2.2.2.2 tb x.2.2.2.1)).set tb (.buf 7 x.2.2.2.1.length)) (fun x=>(x.2.2.2.2=false∧x.1≤f∧run l x.1 (.orL x.2.1) x.2.2.1 x.2.2.2.1=some r∧x.2.2.1≤l.length∧x.2.2.2.1.length≤x.2.2.1∧Good x.2.2.2.1∧x.2.1<x.2.2.2.1.length∧x.2.2.2.1.length+p≤t.length+x.2.2.1)∨(x.2.2.2.2=true∧r=.bad x.2.2.1∧x.2.2.1≤l.length∧x.2.2.2.1.length+p≤t.length+x.2.2.1)) (fun x=>if x.2.2.2.2 then 0 else x.1+1) (f,a,p1,t1,false) (.inl ⟨rfl,nrq _,h2,k2,(by show t1.length≤p1;omega),k5,k1,k3⟩) ?_ ?_
  ·exact Z33
 all_goals
  clear h1
  intro x hx
  obtain ⟨g,a',p',t',bd⟩:=x
  rcases hx with ⟨hbd,x1,x2,x3,x4,x5,x6,x7⟩|⟨hbd,x1,x3,x7⟩
  ·dsimp only at hbd x1 x2 x3 x4 x5 x6 x7 ⊢
   subst hbd
   have ht':t'.length≤100000:=by omega
   cases g with
   |zero=>cases x2
   |succ g =>
   rw [run] at x2
   simp only [eD] at x2
   cases hs:isS l p' [124,124] with
   |false =>
    exact Y51
   |true =>
    rw [hs,if_pos rfl] at x2
    have hlt1:=dt hs
    have hp2:gM ((H.set id (rst m l (p'+1) false tb t')).set tb (.buf 7 t'.length)) id tb l (p'+1) t':=kZ hpre' hlt1 (by omega) x5
    rcases bg x2 with ⟨q2,h3,hr2⟩|⟨b,p2,t2,h3,h4⟩
    ·have h3':=dm (show g≤f by omega) h3
     obtain ⟨hq3,hq4⟩:=br _ h3 x5 trivial hlt1
     simp only [go_sem,hfree,f1,f2,hgi,hgt',hsi,hst,aL,aI,aP,aO,bq,aN,aW,hne,ne_eq,hne',hl5,iNq,aY,aX,i1,Int.reduceLE,eq_self,nFq,Bool.not_true,Bool.not_false,Bool.true_and,Bool.false_and,lAq,yaz,yba,nzq,mw,x3,hs,if_true,hp2,h3']
     intro b t2 hb2
     have ht2:t2.length≤100000:=by omega
     simp only [lA,go_sem,hfree,f1,f2,hgi,hgt',hsi,hst,aL,aI,aP,aO,bq,aN,aW,hne,ne_eq,hne',hl5,iNq,aY,aX,i1,Int.reduceLE,eq_self,nFq,Bool.not_true,Bool.not_false,Bool.true_and,Bool.false_and,lAq,yaz,yba,nzq,ht2]
     have hc3:=hcl2 q2 true (t2++[⟨15,a',b,[],[],0⟩])
     refine ⟨(0,t2.length,q2,t2++[⟨15,a',b,[],[],0⟩],true),.inr ⟨rfl,hr2,hq3,by simp;omega⟩,by simp,?_⟩
     exact Y61
    ·have h3':=dm (show g≤f by omega) h3
     obtain ⟨k1b,k2b,k3b,k4b,k5b,k6b⟩:=br _ h3 x5 trivial hlt1
     simp only [Rl.isL,Bool.false_eq_true,if_false] at k4b
     have ht2:t2.length≤100000:=by omega
     simp only [go_sem,hfree,f1,f2,hgi,hgt',hsi,hst,aL,aI,aP,aO,bq,aN,aW,hne,ne_eq,hne',hl5,iNq,aY,aX,i1,Int.reduceLE,eq_self,nFq,Bool.not_true,Bool.not_false,Bool.true_and,Bool.false_and,lAq,yaz,yba,nzq,mw,x3,hs,if_true,hp2,h3',ht2]
     have hc3:=hcl2 p2 false (t2++[⟨15,a',b,[],[],0⟩])
     refine ⟨(g,t2.length,p2,t2++[⟨15,a',b,[],[],0⟩],false),.inl ⟨rfl,by dsimp only;omega,h4,k2b,by simp;omega,k5b.snoc ⟨(show 1≤15 by decide),(show 15≤16 by decide)⟩ (show (0:Nat)<2^128 by decide) (.inr ⟨by simp only;omega,by simp only;omega⟩),by simp,by simp;omega⟩,by simp,?_⟩
     exact Y61
  ·exact Y24
theorem LX {A:Prop} {f:Nat} (h_zNot:EntOk Tryz.prog 496 (Ent.some (iX A f))):EntOk Tryz.prog 488 (Ent.some (mw A (f+1))):=by
 refine EntOk.some fun args H K h=>?_
 unfold mw aW at h
 split at h
 rotate_left
 ·exact h.elim
 rename_i id
 obtain ⟨m,l,p,b,tb,t,hg,⟨rfl,hpre,hfree⟩,hK⟩:=h
 cases ho:run l (f+1) .and p t with
 |none=>rw [ho] at hK;exact hK.elim
 |some r =>
 rw [ho] at hK
 rw [run] at ho
 simp only [eD] at ho
 have hpre':=hpre
 obtain ⟨hne,htb,ht,hp,hl,hgl,hgt⟩:=hpre
 have hid:=glq hg
 have htbl:=glq htb
 have f1:=cD hid
 have f2:=cD htbl
 have hl5:l.length≤100000:=by omega
 have i1:=@Int.natCast_nonneg
 have hne':(id=tb)=False:=eq_false hne
 have hnx:∀ X Y,H.nx≤((H.set id X).set tb Y).nx:=fun X Y=>nrq _
 refine ACallsP.of_aw (Ω:=[(496,Ent.some (iX A f)),(470,Ent.effect aO),(471,Ent.effect aN)]) (T:=av []) ax (tCq h_zNot (tCq gQ (tCq gu tNq))) Tryz.func488 (by kernel_rfl) (by rfl) (rs:=[.tmp 2]) (by rfl) (by kernel_rfl) (by simp only [Tryz.ntmps488,yaz,yba];decide) fun hcl hlt=>?_
 change aw _ _ _ (KI Tryz.prog [(496,Ent.some (iX A f)),(470,Ent.effect aO),(471,Ent.effect aN)] (lh Tryz.prog [.tmp 2] H.nx _) []) _ _
 clear hlt
 obtain ⟨hgi,hgt',hsi,hcl2,hst⟩:=ig hg hpre' hcl
 rcases bg ho with ⟨q,h1,hrq⟩|⟨a,p1,t1,h1,h2⟩
 case' inl =>
  obtain ⟨hq1,hq2⟩:=br _ h1 hgt trivial hp
  simp only [go_sem,hfree,f1,f2,hgi,hgt',hsi,hst,aL,aI,aP,aO,bq,aN,aW,hne,ne_eq,hne',hl5,iNq,aY,aX,i1,Int.reduceLE,eq_self,nFq,Bool.not_true,Bool.not_false,Bool.true_and,Bool.false_and,lAq,yaz,yba,nzq,iX,hg,hpre',h1]
  intro a t' hb
  try simp only [lA,go_sem,hfree,f1,f2,hgi,hgt',hsi,hst,aL,aI,aP,aO,bq,aN,aW,hne,ne_eq,hne',hl5,iNq,aY,aX,i1,Int.reduceLE,eq_self,nFq,Bool.not_true,Bool.not_false,Bool.true_and,Bool.false_and,lAq,yaz,yba,nzq,hq1]
  refine az (A:=Nat × Nat × Nat × List Nd × Bool) (fun x=>[(0,.ptr id 0),(3,.int .i64 (x.2.1:Int))]) (fun x=>(H.set id (rst m l x.2.2.1 x.2.2.2.2 tb x.2.2.2.1)).set tb (.buf 7 x.2.2.2.1.length)) (fun x=>(x.2.2.2.2=false∧x.1≤f∧run l x.1 (.andL x.2.1) x.2.2.1 x.2.2.2.1=some r∧x.2.2.1≤l.length∧x.2.2.2.1.length≤x.2.2.1∧Good x.2.2.2.1∧x.2.1<x.2.2.2.1.length∧x.2.2.2.1.length+p≤t.length+x.2.2.1)∨(x.2.2.2.2=true∧r=.bad x.2.2.1∧x.2.2.1≤l.length∧x.2.2.2.1.length+p≤t.length+x.2.2.1)) (fun x=>if x.2.2.2.2 then 0 else x.1+1) (0,a,q,t',true) (.inr ⟨rfl,hrq,hq1,hb⟩) ?_ ?_
  ·exact Z33
 case' inr =>
  clear ho
  obtain ⟨k1,k2,k3,k4,k5,k6⟩:=br _ h1 hgt trivial hp
  simp only [Rl.isL,Bool.false_eq_true,if_false] at k4
  simp only [go_sem,hfree,f1,f2,hgi,hgt',hsi,hst,aL,aI,aP,aO,bq,aN,aW,hne,ne_eq,hne',hl5,iNq,aY,aX,i1,Int.reduceLE,eq_self,nFq,Bool.not_true,Bool.not_false,Bool.true_and,Bool.false_and,lAq,yaz,yba,nzq,iX,hg,hpre',h1]
  refine az (A:=Nat × Nat × Nat × List Nd × Bool) (fun x=>[(0,.ptr id 0),(3,.int .i64 (x.2.1:Int))]) (fun x=>(H.set id (rst m l x.2.2.1 x.2.2.2.2 tb x.2.2.2.1)).set tb (.buf 7 x.2.2.2.1.length)) (fun x=>(x.2.2.2.2=false∧x.1≤f∧run l x.1 (.andL x.2.1) x.2.2.1 x.2.2.2.1=some r∧x.2.2.1≤l.length∧x.2.2.2.1.length≤x.2.2.1∧Good x.2.2.2.1∧x.2.1<x.2.2.2.1.length∧x.2.2.2.1.length+p≤t.length+x.2.2.1)∨(x.2.2.2.2=true∧r=.bad x.2.2.1∧x.2.2.1≤l.length∧x.2.2.2.1.length+p≤t.length+x.2.2.1)) (fun x=>if x.2.2.2.2 then 0 else x.1+1) (f,a,p1,t1,false) (.inl ⟨rfl,nrq _,h2,k2,(by show t1.length≤p1;omega),k5,k1,k3⟩) ?_ ?_
  ·exact Z33
 all_goals
  clear h1
  intro x hx
  obtain ⟨g,a',p',t',bd⟩:=x
  rcases hx with ⟨hbd,x1,x2,x3,x4,x5,x6,x7⟩|⟨hbd,x1,x3,x7⟩
  ·dsimp only at hbd x1 x2 x3 x4 x5 x6 x7 ⊢
   subst hbd
   have ht':t'.length≤100000:=by omega
   cases g with
   |zero=>cases x2
   |succ g =>
   rw [run] at x2
   simp only [eD] at x2
   cases hs:isS l p' [38,38] with
   |false =>
    exact Y51
   |true =>
    rw [hs,if_pos rfl] at x2
    have hlt1:=dt hs
    have hp2:gM ((H.set id (rst m l (p'+1) false tb t')).set tb (.buf 7 t'.length)) id tb l (p'+1) t':=kZ hpre' hlt1 (by omega) x5
    rcases bg x2 with ⟨q2,h3,hr2⟩|⟨b,p2,t2,h3,h4⟩
    ·have h3':=dm (show g≤f by omega) h3
     obtain ⟨hq3,hq4⟩:=br _ h3 x5 trivial hlt1
     simp only [go_sem,hfree,f1,f2,hgi,hgt',hsi,hst,aL,aI,aP,aO,bq,aN,aW,hne,ne_eq,hne',hl5,iNq,aY,aX,i1,Int.reduceLE,eq_self,nFq,Bool.not_true,Bool.not_false,Bool.true_and,Bool.false_and,lAq,yaz,yba,nzq,iX,x3,hs,if_true,hp2,h3']
     intro b t2 hb2
     have ht2:t2.length≤100000:=by omega
     simp only [lA,go_sem,hfree,f1,f2,hgi,hgt',hsi,hst,aL,aI,aP,aO,bq,aN,aW,hne,ne_eq,hne',hl5,iNq,aY,aX,i1,Int.reduceLE,eq_self,nFq,Bool.not_true,Bool.not_false,Bool.true_and,Bool.false_and,lAq,yaz,yba,nzq,ht2]
     have hc3:=hcl2 q2 true (t2++[⟨14,a',b,[],[],0⟩])
     refine ⟨(0,t2.length,q2,t2++[⟨14,a',b,[],[],0⟩],true),.inr ⟨rfl,hr2,hq3,by simp;omega⟩,by simp,?_⟩
     exact Y61
    ·have h3':=dm (show g≤f by omega) h3
     obtain ⟨k1b,k2b,k3b,k4b,k5b,k6b⟩:=br _ h3 x5 trivial hlt1
     simp only [Rl.isL,Bool.false_eq_true,if_false] at k4b
     have ht2:t2.length≤100000:=by omega
     simp only [go_sem,hfree,f1,f2,hgi,hgt',hsi,hst,aL,aI,aP,aO,bq,aN,aW,hne,ne_eq,hne',hl5,iNq,aY,aX,i1,Int.reduceLE,eq_self,nFq,Bool.not_true,Bool.not_false,Bool.true_and,Bool.false_and,lAq,yaz,yba,nzq,iX,x3,hs,if_true,hp2,h3',ht2]
     have hc3:=hcl2 p2 false (t2++[⟨14,a',b,[],[],0⟩])
     refine ⟨(g,t2.length,p2,t2++[⟨14,a',b,[],[],0⟩],false),.inl ⟨rfl,by dsimp only;omega,h4,k2b,by simp;omega,k5b.snoc ⟨(show 1≤14 by decide),(show 14≤16 by decide)⟩ (show (0:Nat)<2^128 by decide) (.inr ⟨by simp only;omega,by simp only;omega⟩),by simp,by simp;omega⟩,by simp,?_⟩
     exact Y61
  ·exact Y24
theorem MP {A:Prop} {f:Nat} (h_zUn:EntOk Tryz.prog 506 (Ent.some (kx A f))):EntOk Tryz.prog 503 (Ent.some (mF A (f+1))):=by
 refine EntOk.some fun args H K h=>?_
 unfold mF aW at h
 split at h
 rotate_left
 ·exact h.elim
 rename_i id
 obtain ⟨m,l,p,b,tb,t,hg,⟨rfl,hpre,hfree⟩,hK⟩:=h
 cases ho:run l (f+1) .sum p t with
 |none=>rw [ho] at hK;exact hK.elim
 |some r =>
 rw [ho] at hK
 rw [run] at ho
 simp only [eD] at ho
 have hpre':=hpre
 obtain ⟨hne,htb,ht,hp,hl,hgl,hgt⟩:=hpre
 have hid:=glq hg
 have htbl:=glq htb
 have f1:=cD hid
 have f2:=cD htbl
 have hl5:l.length≤100000:=by omega
 have i1:=@Int.natCast_nonneg
 have hne':(id=tb)=False:=eq_false hne
 have hnx:∀ X Y,H.nx≤((H.set id X).set tb Y).nx:=fun X Y=>nrq _
 refine ACallsP.of_aw (Ω:=[(506,Ent.some (kx A f)),(489,Ent.pure bq),(471,Ent.effect aN)]) (T:=av []) ax (tCq h_zUn (tCq zj (tCq gu tNq))) Tryz.func503 (by kernel_rfl) (by rfl) (rs:=[.tmp 2]) (by rfl) (by kernel_rfl) (by simp only [Tryz.ntmps503,yaz,yba];decide) fun hcl hlt=>?_
 change aw _ _ _ (KI Tryz.prog [(506,Ent.some (kx A f)),(489,Ent.pure bq),(471,Ent.effect aN)] (lh Tryz.prog [.tmp 2] H.nx _) []) _ _
 clear hlt
 obtain ⟨hgi,hgt',hsi,hcl2,hst⟩:=ig hg hpre' hcl
 rcases bg ho with ⟨q,h1,hrq⟩|⟨a,p1,t1,h1,h2⟩
 case' inl =>
  obtain ⟨hq1,hq2⟩:=br _ h1 hgt trivial hp
  simp only [go_sem,hfree,f1,f2,hgi,hgt',hsi,hst,aL,aI,aP,aO,bq,aN,aW,hne,ne_eq,hne',hl5,iNq,aY,aX,i1,Int.reduceLE,eq_self,nFq,Bool.not_true,Bool.not_false,Bool.true_and,Bool.false_and,lAq,yaz,yba,nzq,kx,hg,hpre',h1]
  intro a t' hb
  try simp only [lA,go_sem,hfree,f1,f2,hgi,hgt',hsi,hst,aL,aI,aP,aO,bq,aN,aW,hne,ne_eq,hne',hl5,iNq,aY,aX,i1,Int.reduceLE,eq_self,nFq,Bool.not_true,Bool.not_false,Bool.true_and,Bool.false_and,lAq,yaz,yba,nzq,hq1]
  refine az (A:=Nat × Nat × Nat × List Nd × Bool) (fun x=>[(0,.ptr id 0),(3,.int .i64 (x.2.1:Int))]) (fun x=>(H.set id (rst m l x.2.2.1 x.2.2.2.2 tb x.2.2.2.1)).set tb (.buf 7 x.2.2.2.1.length)) (fun x=>(x.2.2.2.2=false∧x.1≤f∧run l x.1 (.sumL x.2.1) x.2.2.1 x.2.2.2.1=some r∧x.2.2.1≤l.length∧x.2.2.2.1.length≤x.2.2.1∧Good x.2.2.2.1∧x.2.1<x.2.2.2.1.length∧x.2.2.2.1.length+p≤t.length+x.2.2.1)∨(x.2.2.2.2=true∧r=.bad x.2.2.1∧x.2.2.1≤l.length∧x.2.2.2.1.length+p≤t.length+x.2.2.1)) (fun x=>if x.2.2.2.2 then 0 else x.1+1) (0,a,q,t',true) (.inr ⟨rfl,hrq,hq1,hb⟩) ?_ ?_
  ·exact Z33
 case' inr =>
  clear ho
  obtain ⟨k1,k2,k3,k4,k5,k6⟩:=br _ h1 hgt trivial hp
  simp only [Rl.isL,Bool.false_eq_true,if_false] at k4
  simp only [go_sem,hfree,f1,f2,hgi,hgt',hsi,hst,aL,aI,aP,aO,bq,aN,aW,hne,ne_eq,hne',hl5,iNq,aY,aX,i1,Int.reduceLE,eq_self,nFq,Bool.not_true,Bool.not_false,Bool.true_and,Bool.false_and,lAq,yaz,yba,nzq,kx,hg,hpre',h1]
  refine az (A:=Nat × Nat × Nat × List Nd × Bool) (fun x=>[(0,.ptr id 0),(3,.int .i64 (x.2.1:Int))]) (fun x=>(H.set id (rst m l x.2.2.1 x.2.2.2.2 tb x.2.2.2.1)).set tb (.buf 7 x.2.2.2.1.length)) (fun x=>(x.2.2.2.2=false∧x.1≤f∧run l x.1 (.sumL x.2.1) x.2.2.1 x.2.2.2.1=some r∧x.2.2.1≤l.length∧x.2.2.2.1.length≤x.2.2.1∧Good x.2.2.2.1∧x.2.1<x.2.2.2.1.length∧x.2.2.2.1.length+p≤t.length+x.2.2.1)∨(x.2.2.2.2=true∧r=.bad x.2.2.1∧x.2.2.1≤l.length∧x.2.2.2.1.length+p≤t.length+x.2.2.1)) (fun x=>if x.2.2.2.2 then 0 else x.1+1) (f,a,p1,t1,false) (.inl ⟨rfl,nrq _,h2,k2,(by show t1.length≤p1;omega),k5,k1,k3⟩) ?_ ?_
  ·exact Z33
 all_goals
  clear h1
  intro x hx
  obtain ⟨g,a',p',t',bd⟩:=x
  rcases hx with ⟨hbd,x1,x2,x3,x4,x5,x6,x7⟩|⟨hbd,x1,x3,x7⟩
  ·dsimp only at hbd x1 x2 x3 x4 x5 x6 x7 ⊢
   subst hbd
   have ht':t'.length≤100000:=by omega
   cases g with
   |zero=>cases x2
   |succ g =>
   rw [run] at x2
   simp only [eD] at x2
   have e1:IntKind.i64.wrap ((p':Int)+1)=((p'+1:Nat):Int):=by rw [wrap_i64]<;>omega
   have hcc:∀ X Y,aR ((H.set id (.cells X)).set tb Y) id=some X:=fun X Y=>by rw [cL hne,eX hid,if_pos rfl]
   cases hs:ir l p' opsS with
   |none =>
    rw [hs] at x2
    dsimp only at x2
    rw [← x2,aP] at hK
    have hs1:isS l p' [43]=false:=by
     cases h:isS l p' [43] with
     |false=>rfl
     |true=>simp [ir,opsS,h] at hs
    have hs2:isS l p' [45]=false:=by
     cases h:isS l p' [45] with
     |false=>rfl
     |true=>simp [ir,opsS,hs1,h] at hs
    simp only [go_sem,hfree,f1,f2,hgi,hgt',hsi,hst,aL,aI,aP,aO,bq,aN,aW,hne,ne_eq,hne',hl5,iNq,aY,aX,i1,Int.reduceLE,eq_self,nFq,Bool.not_true,Bool.not_false,Bool.true_and,Bool.false_and,lAq,yaz,yba,nzq,x3,hs1,hs2,Bool.and_false]
    exact Y74
   |some op =>
    rw [hs] at x2
    dsimp only at x2
    obtain ⟨hlt1,so,hso⟩:=iO hs
    obtain ⟨o1,o2⟩:=sD hso
    have hp2:gM ((H.set id (rst m l (p'+1) false tb t')).set tb (.buf 7 t'.length)) id tb l (p'+1) t':=kZ hpre' hlt1 (by omega) x5
    have hcases:(isS l p' [43]=true∧isS l p' [45]=false∧op=6)∨(isS l p' [43]=false∧isS l p' [45]=true∧op=7):=by
     cases h1:isS l p' [43] with
     |true =>
      left
      simp only [ir,opsS,h1,if_true] at hs
      cases hs
      refine ⟨rfl,?_,rfl⟩
      cases h2:isS l p' [45] with
      |false=>rfl
      |true=>exact absurd (Ln h1 h2) (by decide)
     |false =>
      right
      cases h2:isS l p' [45] with
      |false=>simp [ir,opsS,h1,h2] at hs
      |true=>simp [ir,opsS,h1,h2] at hs;exact ⟨rfl,rfl,hs.symm⟩
    rcases hcases with ⟨hs1,hs2,hop⟩|⟨hs1,hs2,hop⟩
    all_goals
     subst hop
     rcases bg x2 with ⟨q2,h3,hr2⟩|⟨b,p2,t2,h3,h4⟩
     ·have h3':=dm (show g≤f by omega) h3
      obtain ⟨hq3,hq4⟩:=br _ h3 x5 trivial hlt1
      simp only [go_sem,hfree,f1,f2,hgi,hgt',hsi,hst,aL,aI,aP,aO,bq,aN,aW,hne,ne_eq,hne',hl5,iNq,aY,aX,i1,Int.reduceLE,eq_self,nFq,Bool.not_true,Bool.not_false,Bool.true_and,Bool.false_and,lAq,yaz,yba,nzq,kx,x3,hs1,hs2,Bool.and_true,Bool.and_false,df,rst,hcc,e1]
      simp only [← E6,go_sem,hfree,f1,f2,hgi,hgt',hsi,hst,aL,aI,aP,aO,bq,aN,aW,hne,ne_eq,hne',hl5,iNq,aY,aX,i1,Int.reduceLE,eq_self,nFq,Bool.not_true,Bool.not_false,Bool.true_and,Bool.false_and,lAq,yaz,yba,nzq,kx,hp2,h3']
      intro b t2 hb2
      have ht2:t2.length≤100000:=by omega
      simp only [lA,go_sem,hfree,f1,f2,hgi,hgt',hsi,hst,aL,aI,aP,aO,bq,aN,aW,hne,ne_eq,hne',hl5,iNq,aY,aX,i1,Int.reduceLE,eq_self,nFq,Bool.not_true,Bool.not_false,Bool.true_and,Bool.false_and,lAq,yaz,yba,nzq,ht2]
      first
      |(have hc3:=hcl2 q2 true (t2++[⟨6,a',b,[],[],0⟩])
        refine ⟨(0,t2.length,q2,t2++[⟨6,a',b,[],[],0⟩],true),.inr ⟨rfl,hr2,hq3,by simp;omega⟩,by simp,?_⟩
        simp only [lAq,yaz,yba,nzq] at hc3 ⊢
        (simp only [bkq,enterW,aK,ltF,ne_eq,Nat.reduceEqDiff,reduceCtorEq,hc3,hid];try simp (disch:=first|exact Zd|omega) [↓zmk,beq,ybc,ybd,ybe,af,wk,wk2,wk1,wkM,wkL,aj,ybf,byq,biq,ah,hcl,hc3,hid];try (repeat' (first|assumption|omega|exact True.intro|refine And.intro ?_ ?_|refine ag ?_|refine aa ?_|refine ae ?_ ?_|refine ai ?_ ?_|refine aq ?_|exact lRq _|refine lPq ?_ _|refine AHeap.Le.del ?_ ?_|(simp only [bt,and_true,true_and,hc3,hid];first|done|omega|(simp;done)))))
        done)
      |(have hc3:=hcl2 q2 true (t2++[⟨7,a',b,[],[],0⟩])
        refine ⟨(0,t2.length,q2,t2++[⟨7,a',b,[],[],0⟩],true),.inr ⟨rfl,hr2,hq3,by simp;omega⟩,by simp,?_⟩
        simp only [lAq,yaz,yba,nzq] at hc3 ⊢
        (simp only [bkq,enterW,aK,ltF,ne_eq,Nat.reduceEqDiff,reduceCtorEq,hc3,hid];try simp (disch:=first|exact Zd|omega) [↓zmk,beq,ybc,ybd,ybe,af,wk,wk2,wk1,wkM,wkL,aj,ybf,byq,biq,ah,hcl,hc3,hid];try (repeat' (first|assumption|omega|exact True.intro|refine And.intro ?_ ?_|refine ag ?_|refine aa ?_|refine ae ?_ ?_|refine ai ?_ ?_|refine aq ?_|exact lRq _|refine lPq ?_ _|refine AHeap.Le.del ?_ ?_|(simp only [bt,and_true,true_and,hc3,hid];first|done|omega|(simp;done)))))
        done)
     ·have h3':=dm (show g≤f by omega) h3
      obtain ⟨k1b,k2b,k3b,k4b,k5b,k6b⟩:=br _ h3 x5 trivial hlt1
      simp only [Rl.isL,Bool.false_eq_true,if_false] at k4b
      have ht2:t2.length≤100000:=by omega
      simp only [go_sem,hfree,f1,f2,hgi,hgt',hsi,hst,aL,aI,aP,aO,bq,aN,aW,hne,ne_eq,hne',hl5,iNq,aY,aX,i1,Int.reduceLE,eq_self,nFq,Bool.not_true,Bool.not_false,Bool.true_and,Bool.false_and,lAq,yaz,yba,nzq,kx,x3,hs1,hs2,Bool.and_true,Bool.and_false,df,rst,hcc,e1]
      simp only [← E6,go_sem,hfree,f1,f2,hgi,hgt',hsi,hst,aL,aI,aP,aO,bq,aN,aW,hne,ne_eq,hne',hl5,iNq,aY,aX,i1,Int.reduceLE,eq_self,nFq,Bool.not_true,Bool.not_false,Bool.true_and,Bool.false_and,lAq,yaz,yba,nzq,kx,hp2,h3',ht2]
      first
      |(have hc3:=hcl2 p2 false (t2++[⟨6,a',b,[],[],0⟩])
        refine ⟨(g,t2.length,p2,t2++[⟨6,a',b,[],[],0⟩],false),.inl ⟨rfl,by dsimp only;omega,h4,k2b,by simp;omega,k5b.snoc ⟨(show 1≤6 by decide),(show 6≤16 by decide)⟩ (show (0:Nat)<2^128 by decide) (.inr ⟨by simp only;omega,by simp only;omega⟩),by simp,by simp;omega⟩,by simp,?_⟩
        simp only [lAq,yaz,yba,nzq] at hc3 ⊢
        (simp only [bkq,enterW,aK,ltF,ne_eq,Nat.reduceEqDiff,reduceCtorEq,hc3,hid];try simp (disch:=first|exact Zd|omega) [↓zmk,beq,ybc,ybd,ybe,af,wk,wk2,wk1,wkM,wkL,aj,ybf,byq,biq,ah,hcl,hc3,hid];try (repeat' (first|assumption|omega|exact True.intro|refine And.intro ?_ ?_|refine ag ?_|refine aa ?_|refine ae ?_ ?_|refine ai ?_ ?_|refine aq ?_|exact lRq _|refine lPq ?_ _|refine AHeap.Le.del ?_ ?_|(simp only [bt,and_true,true_and,hc3,hid];first|done|omega|(simp;done)))))
        done)
      |(have hc3:=hcl2 p2 false (t2++[⟨7,a',b,[],[],0⟩])
        refine ⟨(g,t2.length,p2,t2++[⟨7,a',b,[],[],0⟩],false),.inl ⟨rfl,by dsimp only;omega,h4,k2b,by simp;omega,k5b.snoc ⟨(show 1≤7 by decide),(show 7≤16 by decide)⟩ (show (0:Nat)<2^128 by decide) (.inr ⟨by simp only;omega,by simp only;omega⟩),by simp,by simp;omega⟩,by simp,?_⟩
        simp only [lAq,yaz,yba,nzq] at hc3 ⊢
        (simp only [bkq,enterW,aK,ltF,ne_eq,Nat.reduceEqDiff,reduceCtorEq,hc3,hid];try simp (disch:=first|exact Zd|omega) [↓zmk,beq,ybc,ybd,ybe,af,wk,wk2,wk1,wkM,wkL,aj,ybf,byq,biq,ah,hcl,hc3,hid];try (repeat' (first|assumption|omega|exact True.intro|refine And.intro ?_ ?_|refine ag ?_|refine aa ?_|refine ae ?_ ?_|refine ai ?_ ?_|refine aq ?_|exact lRq _|refine lPq ?_ _|refine AHeap.Le.del ?_ ?_|(simp only [bt,and_true,true_and,hc3,hid];first|done|omega|(simp;done)))))
        done)
  ·exact Y24
theorem K7 {A:Prop} {f:Nat} (h_zNot:EntOk Tryz.prog 496 (Ent.some (iX A f))) (h_zCmp:EntOk Tryz.prog 499 (Ent.some (qT A f))):EntOk Tryz.prog 496 (Ent.some (iX A (f+1))):=by
 refine EntOk.some fun args H K h=>?_
 unfold iX aW at h
 split at h
 rotate_left
 ·exact h.elim
 rename_i id
 obtain ⟨m,l,p,b,tb,t,hg,⟨rfl,hpre,hfree⟩,hK⟩:=h
 cases ho:run l (f+1) .not p t with
 |none=>rw [ho] at hK;exact hK.elim
 |some r =>
 rw [ho] at hK
 rw [run] at ho
 simp only [eD] at ho
 have hpre':=hpre
 obtain ⟨hne,htb,ht,hp,hl,hgl,hgt⟩:=hpre
 have hid:=glq hg
 have htbl:=glq htb
 have f1:=cD hid
 have f2:=cD htbl
 have hl5:l.length≤100000:=by omega
 have i1:=@Int.natCast_nonneg
 have hne':(id=tb)=False:=eq_false hne
 have hnx:∀ X Y,H.nx≤((H.set id X).set tb Y).nx:=fun X Y=>nrq _
 refine ACallsP.of_aw (Ω:=[(470,Ent.effect aO),(496,Ent.some (iX A f)),(471,Ent.effect aN),(499,Ent.some (qT A f))]) (T:=av []) ax (tCq gQ (tCq h_zNot (tCq gu (tCq h_zCmp tNq)))) Tryz.func496 (by kernel_rfl) (by rfl) (rs:=[.tmp 2]) (by rfl) (by kernel_rfl) (by simp only [Tryz.ntmps496,yaz,yba];decide) fun hcl hlt=>?_
 change aw _ _ _ (KI Tryz.prog [(470,Ent.effect aO),(496,Ent.some (iX A f)),(471,Ent.effect aN),(499,Ent.some (qT A f))] (lh Tryz.prog [.tmp 2] H.nx _) []) _ _
 clear hlt
 obtain ⟨hgi,hgt',hsi,hcl2,hst⟩:=ig hg hpre' hcl
 have hgi1:∀ X,(H.set id X).get id=some X:=fun X=>AHeap.get_set_same _ _ hid
 have hss:∀ X Y,(H.set id X).set id Y=H.set id Y:=fun X Y=>by simp only [AHeap.set];congr 1;funext k;by_cases hk:k=id<;>simp [hk]
 cases hs:isS l p [33] with
 |false =>
  rw [hs,if_neg (by simp)] at ho
  simp only [go_sem,hfree,f1,f2,hgi,hgt',hsi,hst,aL,aI,aP,aO,bq,aN,aW,hne,ne_eq,hne',hl5,iNq,aY,aX,i1,Int.reduceLE,eq_self,nFq,Bool.not_true,Bool.not_false,Bool.true_and,Bool.false_and,lAq,yaz,yba,nzq,qT,hg,hp,hs,if_false,hpre',ho]
  exact Y16
 |true =>
  rw [hs,if_pos rfl] at ho
  have hlt1:=dt hs
  have hp2:gM (H.set id (rst m l (p+1) false tb t)) id tb l (p+1) t:=kV hpre' hlt1 (by omega)
  rcases bg ho with ⟨q,h3,rfl⟩|⟨b,p2,t2,h3,h4⟩
  ·obtain ⟨hq3,hq4⟩:=br _ h3 hgt trivial hlt1
   rw [aI] at hK
   simp only [go_sem,hfree,f1,f2,hgi,hgt',hsi,hst,aL,aI,aP,aO,bq,aN,aW,hne,ne_eq,hne',hl5,iNq,aY,aX,i1,Int.reduceLE,eq_self,nFq,Bool.not_true,Bool.not_false,Bool.true_and,Bool.false_and,lAq,yaz,yba,nzq,iX,hg,hp,hs,if_true,hgi1,hss,hp2,h3]
   intro b t' hb
   have ht2:t'.length≤100000:=by omega
   simp only [lA,go_sem,hfree,f1,f2,hgi,hgt',hsi,hst,aL,aI,aP,aO,bq,aN,aW,hne,ne_eq,hne',hl5,iNq,aY,aX,i1,Int.reduceLE,eq_self,nFq,Bool.not_true,Bool.not_false,Bool.true_and,Bool.false_and,lAq,yaz,yba,nzq,ht2]
   have hK':=hK t'.length (t'++[⟨5,b,0,[],[],0⟩]) (by simp;omega)
   have hc3:=hcl2 q true (t'++[⟨5,b,0,[],[],0⟩])
   exact Y67
  cases h4
  obtain ⟨k1b,k2b,k3b,k4b,k5b,k6b⟩:=br _ h3 hgt trivial hlt1
  simp only [Rl.isL,Bool.false_eq_true,if_false] at k4b
  have ht2:t2.length≤100000:=by omega
  simp only [go_sem,hfree,f1,f2,hgi,hgt',hsi,hst,aL,aI,aP,aO,bq,aN,aW,hne,ne_eq,hne',hl5,iNq,aY,aX,i1,Int.reduceLE,eq_self,nFq,Bool.not_true,Bool.not_false,Bool.true_and,Bool.false_and,lAq,yaz,yba,nzq,iX,hg,hp,hs,if_true,hgi1,hss,hp2,h3,ht2,nd2]
  have hc3:=hcl2 p2 false (t2++[⟨5,b,0,[],[],0⟩])
  exact Y63
theorem Nu {A:Prop} {f:Nat} (h_zUn:EntOk Tryz.prog 506 (Ent.some (kx A f))) (h_zAtom:EntOk Tryz.prog 508 (Ent.some (nB A f))):EntOk Tryz.prog 506 (Ent.some (kx A (f+1))):=by
 refine EntOk.some fun args H K h=>?_
 unfold kx aW at h
 split at h
 rotate_left
 ·exact h.elim
 rename_i id
 obtain ⟨m,l,p,b,tb,t,hg,⟨rfl,hpre,hfree⟩,hK⟩:=h
 cases ho:run l (f+1) .un p t with
 |none=>rw [ho] at hK;exact hK.elim
 |some r =>
 rw [ho] at hK
 rw [run] at ho
 simp only [eD] at ho
 have hpre':=hpre
 obtain ⟨hne,htb,ht,hp,hl,hgl,hgt⟩:=hpre
 have hid:=glq hg
 have htbl:=glq htb
 have f1:=cD hid
 have f2:=cD htbl
 have hl5:l.length≤100000:=by omega
 have i1:=@Int.natCast_nonneg
 have hne':(id=tb)=False:=eq_false hne
 have hnx:∀ X Y,H.nx≤((H.set id X).set tb Y).nx:=fun X Y=>nrq _
 refine ACallsP.of_aw (Ω:=[(470,Ent.effect aO),(506,Ent.some (kx A f)),(471,Ent.effect aN),(508,Ent.some (nB A f))]) (T:=av []) ax (tCq gQ (tCq h_zUn (tCq gu (tCq h_zAtom tNq)))) Tryz.func506 (by kernel_rfl) (by rfl) (rs:=[.tmp 2]) (by rfl) (by kernel_rfl) (by simp only [Tryz.ntmps506,yaz,yba];decide) fun hcl hlt=>?_
 change aw _ _ _ (KI Tryz.prog [(470,Ent.effect aO),(506,Ent.some (kx A f)),(471,Ent.effect aN),(508,Ent.some (nB A f))] (lh Tryz.prog [.tmp 2] H.nx _) []) _ _
 clear hlt
 obtain ⟨hgi,hgt',hsi,hcl2,hst⟩:=ig hg hpre' hcl
 have hgi1:∀ X,(H.set id X).get id=some X:=fun X=>AHeap.get_set_same _ _ hid
 have hss:∀ X Y,(H.set id X).set id Y=H.set id Y:=fun X Y=>by simp only [AHeap.set];congr 1;funext k;by_cases hk:k=id<;>simp [hk]
 cases hs:isS l p [45] with
 |false =>
  rw [hs,if_neg (by simp)] at ho
  simp only [go_sem,hfree,f1,f2,hgi,hgt',hsi,hst,aL,aI,aP,aO,bq,aN,aW,hne,ne_eq,hne',hl5,iNq,aY,aX,i1,Int.reduceLE,eq_self,nFq,Bool.not_true,Bool.not_false,Bool.true_and,Bool.false_and,lAq,yaz,yba,nzq,nB,hg,hp,hs,if_false,hpre',ho]
  exact Y16
 |true =>
  rw [hs,if_pos rfl] at ho
  have hlt1:=dt hs
  have hp2:gM (H.set id (rst m l (p+1) false tb t)) id tb l (p+1) t:=kV hpre' hlt1 (by omega)
  rcases bg ho with ⟨q,h3,rfl⟩|⟨b,p2,t2,h3,h4⟩
  ·obtain ⟨hq3,hq4⟩:=br _ h3 hgt trivial hlt1
   rw [aI] at hK
   simp only [go_sem,hfree,f1,f2,hgi,hgt',hsi,hst,aL,aI,aP,aO,bq,aN,aW,hne,ne_eq,hne',hl5,iNq,aY,aX,i1,Int.reduceLE,eq_self,nFq,Bool.not_true,Bool.not_false,Bool.true_and,Bool.false_and,lAq,yaz,yba,nzq,kx,hg,hp,hs,if_true,hgi1,hss,hp2,h3]
   intro b t' hb
   have ht2:t'.length≤100000:=by omega
   simp only [lA,go_sem,hfree,f1,f2,hgi,hgt',hsi,hst,aL,aI,aP,aO,bq,aN,aW,hne,ne_eq,hne',hl5,iNq,aY,aX,i1,Int.reduceLE,eq_self,nFq,Bool.not_true,Bool.not_false,Bool.true_and,Bool.false_and,lAq,yaz,yba,nzq,ht2]
   have hK':=hK t'.length (t'++[⟨4,b,0,[],[],0⟩]) (by simp;omega)
   have hc3:=hcl2 q true (t'++[⟨4,b,0,[],[],0⟩])
   exact Y67
  cases h4
  obtain ⟨k1b,k2b,k3b,k4b,k5b,k6b⟩:=br _ h3 hgt trivial hlt1
  simp only [Rl.isL,Bool.false_eq_true,if_false] at k4b
  have ht2:t2.length≤100000:=by omega
  simp only [go_sem,hfree,f1,f2,hgi,hgt',hsi,hst,aL,aI,aP,aO,bq,aN,aW,hne,ne_eq,hne',hl5,iNq,aY,aX,i1,Int.reduceLE,eq_self,nFq,Bool.not_true,Bool.not_false,Bool.true_and,Bool.false_and,lAq,yaz,yba,nzq,kx,hg,hp,hs,if_true,hgi1,hss,hp2,h3,ht2,nd2]
  have hc3:=hcl2 p2 false (t2++[⟨4,b,0,[],[],0⟩])
  exact Y63
theorem HO {l:List Tok} {p k:Nat} {s:List UInt8} {r:List (Nat × List UInt8)}:ir l p ((k,s)::r)=if isS l p s then some k else ir l p r:=rfl
theorem Ie:[AV.str [61,61],AV.str [33,61],AV.str [60],AV.str [60,61],AV.str [62],AV.str [62,61]]=sAV (opsC.map Prod.snd):=rfl
theorem EF {i:Nat} (h:i<6):∃ s,opsC.drop i=(8+i,s)::opsC.drop (i+1)∧(sAV (opsC.map Prod.snd)).getD i .junk=.str s:=by
 rcases (by omega:i=0∨i=1∨i=2∨i=3∨i=4∨i=5) with rfl|rfl|rfl|rfl|rfl|rfl
 all_goals exact ⟨_,rfl,rfl⟩
theorem MJ {A:Prop} {f:Nat} (h_zSum:EntOk Tryz.prog 503 (Ent.some (mF A f))):EntOk Tryz.prog 499 (Ent.some (qT A (f+1))):=by
 refine EntOk.some fun args H K h=>?_
 unfold qT aW at h
 split at h
 rotate_left
 ·exact h.elim
 rename_i id
 obtain ⟨m,l,p,b,tb,t,hg,⟨rfl,hpre,hfree⟩,hK⟩:=h
 cases ho:run l (f+1) .cmp p t with
 |none=>rw [ho] at hK;exact hK.elim
 |some r =>
 rw [ho] at hK
 rw [run] at ho
 simp only [eD] at ho
 have hpre':=hpre
 obtain ⟨hne,htb,ht,hp,hl,hgl,hgt⟩:=hpre
 have hid:=glq hg
 have htbl:=glq htb
 have f1:=cD hid
 have f2:=cD htbl
 have hl5:l.length≤100000:=by omega
 have i1:=@Int.natCast_nonneg
 have hne':(id=tb)=False:=eq_false hne
 have hnx:∀ X Y,H.nx≤((H.set id X).set tb Y).nx:=fun X Y=>nrq _
 refine ACallsP.of_aw (Ω:=[(503,Ent.some (mF A f)),(470,Ent.effect aO),(471,Ent.effect aN)]) (T:=av []) ax (tCq h_zSum (tCq gQ (tCq gu tNq))) Tryz.func499 (by kernel_rfl) (by rfl) (rs:=[.tmp 2]) (by rfl) (by kernel_rfl) (by simp only [Tryz.ntmps499,yaz,yba];decide) fun hcl hlt=>?_
 change aw _ _ _ (KI Tryz.prog [(503,Ent.some (mF A f)),(470,Ent.effect aO),(471,Ent.effect aN)] (lh Tryz.prog [.tmp 2] H.nx _) []) _ _
 clear hlt
 obtain ⟨hgi,hgt',hsi,hcl2,hst⟩:=ig hg hpre' hcl
 have hsl:(sAV (opsC.map Prod.snd)).length=6:=rfl
 rcases bg ho with ⟨q,h1,rfl⟩|⟨a,p1,t1,h1,h2⟩
 ·obtain ⟨hq1,hq2⟩:=br _ h1 hgt trivial hp
  rw [aI] at hK
  simp only [go_sem,hfree,f1,f2,hgi,hgt',hsi,hst,aL,aI,aP,aO,bq,aN,aW,hne,ne_eq,hne',hl5,iNq,aY,aX,i1,Int.reduceLE,eq_self,nFq,Bool.not_true,Bool.not_false,Bool.true_and,Bool.false_and,lAq,yaz,yba,nzq,mF,hg,hpre',h1]
  intro a t' hb
  try simp only [lA,go_sem,hfree,f1,f2,hgi,hgt',hsi,hst,aL,aI,aP,aO,bq,aN,aW,hne,ne_eq,hne',hl5,iNq,aY,aX,i1,Int.reduceLE,eq_self,nFq,Bool.not_true,Bool.not_false,Bool.true_and,Bool.false_and,lAq,yaz,yba,nzq,Ie]
  refine az (A:=Nat) (fun i=>[(0,.ptr id 0),(3,.int .i64 (a:Int)),(9,.slice .any 1 (sAV (opsC.map Prod.snd))),(10,.int .i64 6),(11,.int .i64 (i:Int))]) (fun _=>(H.set id (rst m l q true tb t')).set tb (.buf 7 t'.length)) (fun i=>i≤6) (fun i=>6 - i) 0 (by omega) ?_ fun i hi=>?_
  ·exact Z35
  simp only [go_sem,hfree,f1,f2,hgi,hgt',hsi,hst,aL,aI,aP,aO,bq,aN,aW,hne,ne_eq,hne',hl5,iNq,aY,aX,i1,Int.reduceLE,eq_self,nFq,Bool.not_true,Bool.not_false,Bool.true_and,Bool.false_and,lAq,yaz,yba,nzq]
  refine au (fun hc=>?_) (fun hc=>?_)
  ·have hi6:i<6:=by simp at hc;omega
   obtain ⟨s,e1,e2⟩:=EF hi6
   have e5:IntKind.i64.wrap ((i:Int)+1)=((i+1:Nat):Int):=by rw [wrap_i64]<;>omega
   simp only [go_sem,hfree,f1,f2,hgi,hgt',hsi,hst,aL,aI,aP,aO,bq,aN,aW,hne,ne_eq,hne',hl5,iNq,aY,aX,i1,Int.reduceLE,eq_self,nFq,Bool.not_true,Bool.not_false,Bool.true_and,Bool.false_and,lAq,yaz,yba,nzq,hsl,e2,e5,hq1,if_false]
   refine ⟨by omega,i+1,by omega,by omega,?_⟩
   exact Z35
  ·simp only [go_sem,hfree,f1,f2,hgi,hgt',hsi,hst,aL,aI,aP,aO,bq,aN,aW,hne,ne_eq,hne',hl5,iNq,aY,aX,i1,Int.reduceLE,eq_self,nFq,Bool.not_true,Bool.not_false,Bool.true_and,Bool.false_and,lAq,yaz,yba,nzq]
   exact cA (hK a t' hb) (hnx _ _) (lRq _) (hcl2 _ _ _)
 clear ho
 obtain ⟨k1,k2,k3,k4,k5,k6⟩:=br _ h1 hgt trivial hp
 simp only [Rl.isL,Bool.false_eq_true,if_false] at k4
 simp only [go_sem,hfree,f1,f2,hgi,hgt',hsi,hst,aL,aI,aP,aO,bq,aN,aW,hne,ne_eq,hne',hl5,iNq,aY,aX,i1,Int.reduceLE,eq_self,nFq,Bool.not_true,Bool.not_false,Bool.true_and,Bool.false_and,lAq,yaz,yba,nzq,mF,hg,hpre',h1]
 try simp only [Ie]
 refine az (A:=Nat) (fun i=>[(0,.ptr id 0),(3,.int .i64 (a:Int)),(9,.slice .any 1 (sAV (opsC.map Prod.snd))),(10,.int .i64 6),(11,.int .i64 (i:Int))]) (fun _=>(H.set id (rst m l p1 false tb t1)).set tb (.buf 7 t1.length)) (fun i=>i≤6∧ir l p1 (opsC.drop i)=ir l p1 opsC) (fun i=>6 - i) 0 ⟨by omega,rfl⟩ ?_ fun i hi=>?_
 ·exact Z35
 obtain ⟨hi,hop⟩:=hi
 simp only [go_sem,hfree,f1,f2,hgi,hgt',hsi,hst,aL,aI,aP,aO,bq,aN,aW,hne,ne_eq,hne',hl5,iNq,aY,aX,i1,Int.reduceLE,eq_self,nFq,Bool.not_true,Bool.not_false,Bool.true_and,Bool.false_and,lAq,yaz,yba,nzq]
 refine au (fun hc=>?_) (fun hc=>?_)
 ·have hi6:i<6:=by simp at hc;omega
  obtain ⟨s,e1,e2⟩:=EF hi6
  have e5:IntKind.i64.wrap ((i:Int)+1)=((i+1:Nat):Int):=by rw [wrap_i64]<;>omega
  have e6:IntKind.i64.wrap (8+(i:Int))=((8+i:Nat):Int):=by rw [wrap_i64]<;>omega
  rw [e1,HO] at hop
  cases hs:isS l p1 s with
  |false =>
   rw [hs,if_neg (by simp)] at hop
   simp only [go_sem,hfree,f1,f2,hgi,hgt',hsi,hst,aL,aI,aP,aO,bq,aN,aW,hne,ne_eq,hne',hl5,iNq,aY,aX,i1,Int.reduceLE,eq_self,nFq,Bool.not_true,Bool.not_false,Bool.true_and,Bool.false_and,lAq,yaz,yba,nzq,hsl,e2,e5,k2,hs,if_false]
   refine ⟨by omega,i+1,⟨by omega,hop⟩,by omega,?_⟩
   exact Z35
  |true =>
   rw [hs,if_pos rfl] at hop
   rw [← hop] at h2
   dsimp only at h2
   have hlt1:=dt hs
   have hp2:gM ((H.set id (rst m l (p1+1) false tb t1)).set tb (.buf 7 t1.length)) id tb l (p1+1) t1:=kZ hpre' hlt1 (by omega) k5
   rcases bg h2 with ⟨q,h3,rfl⟩|⟨b,p2,t2,h3,h4⟩
   ·obtain ⟨hq1,hq2⟩:=br _ h3 k5 trivial hlt1
    rw [aI] at hK
    simp only [go_sem,hfree,f1,f2,hgi,hgt',hsi,hst,aL,aI,aP,aO,bq,aN,aW,hne,ne_eq,hne',hl5,iNq,aY,aX,i1,Int.reduceLE,eq_self,nFq,Bool.not_true,Bool.not_false,Bool.true_and,Bool.false_and,lAq,yaz,yba,nzq,mF,hsl,e2,k2,hs,if_true,hp2,h3]
    refine ⟨by omega,fun b t' hb=>?_⟩
    have ht2:t'.length≤100000:=by omega
    simp only [lA,go_sem,hfree,f1,f2,hgi,hgt',hsi,hst,aL,aI,aP,aO,bq,aN,aW,hne,ne_eq,hne',hl5,iNq,aY,aX,i1,Int.reduceLE,eq_self,nFq,Bool.not_true,Bool.not_false,Bool.true_and,Bool.false_and,lAq,yaz,yba,nzq,ht2,e6]
    have hK':=hK t'.length (t'++[⟨8+i,a,b,[],[],0⟩]) (by simp;omega)
    have hc3:=hcl2 q true (t'++[⟨8+i,a,b,[],[],0⟩])
    exact Y67
   cases h4
   obtain ⟨k1b,k2b,k3b,k4b,k5b,k6b⟩:=br _ h3 k5 trivial hlt1
   simp only [Rl.isL,Bool.false_eq_true,if_false] at k4b
   have ht2:t2.length≤100000:=by omega
   simp only [go_sem,hfree,f1,f2,hgi,hgt',hsi,hst,aL,aI,aP,aO,bq,aN,aW,hne,ne_eq,hne',hl5,iNq,aY,aX,i1,Int.reduceLE,eq_self,nFq,Bool.not_true,Bool.not_false,Bool.true_and,Bool.false_and,lAq,yaz,yba,nzq,mF,hsl,e2,k2,hs,if_true,hp2,h3,ht2,nd2,e6]
   refine ⟨by omega,?_⟩
   have hc3:=hcl2 p2 false (t2++[⟨8+i,a,b,[],[],0⟩])
   exact Y63
 ·have hi6:i=6:=by simp at hc;omega
  subst hi6
  have hno:ir l p1 opsC=none:=by rw [← hop];rfl
  rw [hno] at h2
  cases h2
  rw [aP] at hK
  simp only [go_sem,hfree,f1,f2,hgi,hgt',hsi,hst,aL,aI,aP,aO,bq,aN,aW,hne,ne_eq,hne',hl5,iNq,aY,aX,i1,Int.reduceLE,eq_self,nFq,Bool.not_true,Bool.not_false,Bool.true_and,Bool.false_and,lAq,yaz,yba,nzq]
  exact Y74
def om (A:Prop) (f:Nat):List AV→AHeap→(AV→AHeap→Prop)→Prop
 |[.str s],H,K=>∃ n,(A∧lit s=some n∧s.length≤1000)∧K (vv n) H
 |_,_,_=>False
theorem G8 {H:AHeap} {id tb p:Nat} {o:AObj} {l:List Tok} {t:List Nd} (h:gM H id tb l p t):gM (H.push o) id tb l p t:=by
 obtain ⟨h1,h2,h3,h4,h5,h6,h7⟩:=h
 refine ⟨h1,?_,h3,h4,h5,h6,h7⟩
 rw [gPq _ _ (glq h2)];exact h2
theorem Ji {A:Prop} {f:Nat} (h_zVal:EntOk Tryz.prog 512 (Ent.some (om A f))) (h_zImp:EntOk Tryz.prog 411 (Ent.some (gY A f))):EntOk Tryz.prog 508 (Ent.some (nB A (f+1))):=by
 refine EntOk.some fun args H K h=>?_
 unfold nB aW at h
 split at h
 rotate_left
 ·exact h.elim
 rename_i id
 obtain ⟨m,l,p,b,tb,t,hg,⟨rfl,hpre,hfree⟩,hK⟩:=h
 cases ho:run l (f+1) .atom p t with
 |none=>rw [ho] at hK;exact hK.elim
 |some r =>
 rw [ho] at hK
 rw [run] at ho
 simp only [eD] at ho
 have hpre':=hpre
 obtain ⟨hne,htb,ht,hp,hl,hgl,hgt⟩:=hpre
 have hid:=glq hg
 have htbl:=glq htb
 have f1:=cD hid
 have f2:=cD htbl
 have hl5:l.length≤100000:=by omega
 have i1:=@Int.natCast_nonneg
 have hne':(id=tb)=False:=eq_false hne
 have hnx:∀ X Y,H.nx≤((H.set id X).set tb Y).nx:=fun X Y=>nrq _
 refine ACallsP.of_aw (Ω:=[(512,Ent.some (om A f)),(470,Ent.effect aO),(471,Ent.effect aN),(513,Ent.effect rp),(411,Ent.some (gY A f))]) (T:=av []) ax (tCq h_zVal (tCq gQ (tCq gu (tCq K8 (tCq h_zImp tNq))))) Tryz.func508 (by kernel_rfl) (by rfl) (rs:=[.tmp 2]) (by rfl) (by kernel_rfl) (by simp only [Tryz.ntmps508,yaz,yba];decide) fun hcl hlt=>?_
 change aw _ _ _ (KI Tryz.prog [(512,Ent.some (om A f)),(470,Ent.effect aO),(471,Ent.effect aN),(513,Ent.effect rp),(411,Ent.some (gY A f))] (lh Tryz.prog [.tmp 2] H.nx _) []) _ _
 clear hlt
 obtain ⟨hgi,hgt',hsi,hcl2,hst⟩:=ig hg hpre' hcl
 have hgi1:∀ X,(H.set id X).get id=some X:=fun X=>AHeap.get_set_same _ _ hid
 have hgt1:∀ X,(H.set id X).get tb=some (.buf 7 t.length):=fun X=>by rw [AHeap.get_set_ne _ _ (fun e=>hne e.symm)];exact htb
 have hss:∀ X Y,(H.set id X).set id Y=H.set id Y:=fun X Y=>by simp only [AHeap.set];congr 1;funext k;by_cases hk:k=id<;>simp [hk]
 have hcs:=ay (cs:=[.slice m 3 (dr l),.int .i64 (p:Int),.bool false,.slice (.own tb) 7 (nds t)]) hg
 have ht5:t.length≤100000:=by omega
 have hx1:(id=H.nx)=False:=eq_false (by omega)
 have e1:IntKind.i64.wrap ((p:Int)+1)=((p+1:Nat):Int):=by rw [wrap_i64]<;>omega
 rcases Nat.lt_or_ge p l.length with hlt0|hlt0
 rotate_left
 ·have hpe:p=l.length:=by omega
  subst hpe
  have hge:l[l.length]?=none:=gNq (nrq _)
  have hs0:isS l l.length [40]=false:=AH (nrq _)
  have hr:dk l l.length t=.bad l.length:=by unfold dk;rw [hge]
  have d0:((l.length:Int)==(l.length:Int))=true:=by simp
  rw [hs0,if_neg (by simp),hr] at ho
  cases ho
  rw [aI] at hK
  simp only [go_sem,hfree,f1,f2,hgi,hgt',hsi,hst,aL,aI,aP,aO,bq,aN,aW,hne,ne_eq,hne',hl5,iNq,aY,aX,i1,Int.reduceLE,eq_self,nFq,Bool.not_true,Bool.not_false,Bool.true_and,Bool.false_and,lAq,yaz,yba,nzq,hg,hp,hcs,aT,df,hgi1,hgt1,hss,ht5,if_true,if_false,d0]
  have hK':=hK 0 t (nrq _)
  have hc3:=hcl2 l.length true t
  rw [← wA htb hne] at hK' hc3
  exact cA (H1:=H.set id (rst m l l.length true tb t)) hK' (nrq _) (lRq _) hc3
 rcases htk:l[p] with ⟨k,x,z⟩
 have hgd:=nt hlt0 htk
 have hge:l[p]?=some (k,x,z):=by rw [gQq hlt0,htk]
 have d0:((p:Int)==(l.length:Int))=false:=by simp;omega
 have hp1:p+1≤l.length:=hlt0
 obtain ⟨hxl,hxs⟩:=hgl l[p] (gMq hlt0)
 rw [htk] at hxl hxs
 dsimp only at hxl hxs
 have hat:=CC hlt0 htk (s:=[40])
 by_cases hk1:k=1
 ·subst hk1
  have hA:A:=hfree p (by unfold qW;rw [hge])
  obtain ⟨n,hn⟩:=Option.isSome_iff_exists.1 (hxs rfl)
  have hn128:=Aj hn
  have hvo:vOf (n/2^64) (n % 2^64)=n:=bD n
  have hv1:lK (n/2^64:Nat) (n % 2^64:Nat)=True:=eq_true (by refine ⟨?_,?_,?_,?_⟩<;>omega)
  have hr:dk l p t=.ok t.length (p+1) (t++[⟨1,0,0,[],[],n⟩]):=by unfold dk;rw [hge];simp [hn]
  have hd1:(((1:Nat):Int)==1)=true:=rfl
  have hs0:isS l p [40]=false:=by rw [hat];rfl
  rw [hs0,if_neg (by simp),hr] at ho
  cases ho
  simp only [go_sem,hfree,f1,f2,hgi,hgt',hsi,hst,aL,aI,aP,aO,bq,aN,aW,hne,ne_eq,hne',hl5,iNq,aY,aX,i1,Int.reduceLE,eq_self,nFq,Bool.not_true,Bool.not_false,Bool.true_and,Bool.false_and,lAq,yaz,yba,nzq,hg,hp,hcs,aT,hgd,df,hgi1,hgt1,hss,ht5,if_true,if_false,d0,hd1,e1]
  refine ⟨by omega,?_⟩
  simp only [om]
  refine ⟨n,⟨hA,hn,hxl⟩,?_⟩
  simp only [vv,lA,go_sem,hfree,f1,f2,hgi,hgt',hsi,hst,aL,aI,aP,aO,bq,aN,aW,hne,ne_eq,hne',hl5,iNq,aY,aX,i1,Int.reduceLE,eq_self,nFq,Bool.not_true,Bool.not_false,Bool.true_and,Bool.false_and,lAq,yaz,yba,nzq,hg,hp,hcs,aT,hgd,df,hgi1,hgt1,hss,ht5,if_true,if_false,d0,hd1,e1,hvo,hv1]
  have hc3:=hcl2 (p+1) false (t++[⟨1,0,0,[],[],n⟩])
  exact Y42
 have d1:((k:Int)==1)=false:=by simp;omega
 by_cases hk2:k=2
 ·subst hk2
  have hs0:isS l p [40]=false:=by rw [hat];rfl
  have hd2:(((2:Nat):Int)==1)=false:=rfl
  have hd3:(((2:Nat):Int)==2)=true:=rfl
  rw [hs0,if_neg (by simp)] at ho
  by_cases hx1':x=t9
  ·have hr:dk l p t=.ok t.length (p+1) (t++[⟨2,0,0,[],[],1⟩]):=by unfold dk;rw [hge];simp [hx1']
   have hb1:(x==[116,114,117,101])=true:=by rw [hx1'];rfl
   rw [hr] at ho
   cases ho
   simp only [go_sem,hfree,f1,f2,hgi,hgt',hsi,hst,aL,aI,aP,aO,bq,aN,aW,hne,ne_eq,hne',hl5,iNq,aY,aX,i1,Int.reduceLE,eq_self,nFq,Bool.not_true,Bool.not_false,Bool.true_and,Bool.false_and,lAq,yaz,yba,nzq,hg,hp,hcs,aT,hgd,df,hgi1,hgt1,hss,ht5,if_true,if_false,d0,hd2,hd3,e1,hb1,M2,M4]
   refine ⟨by omega,?_⟩
   have hc3:=hcl2 (p+1) false (t++[⟨2,0,0,[],[],1⟩])
   exact Y42
  have hb1:(x==[116,114,117,101])=false:=by simpa [t9] using hx1'
  by_cases hx2:x=n9
  ·have hr:dk l p t=.ok t.length (p+1) (t++[⟨2,0,0,[],[],0⟩]):=by unfold dk;rw [hge];simp [hx1',hx2];decide
   have hb2:(x==[102,97,108,115,101])=true:=by rw [hx2];rfl
   rw [hr] at ho
   cases ho
   simp only [go_sem,hfree,f1,f2,hgi,hgt',hsi,hst,aL,aI,aP,aO,bq,aN,aW,hne,ne_eq,hne',hl5,iNq,aY,aX,i1,Int.reduceLE,eq_self,nFq,Bool.not_true,Bool.not_false,Bool.true_and,Bool.false_and,lAq,yaz,yba,nzq,hg,hp,hcs,aT,hgd,df,hgi1,hgt1,hss,ht5,if_true,if_false,d0,hd2,hd3,e1,hb1,hb2]
   refine ⟨by omega,?_⟩
   have hc3:=hcl2 (p+1) false (t++[⟨2,0,0,[],[],0⟩])
   exact Y42
  have hb2:(x==[102,97,108,115,101])=false:=by simpa [n9] using hx2
  cases hs3:isS l (p+1) [58,58] with
  |false =>
   have hr:dk l p t=.ok t.length (p+1) (t++[⟨3,0,0,x,[],0⟩]):=by unfold dk;rw [hge];simp [hx1',hx2,hs3]
   rw [hr] at ho
   cases ho
   simp only [go_sem,hfree,f1,f2,hgi,hgt',hsi,hst,aL,aI,aP,aO,bq,aN,aW,hne,ne_eq,hne',hl5,iNq,aY,aX,i1,Int.reduceLE,eq_self,nFq,Bool.not_true,Bool.not_false,Bool.true_and,Bool.false_and,lAq,yaz,yba,nzq,hg,hp,hcs,aT,hgd,df,hgi1,hgt1,hss,ht5,if_true,if_false,rp,d0,hd2,hd3,e1,hb1,hb2,hp1,hs3,Bool.false_eq_true]
   refine ⟨by omega,?_⟩
   have hc3:=hcl2 (p+1) false (t++[⟨3,0,0,x,[],0⟩])
   exact Y42
  |true =>
   have hlt3:=dt hs3
   cases hw2:kH l (p+1+1) with
   |none =>
    have hr:dk l p t=.bad (p+1+1):=by
     unfold dk;rw [hge];simp [hx1',hx2,hs3]
     exact Y93
    rw [hr] at ho
    cases ho
    rw [aI] at hK
    simp only [go_sem,hfree,f1,f2,hgi,hgt',hsi,hst,aL,aI,aP,aO,bq,aN,aW,hne,ne_eq,hne',hl5,iNq,aY,aX,i1,Int.reduceLE,eq_self,nFq,Bool.not_true,Bool.not_false,Bool.true_and,Bool.false_and,lAq,yaz,yba,nzq,hg,hp,hcs,aT,hgd,df,hgi1,hgt1,hss,ht5,if_true,if_false,rp,d0,hd2,hd3,e1,hb1,hb2,hp1,hs3,hw2,fT]
    refine ⟨by omega,?_⟩
    have hK':=hK 0 t (by omega)
    have hc3:=hcl2 (p+1+1) true t
    rw [← wA htb hne] at hK' hc3
    exact cA hK' (nrq _) ((lRq _).push _) hc3
   |some y =>
    have hr:dk l p t=.ok t.length (p+1+1+1) (t++[⟨3,0,0,x,y,0⟩]):=by
     unfold dk;rw [hge];simp [hx1',hx2,hs3]
     exact Y84
    rw [hr] at ho
    cases ho
    simp only [go_sem,hfree,f1,f2,hgi,hgt',hsi,hst,aL,aI,aP,aO,bq,aN,aW,hne,ne_eq,hne',hl5,iNq,aY,aX,i1,Int.reduceLE,eq_self,nFq,Bool.not_true,Bool.not_false,Bool.true_and,Bool.false_and,lAq,yaz,yba,nzq,hg,hp,hcs,aT,hgd,df,hgi1,hgt1,hss,ht5,if_true,if_false,rp,d0,hd2,hd3,e1,hb1,hb2,hp1,hs3,hw2,ic]
    refine ⟨by omega,?_⟩
    have hc3:=hcl2 (p+1+1+1) false (t++[⟨3,0,0,x,y,0⟩])
    exact Y42
 have d2:((k:Int)==2)=false:=by simp;omega
 cases hs0:isS l p [40] with
 |false =>
  have hr:dk l p t=.bad p:=by unfold dk;rw [hge];simp [hk1,hk2]
  rw [hs0,if_neg (by simp),hr] at ho
  cases ho
  rw [aI] at hK
  simp only [go_sem,hfree,f1,f2,hgi,hgt',hsi,hst,aL,aI,aP,aO,bq,aN,aW,hne,ne_eq,hne',hl5,iNq,aY,aX,i1,Int.reduceLE,eq_self,nFq,Bool.not_true,Bool.not_false,Bool.true_and,Bool.false_and,lAq,yaz,yba,nzq,hg,hp,hcs,aT,hgd,df,hgi1,hgt1,hss,ht5,if_true,if_false,d0,d1,d2,hs0,Bool.false_eq_true]
  refine ⟨by omega,?_⟩
  have hK':=hK 0 t (nrq _)
  have hc3:=hcl2 p true t
  rw [← wA htb hne] at hK' hc3
  exact cA (H1:=H.set id (rst m l p true tb t)) hK' (nrq _) ((lRq _).push _) hc3
 |true =>
  rw [hs0,if_pos rfl] at ho
  have hp2:∀ o,gM ((H.set id (rst m l (p+1) false tb t)).push o) id tb l (p+1) t:=fun o=>G8 (kV hpre' hp1 (by omega))
  rcases bg ho with ⟨q,h3,rfl⟩|⟨a,p1,t1,h3,h4⟩
  ·obtain ⟨hq1,hq2⟩:=br _ h3 hgt trivial hp1
   rw [aI] at hK
   simp only [go_sem,hfree,f1,f2,hgi,hgt',hsi,hst,aL,aI,aP,aO,bq,aN,aW,hne,ne_eq,hne',hl5,iNq,aY,aX,i1,Int.reduceLE,eq_self,nFq,Bool.not_true,Bool.not_false,Bool.true_and,Bool.false_and,lAq,yaz,yba,nzq,hg,hp,hcs,aT,hgd,df,hgi1,hgt1,hss,ht5,if_true,if_false,gY,d0,d1,d2,hs0,hp2,h3]
   refine ⟨by omega,fun a t' hb=>?_⟩
   simp only [lA,go_sem,hfree,f1,f2,hgi,hgt',hsi,hst,aL,aI,aP,aO,bq,aN,aW,hne,ne_eq,hne',hl5,iNq,aY,aX,i1,Int.reduceLE,eq_self,nFq,Bool.not_true,Bool.not_false,Bool.true_and,Bool.false_and,lAq,yaz,yba,nzq,hq1,hp,rst,df]
   have hcc:∀ X Y,aR ((H.set id (.cells X)).set tb Y) id=some X:=fun X Y=>by rw [cL hne,eX hid,if_pos rfl]
   simp only [lA,go_sem,hfree,f1,f2,hgi,hgt',hsi,hst,aL,aI,aP,aO,bq,aN,aW,hne,ne_eq,hne',hl5,iNq,aY,aX,i1,Int.reduceLE,eq_self,nFq,Bool.not_true,Bool.not_false,Bool.true_and,Bool.false_and,lAq,yaz,yba,nzq,hq1,hp,hcc]
   have hK':=hK a t' (by omega)
   have hc3:=hcl2 q true t'
   exact cA hK' (nrq _) ((lRq _).push _) hc3
  ·obtain ⟨k1b,k2b,k3b,k4b,k5b,k6b⟩:=br _ h3 hgt trivial hp1
   simp only [Rl.isL,Bool.false_eq_true,if_false] at k4b
   cases hs2:isS l p1 [41] with
   |true =>
    rw [hs2,if_pos rfl] at h4
    cases h4
    simp only [go_sem,hfree,f1,f2,hgi,hgt',hsi,hst,aL,aI,aP,aO,bq,aN,aW,hne,ne_eq,hne',hl5,iNq,aY,aX,i1,Int.reduceLE,eq_self,nFq,Bool.not_true,Bool.not_false,Bool.true_and,Bool.false_and,lAq,yaz,yba,nzq,hg,hp,hcs,aT,hgd,df,hgi1,hgt1,hss,ht5,if_true,if_false,gY,d0,d1,d2,hs0,hp2,h3,k2b,hs2]
    refine ⟨by omega,?_⟩
    rw [aP] at hK
    exact cA hK (nrq _) ((lRq _).push _) (hcl2 _ _ _)
   |false =>
    rw [hs2,if_neg (by simp)] at h4
    cases h4
    rw [aI] at hK
    have hcc:∀ X Y,aR ((H.set id (.cells X)).set tb Y) id=some X:=fun X Y=>by rw [cL hne,eX hid,if_pos rfl]
    simp only [go_sem,hfree,f1,f2,hgi,hgt',hsi,hst,aL,aI,aP,aO,bq,aN,aW,hne,ne_eq,hne',hl5,iNq,aY,aX,i1,Int.reduceLE,eq_self,nFq,Bool.not_true,Bool.not_false,Bool.true_and,Bool.false_and,lAq,yaz,yba,nzq,hg,hp,hcs,aT,hgd,df,hgi1,hgt1,hss,ht5,if_true,if_false,gY,d0,d1,d2,hs0,hp2,h3,k2b,hs2,Bool.false_eq_true]
    simp only [rst,go_sem,hfree,f1,f2,hgi,hgt',hsi,hst,aL,aI,aP,aO,bq,aN,aW,hne,ne_eq,hne',hl5,iNq,aY,aX,i1,Int.reduceLE,eq_self,nFq,Bool.not_true,Bool.not_false,Bool.true_and,Bool.false_and,lAq,yaz,yba,nzq,hcc]
    refine ⟨by omega,?_⟩
    exact cA (hK a t1 (by omega)) (nrq _) ((lRq _).push _) (hcl2 _ _ _)
end Go.AL
