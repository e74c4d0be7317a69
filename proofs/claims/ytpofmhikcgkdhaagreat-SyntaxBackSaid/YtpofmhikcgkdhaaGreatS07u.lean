/- Lemmas of the proof; no condition. -/
import Derived.Test.YtpofmhikcgkdhaaGreatS07v
import Derived.Test.YtpofmhikcgkdhaaGreatS07c
set_option linter.all false
set_option maxRecDepth 10000
set_option maxHeartbeats 32000000
open List renaming length_cons → yaz, length_nil → yba, take_of_length_le → ybc, drop_append → ybd, take_append → ybe, drop_eq_nil_of_le → ybf
open Go Go.AL Go.Proofs
namespace Go.AL
theorem tG:ti Tryz.prog 71=some ⟨.struct [(0,3,false),(1,3,false),(2,3,false),(3,9,false),(4,9,false),(5,55,false)],7,72,.agg [.int .i64 0,.int .i64 0,.int .i64 0,.str [],.str [],.int .u64 0,.int .u64 0]⟩:=by kernel_rfl
theorem xr:ti Tryz.prog 27=some ⟨.slice 71,1,24,.slice .nil 1 []⟩:=by kernel_rfl
theorem vU:ti Tryz.prog 91=some ⟨.struct [(0,48,false),(1,3,false),(2,4,false),(3,27,false)],4,64,.agg [.slice .nil 1 [],.int .i64 0,.bool false,.slice .nil 1 []]⟩:=by kernel_rfl
attribute [go_sem] tG xr vU
def rst (m:Mark) (l:List Tok) (p:Nat) (b:Bool) (tb:Nat) (t:List Nd):AObj:=.cells [.slice m 3 (ce l),.int .i64 (p:Int),.bool b,.slice (.own tb) 7 (nds t)]
def onQ (o:Option AObj) (K:Mark→List Tok→Nat→Bool→Nat→List Nd→Prop):Prop:=∃ m l p b tb t,o=some (rst m l p b tb t)∧K m l p b tb t
@[congr] theorem Di {o o':Option AObj} {K:Mark→List Tok→Nat→Bool→Nat→List Nd→Prop} (h:o=o'):onQ o K=onQ o' K:=by rw [h]
theorem ar {m:Mark} {l:List Tok} {p tb:Nat} {b:Bool} {t:List Nd} {K:Mark→List Tok→Nat→Bool→Nat→List Nd→Prop}:onQ (some (rst m l p b tb t)) K=K m l p b tb t:=by
 refine propext ⟨fun ⟨m',l',p',b',tb',t',h,hk⟩=>?_,fun h=>⟨m,l,p,b,tb,t,rfl,h⟩⟩
 simp only [rst,Option.some.injEq,AObj.cells.injEq,List.cons.injEq,AV.slice.injEq,AV.int.injEq,AV.bool.injEq,Mark.own.injEq,true_and,and_true] at h
 obtain ⟨⟨rfl,h1⟩,h2,rfl,rfl,h3⟩:=h
 have:=px h1
 have:=rL h3
 have:p=p':=by omega
 subst_vars
 exact hk
theorem bY {m:Mark} {l:List Tok} {p tb:Nat} {b:Bool} {t:List Nd} {K:Mark→List Tok→Nat→Bool→Nat→List Nd→Prop}:onQ (some (.cells [.slice m 3 (ce l),.int .i64 (p:Int),.bool b,.slice (.own tb) 7 (nds t)])) K=K m l p b tb t:=ar
theorem eL {H:AHeap} {id:Nat} {m:Mark} {l:List Tok} {p tb:Nat} {b:Bool} {t:List Nd} (hg:H.get id=some (rst m l p b tb t)) (hcl:H.Closed) (p':Nat) (b':Bool) (t':List Nd):(H.set id (rst m l p' b' tb t')).Closed:=by
 have h0:=hcl id _ hg 0 (by simp)
 have h2:=hcl id _ hg 3 (by simp)
 simp only [List.getElem_cons_zero,List.getElem_cons_succ,lF,gH] at h0 h2
 refine ai hcl ?_
 simp only [znu,znv,lF,gH,znf,zng,and_true,true_and]
 exact ⟨h0,h2⟩
def aC:List AV→AHeap→(AEnd→AHeap→Prop)→Prop
 |[.ptr id 0,.agg [.int .i64 op,.int .i64 a,.int .i64 b,.str nm,.str att,.int .u64 hi,.int .u64 lo]],H,K=>onQ (H.get id) fun m l p bd tb t =>
   (0≤op∧0≤a∧0≤b∧gI hi lo∧id≠tb∧H.get tb=some (.buf 7 t.length)∧t.length≤100000) ∧
   K (.ret (.int .i64 (t.length:Int))) ((H.set id (rst m l p bd tb (t++[⟨op.toNat,a.toNat,b.toNat,nm,att,vOf hi.toNat lo.toNat⟩]))).set tb (.buf 7 (t.length+1)))
 |_,_,_=>False
theorem dx:EntOk Tryz.prog 67 (Ent.effect aC):=by
 refine EntOk.effect fun args H K h=>?_
 unfold aC at h
 split at h
 rotate_left
 ·exact h.elim
 rename_i id op a b nm att hi lo
 obtain ⟨m,l,p,bd,tb,t,hg,⟨h1,h2,h3,⟨h4,h5,h6,h7⟩,hne,htb,htl⟩,hK⟩:=h
 refine ⟨_,_,hK,?_⟩
 clear hK
 obtain ⟨op,rfl⟩:=bO h1
 obtain ⟨a,rfl⟩:=bO h2
 obtain ⟨b,rfl⟩:=bO h3
 obtain ⟨hi,rfl⟩:=bO h4
 obtain ⟨lo,rfl⟩:=bO h6
 simp only [iNq]
 refine ACalls.fW aE tNq Tryz.func67 [.tmp 4] (nrq _) (T:=ay [(1,[[],[],[],[],[],[],[5],[4,5],[],[],[4,5]])]) (h:=fun hcl hlt=>?_)
 clear hlt
 have hid:=glq hg
 have htbl:=glq htb
 have hcs:=bg (cs:=[.slice m 3 (ce l),.int .i64 (p:Int),.bool bd,.slice (.own tb) 7 (nds t)]) hg
 have f1:=bw hid
 have f2:=bw htbl
 have g1:(id=tb)=False:=eq_false hne
 have g2:(tb=id)=False:=eq_false fun e=>hne e.symm
 have e1:nds t++[AV.agg [.int .i64 (op:Int),.int .i64 (a:Int),.int .i64 (b:Int),.str nm,.str att,.int .u64 (hi:Int),.int .u64 (lo:Int)]]=nds (t++[⟨op,a,b,nm,att,vOf hi lo⟩]):=by
  rw [← ux];unfold gJ;simp only;rw [yS (by omega),yQ (by omega)]
 have e2:IntKind.i64.wrap (((t.length+1:Nat):Int) - 1)=(t.length:Int):=by rw [wrap_i64]<;>omega
 have hcl1:=eL hg hcl p bd (t++[⟨op,a,b,nm,att,vOf hi lo⟩])
 have hcl2:((H.set id (rst m l p bd tb (t++[⟨op,a,b,nm,att,vOf hi lo⟩]))).set tb (.buf 7 (t.length+1))).Closed:=ac hcl1
 have s1:=iC (H:=H) hne
 have s2:=fun o=>(bJ (H:=H) hne o).trans hcs
 have s3:∀ o cs,aA ((H.set id (.cells cs)).set tb o) id=some cs:=fun o cs=>by rw [bJ hne,cH hid,if_pos rfl]
 simp only [go_sem,hcs,az,f1,f2,g1,g2,htb,dj,if_pos htbl,e1,s1,s2,s3,e2,lAq]
 refine ⟨⟨by omega,by omega,by simp [aY,AV.cells,AV.one]⟩,?_⟩
 simp only [rst] at hcl2 ⊢
 simp (disch:=first|exact Zd|omega) [↓zmo,beq,ybc,ybd,ybe,af,wk,wk2,wk1,wkM,wkL,am,ybf,hcl2,htbl,gH]
def aN:List AV→AHeap→(AV→Prop)→Prop
 |[.ptr id 0,.str s],H,K=>onQ (H.get id) fun m l p b tb t=>(p≤l.length∧l.length≤100000)∧K (.bool (!b&&isS l p s))
 |_,_,_=>False
theorem r8:EntOk Tryz.prog 87 (Ent.pure aN):=by
 refine Ype fun _ H K h=>?_
 unfold aN at h
 split at h
 rotate_left
 ·exact h.elim
 rename_i id s
 obtain ⟨m,l,p,b,tb,t,hg,⟨hp,hl⟩,hK⟩:=h
 have hid:=glq hg
 have hcs:=bg (cs:=[.slice m 3 (ce l),.int .i64 (p:Int),.bool b,.slice (.own tb) 7 (nds t)]) hg
 refine ⟨_,hK,?_⟩
 clear hK
 refine ACalls.fW aE tNq Tryz.func87 [.tmp 4] (nrq _) (T:=ay []) (h:=fun hcl hlt=>?_)
 clear hlt
 cases b with
 |true =>
  simp only [go_sem,hcs]
  exact Z0
 |false =>
  by_cases hlt0:p<l.length
  ·rcases htk:l[p] with ⟨k,x,z⟩
   have hgd:=jf hlt0 htk
   have d1:decide ((p:Int)<(l.length:Int))=true:=by simp;omega
   rw [vV hlt0 htk]
   by_cases hk:k=3
   ·subst hk
    have d2:(((3:Nat):Int)==3)=true:=rfl
    simp only [go_sem,hcs,aB,hgd,d1,d2,iNq]
    refine ⟨by omega,by omega,?_⟩
    exact Z0
   ·have d2:((k:Int)==3)=false:=by simp;omega
    have d3:(k==3)=false:=by simpa using hk
    simp only [go_sem,hcs,aB,hgd,d1,d2,iNq]
    refine ⟨by omega,?_⟩
    simp (disch:=first|exact Zd|omega) [↓zmo,beq,ybc,ybd,ybe,af,wk,wk2,wk1,wkM,wkL,am,ybf,hcl,d3]
  ·have d1:decide ((p:Int)<(l.length:Int))=false:=by simp;omega
   rw [rP (by omega)]
   simp only [go_sem,hcs,aB,d1]
   exact Z0
def aD:List AV→AHeap→(AEnd→AHeap→Prop)→Prop
 |[.ptr id 0,.str s],H,K=>onQ (H.get id) fun m l p b tb t=>(p≤l.length∧l.length≤100000) ∧
   if (!b&&isS l p s)=true then K (.ret (.bool true)) (H.set id (rst m l (p+1) b tb t)) else K (.ret (.bool false)) H
 |_,_,_=>False
theorem dW:EntOk Tryz.prog 66 (Ent.effect aD):=by
 refine EntOk.effect fun args H K h=>?_
 unfold aD at h
 split at h
 rotate_left
 ·exact h.elim
 rename_i id s
 obtain ⟨m,l,p,b,tb,t,hg,⟨hp,hl⟩,hK⟩:=h
 have hid:=glq hg
 have hcs:=bg (cs:=[.slice m 3 (ce l),.int .i64 (p:Int),.bool b,.slice (.own tb) 7 (nds t)]) hg
 have e1:IntKind.i64.wrap ((p:Int)+1)=((p+1:Nat):Int):=by rw [wrap_i64]<;>omega
 cases hs:(!b&&isS l p s) with
 |true =>
  rw [hs,if_pos rfl] at hK
  refine ⟨_,_,hK,?_⟩
  clear hK
  refine ACalls.fW aE (tCq r8 tNq) Tryz.func66 [.tmp 4] (nrq _) (T:=ay []) (h:=fun hcl hlt=>?_)
  clear hlt
  have hcl1:=eL hg hcl (p+1) b t
  simp only [go_sem,aN,hg,ar,hp,hl,hs,hcs,e1]
  change af (H.set id (rst m l (p+1) b tb t)) _ _ _
  exact Z19
 |false =>
  rw [hs,if_neg (by simp)] at hK
  refine ⟨_,_,hK,?_⟩
  clear hK
  refine ACalls.fW aE (tCq r8 tNq) Tryz.func66 [.tmp 4] (nrq _) (T:=ay []) (h:=fun hcl hlt=>?_)
  clear hlt
  simp only [go_sem,aN,hg,ar,hp,hl,hs,hcs,e1]
  exact Z0
def pq:List AV→AHeap→(AEnd→AHeap→Prop)→Prop
 |[.ptr id 0,.str x],H,K=>onQ (H.get id) fun m l p b tb t=>(b=false∧id≠tb∧H.get tb=some (.buf 7 t.length)∧t.length≤100000∧p≤l.length∧l.length≤100000) ∧
   if isS l p [58,58]=true then
    onW (fX l (p+1)) (fun y=>K (.ret (.int .i64 (t.length:Int))) ((H.set id (rst m l (p+1+1) false tb (t++[⟨3,0,0,x,y,0⟩]))).set tb (.buf 7 (t.length+1)))) (K (.ret (.int .i64 0)) (H.set id (rst m l (p+1) true tb t)))
   else K (.ret (.int .i64 (t.length:Int))) ((H.set id (rst m l p false tb (t++[⟨3,0,0,x,[],0⟩]))).set tb (.buf 7 (t.length+1)))
 |_,_,_=>False
theorem Bd:EntOk Tryz.prog 108 (Ent.effect pq):=by
 refine EntOk.effect fun args H K h=>?_
 unfold pq at h
 split at h
 rotate_left
 ·exact h.elim
 rename_i id x
 obtain ⟨m,l,p,b,tb,t,hg,⟨rfl,hne,htb,ht,hp,hl⟩,hK⟩:=h
 have hid:=glq hg
 have htbl:=glq htb
 have hcs:=bg (cs:=[.slice m 3 (ce l),.int .i64 (p:Int),.bool false,.slice (.own tb) 7 (nds t)]) hg
 have f1:=bw hid
 have f2:=bw htbl
 have g1:(id=tb)=False:=eq_false hne
 have hgi:∀ o,(H.set id o).get id=some o:=fun o=>AHeap.get_set_same _ _ hid
 have hgt:∀ o,(H.set id o).get tb=some (.buf 7 t.length):=fun o=>by rw [AHeap.get_set_ne _ _ (fun e=>hne e.symm)];exact htb
 have hss:∀ X Y,(H.set id X).set id Y=H.set id Y:=fun X Y=>by simp only [AHeap.set];congr 1;funext k;by_cases hk:k=id<;>simp [hk]
 have hcc:∀ cs,aA (H.set id (.cells cs)) id=some cs:=fun cs=>by rw [cH hid,if_pos rfl]
 cases hs:isS l p [58,58] with
 |false =>
  rw [hs,if_neg (by simp)] at hK
  refine ⟨_,_,hK,?_⟩
  clear hK
  refine ACalls.fW aE (tCq dW (tCq dx tNq)) Tryz.func108 [.tmp 4] (nrq _) (T:=ay [(7,[[],[],[],[],[],[],[],[],[],[],[],[],[],[],[],[5,9,13]])]) (h:=fun hcl hlt=>?_)
  clear hlt
  have hcl1:=eL hg hcl p false (t++[⟨3,0,0,x,[],0⟩])
  have hcl2:((H.set id (rst m l p false tb (t++[⟨3,0,0,x,[],0⟩]))).set tb (.buf 7 (t.length+1))).Closed:=ac hcl1
  simp only [go_sem,aD,aC,hg,ar,hp,hl,hs,Bool.not_false,Bool.true_and,if_false,hne,ne_eq,g1,nFq,htb,ht,aJ,aI,Int.reduceLE]
  exact Z23
 |true =>
  rw [hs,if_pos rfl] at hK
  have hlt0:=bD hs
  have e1:IntKind.i64.wrap (((p+1:Nat):Int)+1)=((p+1+1:Nat):Int):=by rw [wrap_i64]<;>omega
  have e2:IntKind.i64.wrap (((p+1+1:Nat):Int) - 1)=((p+1:Nat):Int):=by rw [wrap_i64]<;>omega
  unfold fX at hK
  by_cases hlt1:p+1<l.length
  ·rcases htk:l[p+1] with ⟨k,y,z⟩
   have hgd:=jf hlt1 htk
   rw [gQq hlt1,htk] at hK
   dsimp only at hK
   have d1:(((p+1:Nat):Int)==(l.length:Int))=false:=by simp;omega
   by_cases hk:k=2
   ·subst hk
    rw [if_pos rfl,dV] at hK
    refine ⟨_,_,hK,?_⟩
    clear hK
    refine ACalls.fW aE (tCq dW (tCq dx tNq)) Tryz.func108 [.tmp 4] (nrq _) (T:=ay [(7,[[],[],[],[],[],[],[],[],[],[],[],[],[],[],[],[5,9,13]])]) (h:=fun hcl hlt=>?_)
    clear hlt
    have d2:(((2:Nat):Int) != 2)=false:=rfl
    have hcl1:=eL hg hcl (p+1+1) false (t++[⟨3,0,0,x,y,0⟩])
    have hcl2:((H.set id (rst m l (p+1+1) false tb (t++[⟨3,0,0,x,y,0⟩]))).set tb (.buf 7 (t.length+1))).Closed:=ac hcl1
    simp only [go_sem,aD,aC,hg,ar,bY,hp,hl,hs,Bool.not_false,Bool.true_and,if_true,hne,ne_eq,g1,nFq,hgi,hgt,hss,hcc,ht,aJ,aI,Int.reduceLE,rst,aB,hgd,d1,d2,e1,e2,iNq]
    refine ⟨by omega,by omega,?_⟩
    change af ((H.set id (rst m l (p+1+1) false tb (t++[⟨3,0,0,x,y,0⟩]))).set tb (.buf 7 (t.length+1))) _ ((H.set id (rst m l (p+1+1) false tb (t++[⟨3,0,0,x,y,0⟩]))).set tb (.buf 7 (t.length+1))) _
    exact Z23
   ·have d2:((k:Int) != 2)=true:=by simp;omega
    rw [if_neg hk,da] at hK
    refine ⟨_,_,hK,?_⟩
    clear hK
    refine ACalls.fW aE (tCq dW (tCq dx tNq)) Tryz.func108 [.tmp 4] (nrq _) (T:=ay [(7,[[],[],[],[],[],[],[],[],[],[],[],[],[],[],[],[5,9,13]])]) (h:=fun hcl hlt=>?_)
    clear hlt
    have hcl1:=eL hg hcl (p+1) true t
    simp only [go_sem,aD,aC,hg,ar,bY,hp,hl,hs,Bool.not_false,Bool.true_and,if_true,hne,ne_eq,g1,nFq,hgi,hgt,hss,hcc,ht,rst,aB,hgd,d1,d2,iNq]
    refine ⟨by omega,?_⟩
    change af (H.set id (rst m l (p+1) true tb t)) _ (H.set id (rst m l (p+1) true tb t)) _
    exact Z19
  ·have hpe:p+1=l.length:=by omega
   rw [gNq (by omega)] at hK
   dsimp only at hK
   rw [da] at hK
   refine ⟨_,_,hK,?_⟩
   clear hK
   refine ACalls.fW aE (tCq dW (tCq dx tNq)) Tryz.func108 [.tmp 4] (nrq _) (T:=ay [(7,[[],[],[],[],[],[],[],[],[],[],[],[],[],[],[],[5,9,13]])]) (h:=fun hcl hlt=>?_)
   clear hlt
   have d1:(((p+1:Nat):Int)==(l.length:Int))=true:=by simp;omega
   have hcl1:=eL hg hcl (p+1) true t
   simp only [go_sem,aD,aC,hg,ar,bY,hp,hl,hs,Bool.not_false,Bool.true_and,if_true,hne,ne_eq,g1,nFq,hgi,hgt,hss,hcc,ht,rst,aB,d1,iNq]
   change af (H.set id (rst m l (p+1) true tb t)) _ (H.set id (rst m l (p+1) true tb t)) _
   exact Z19
def zq (m:Mark) (l:List Tok) (tb id:Nat) (H:AHeap) (K:AV→AHeap→Prop) (p0:Nat) (t0:List Nd) (o:Option PR):Prop:=match o with
 |none=>False
 |some (.ok a p t)=>K (.int .i64 (a:Int)) ((H.set id (rst m l p false tb t)).set tb (.buf 7 t.length))
 |some (.bad p)=>∀ (a:Nat) (t:List Nd),t.length+p0≤t0.length+p→K (.int .i64 (a:Int)) ((H.set id (rst m l p true tb t)).set tb (.buf 7 t.length))
section
variable {m:Mark} {l:List Tok} {tb id p0:Nat} {H:AHeap} {K:AV→AHeap→Prop} {t0:List Nd}
@[congr] theorem Cz {o o':Option PR} (h:o=o'):zq m l tb id H K p0 t0 o=zq m l tb id H K p0 t0 o':=by rw [h]
theorem ax {a p:Nat} {t:List Nd}:zq m l tb id H K p0 t0 (some (.ok a p t))=K (.int .i64 (a:Int)) ((H.set id (rst m l p false tb t)).set tb (.buf 7 t.length)):=rfl
theorem aq {p:Nat}:zq m l tb id H K p0 t0 (some (.bad p))=∀ (a:Nat) (t:List Nd),t.length+p0≤t0.length+p→K (.int .i64 (a:Int)) ((H.set id (rst m l p true tb t)).set tb (.buf 7 t.length)):=rfl
end
def nX (A:Prop) (l:List Tok):Prop:=∀ p,lv l p=1→A
def aG (A:Prop) (rl:Rl) (f:Nat):List AV→AHeap→(AV→AHeap→Prop)→Prop
 |[.ptr id 0],H,K=>onQ (H.get id) fun m l p b tb t=>(b=false∧dB H id tb l p t∧nX A l)∧zq m l tb id H K p t (run l f rl p t)
 |_,_,_=>False
def fA (A:Prop) (f:Nat):=aG A .imp f
def nq (A:Prop) (f:Nat):=aG A .or f
def ju (A:Prop) (f:Nat):=aG A .and f
def gE (A:Prop) (f:Nat):=aG A .not f
def oV (A:Prop) (f:Nat):=aG A .cmp f
def jB (A:Prop) (f:Nat):=aG A .sum f
def iy (A:Prop) (f:Nat):=aG A .un f
def lM (A:Prop) (f:Nat):=aG A .atom f
theorem gk {H:AHeap} {id tb p p':Nat} {o:AObj} {l:List Tok} {t t':List Nd} (h:dB H id tb l p t) (hp:p'≤l.length) (ht:t'.length≤p') (hg:Good t'):dB ((H.set id o).set tb (.buf 7 t'.length)) id tb l p' t':=by
 obtain ⟨h1,h2,h3,h4,h5,h6,h7⟩:=h
 have htb:=glq h2
 refine ⟨h1,?_,ht,hp,h5,h6,hg⟩
 rw [dj,if_pos rfl,if_pos (by simpa [zlf] using htb)]
theorem d8 {H:AHeap} {id tb p:Nat} {m:Mark} {l:List Tok} {b:Bool} {t:List Nd} (hg:H.get id=some (rst m l p b tb t)) (h:dB H id tb l p t) (hcl:H.Closed) :
 (∀ X Y,((H.set id X).set tb Y).get id=some X)∧(∀ X Y,((H.set id X).set tb Y).get tb=some Y)∧(∀ X Y Z,((H.set id X).set tb Y).set id Z=(H.set id Z).set tb Y) ∧
   (∀ p' b' t',((H.set id (rst m l p' b' tb t')).set tb (.buf 7 t'.length)).Closed)∧(∀ X Y Z,((H.set id X).set tb Y).set tb Z=(H.set id X).set tb Z):=by
 obtain ⟨h1,h2,h3,h4,h5,h6,h7⟩:=h
 have hid:=glq hg
 have htb:=glq h2
 refine ⟨fun X Y=>?_,fun X Y=>?_,fun X Y Z=>?_,fun p' b' t'=>ac (eL hg hcl p' b' t'),fun X Y Z=>?_⟩
 ·rw [AHeap.get_set_ne _ _ h1];exact AHeap.get_set_same _ _ hid
 ·exact AHeap.get_set_same _ _ (by simpa [zlf] using htb)
 ·rw [iC h1];congr 1;simp only [AHeap.set];congr 1;funext k;by_cases hk:k=id<;>simp [hk]
 ·simp only [AHeap.set];congr 1;funext k;by_cases hk:k=tb<;>simp [hk]
theorem bB {n:Nat} {K:AV→AHeap→Prop} {H1 H':AHeap} {z:Int} (h:K (.int .i64 z) H1) (hn:n≤H1.nx) (hl:H1.Le H') (hc:H1.Closed):mv n K (.int .i64 z) H' :=
 ⟨_,_,h,hn,by simp [zmo],hl,hc,by simp [znf]⟩
theorem oz {H:AHeap} {tb:Nat} {t:List Nd} (h:H.get tb=some (.buf 7 t.length)) {id:Nat} (hne:id≠tb) (X:AObj):H.set id X=(H.set id X).set tb (.buf 7 t.length):=by
 have h2:=glq h
 unfold AHeap.get at h
 rw [if_pos h2] at h
 simp only [AHeap.set]
 congr 1
 funext k
 by_cases hk:k=tb
 ·subst hk;simp [Ne.symm hne,h]
 ·simp [hk]
theorem A9 {A:Prop} {f:Nat} (h_zOr:EntOk Tryz.prog 65 (Ent.some (nq A f))) (h_zImp:EntOk Tryz.prog 40 (Ent.some (fA A f))):EntOk Tryz.prog 40 (Ent.some (fA A (f+1))):=by
 refine EntOk.some fun args H K h=>?_
 unfold fA aG at h
 split at h
 rotate_left
 ·exact h.elim
 rename_i id
 obtain ⟨m,l,p,b,tb,t,hg,⟨rfl,hpre,hfree⟩,hK⟩:=h
 cases ho:run l (f+1) .imp p t with
 |none=>rw [ho] at hK;exact hK.elim
 |some r =>
 rw [ho] at hK
 rw [run] at ho
 simp only [aZ] at ho
 have hpre':=hpre
 obtain ⟨hne,htb,ht,hp,hl,hgl,hgt⟩:=hpre
 have hid:=glq hg
 have htbl:=glq htb
 have f1:=bw hid
 have f2:=bw htbl
 have hl5:l.length≤100000:=by omega
 have i1:=@Int.natCast_nonneg
 have hne':(id=tb)=False:=eq_false hne
 have hnx:∀ X Y,H.nx≤((H.set id X).set tb Y).nx:=fun X Y=>nrq _
 refine ACallsP.fS aE (tCq h_zOr (tCq dW (tCq h_zImp (tCq dx tNq)))) Tryz.func40 [.tmp 2] (T:=ay []) (h:=fun hcl=>?_)
 obtain ⟨hgi,hgt',hsi,hcl2,hst⟩:=d8 hg hpre' hcl
 rcases aK ho with ⟨q,h1,rfl⟩|⟨a,p1,t1,h1,h2⟩
 ·have hq:=aH _ h1 hgt trivial hp
  obtain ⟨hq1,hq2⟩:=hq
  simp only [go_sem,hfree,f1,f2,hgi,hgt',hsi,hst,ar,aq,ax,aD,aN,aC,aG,hne,ne_eq,hne',hl5,iNq,aJ,aI,i1,Int.reduceLE,eq_self,nFq,Bool.not_true,Bool.not_false,Bool.true_and,Bool.false_and,lAq,yaz,yba,nzq,nq,hg,hpre',h1]
  intro a t' hb
  simp only [aS,go_sem,hfree,f1,f2,hgi,hgt',hsi,hst,ar,aq,ax,aD,aN,aC,aG,hne,ne_eq,hne',hl5,iNq,aJ,aI,i1,Int.reduceLE,eq_self,nFq,Bool.not_true,Bool.not_false,Bool.true_and,Bool.false_and,lAq,yaz,yba,nzq,hq1]
  exact bB (hK a t' hb) (hnx _ _) (lRq _) (hcl2 _ _ _)
 clear ho
 obtain ⟨k1,k2,k3,k4,k5,k6⟩:=aH _ h1 hgt trivial hp
 simp only [Rl.isL,Bool.false_eq_true,if_false] at k4
 have hp1:dB ((H.set id (rst m l p1 false tb t1)).set tb (.buf 7 t1.length)) id tb l p1 t1:=gk hpre' k2 (by omega) k5
 cases hs:isS l p1 [45,62] with
 |false =>
  rw [hs,if_neg (by simp)] at h2
  cases h2
  simp only [go_sem,hfree,f1,f2,hgi,hgt',hsi,hst,ar,aq,ax,aD,aN,aC,aG,hne,ne_eq,hne',hl5,iNq,aJ,aI,i1,Int.reduceLE,eq_self,nFq,Bool.not_true,Bool.not_false,Bool.true_and,Bool.false_and,lAq,yaz,yba,nzq,nq,hg,hpre',h1,k2,hs,if_false]
  exact bB hK (hnx _ _) (lRq _) (hcl2 _ _ _)
 |true =>
  rw [hs,if_pos rfl] at h2
  have hlt1:=bD hs
  have hp2:dB ((H.set id (rst m l (p1+1) false tb t1)).set tb (.buf 7 t1.length)) id tb l (p1+1) t1:=gk hpre' hlt1 (by omega) k5
  rcases aK h2 with ⟨q,h3,rfl⟩|⟨b,p2,t2,h3,h4⟩
  ·obtain ⟨hq1,hq2⟩:=aH _ h3 k5 trivial hlt1
   simp only [go_sem,hfree,f1,f2,hgi,hgt',hsi,hst,ar,aq,ax,aD,aN,aC,aG,hne,ne_eq,hne',hl5,iNq,aJ,aI,i1,Int.reduceLE,eq_self,nFq,Bool.not_true,Bool.not_false,Bool.true_and,Bool.false_and,lAq,yaz,yba,nzq,nq,fA,hg,hpre',h1,k2,hs,if_true,hp2,h3]
   intro b t' hb
   have ht2:t'.length≤100000:=by omega
   simp only [aS,go_sem,hfree,f1,f2,hgi,hgt',hsi,hst,ar,aq,ax,aD,aN,aC,aG,hne,ne_eq,hne',hl5,iNq,aJ,aI,i1,Int.reduceLE,eq_self,nFq,Bool.not_true,Bool.not_false,Bool.true_and,Bool.false_and,lAq,yaz,yba,nzq,hq1,ht2]
   have hK':=hK t'.length (t'++[⟨16,a,b,[],[],0⟩]) (by simp;omega)
   have hc3:=hcl2 q true (t'++[⟨16,a,b,[],[],0⟩])
   simp only [lAq,yaz,yba,nzq] at hK' hc3
   exact bB hK' (hnx _ _) (lRq _) hc3
  cases h4
  obtain ⟨k1b,k2b,k3b,k4b,k5b,k6b⟩:=aH _ h3 k5 trivial hlt1
  simp only [Rl.isL,Bool.false_eq_true,if_false] at k4b
  have ht2:t2.length≤100000:=by omega
  simp only [go_sem,hfree,f1,f2,hgi,hgt',hsi,hst,ar,aq,ax,aD,aN,aC,aG,hne,ne_eq,hne',hl5,iNq,aJ,aI,i1,Int.reduceLE,eq_self,nFq,Bool.not_true,Bool.not_false,Bool.true_and,Bool.false_and,lAq,yaz,yba,nzq,nq,fA,hg,hpre',h1,k2,hs,if_true,hp2,h3,ht2,nd2]
  have hc3:=hcl2 p2 false (t2++[⟨16,a,b,[],[],0⟩])
  simp only [lAq,yaz,yba,nzq,ax,nd2] at hK hc3
  exact bB hK (hnx _ _) (lRq _) hc3
theorem Br {l:List Tok} {p:Nat} {s s':List UInt8} (h:isS l p s=true) (h':isS l p s'=true):s=s':=by
 unfold isS at h h'
 split at h
 ·rename_i k x z e
  rw [e] at h'
  simp only [Bool.and_eq_true,beq_iff_eq] at h h'
  rw [← h.2,h'.2]
 ·cases h
theorem wR {m:Mark} {l:List Tok} {p tb:Nat} {b:Bool} {t:List Nd}:rst m l p b tb t=.cells [.slice m 3 (ce l),.int .i64 (p:Int),.bool b,.slice (.own tb) 7 (nds t)]:=rfl
theorem Ce {A:Prop} {f:Nat} (h_zAnd:EntOk Tryz.prog 86 (Ent.some (ju A f))):EntOk Tryz.prog 65 (Ent.some (nq A (f+1))):=by
 refine EntOk.some fun args H K h=>?_
 unfold nq aG at h
 split at h
 rotate_left
 ·exact h.elim
 rename_i id
 obtain ⟨m,l,p,b,tb,t,hg,⟨rfl,hpre,hfree⟩,hK⟩:=h
 cases ho:run l (f+1) .or p t with
 |none=>rw [ho] at hK;exact hK.elim
 |some r =>
 rw [ho] at hK
 rw [run] at ho
 simp only [aZ] at ho
 have hpre':=hpre
 obtain ⟨hne,htb,ht,hp,hl,hgl,hgt⟩:=hpre
 have hid:=glq hg
 have htbl:=glq htb
 have f1:=bw hid
 have f2:=bw htbl
 have hl5:l.length≤100000:=by omega
 have i1:=@Int.natCast_nonneg
 have hne':(id=tb)=False:=eq_false hne
 have hnx:∀ X Y,H.nx≤((H.set id X).set tb Y).nx:=fun X Y=>nrq _
 refine ACallsP.fS aE (tCq h_zAnd (tCq dW (tCq dx tNq))) Tryz.func65 [.tmp 2] (T:=ay []) (h:=fun hcl=>?_)
 obtain ⟨hgi,hgt',hsi,hcl2,hst⟩:=d8 hg hpre' hcl
 rcases aK ho with ⟨q,h1,hrq⟩|⟨a,p1,t1,h1,h2⟩
 case' inl =>
  obtain ⟨hq1,hq2⟩:=aH _ h1 hgt trivial hp
  simp only [go_sem,hfree,f1,f2,hgi,hgt',hsi,hst,ar,aq,ax,aD,aN,aC,aG,hne,ne_eq,hne',hl5,iNq,aJ,aI,i1,Int.reduceLE,eq_self,nFq,Bool.not_true,Bool.not_false,Bool.true_and,Bool.false_and,lAq,yaz,yba,nzq,ju,hg,hpre',h1]
  intro a t' hb
  try simp only [aS,go_sem,hfree,f1,f2,hgi,hgt',hsi,hst,ar,aq,ax,aD,aN,aC,aG,hne,ne_eq,hne',hl5,iNq,aJ,aI,i1,Int.reduceLE,eq_self,nFq,Bool.not_true,Bool.not_false,Bool.true_and,Bool.false_and,lAq,yaz,yba,nzq,hq1]
  refine au (A:=Nat × Nat × Nat × List Nd × Bool) (fun x=>[(0,.ptr id 0),(3,.int .i64 (x.2.1:Int))]) (fun x=>(H.set id (rst m l x.2.2.1 x.2.2.2.2 tb x.2.2.2.1)).set tb (.buf 7 x.2.2.2.1.length)) (fun x=>(x.2.2.2.2=false∧x.1≤f∧run l x.1 (.orL x.2.1) x.2.2.1 x.2.2.2.1=some r∧x.2.2.1≤l.length∧x.2.2.2.1.length≤x.2.2.1∧Good x.2.2.2.1∧x.2.1<x.2.2.2.1.length∧x.2.2.2.1.length+p≤t.length+x.2.2.1)∨(x.2.2.2.2=true∧r=.bad x.2.2.1∧x.2.2.1≤l.length∧x.2.2.2.1.length+p≤t.length+x.2.2.1)) (fun x=>if x.2.2.2.2 then 0 else x.1+1) (0,a,q,t',true) (.inr ⟨rfl,hrq,hq1,hb⟩) ?_ ?_
  ·exact Z26
 case' inr =>
  clear ho
  obtain ⟨k1,k2,k3,k4,k5,k6⟩:=aH _ h1 hgt trivial hp
  simp only [Rl.isL,Bool.false_eq_true,if_false] at k4
  simp only [go_sem,hfree,f1,f2,hgi,hgt',hsi,hst,ar,aq,ax,aD,aN,aC,aG,hne,ne_eq,hne',hl5,iNq,aJ,aI,i1,Int.reduceLE,eq_self,nFq,Bool.not_true,Bool.not_false,Bool.true_and,Bool.false_and,lAq,yaz,yba,nzq,ju,hg,hpre',h1]
  refine au (A:=Nat × Nat × Nat × List Nd × Bool) (fun x=>[(0,.ptr id 0),(3,.int .i64 (x.2.1:Int))]) (fun x=>(H.set id (rst m l x.2.2.1 x.2.2.2.2 tb x.2.2.2.1)).set tb (.buf 7 x.2.2.2.1.length)) (fun x=>(x.2.2.2.2=false∧x.1≤f∧run l x.1 (.orL x.2.1) x.2.2.1 x.2.2.2.1=some r∧x.2.2.1≤l.length∧x.2.2.2.1.length≤x.2.2.1∧Good x.2.2.2.1∧x.2.1<x.2.2.2.1.length∧x.2.2.2.1.length+p≤t.length+x.2.2.1)∨(x.2.2.2.2=true∧r=.bad x.2.2.1∧x.2.2.1≤l.length∧x.2.2.2.1.length+p≤t.length+x.2.2.1)) (fun x=>if x.2.2.2.2 then 0 else x.1+1) (f,a,p1,t1,false) (.inl ⟨rfl,nrq _,h2,k2,(by show t1.length≤p1;omega),k5,k1,k3⟩) ?_ ?_
  ·exact Z26
 all_goals
  clear h1
  intro x hx
  obtain ⟨g,a',p',t',bd⟩:=x
  rcases hx with ⟨hbd,x1,x2,x3,x4,x5,x6,x7⟩|⟨hbd,x1,x3,x7⟩
  ·dsimp only at hbd x1 x2 x3 x4 x5 x6 x7 ⊢
   subst hbd
   have ht':t'.length≤100000:=by omega
   cases g with
   |zero=>cases x2
   |succ g =>
   rw [run] at x2
   simp only [aZ] at x2
   cases hs:isS l p' [124,124] with
   |false =>
    rw [hs,if_neg (by simp)] at x2
    rw [← x2,ax] at hK
    simp only [go_sem,hfree,f1,f2,hgi,hgt',hsi,hst,ar,aq,ax,aD,aN,aC,aG,hne,ne_eq,hne',hl5,iNq,aJ,aI,i1,Int.reduceLE,eq_self,nFq,Bool.not_true,Bool.not_false,Bool.true_and,Bool.false_and,lAq,yaz,yba,nzq,x3,hs,if_false]
    exact bB hK (hnx _ _) (lRq _) (hcl2 _ _ _)
   |true =>
    rw [hs,if_pos rfl] at x2
    have hlt1:=bD hs
    have hp2:dB ((H.set id (rst m l (p'+1) false tb t')).set tb (.buf 7 t'.length)) id tb l (p'+1) t':=gk hpre' hlt1 (by omega) x5
    rcases aK x2 with ⟨q2,h3,hr2⟩|⟨b,p2,t2,h3,h4⟩
    ·have h3':=bI (show g≤f by omega) h3
     obtain ⟨hq3,hq4⟩:=aH _ h3 x5 trivial hlt1
     simp only [go_sem,hfree,f1,f2,hgi,hgt',hsi,hst,ar,aq,ax,aD,aN,aC,aG,hne,ne_eq,hne',hl5,iNq,aJ,aI,i1,Int.reduceLE,eq_self,nFq,Bool.not_true,Bool.not_false,Bool.true_and,Bool.false_and,lAq,yaz,yba,nzq,ju,x3,hs,if_true,hp2,h3']
     intro b t2 hb2
     have ht2:t2.length≤100000:=by omega
     simp only [aS,go_sem,hfree,f1,f2,hgi,hgt',hsi,hst,ar,aq,ax,aD,aN,aC,aG,hne,ne_eq,hne',hl5,iNq,aJ,aI,i1,Int.reduceLE,eq_self,nFq,Bool.not_true,Bool.not_false,Bool.true_and,Bool.false_and,lAq,yaz,yba,nzq,ht2]
     have hc3:=hcl2 q2 true (t2++[⟨15,a',b,[],[],0⟩])
     refine ⟨(0,t2.length,q2,t2++[⟨15,a',b,[],[],0⟩],true),.inr ⟨rfl,hr2,hq3,by simp;omega⟩,by simp,?_⟩
     simp only [lAq,yaz,yba,nzq] at hc3 ⊢
     exact Z27
    ·have h3':=bI (show g≤f by omega) h3
     obtain ⟨k1b,k2b,k3b,k4b,k5b,k6b⟩:=aH _ h3 x5 trivial hlt1
     simp only [Rl.isL,Bool.false_eq_true,if_false] at k4b
     have ht2:t2.length≤100000:=by omega
     simp only [go_sem,hfree,f1,f2,hgi,hgt',hsi,hst,ar,aq,ax,aD,aN,aC,aG,hne,ne_eq,hne',hl5,iNq,aJ,aI,i1,Int.reduceLE,eq_self,nFq,Bool.not_true,Bool.not_false,Bool.true_and,Bool.false_and,lAq,yaz,yba,nzq,ju,x3,hs,if_true,hp2,h3',ht2]
     have hc3:=hcl2 p2 false (t2++[⟨15,a',b,[],[],0⟩])
     refine ⟨(g,t2.length,p2,t2++[⟨15,a',b,[],[],0⟩],false),.inl ⟨rfl,by dsimp only;omega,h4,k2b,by simp;omega,k5b.snoc ⟨(show 1≤15 by decide),(show 15≤16 by decide)⟩ (show (0:Nat)<2^128 by decide) (.inr ⟨by simp only;omega,by simp only;omega⟩),by simp,by simp;omega⟩,by simp,?_⟩
     simp only [lAq,yaz,yba,nzq] at hc3 ⊢
     exact Z27
  ·dsimp only at hbd x1 x3 x7 ⊢
   subst hbd
   rw [x1,aq] at hK
   simp only [go_sem,hfree,f1,f2,hgi,hgt',hsi,hst,ar,aq,ax,aD,aN,aC,aG,hne,ne_eq,hne',hl5,iNq,aJ,aI,i1,Int.reduceLE,eq_self,nFq,Bool.not_true,Bool.not_false,Bool.true_and,Bool.false_and,lAq,yaz,yba,nzq,x3,if_false]
   exact bB (hK a' t' x7) (hnx _ _) (lRq _) (hcl2 _ _ _)
theorem AG {A:Prop} {f:Nat} (h_zNot:EntOk Tryz.prog 93 (Ent.some (gE A f))):EntOk Tryz.prog 86 (Ent.some (ju A (f+1))):=by
 refine EntOk.some fun args H K h=>?_
 unfold ju aG at h
 split at h
 rotate_left
 ·exact h.elim
 rename_i id
 obtain ⟨m,l,p,b,tb,t,hg,⟨rfl,hpre,hfree⟩,hK⟩:=h
 cases ho:run l (f+1) .and p t with
 |none=>rw [ho] at hK;exact hK.elim
 |some r =>
 rw [ho] at hK
 rw [run] at ho
 simp only [aZ] at ho
 have hpre':=hpre
 obtain ⟨hne,htb,ht,hp,hl,hgl,hgt⟩:=hpre
 have hid:=glq hg
 have htbl:=glq htb
 have f1:=bw hid
 have f2:=bw htbl
 have hl5:l.length≤100000:=by omega
 have i1:=@Int.natCast_nonneg
 have hne':(id=tb)=False:=eq_false hne
 have hnx:∀ X Y,H.nx≤((H.set id X).set tb Y).nx:=fun X Y=>nrq _
 refine ACallsP.fS aE (tCq h_zNot (tCq dW (tCq dx tNq))) Tryz.func86 [.tmp 2] (T:=ay []) (h:=fun hcl=>?_)
 obtain ⟨hgi,hgt',hsi,hcl2,hst⟩:=d8 hg hpre' hcl
 rcases aK ho with ⟨q,h1,hrq⟩|⟨a,p1,t1,h1,h2⟩
 case' inl =>
  obtain ⟨hq1,hq2⟩:=aH _ h1 hgt trivial hp
  simp only [go_sem,hfree,f1,f2,hgi,hgt',hsi,hst,ar,aq,ax,aD,aN,aC,aG,hne,ne_eq,hne',hl5,iNq,aJ,aI,i1,Int.reduceLE,eq_self,nFq,Bool.not_true,Bool.not_false,Bool.true_and,Bool.false_and,lAq,yaz,yba,nzq,gE,hg,hpre',h1]
  intro a t' hb
  try simp only [aS,go_sem,hfree,f1,f2,hgi,hgt',hsi,hst,ar,aq,ax,aD,aN,aC,aG,hne,ne_eq,hne',hl5,iNq,aJ,aI,i1,Int.reduceLE,eq_self,nFq,Bool.not_true,Bool.not_false,Bool.true_and,Bool.false_and,lAq,yaz,yba,nzq,hq1]
  refine au (A:=Nat × Nat × Nat × List Nd × Bool) (fun x=>[(0,.ptr id 0),(3,.int .i64 (x.2.1:Int))]) (fun x=>(H.set id (rst m l x.2.2.1 x.2.2.2.2 tb x.2.2.2.1)).set tb (.buf 7 x.2.2.2.1.length)) (fun x=>(x.2.2.2.2=false∧x.1≤f∧run l x.1 (.andL x.2.1) x.2.2.1 x.2.2.2.1=some r∧x.2.2.1≤l.length∧x.2.2.2.1.length≤x.2.2.1∧Good x.2.2.2.1∧x.2.1<x.2.2.2.1.length∧x.2.2.2.1.length+p≤t.length+x.2.2.1)∨(x.2.2.2.2=true∧r=.bad x.2.2.1∧x.2.2.1≤l.length∧x.2.2.2.1.length+p≤t.length+x.2.2.1)) (fun x=>if x.2.2.2.2 then 0 else x.1+1) (0,a,q,t',true) (.inr ⟨rfl,hrq,hq1,hb⟩) ?_ ?_
  ·exact Z26
 case' inr =>
  clear ho
  obtain ⟨k1,k2,k3,k4,k5,k6⟩:=aH _ h1 hgt trivial hp
  simp only [Rl.isL,Bool.false_eq_true,if_false] at k4
  simp only [go_sem,hfree,f1,f2,hgi,hgt',hsi,hst,ar,aq,ax,aD,aN,aC,aG,hne,ne_eq,hne',hl5,iNq,aJ,aI,i1,Int.reduceLE,eq_self,nFq,Bool.not_true,Bool.not_false,Bool.true_and,Bool.false_and,lAq,yaz,yba,nzq,gE,hg,hpre',h1]
  refine au (A:=Nat × Nat × Nat × List Nd × Bool) (fun x=>[(0,.ptr id 0),(3,.int .i64 (x.2.1:Int))]) (fun x=>(H.set id (rst m l x.2.2.1 x.2.2.2.2 tb x.2.2.2.1)).set tb (.buf 7 x.2.2.2.1.length)) (fun x=>(x.2.2.2.2=false∧x.1≤f∧run l x.1 (.andL x.2.1) x.2.2.1 x.2.2.2.1=some r∧x.2.2.1≤l.length∧x.2.2.2.1.length≤x.2.2.1∧Good x.2.2.2.1∧x.2.1<x.2.2.2.1.length∧x.2.2.2.1.length+p≤t.length+x.2.2.1)∨(x.2.2.2.2=true∧r=.bad x.2.2.1∧x.2.2.1≤l.length∧x.2.2.2.1.length+p≤t.length+x.2.2.1)) (fun x=>if x.2.2.2.2 then 0 else x.1+1) (f,a,p1,t1,false) (.inl ⟨rfl,nrq _,h2,k2,(by show t1.length≤p1;omega),k5,k1,k3⟩) ?_ ?_
  ·exact Z26
 all_goals
  clear h1
  intro x hx
  obtain ⟨g,a',p',t',bd⟩:=x
  rcases hx with ⟨hbd,x1,x2,x3,x4,x5,x6,x7⟩|⟨hbd,x1,x3,x7⟩
  ·dsimp only at hbd x1 x2 x3 x4 x5 x6 x7 ⊢
   subst hbd
   have ht':t'.length≤100000:=by omega
   cases g with
   |zero=>cases x2
   |succ g =>
   rw [run] at x2
   simp only [aZ] at x2
   cases hs:isS l p' [38,38] with
   |false =>
    rw [hs,if_neg (by simp)] at x2
    rw [← x2,ax] at hK
    simp only [go_sem,hfree,f1,f2,hgi,hgt',hsi,hst,ar,aq,ax,aD,aN,aC,aG,hne,ne_eq,hne',hl5,iNq,aJ,aI,i1,Int.reduceLE,eq_self,nFq,Bool.not_true,Bool.not_false,Bool.true_and,Bool.false_and,lAq,yaz,yba,nzq,x3,hs,if_false]
    exact bB hK (hnx _ _) (lRq _) (hcl2 _ _ _)
   |true =>
    rw [hs,if_pos rfl] at x2
    have hlt1:=bD hs
    have hp2:dB ((H.set id (rst m l (p'+1) false tb t')).set tb (.buf 7 t'.length)) id tb l (p'+1) t':=gk hpre' hlt1 (by omega) x5
    rcases aK x2 with ⟨q2,h3,hr2⟩|⟨b,p2,t2,h3,h4⟩
    ·have h3':=bI (show g≤f by omega) h3
     obtain ⟨hq3,hq4⟩:=aH _ h3 x5 trivial hlt1
     simp only [go_sem,hfree,f1,f2,hgi,hgt',hsi,hst,ar,aq,ax,aD,aN,aC,aG,hne,ne_eq,hne',hl5,iNq,aJ,aI,i1,Int.reduceLE,eq_self,nFq,Bool.not_true,Bool.not_false,Bool.true_and,Bool.false_and,lAq,yaz,yba,nzq,gE,x3,hs,if_true,hp2,h3']
     intro b t2 hb2
     have ht2:t2.length≤100000:=by omega
     simp only [aS,go_sem,hfree,f1,f2,hgi,hgt',hsi,hst,ar,aq,ax,aD,aN,aC,aG,hne,ne_eq,hne',hl5,iNq,aJ,aI,i1,Int.reduceLE,eq_self,nFq,Bool.not_true,Bool.not_false,Bool.true_and,Bool.false_and,lAq,yaz,yba,nzq,ht2]
     have hc3:=hcl2 q2 true (t2++[⟨14,a',b,[],[],0⟩])
     refine ⟨(0,t2.length,q2,t2++[⟨14,a',b,[],[],0⟩],true),.inr ⟨rfl,hr2,hq3,by simp;omega⟩,by simp,?_⟩
     simp only [lAq,yaz,yba,nzq] at hc3 ⊢
     exact Z27
    ·have h3':=bI (show g≤f by omega) h3
     obtain ⟨k1b,k2b,k3b,k4b,k5b,k6b⟩:=aH _ h3 x5 trivial hlt1
     simp only [Rl.isL,Bool.false_eq_true,if_false] at k4b
     have ht2:t2.length≤100000:=by omega
     simp only [go_sem,hfree,f1,f2,hgi,hgt',hsi,hst,ar,aq,ax,aD,aN,aC,aG,hne,ne_eq,hne',hl5,iNq,aJ,aI,i1,Int.reduceLE,eq_self,nFq,Bool.not_true,Bool.not_false,Bool.true_and,Bool.false_and,lAq,yaz,yba,nzq,gE,x3,hs,if_true,hp2,h3',ht2]
     have hc3:=hcl2 p2 false (t2++[⟨14,a',b,[],[],0⟩])
     refine ⟨(g,t2.length,p2,t2++[⟨14,a',b,[],[],0⟩],false),.inl ⟨rfl,by dsimp only;omega,h4,k2b,by simp;omega,k5b.snoc ⟨(show 1≤14 by decide),(show 14≤16 by decide)⟩ (show (0:Nat)<2^128 by decide) (.inr ⟨by simp only;omega,by simp only;omega⟩),by simp,by simp;omega⟩,by simp,?_⟩
     simp only [lAq,yaz,yba,nzq] at hc3 ⊢
     exact Z27
  ·dsimp only at hbd x1 x3 x7 ⊢
   subst hbd
   rw [x1,aq] at hK
   simp only [go_sem,hfree,f1,f2,hgi,hgt',hsi,hst,ar,aq,ax,aD,aN,aC,aG,hne,ne_eq,hne',hl5,iNq,aJ,aI,i1,Int.reduceLE,eq_self,nFq,Bool.not_true,Bool.not_false,Bool.true_and,Bool.false_and,lAq,yaz,yba,nzq,x3,if_false]
   exact bB (hK a' t' x7) (hnx _ _) (lRq _) (hcl2 _ _ _)
theorem A4 {A:Prop} {f:Nat} (h_zUn:EntOk Tryz.prog 103 (Ent.some (iy A f))):EntOk Tryz.prog 100 (Ent.some (jB A (f+1))):=by
 refine EntOk.some fun args H K h=>?_
 unfold jB aG at h
 split at h
 rotate_left
 ·exact h.elim
 rename_i id
 obtain ⟨m,l,p,b,tb,t,hg,⟨rfl,hpre,hfree⟩,hK⟩:=h
 cases ho:run l (f+1) .sum p t with
 |none=>rw [ho] at hK;exact hK.elim
 |some r =>
 rw [ho] at hK
 rw [run] at ho
 simp only [aZ] at ho
 have hpre':=hpre
 obtain ⟨hne,htb,ht,hp,hl,hgl,hgt⟩:=hpre
 have hid:=glq hg
 have htbl:=glq htb
 have f1:=bw hid
 have f2:=bw htbl
 have hl5:l.length≤100000:=by omega
 have i1:=@Int.natCast_nonneg
 have hne':(id=tb)=False:=eq_false hne
 have hnx:∀ X Y,H.nx≤((H.set id X).set tb Y).nx:=fun X Y=>nrq _
 refine ACallsP.fS aE (tCq h_zUn (tCq r8 (tCq dx tNq))) Tryz.func100 [.tmp 2] (T:=ay []) (h:=fun hcl=>?_)
 obtain ⟨hgi,hgt',hsi,hcl2,hst⟩:=d8 hg hpre' hcl
 rcases aK ho with ⟨q,h1,hrq⟩|⟨a,p1,t1,h1,h2⟩
 case' inl =>
  obtain ⟨hq1,hq2⟩:=aH _ h1 hgt trivial hp
  simp only [go_sem,hfree,f1,f2,hgi,hgt',hsi,hst,ar,aq,ax,aD,aN,aC,aG,hne,ne_eq,hne',hl5,iNq,aJ,aI,i1,Int.reduceLE,eq_self,nFq,Bool.not_true,Bool.not_false,Bool.true_and,Bool.false_and,lAq,yaz,yba,nzq,iy,hg,hpre',h1]
  intro a t' hb
  try simp only [aS,go_sem,hfree,f1,f2,hgi,hgt',hsi,hst,ar,aq,ax,aD,aN,aC,aG,hne,ne_eq,hne',hl5,iNq,aJ,aI,i1,Int.reduceLE,eq_self,nFq,Bool.not_true,Bool.not_false,Bool.true_and,Bool.false_and,lAq,yaz,yba,nzq,hq1]
  refine au (A:=Nat × Nat × Nat × List Nd × Bool) (fun x=>[(0,.ptr id 0),(3,.int .i64 (x.2.1:Int))]) (fun x=>(H.set id (rst m l x.2.2.1 x.2.2.2.2 tb x.2.2.2.1)).set tb (.buf 7 x.2.2.2.1.length)) (fun x=>(x.2.2.2.2=false∧x.1≤f∧run l x.1 (.sumL x.2.1) x.2.2.1 x.2.2.2.1=some r∧x.2.2.1≤l.length∧x.2.2.2.1.length≤x.2.2.1∧Good x.2.2.2.1∧x.2.1<x.2.2.2.1.length∧x.2.2.2.1.length+p≤t.length+x.2.2.1)∨(x.2.2.2.2=true∧r=.bad x.2.2.1∧x.2.2.1≤l.length∧x.2.2.2.1.length+p≤t.length+x.2.2.1)) (fun x=>if x.2.2.2.2 then 0 else x.1+1) (0,a,q,t',true) (.inr ⟨rfl,hrq,hq1,hb⟩) ?_ ?_
  ·exact Z26
 case' inr =>
  clear ho
  obtain ⟨k1,k2,k3,k4,k5,k6⟩:=aH _ h1 hgt trivial hp
  simp only [Rl.isL,Bool.false_eq_true,if_false] at k4
  simp only [go_sem,hfree,f1,f2,hgi,hgt',hsi,hst,ar,aq,ax,aD,aN,aC,aG,hne,ne_eq,hne',hl5,iNq,aJ,aI,i1,Int.reduceLE,eq_self,nFq,Bool.not_true,Bool.not_false,Bool.true_and,Bool.false_and,lAq,yaz,yba,nzq,iy,hg,hpre',h1]
  refine au (A:=Nat × Nat × Nat × List Nd × Bool) (fun x=>[(0,.ptr id 0),(3,.int .i64 (x.2.1:Int))]) (fun x=>(H.set id (rst m l x.2.2.1 x.2.2.2.2 tb x.2.2.2.1)).set tb (.buf 7 x.2.2.2.1.length)) (fun x=>(x.2.2.2.2=false∧x.1≤f∧run l x.1 (.sumL x.2.1) x.2.2.1 x.2.2.2.1=some r∧x.2.2.1≤l.length∧x.2.2.2.1.length≤x.2.2.1∧Good x.2.2.2.1∧x.2.1<x.2.2.2.1.length∧x.2.2.2.1.length+p≤t.length+x.2.2.1)∨(x.2.2.2.2=true∧r=.bad x.2.2.1∧x.2.2.1≤l.length∧x.2.2.2.1.length+p≤t.length+x.2.2.1)) (fun x=>if x.2.2.2.2 then 0 else x.1+1) (f,a,p1,t1,false) (.inl ⟨rfl,nrq _,h2,k2,(by show t1.length≤p1;omega),k5,k1,k3⟩) ?_ ?_
  ·exact Z26
 all_goals
  clear h1
  intro x hx
  obtain ⟨g,a',p',t',bd⟩:=x
  rcases hx with ⟨hbd,x1,x2,x3,x4,x5,x6,x7⟩|⟨hbd,x1,x3,x7⟩
  ·dsimp only at hbd x1 x2 x3 x4 x5 x6 x7 ⊢
   subst hbd
   have ht':t'.length≤100000:=by omega
   cases g with
   |zero=>cases x2
   |succ g =>
   rw [run] at x2
   simp only [aZ] at x2
   have e1:IntKind.i64.wrap ((p':Int)+1)=((p'+1:Nat):Int):=by rw [wrap_i64]<;>omega
   have hcc:∀ X Y,aA ((H.set id (.cells X)).set tb Y) id=some X:=fun X Y=>by rw [bJ hne,cH hid,if_pos rfl]
   cases hs:cv l p' opsS with
   |none =>
    rw [hs] at x2
    dsimp only at x2
    rw [← x2,ax] at hK
    have hs1:isS l p' [43]=false:=by
     cases h:isS l p' [43] with
     |false=>rfl
     |true=>simp [cv,opsS,h] at hs
    have hs2:isS l p' [45]=false:=by
     cases h:isS l p' [45] with
     |false=>rfl
     |true=>simp [cv,opsS,hs1,h] at hs
    simp only [go_sem,hfree,f1,f2,hgi,hgt',hsi,hst,ar,aq,ax,aD,aN,aC,aG,hne,ne_eq,hne',hl5,iNq,aJ,aI,i1,Int.reduceLE,eq_self,nFq,Bool.not_true,Bool.not_false,Bool.true_and,Bool.false_and,lAq,yaz,yba,nzq,x3,hs1,hs2,Bool.and_false]
    exact bB hK (hnx _ _) (lRq _) (hcl2 _ _ _)
   |some op =>
    rw [hs] at x2
    dsimp only at x2
    obtain ⟨hlt1,so,hso⟩:=dT hs
    obtain ⟨o1,o2⟩:=kB hso
    have hp2:dB ((H.set id (rst m l (p'+1) false tb t')).set tb (.buf 7 t'.length)) id tb l (p'+1) t':=gk hpre' hlt1 (by omega) x5
    have hcases:(isS l p' [43]=true∧isS l p' [45]=false∧op=6)∨(isS l p' [43]=false∧isS l p' [45]=true∧op=7):=by
     cases h1:isS l p' [43] with
     |true =>
      left
      simp only [cv,opsS,h1,if_true] at hs
      cases hs
      refine ⟨rfl,?_,rfl⟩
      cases h2:isS l p' [45] with
      |false=>rfl
      |true=>exact absurd (Br h1 h2) (by decide)
     |false =>
      right
      cases h2:isS l p' [45] with
      |false=>simp [cv,opsS,h1,h2] at hs
      |true=>simp [cv,opsS,h1,h2] at hs;exact ⟨rfl,rfl,hs.symm⟩
    rcases hcases with ⟨hs1,hs2,hop⟩|⟨hs1,hs2,hop⟩
    all_goals
     subst hop
     rcases aK x2 with ⟨q2,h3,hr2⟩|⟨b,p2,t2,h3,h4⟩
     ·have h3':=bI (show g≤f by omega) h3
      obtain ⟨hq3,hq4⟩:=aH _ h3 x5 trivial hlt1
      simp only [go_sem,hfree,f1,f2,hgi,hgt',hsi,hst,ar,aq,ax,aD,aN,aC,aG,hne,ne_eq,hne',hl5,iNq,aJ,aI,i1,Int.reduceLE,eq_self,nFq,Bool.not_true,Bool.not_false,Bool.true_and,Bool.false_and,lAq,yaz,yba,nzq,iy,x3,hs1,hs2,Bool.and_true,Bool.and_false,bY,rst,hcc,e1]
      simp only [← wR,go_sem,hfree,f1,f2,hgi,hgt',hsi,hst,ar,aq,ax,aD,aN,aC,aG,hne,ne_eq,hne',hl5,iNq,aJ,aI,i1,Int.reduceLE,eq_self,nFq,Bool.not_true,Bool.not_false,Bool.true_and,Bool.false_and,lAq,yaz,yba,nzq,iy,hp2,h3']
      intro b t2 hb2
      have ht2:t2.length≤100000:=by omega
      simp only [aS,go_sem,hfree,f1,f2,hgi,hgt',hsi,hst,ar,aq,ax,aD,aN,aC,aG,hne,ne_eq,hne',hl5,iNq,aJ,aI,i1,Int.reduceLE,eq_self,nFq,Bool.not_true,Bool.not_false,Bool.true_and,Bool.false_and,lAq,yaz,yba,nzq,ht2]
      first
      |(have hc3:=hcl2 q2 true (t2++[⟨6,a',b,[],[],0⟩])
        refine ⟨(0,t2.length,q2,t2++[⟨6,a',b,[],[],0⟩],true),.inr ⟨rfl,hr2,hq3,by simp;omega⟩,by simp,?_⟩
        simp only [lAq,yaz,yba,nzq] at hc3 ⊢
        (simp only [bkq,enterW,aU,ltF,ne_eq,Nat.reduceEqDiff,reduceCtorEq,hc3,hid];try simp (disch:=first|exact Zd|omega) [↓zmo,beq,ybc,ybd,ybe,af,wk,wk2,wk1,wkM,wkL,am,ybf,byq,biq,ae,hcl,hc3,hid];try (repeat' (first|assumption|omega|exact True.intro|refine And.intro ?_ ?_|refine ag ?_|refine ac ?_|refine aa ?_ ?_|refine ai ?_ ?_|refine ak ?_|exact lRq _|refine lPq ?_ _|refine AHeap.Le.del ?_ ?_|(simp only [bt,and_true,true_and,hc3,hid];first|done|omega|(simp;done)))))
        done)
      |(have hc3:=hcl2 q2 true (t2++[⟨7,a',b,[],[],0⟩])
        refine ⟨(0,t2.length,q2,t2++[⟨7,a',b,[],[],0⟩],true),.inr ⟨rfl,hr2,hq3,by simp;omega⟩,by simp,?_⟩
        simp only [lAq,yaz,yba,nzq] at hc3 ⊢
        (simp only [bkq,enterW,aU,ltF,ne_eq,Nat.reduceEqDiff,reduceCtorEq,hc3,hid];try simp (disch:=first|exact Zd|omega) [↓zmo,beq,ybc,ybd,ybe,af,wk,wk2,wk1,wkM,wkL,am,ybf,byq,biq,ae,hcl,hc3,hid];try (repeat' (first|assumption|omega|exact True.intro|refine And.intro ?_ ?_|refine ag ?_|refine ac ?_|refine aa ?_ ?_|refine ai ?_ ?_|refine ak ?_|exact lRq _|refine lPq ?_ _|refine AHeap.Le.del ?_ ?_|(simp only [bt,and_true,true_and,hc3,hid];first|done|omega|(simp;done)))))
        done)
     ·have h3':=bI (show g≤f by omega) h3
      obtain ⟨k1b,k2b,k3b,k4b,k5b,k6b⟩:=aH _ h3 x5 trivial hlt1
      simp only [Rl.isL,Bool.false_eq_true,if_false] at k4b
      have ht2:t2.length≤100000:=by omega
      simp only [go_sem,hfree,f1,f2,hgi,hgt',hsi,hst,ar,aq,ax,aD,aN,aC,aG,hne,ne_eq,hne',hl5,iNq,aJ,aI,i1,Int.reduceLE,eq_self,nFq,Bool.not_true,Bool.not_false,Bool.true_and,Bool.false_and,lAq,yaz,yba,nzq,iy,x3,hs1,hs2,Bool.and_true,Bool.and_false,bY,rst,hcc,e1]
      simp only [← wR,go_sem,hfree,f1,f2,hgi,hgt',hsi,hst,ar,aq,ax,aD,aN,aC,aG,hne,ne_eq,hne',hl5,iNq,aJ,aI,i1,Int.reduceLE,eq_self,nFq,Bool.not_true,Bool.not_false,Bool.true_and,Bool.false_and,lAq,yaz,yba,nzq,iy,hp2,h3',ht2]
      first
      |(have hc3:=hcl2 p2 false (t2++[⟨6,a',b,[],[],0⟩])
        refine ⟨(g,t2.length,p2,t2++[⟨6,a',b,[],[],0⟩],false),.inl ⟨rfl,by dsimp only;omega,h4,k2b,by simp;omega,k5b.snoc ⟨(show 1≤6 by decide),(show 6≤16 by decide)⟩ (show (0:Nat)<2^128 by decide) (.inr ⟨by simp only;omega,by simp only;omega⟩),by simp,by simp;omega⟩,by simp,?_⟩
        simp only [lAq,yaz,yba,nzq] at hc3 ⊢
        (simp only [bkq,enterW,aU,ltF,ne_eq,Nat.reduceEqDiff,reduceCtorEq,hc3,hid];try simp (disch:=first|exact Zd|omega) [↓zmo,beq,ybc,ybd,ybe,af,wk,wk2,wk1,wkM,wkL,am,ybf,byq,biq,ae,hcl,hc3,hid];try (repeat' (first|assumption|omega|exact True.intro|refine And.intro ?_ ?_|refine ag ?_|refine ac ?_|refine aa ?_ ?_|refine ai ?_ ?_|refine ak ?_|exact lRq _|refine lPq ?_ _|refine AHeap.Le.del ?_ ?_|(simp only [bt,and_true,true_and,hc3,hid];first|done|omega|(simp;done)))))
        done)
      |(have hc3:=hcl2 p2 false (t2++[⟨7,a',b,[],[],0⟩])
        refine ⟨(g,t2.length,p2,t2++[⟨7,a',b,[],[],0⟩],false),.inl ⟨rfl,by dsimp only;omega,h4,k2b,by simp;omega,k5b.snoc ⟨(show 1≤7 by decide),(show 7≤16 by decide)⟩ (show (0:Nat)<2^128 by decide) (.inr ⟨by simp only;omega,by simp only;omega⟩),by simp,by simp;omega⟩,by simp,?_⟩
        simp only [lAq,yaz,yba,nzq] at hc3 ⊢
        (simp only [bkq,enterW,aU,ltF,ne_eq,Nat.reduceEqDiff,reduceCtorEq,hc3,hid];try simp (disch:=first|exact Zd|omega) [↓zmo,beq,ybc,ybd,ybe,af,wk,wk2,wk1,wkM,wkL,am,ybf,byq,biq,ae,hcl,hc3,hid];try (repeat' (first|assumption|omega|exact True.intro|refine And.intro ?_ ?_|refine ag ?_|refine ac ?_|refine aa ?_ ?_|refine ai ?_ ?_|refine ak ?_|exact lRq _|refine lPq ?_ _|refine AHeap.Le.del ?_ ?_|(simp only [bt,and_true,true_and,hc3,hid];first|done|omega|(simp;done)))))
        done)
  ·dsimp only at hbd x1 x3 x7 ⊢
   subst hbd
   rw [x1,aq] at hK
   simp only [go_sem,hfree,f1,f2,hgi,hgt',hsi,hst,ar,aq,ax,aD,aN,aC,aG,hne,ne_eq,hne',hl5,iNq,aJ,aI,i1,Int.reduceLE,eq_self,nFq,Bool.not_true,Bool.not_false,Bool.true_and,Bool.false_and,lAq,yaz,yba,nzq,x3,if_false]
   exact bB (hK a' t' x7) (hnx _ _) (lRq _) (hcl2 _ _ _)
theorem AO {A:Prop} {f:Nat} (h_zNot:EntOk Tryz.prog 93 (Ent.some (gE A f))) (h_zCmp:EntOk Tryz.prog 97 (Ent.some (oV A f))):EntOk Tryz.prog 93 (Ent.some (gE A (f+1))):=by
 refine EntOk.some fun args H K h=>?_
 unfold gE aG at h
 split at h
 rotate_left
 ·exact h.elim
 rename_i id
 obtain ⟨m,l,p,b,tb,t,hg,⟨rfl,hpre,hfree⟩,hK⟩:=h
 cases ho:run l (f+1) .not p t with
 |none=>rw [ho] at hK;exact hK.elim
 |some r =>
 rw [ho] at hK
 rw [run] at ho
 simp only [aZ] at ho
 have hpre':=hpre
 obtain ⟨hne,htb,ht,hp,hl,hgl,hgt⟩:=hpre
 have hid:=glq hg
 have htbl:=glq htb
 have f1:=bw hid
 have f2:=bw htbl
 have hl5:l.length≤100000:=by omega
 have i1:=@Int.natCast_nonneg
 have hne':(id=tb)=False:=eq_false hne
 have hnx:∀ X Y,H.nx≤((H.set id X).set tb Y).nx:=fun X Y=>nrq _
 refine ACallsP.fS aE (tCq dW (tCq h_zNot (tCq dx (tCq h_zCmp tNq)))) Tryz.func93 [.tmp 2] (T:=ay []) (h:=fun hcl=>?_)
 obtain ⟨hgi,hgt',hsi,hcl2,hst⟩:=d8 hg hpre' hcl
 have hgi1:∀ X,(H.set id X).get id=some X:=fun X=>AHeap.get_set_same _ _ hid
 have hss:∀ X Y,(H.set id X).set id Y=H.set id Y:=fun X Y=>by simp only [AHeap.set];congr 1;funext k;by_cases hk:k=id<;>simp [hk]
 cases hs:isS l p [33] with
 |false =>
  rw [hs,if_neg (by simp)] at ho
  simp only [go_sem,hfree,f1,f2,hgi,hgt',hsi,hst,ar,aq,ax,aD,aN,aC,aG,hne,ne_eq,hne',hl5,iNq,aJ,aI,i1,Int.reduceLE,eq_self,nFq,Bool.not_true,Bool.not_false,Bool.true_and,Bool.false_and,lAq,yaz,yba,nzq,oV,hg,hp,hs,if_false,hpre',ho]
  cases r with
  |ok a q u =>
   rw [ax] at hK
   simp only [go_sem,hfree,f1,f2,hgi,hgt',hsi,hst,ar,aq,ax,aD,aN,aC,aG,hne,ne_eq,hne',hl5,iNq,aJ,aI,i1,Int.reduceLE,eq_self,nFq,Bool.not_true,Bool.not_false,Bool.true_and,Bool.false_and,lAq,yaz,yba,nzq]
   exact bB hK (hnx _ _) (lRq _) (hcl2 _ _ _)
  |bad q =>
   rw [aq] at hK
   simp only [go_sem,hfree,f1,f2,hgi,hgt',hsi,hst,ar,aq,ax,aD,aN,aC,aG,hne,ne_eq,hne',hl5,iNq,aJ,aI,i1,Int.reduceLE,eq_self,nFq,Bool.not_true,Bool.not_false,Bool.true_and,Bool.false_and,lAq,yaz,yba,nzq]
   intro a t' hb
   try simp only [aS,go_sem,hfree,f1,f2,hgi,hgt',hsi,hst,ar,aq,ax,aD,aN,aC,aG,hne,ne_eq,hne',hl5,iNq,aJ,aI,i1,Int.reduceLE,eq_self,nFq,Bool.not_true,Bool.not_false,Bool.true_and,Bool.false_and,lAq,yaz,yba,nzq]
   exact bB (hK a t' hb) (hnx _ _) (lRq _) (hcl2 _ _ _)
 |true =>
  rw [hs,if_pos rfl] at ho
  have hlt1:=bD hs
  have hp2:dB (H.set id (rst m l (p+1) false tb t)) id tb l (p+1) t:=gh hpre' hlt1 (by omega)
  rcases aK ho with ⟨q,h3,rfl⟩|⟨b,p2,t2,h3,h4⟩
  ·obtain ⟨hq3,hq4⟩:=aH _ h3 hgt trivial hlt1
   rw [aq] at hK
   simp only [go_sem,hfree,f1,f2,hgi,hgt',hsi,hst,ar,aq,ax,aD,aN,aC,aG,hne,ne_eq,hne',hl5,iNq,aJ,aI,i1,Int.reduceLE,eq_self,nFq,Bool.not_true,Bool.not_false,Bool.true_and,Bool.false_and,lAq,yaz,yba,nzq,gE,hg,hp,hs,if_true,hgi1,hss,hp2,h3]
   intro b t' hb
   have ht2:t'.length≤100000:=by omega
   simp only [aS,go_sem,hfree,f1,f2,hgi,hgt',hsi,hst,ar,aq,ax,aD,aN,aC,aG,hne,ne_eq,hne',hl5,iNq,aJ,aI,i1,Int.reduceLE,eq_self,nFq,Bool.not_true,Bool.not_false,Bool.true_and,Bool.false_and,lAq,yaz,yba,nzq,ht2]
   have hK':=hK t'.length (t'++[⟨5,b,0,[],[],0⟩]) (by simp;omega)
   have hc3:=hcl2 q true (t'++[⟨5,b,0,[],[],0⟩])
   simp only [lAq,yaz,yba,nzq] at hK' hc3
   exact bB hK' (hnx _ _) (lRq _) hc3
  cases h4
  obtain ⟨k1b,k2b,k3b,k4b,k5b,k6b⟩:=aH _ h3 hgt trivial hlt1
  simp only [Rl.isL,Bool.false_eq_true,if_false] at k4b
  have ht2:t2.length≤100000:=by omega
  simp only [go_sem,hfree,f1,f2,hgi,hgt',hsi,hst,ar,aq,ax,aD,aN,aC,aG,hne,ne_eq,hne',hl5,iNq,aJ,aI,i1,Int.reduceLE,eq_self,nFq,Bool.not_true,Bool.not_false,Bool.true_and,Bool.false_and,lAq,yaz,yba,nzq,gE,hg,hp,hs,if_true,hgi1,hss,hp2,h3,ht2,nd2]
  have hc3:=hcl2 p2 false (t2++[⟨5,b,0,[],[],0⟩])
  simp only [lAq,yaz,yba,nzq,ax,nd2] at hK hc3
  exact bB hK (hnx _ _) (lRq _) hc3
theorem C6 {A:Prop} {f:Nat} (h_zUn:EntOk Tryz.prog 103 (Ent.some (iy A f))) (h_zAtom:EntOk Tryz.prog 105 (Ent.some (lM A f))):EntOk Tryz.prog 103 (Ent.some (iy A (f+1))):=by
 refine EntOk.some fun args H K h=>?_
 unfold iy aG at h
 split at h
 rotate_left
 ·exact h.elim
 rename_i id
 obtain ⟨m,l,p,b,tb,t,hg,⟨rfl,hpre,hfree⟩,hK⟩:=h
 cases ho:run l (f+1) .un p t with
 |none=>rw [ho] at hK;exact hK.elim
 |some r =>
 rw [ho] at hK
 rw [run] at ho
 simp only [aZ] at ho
 have hpre':=hpre
 obtain ⟨hne,htb,ht,hp,hl,hgl,hgt⟩:=hpre
 have hid:=glq hg
 have htbl:=glq htb
 have f1:=bw hid
 have f2:=bw htbl
 have hl5:l.length≤100000:=by omega
 have i1:=@Int.natCast_nonneg
 have hne':(id=tb)=False:=eq_false hne
 have hnx:∀ X Y,H.nx≤((H.set id X).set tb Y).nx:=fun X Y=>nrq _
 refine ACallsP.fS aE (tCq dW (tCq h_zUn (tCq dx (tCq h_zAtom tNq)))) Tryz.func103 [.tmp 2] (T:=ay []) (h:=fun hcl=>?_)
 obtain ⟨hgi,hgt',hsi,hcl2,hst⟩:=d8 hg hpre' hcl
 have hgi1:∀ X,(H.set id X).get id=some X:=fun X=>AHeap.get_set_same _ _ hid
 have hss:∀ X Y,(H.set id X).set id Y=H.set id Y:=fun X Y=>by simp only [AHeap.set];congr 1;funext k;by_cases hk:k=id<;>simp [hk]
 cases hs:isS l p [45] with
 |false =>
  rw [hs,if_neg (by simp)] at ho
  simp only [go_sem,hfree,f1,f2,hgi,hgt',hsi,hst,ar,aq,ax,aD,aN,aC,aG,hne,ne_eq,hne',hl5,iNq,aJ,aI,i1,Int.reduceLE,eq_self,nFq,Bool.not_true,Bool.not_false,Bool.true_and,Bool.false_and,lAq,yaz,yba,nzq,lM,hg,hp,hs,if_false,hpre',ho]
  cases r with
  |ok a q u =>
   rw [ax] at hK
   simp only [go_sem,hfree,f1,f2,hgi,hgt',hsi,hst,ar,aq,ax,aD,aN,aC,aG,hne,ne_eq,hne',hl5,iNq,aJ,aI,i1,Int.reduceLE,eq_self,nFq,Bool.not_true,Bool.not_false,Bool.true_and,Bool.false_and,lAq,yaz,yba,nzq]
   exact bB hK (hnx _ _) (lRq _) (hcl2 _ _ _)
  |bad q =>
   rw [aq] at hK
   simp only [go_sem,hfree,f1,f2,hgi,hgt',hsi,hst,ar,aq,ax,aD,aN,aC,aG,hne,ne_eq,hne',hl5,iNq,aJ,aI,i1,Int.reduceLE,eq_self,nFq,Bool.not_true,Bool.not_false,Bool.true_and,Bool.false_and,lAq,yaz,yba,nzq]
   intro a t' hb
   try simp only [aS,go_sem,hfree,f1,f2,hgi,hgt',hsi,hst,ar,aq,ax,aD,aN,aC,aG,hne,ne_eq,hne',hl5,iNq,aJ,aI,i1,Int.reduceLE,eq_self,nFq,Bool.not_true,Bool.not_false,Bool.true_and,Bool.false_and,lAq,yaz,yba,nzq]
   exact bB (hK a t' hb) (hnx _ _) (lRq _) (hcl2 _ _ _)
 |true =>
  rw [hs,if_pos rfl] at ho
  have hlt1:=bD hs
  have hp2:dB (H.set id (rst m l (p+1) false tb t)) id tb l (p+1) t:=gh hpre' hlt1 (by omega)
  rcases aK ho with ⟨q,h3,rfl⟩|⟨b,p2,t2,h3,h4⟩
  ·obtain ⟨hq3,hq4⟩:=aH _ h3 hgt trivial hlt1
   rw [aq] at hK
   simp only [go_sem,hfree,f1,f2,hgi,hgt',hsi,hst,ar,aq,ax,aD,aN,aC,aG,hne,ne_eq,hne',hl5,iNq,aJ,aI,i1,Int.reduceLE,eq_self,nFq,Bool.not_true,Bool.not_false,Bool.true_and,Bool.false_and,lAq,yaz,yba,nzq,iy,hg,hp,hs,if_true,hgi1,hss,hp2,h3]
   intro b t' hb
   have ht2:t'.length≤100000:=by omega
   simp only [aS,go_sem,hfree,f1,f2,hgi,hgt',hsi,hst,ar,aq,ax,aD,aN,aC,aG,hne,ne_eq,hne',hl5,iNq,aJ,aI,i1,Int.reduceLE,eq_self,nFq,Bool.not_true,Bool.not_false,Bool.true_and,Bool.false_and,lAq,yaz,yba,nzq,ht2]
   have hK':=hK t'.length (t'++[⟨4,b,0,[],[],0⟩]) (by simp;omega)
   have hc3:=hcl2 q true (t'++[⟨4,b,0,[],[],0⟩])
   simp only [lAq,yaz,yba,nzq] at hK' hc3
   exact bB hK' (hnx _ _) (lRq _) hc3
  cases h4
  obtain ⟨k1b,k2b,k3b,k4b,k5b,k6b⟩:=aH _ h3 hgt trivial hlt1
  simp only [Rl.isL,Bool.false_eq_true,if_false] at k4b
  have ht2:t2.length≤100000:=by omega
  simp only [go_sem,hfree,f1,f2,hgi,hgt',hsi,hst,ar,aq,ax,aD,aN,aC,aG,hne,ne_eq,hne',hl5,iNq,aJ,aI,i1,Int.reduceLE,eq_self,nFq,Bool.not_true,Bool.not_false,Bool.true_and,Bool.false_and,lAq,yaz,yba,nzq,iy,hg,hp,hs,if_true,hgi1,hss,hp2,h3,ht2,nd2]
  have hc3:=hcl2 p2 false (t2++[⟨4,b,0,[],[],0⟩])
  simp only [lAq,yaz,yba,nzq,ax,nd2] at hK hc3
  exact bB hK (hnx _ _) (lRq _) hc3
theorem xg {l:List Tok} {p k:Nat} {s:List UInt8} {r:List (Nat × List UInt8)}:cv l p ((k,s)::r)=if isS l p s then some k else cv l p r:=rfl
theorem yJ:[AV.str [61,61],AV.str [33,61],AV.str [60],AV.str [60,61],AV.str [62],AV.str [62,61]]=sAV (opsC.map Prod.snd):=rfl
theorem wr {i:Nat} (h:i<6):∃ s,opsC.drop i=(8+i,s)::opsC.drop (i+1)∧(sAV (opsC.map Prod.snd)).getD i .junk=.str s:=by
 rcases (by omega:i=0∨i=1∨i=2∨i=3∨i=4∨i=5) with rfl|rfl|rfl|rfl|rfl|rfl
 all_goals exact ⟨_,rfl,rfl⟩
theorem Bb {A:Prop} {f:Nat} (h_zSum:EntOk Tryz.prog 100 (Ent.some (jB A f))):EntOk Tryz.prog 97 (Ent.some (oV A (f+1))):=by
 refine EntOk.some fun args H K h=>?_
 unfold oV aG at h
 split at h
 rotate_left
 ·exact h.elim
 rename_i id
 obtain ⟨m,l,p,b,tb,t,hg,⟨rfl,hpre,hfree⟩,hK⟩:=h
 cases ho:run l (f+1) .cmp p t with
 |none=>rw [ho] at hK;exact hK.elim
 |some r =>
 rw [ho] at hK
 rw [run] at ho
 simp only [aZ] at ho
 have hpre':=hpre
 obtain ⟨hne,htb,ht,hp,hl,hgl,hgt⟩:=hpre
 have hid:=glq hg
 have htbl:=glq htb
 have f1:=bw hid
 have f2:=bw htbl
 have hl5:l.length≤100000:=by omega
 have i1:=@Int.natCast_nonneg
 have hne':(id=tb)=False:=eq_false hne
 have hnx:∀ X Y,H.nx≤((H.set id X).set tb Y).nx:=fun X Y=>nrq _
 refine ACallsP.fS aE (tCq h_zSum (tCq dW (tCq dx tNq))) Tryz.func97 [.tmp 2] (T:=ay []) (h:=fun hcl=>?_)
 obtain ⟨hgi,hgt',hsi,hcl2,hst⟩:=d8 hg hpre' hcl
 have hsl:(sAV (opsC.map Prod.snd)).length=6:=rfl
 rcases aK ho with ⟨q,h1,rfl⟩|⟨a,p1,t1,h1,h2⟩
 ·obtain ⟨hq1,hq2⟩:=aH _ h1 hgt trivial hp
  rw [aq] at hK
  simp only [go_sem,hfree,f1,f2,hgi,hgt',hsi,hst,ar,aq,ax,aD,aN,aC,aG,hne,ne_eq,hne',hl5,iNq,aJ,aI,i1,Int.reduceLE,eq_self,nFq,Bool.not_true,Bool.not_false,Bool.true_and,Bool.false_and,lAq,yaz,yba,nzq,jB,hg,hpre',h1]
  intro a t' hb
  try simp only [aS,go_sem,hfree,f1,f2,hgi,hgt',hsi,hst,ar,aq,ax,aD,aN,aC,aG,hne,ne_eq,hne',hl5,iNq,aJ,aI,i1,Int.reduceLE,eq_self,nFq,Bool.not_true,Bool.not_false,Bool.true_and,Bool.false_and,lAq,yaz,yba,nzq,yJ]
  refine au (A:=Nat) (fun i=>[(0,.ptr id 0),(3,.int .i64 (a:Int)),(9,.slice .any 1 (sAV (opsC.map Prod.snd))),(10,.int .i64 6),(11,.int .i64 (i:Int))]) (fun _=>(H.set id (rst m l q true tb t')).set tb (.buf 7 t'.length)) (fun i=>i≤6) (fun i=>6 - i) 0 (by omega) ?_ fun i hi=>?_
  ·exact Z28
  simp only [go_sem,hfree,f1,f2,hgi,hgt',hsi,hst,ar,aq,ax,aD,aN,aC,aG,hne,ne_eq,hne',hl5,iNq,aJ,aI,i1,Int.reduceLE,eq_self,nFq,Bool.not_true,Bool.not_false,Bool.true_and,Bool.false_and,lAq,yaz,yba,nzq]
  refine ah (fun hc=>?_) (fun hc=>?_)
  ·have hi6:i<6:=by simp at hc;omega
   obtain ⟨s,e1,e2⟩:=wr hi6
   have e5:IntKind.i64.wrap ((i:Int)+1)=((i+1:Nat):Int):=by rw [wrap_i64]<;>omega
   simp only [go_sem,hfree,f1,f2,hgi,hgt',hsi,hst,ar,aq,ax,aD,aN,aC,aG,hne,ne_eq,hne',hl5,iNq,aJ,aI,i1,Int.reduceLE,eq_self,nFq,Bool.not_true,Bool.not_false,Bool.true_and,Bool.false_and,lAq,yaz,yba,nzq,hsl,e2,e5,hq1,if_false]
   refine ⟨by omega,i+1,by omega,by omega,?_⟩
   exact Z28
  ·simp only [go_sem,hfree,f1,f2,hgi,hgt',hsi,hst,ar,aq,ax,aD,aN,aC,aG,hne,ne_eq,hne',hl5,iNq,aJ,aI,i1,Int.reduceLE,eq_self,nFq,Bool.not_true,Bool.not_false,Bool.true_and,Bool.false_and,lAq,yaz,yba,nzq]
   exact bB (hK a t' hb) (hnx _ _) (lRq _) (hcl2 _ _ _)
 clear ho
 obtain ⟨k1,k2,k3,k4,k5,k6⟩:=aH _ h1 hgt trivial hp
 simp only [Rl.isL,Bool.false_eq_true,if_false] at k4
 simp only [go_sem,hfree,f1,f2,hgi,hgt',hsi,hst,ar,aq,ax,aD,aN,aC,aG,hne,ne_eq,hne',hl5,iNq,aJ,aI,i1,Int.reduceLE,eq_self,nFq,Bool.not_true,Bool.not_false,Bool.true_and,Bool.false_and,lAq,yaz,yba,nzq,jB,hg,hpre',h1]
 try simp only [yJ]
 refine au (A:=Nat) (fun i=>[(0,.ptr id 0),(3,.int .i64 (a:Int)),(9,.slice .any 1 (sAV (opsC.map Prod.snd))),(10,.int .i64 6),(11,.int .i64 (i:Int))]) (fun _=>(H.set id (rst m l p1 false tb t1)).set tb (.buf 7 t1.length)) (fun i=>i≤6∧cv l p1 (opsC.drop i)=cv l p1 opsC) (fun i=>6 - i) 0 ⟨by omega,rfl⟩ ?_ fun i hi=>?_
 ·exact Z28
 obtain ⟨hi,hop⟩:=hi
 simp only [go_sem,hfree,f1,f2,hgi,hgt',hsi,hst,ar,aq,ax,aD,aN,aC,aG,hne,ne_eq,hne',hl5,iNq,aJ,aI,i1,Int.reduceLE,eq_self,nFq,Bool.not_true,Bool.not_false,Bool.true_and,Bool.false_and,lAq,yaz,yba,nzq]
 refine ah (fun hc=>?_) (fun hc=>?_)
 ·have hi6:i<6:=by simp at hc;omega
  obtain ⟨s,e1,e2⟩:=wr hi6
  have e5:IntKind.i64.wrap ((i:Int)+1)=((i+1:Nat):Int):=by rw [wrap_i64]<;>omega
  have e6:IntKind.i64.wrap (8+(i:Int))=((8+i:Nat):Int):=by rw [wrap_i64]<;>omega
  rw [e1,xg] at hop
  cases hs:isS l p1 s with
  |false =>
   rw [hs,if_neg (by simp)] at hop
   simp only [go_sem,hfree,f1,f2,hgi,hgt',hsi,hst,ar,aq,ax,aD,aN,aC,aG,hne,ne_eq,hne',hl5,iNq,aJ,aI,i1,Int.reduceLE,eq_self,nFq,Bool.not_true,Bool.not_false,Bool.true_and,Bool.false_and,lAq,yaz,yba,nzq,hsl,e2,e5,k2,hs,if_false]
   refine ⟨by omega,i+1,⟨by omega,hop⟩,by omega,?_⟩
   exact Z28
  |true =>
   rw [hs,if_pos rfl] at hop
   rw [← hop] at h2
   dsimp only at h2
   have hlt1:=bD hs
   have hp2:dB ((H.set id (rst m l (p1+1) false tb t1)).set tb (.buf 7 t1.length)) id tb l (p1+1) t1:=gk hpre' hlt1 (by omega) k5
   rcases aK h2 with ⟨q,h3,rfl⟩|⟨b,p2,t2,h3,h4⟩
   ·obtain ⟨hq1,hq2⟩:=aH _ h3 k5 trivial hlt1
    rw [aq] at hK
    simp only [go_sem,hfree,f1,f2,hgi,hgt',hsi,hst,ar,aq,ax,aD,aN,aC,aG,hne,ne_eq,hne',hl5,iNq,aJ,aI,i1,Int.reduceLE,eq_self,nFq,Bool.not_true,Bool.not_false,Bool.true_and,Bool.false_and,lAq,yaz,yba,nzq,jB,hsl,e2,k2,hs,if_true,hp2,h3]
    refine ⟨by omega,fun b t' hb=>?_⟩
    have ht2:t'.length≤100000:=by omega
    simp only [aS,go_sem,hfree,f1,f2,hgi,hgt',hsi,hst,ar,aq,ax,aD,aN,aC,aG,hne,ne_eq,hne',hl5,iNq,aJ,aI,i1,Int.reduceLE,eq_self,nFq,Bool.not_true,Bool.not_false,Bool.true_and,Bool.false_and,lAq,yaz,yba,nzq,ht2,e6]
    have hK':=hK t'.length (t'++[⟨8+i,a,b,[],[],0⟩]) (by simp;omega)
    have hc3:=hcl2 q true (t'++[⟨8+i,a,b,[],[],0⟩])
    simp only [lAq,yaz,yba,nzq] at hK' hc3
    exact bB hK' (hnx _ _) (lRq _) hc3
   cases h4
   obtain ⟨k1b,k2b,k3b,k4b,k5b,k6b⟩:=aH _ h3 k5 trivial hlt1
   simp only [Rl.isL,Bool.false_eq_true,if_false] at k4b
   have ht2:t2.length≤100000:=by omega
   simp only [go_sem,hfree,f1,f2,hgi,hgt',hsi,hst,ar,aq,ax,aD,aN,aC,aG,hne,ne_eq,hne',hl5,iNq,aJ,aI,i1,Int.reduceLE,eq_self,nFq,Bool.not_true,Bool.not_false,Bool.true_and,Bool.false_and,lAq,yaz,yba,nzq,jB,hsl,e2,k2,hs,if_true,hp2,h3,ht2,nd2,e6]
   refine ⟨by omega,?_⟩
   have hc3:=hcl2 p2 false (t2++[⟨8+i,a,b,[],[],0⟩])
   simp only [lAq,yaz,yba,nzq,ax,nd2] at hK hc3
   exact bB hK (hnx _ _) (lRq _) hc3
 ·have hi6:i=6:=by simp at hc;omega
  subst hi6
  have hno:cv l p1 opsC=none:=by rw [← hop];rfl
  rw [hno] at h2
  cases h2
  rw [ax] at hK
  simp only [go_sem,hfree,f1,f2,hgi,hgt',hsi,hst,ar,aq,ax,aD,aN,aC,aG,hne,ne_eq,hne',hl5,iNq,aJ,aI,i1,Int.reduceLE,eq_self,nFq,Bool.not_true,Bool.not_false,Bool.true_and,Bool.false_and,lAq,yaz,yba,nzq]
  exact bB hK (hnx _ _) (lRq _) (hcl2 _ _ _)
def mK (A:Prop) (f:Nat):List AV→AHeap→(AV→AHeap→Prop)→Prop
 |[.str s],H,K=>∃ n,(A∧lit s=some n∧s.length≤1000)∧K (vv n) H
 |_,_,_=>False
theorem xU {H:AHeap} {id tb p:Nat} {o:AObj} {l:List Tok} {t:List Nd} (h:dB H id tb l p t):dB (H.push o) id tb l p t:=by
 obtain ⟨h1,h2,h3,h4,h5,h6,h7⟩:=h
 refine ⟨h1,?_,h3,h4,h5,h6,h7⟩
 rw [gPq _ _ (glq h2)];exact h2
theorem zv {A:Prop} {f:Nat} (h_zVal:EntOk Tryz.prog 107 (Ent.some (mK A f))) (h_zImp:EntOk Tryz.prog 40 (Ent.some (fA A f))):EntOk Tryz.prog 105 (Ent.some (lM A (f+1))):=by
 refine EntOk.some fun args H K h=>?_
 unfold lM aG at h
 split at h
 rotate_left
 ·exact h.elim
 rename_i id
 obtain ⟨m,l,p,b,tb,t,hg,⟨rfl,hpre,hfree⟩,hK⟩:=h
 cases ho:run l (f+1) .atom p t with
 |none=>rw [ho] at hK;exact hK.elim
 |some r =>
 rw [ho] at hK
 rw [run] at ho
 simp only [aZ] at ho
 have hpre':=hpre
 obtain ⟨hne,htb,ht,hp,hl,hgl,hgt⟩:=hpre
 have hid:=glq hg
 have htbl:=glq htb
 have f1:=bw hid
 have f2:=bw htbl
 have hl5:l.length≤100000:=by omega
 have i1:=@Int.natCast_nonneg
 have hne':(id=tb)=False:=eq_false hne
 have hnx:∀ X Y,H.nx≤((H.set id X).set tb Y).nx:=fun X Y=>nrq _
 refine ACallsP.fS aE (tCq h_zVal (tCq dW (tCq dx (tCq Bd (tCq h_zImp tNq))))) Tryz.func105 [.tmp 2] (T:=ay []) (h:=fun hcl=>?_)
 obtain ⟨hgi,hgt',hsi,hcl2,hst⟩:=d8 hg hpre' hcl
 have hgi1:∀ X,(H.set id X).get id=some X:=fun X=>AHeap.get_set_same _ _ hid
 have hgt1:∀ X,(H.set id X).get tb=some (.buf 7 t.length):=fun X=>by rw [AHeap.get_set_ne _ _ (fun e=>hne e.symm)];exact htb
 have hss:∀ X Y,(H.set id X).set id Y=H.set id Y:=fun X Y=>by simp only [AHeap.set];congr 1;funext k;by_cases hk:k=id<;>simp [hk]
 have hcs:=bg (cs:=[.slice m 3 (ce l),.int .i64 (p:Int),.bool false,.slice (.own tb) 7 (nds t)]) hg
 have ht5:t.length≤100000:=by omega
 have hx1:(id=H.nx)=False:=eq_false (by omega)
 have e1:IntKind.i64.wrap ((p:Int)+1)=((p+1:Nat):Int):=by rw [wrap_i64]<;>omega
 rcases Nat.lt_or_ge p l.length with hlt0|hlt0
 rotate_left
 ·have hpe:p=l.length:=by omega
  subst hpe
  have hge:l[l.length]?=none:=gNq (nrq _)
  have hs0:isS l l.length [40]=false:=rP (nrq _)
  have hr:bC l l.length t=.bad l.length:=by unfold bC;rw [hge]
  have d0:((l.length:Int)==(l.length:Int))=true:=by simp
  rw [hs0,if_neg (by simp),hr] at ho
  cases ho
  rw [aq] at hK
  simp only [go_sem,hfree,f1,f2,hgi,hgt',hsi,hst,ar,aq,ax,aD,aN,aC,aG,hne,ne_eq,hne',hl5,iNq,aJ,aI,i1,Int.reduceLE,eq_self,nFq,Bool.not_true,Bool.not_false,Bool.true_and,Bool.false_and,lAq,yaz,yba,nzq,hg,hp,hcs,aB,bY,hgi1,hgt1,hss,ht5,if_true,if_false,d0]
  have hK':=hK 0 t (nrq _)
  have hc3:=hcl2 l.length true t
  rw [← oz htb hne] at hK' hc3
  exact bB (H1:=H.set id (rst m l l.length true tb t)) hK' (nrq _) (lRq _) hc3
 rcases htk:l[p] with ⟨k,x,z⟩
 have hgd:=jf hlt0 htk
 have hge:l[p]?=some (k,x,z):=by rw [gQq hlt0,htk]
 have d0:((p:Int)==(l.length:Int))=false:=by simp;omega
 have hp1:p+1≤l.length:=hlt0
 obtain ⟨hxl,hxs⟩:=hgl l[p] (gMq hlt0)
 rw [htk] at hxl hxs
 dsimp only at hxl hxs
 have hat:=vV hlt0 htk (s:=[40])
 by_cases hk1:k=1
 ·subst hk1
  have hA:A:=hfree p (by unfold lv;rw [hge])
  obtain ⟨n,hn⟩:=Option.isSome_iff_exists.1 (hxs rfl)
  have hn128:=sf hn
  have hvo:vOf (n/2^64) (n % 2^64)=n:=iT n
  have hv1:gI (n/2^64:Nat) (n % 2^64:Nat)=True:=eq_true (by refine ⟨?_,?_,?_,?_⟩<;>omega)
  have hr:bC l p t=.ok t.length (p+1) (t++[⟨1,0,0,[],[],n⟩]):=by unfold bC;rw [hge];simp [hn]
  have hd1:(((1:Nat):Int)==1)=true:=rfl
  have hs0:isS l p [40]=false:=by rw [hat];rfl
  rw [hs0,if_neg (by simp),hr] at ho
  cases ho
  simp only [go_sem,hfree,f1,f2,hgi,hgt',hsi,hst,ar,aq,ax,aD,aN,aC,aG,hne,ne_eq,hne',hl5,iNq,aJ,aI,i1,Int.reduceLE,eq_self,nFq,Bool.not_true,Bool.not_false,Bool.true_and,Bool.false_and,lAq,yaz,yba,nzq,hg,hp,hcs,aB,hgd,bY,hgi1,hgt1,hss,ht5,if_true,if_false,d0,hd1,e1]
  refine ⟨by omega,?_⟩
  simp only [mK]
  refine ⟨n,⟨hA,hn,hxl⟩,?_⟩
  simp only [vv,aS,go_sem,hfree,f1,f2,hgi,hgt',hsi,hst,ar,aq,ax,aD,aN,aC,aG,hne,ne_eq,hne',hl5,iNq,aJ,aI,i1,Int.reduceLE,eq_self,nFq,Bool.not_true,Bool.not_false,Bool.true_and,Bool.false_and,lAq,yaz,yba,nzq,hg,hp,hcs,aB,hgd,bY,hgi1,hgt1,hss,ht5,if_true,if_false,d0,hd1,e1,hvo,hv1]
  have hc3:=hcl2 (p+1) false (t++[⟨1,0,0,[],[],n⟩])
  simp only [lAq,yaz,yba,nzq,ax] at hK hc3
  exact bB hK (nrq _) ((lRq _).push _) hc3
 have d1:((k:Int)==1)=false:=by simp;omega
 by_cases hk2:k=2
 ·subst hk2
  have hs0:isS l p [40]=false:=by rw [hat];rfl
  have hd2:(((2:Nat):Int)==1)=false:=rfl
  have hd3:(((2:Nat):Int)==2)=true:=rfl
  rw [hs0,if_neg (by simp)] at ho
  by_cases hx1':x=ey
  ·have hr:bC l p t=.ok t.length (p+1) (t++[⟨2,0,0,[],[],1⟩]):=by unfold bC;rw [hge];simp [hx1']
   have hb1:(x==[116,114,117,101])=true:=by rw [hx1'];rfl
   rw [hr] at ho
   cases ho
   simp only [go_sem,hfree,f1,f2,hgi,hgt',hsi,hst,ar,aq,ax,aD,aN,aC,aG,hne,ne_eq,hne',hl5,iNq,aJ,aI,i1,Int.reduceLE,eq_self,nFq,Bool.not_true,Bool.not_false,Bool.true_and,Bool.false_and,lAq,yaz,yba,nzq,hg,hp,hcs,aB,hgd,bY,hgi1,hgt1,hss,ht5,if_true,if_false,d0,hd2,hd3,e1,hb1,B3,B9]
   refine ⟨by omega,?_⟩
   have hc3:=hcl2 (p+1) false (t++[⟨2,0,0,[],[],1⟩])
   simp only [lAq,yaz,yba,nzq,ax] at hK hc3
   exact bB hK (nrq _) ((lRq _).push _) hc3
  have hb1:(x==[116,114,117,101])=false:=by simpa [ey] using hx1'
  by_cases hx2:x=cP
  ·have hr:bC l p t=.ok t.length (p+1) (t++[⟨2,0,0,[],[],0⟩]):=by unfold bC;rw [hge];simp [hx1',hx2];decide
   have hb2:(x==[102,97,108,115,101])=true:=by rw [hx2];rfl
   rw [hr] at ho
   cases ho
   simp only [go_sem,hfree,f1,f2,hgi,hgt',hsi,hst,ar,aq,ax,aD,aN,aC,aG,hne,ne_eq,hne',hl5,iNq,aJ,aI,i1,Int.reduceLE,eq_self,nFq,Bool.not_true,Bool.not_false,Bool.true_and,Bool.false_and,lAq,yaz,yba,nzq,hg,hp,hcs,aB,hgd,bY,hgi1,hgt1,hss,ht5,if_true,if_false,d0,hd2,hd3,e1,hb1,hb2]
   refine ⟨by omega,?_⟩
   have hc3:=hcl2 (p+1) false (t++[⟨2,0,0,[],[],0⟩])
   simp only [lAq,yaz,yba,nzq,ax] at hK hc3
   exact bB hK (nrq _) ((lRq _).push _) hc3
  have hb2:(x==[102,97,108,115,101])=false:=by simpa [cP] using hx2
  cases hs3:isS l (p+1) [58,58] with
  |false =>
   have hr:bC l p t=.ok t.length (p+1) (t++[⟨3,0,0,x,[],0⟩]):=by unfold bC;rw [hge];simp [hx1',hx2,hs3]
   rw [hr] at ho
   cases ho
   simp only [go_sem,hfree,f1,f2,hgi,hgt',hsi,hst,ar,aq,ax,aD,aN,aC,aG,hne,ne_eq,hne',hl5,iNq,aJ,aI,i1,Int.reduceLE,eq_self,nFq,Bool.not_true,Bool.not_false,Bool.true_and,Bool.false_and,lAq,yaz,yba,nzq,hg,hp,hcs,aB,hgd,bY,hgi1,hgt1,hss,ht5,if_true,if_false,pq,d0,hd2,hd3,e1,hb1,hb2,hp1,hs3,Bool.false_eq_true]
   refine ⟨by omega,?_⟩
   have hc3:=hcl2 (p+1) false (t++[⟨3,0,0,x,[],0⟩])
   simp only [lAq,yaz,yba,nzq,ax] at hK hc3
   exact bB hK (nrq _) ((lRq _).push _) hc3
  |true =>
   have hlt3:=bD hs3
   cases hw2:fX l (p+1+1) with
   |none =>
    have hr:bC l p t=.bad (p+1+1):=by
     unfold bC;rw [hge];simp [hx1',hx2,hs3]
     unfold fX at hw2
     cases hge2:l[p+1+1]? with
     |none=>rfl
     |some v =>
      obtain ⟨k2,y,z2⟩:=v
      rw [hge2] at hw2
      dsimp only at hw2 ⊢
      split at hw2
      ·cases hw2
      ·rename_i hk;rw [if_neg hk]
    rw [hr] at ho
    cases ho
    rw [aq] at hK
    simp only [go_sem,hfree,f1,f2,hgi,hgt',hsi,hst,ar,aq,ax,aD,aN,aC,aG,hne,ne_eq,hne',hl5,iNq,aJ,aI,i1,Int.reduceLE,eq_self,nFq,Bool.not_true,Bool.not_false,Bool.true_and,Bool.false_and,lAq,yaz,yba,nzq,hg,hp,hcs,aB,hgd,bY,hgi1,hgt1,hss,ht5,if_true,if_false,pq,d0,hd2,hd3,e1,hb1,hb2,hp1,hs3,hw2,da]
    refine ⟨by omega,?_⟩
    have hK':=hK 0 t (by omega)
    have hc3:=hcl2 (p+1+1) true t
    rw [← oz htb hne] at hK' hc3
    exact bB hK' (nrq _) ((lRq _).push _) hc3
   |some y =>
    have hr:bC l p t=.ok t.length (p+1+1+1) (t++[⟨3,0,0,x,y,0⟩]):=by
     unfold bC;rw [hge];simp [hx1',hx2,hs3]
     unfold fX at hw2
     cases hge2:l[p+1+1]? with
     |none=>rw [hge2] at hw2;cases hw2
     |some v =>
      obtain ⟨k2,y2,z2⟩:=v
      rw [hge2] at hw2
      dsimp only at hw2 ⊢
      split at hw2
      ·rename_i hk;cases hw2;rw [if_pos hk]
      ·cases hw2
    rw [hr] at ho
    cases ho
    simp only [go_sem,hfree,f1,f2,hgi,hgt',hsi,hst,ar,aq,ax,aD,aN,aC,aG,hne,ne_eq,hne',hl5,iNq,aJ,aI,i1,Int.reduceLE,eq_self,nFq,Bool.not_true,Bool.not_false,Bool.true_and,Bool.false_and,lAq,yaz,yba,nzq,hg,hp,hcs,aB,hgd,bY,hgi1,hgt1,hss,ht5,if_true,if_false,pq,d0,hd2,hd3,e1,hb1,hb2,hp1,hs3,hw2,dV]
    refine ⟨by omega,?_⟩
    have hc3:=hcl2 (p+1+1+1) false (t++[⟨3,0,0,x,y,0⟩])
    simp only [lAq,yaz,yba,nzq,ax] at hK hc3
    exact bB hK (nrq _) ((lRq _).push _) hc3
 have d2:((k:Int)==2)=false:=by simp;omega
 cases hs0:isS l p [40] with
 |false =>
  have hr:bC l p t=.bad p:=by unfold bC;rw [hge];simp [hk1,hk2]
  rw [hs0,if_neg (by simp),hr] at ho
  cases ho
  rw [aq] at hK
  simp only [go_sem,hfree,f1,f2,hgi,hgt',hsi,hst,ar,aq,ax,aD,aN,aC,aG,hne,ne_eq,hne',hl5,iNq,aJ,aI,i1,Int.reduceLE,eq_self,nFq,Bool.not_true,Bool.not_false,Bool.true_and,Bool.false_and,lAq,yaz,yba,nzq,hg,hp,hcs,aB,hgd,bY,hgi1,hgt1,hss,ht5,if_true,if_false,d0,d1,d2,hs0,Bool.false_eq_true]
  refine ⟨by omega,?_⟩
  have hK':=hK 0 t (nrq _)
  have hc3:=hcl2 p true t
  rw [← oz htb hne] at hK' hc3
  exact bB (H1:=H.set id (rst m l p true tb t)) hK' (nrq _) ((lRq _).push _) hc3
 |true =>
  rw [hs0,if_pos rfl] at ho
  have hp2:∀ o,dB ((H.set id (rst m l (p+1) false tb t)).push o) id tb l (p+1) t:=fun o=>xU (gh hpre' hp1 (by omega))
  rcases aK ho with ⟨q,h3,rfl⟩|⟨a,p1,t1,h3,h4⟩
  ·obtain ⟨hq1,hq2⟩:=aH _ h3 hgt trivial hp1
   rw [aq] at hK
   simp only [go_sem,hfree,f1,f2,hgi,hgt',hsi,hst,ar,aq,ax,aD,aN,aC,aG,hne,ne_eq,hne',hl5,iNq,aJ,aI,i1,Int.reduceLE,eq_self,nFq,Bool.not_true,Bool.not_false,Bool.true_and,Bool.false_and,lAq,yaz,yba,nzq,hg,hp,hcs,aB,hgd,bY,hgi1,hgt1,hss,ht5,if_true,if_false,fA,d0,d1,d2,hs0,hp2,h3]
   refine ⟨by omega,fun a t' hb=>?_⟩
   simp only [aS,go_sem,hfree,f1,f2,hgi,hgt',hsi,hst,ar,aq,ax,aD,aN,aC,aG,hne,ne_eq,hne',hl5,iNq,aJ,aI,i1,Int.reduceLE,eq_self,nFq,Bool.not_true,Bool.not_false,Bool.true_and,Bool.false_and,lAq,yaz,yba,nzq,hq1,hp,rst,bY]
   have hcc:∀ X Y,aA ((H.set id (.cells X)).set tb Y) id=some X:=fun X Y=>by rw [bJ hne,cH hid,if_pos rfl]
   simp only [aS,go_sem,hfree,f1,f2,hgi,hgt',hsi,hst,ar,aq,ax,aD,aN,aC,aG,hne,ne_eq,hne',hl5,iNq,aJ,aI,i1,Int.reduceLE,eq_self,nFq,Bool.not_true,Bool.not_false,Bool.true_and,Bool.false_and,lAq,yaz,yba,nzq,hq1,hp,hcc]
   have hK':=hK a t' (by omega)
   have hc3:=hcl2 q true t'
   exact bB hK' (nrq _) ((lRq _).push _) hc3
  ·obtain ⟨k1b,k2b,k3b,k4b,k5b,k6b⟩:=aH _ h3 hgt trivial hp1
   simp only [Rl.isL,Bool.false_eq_true,if_false] at k4b
   cases hs2:isS l p1 [41] with
   |true =>
    rw [hs2,if_pos rfl] at h4
    cases h4
    simp only [go_sem,hfree,f1,f2,hgi,hgt',hsi,hst,ar,aq,ax,aD,aN,aC,aG,hne,ne_eq,hne',hl5,iNq,aJ,aI,i1,Int.reduceLE,eq_self,nFq,Bool.not_true,Bool.not_false,Bool.true_and,Bool.false_and,lAq,yaz,yba,nzq,hg,hp,hcs,aB,hgd,bY,hgi1,hgt1,hss,ht5,if_true,if_false,fA,d0,d1,d2,hs0,hp2,h3,k2b,hs2]
    refine ⟨by omega,?_⟩
    rw [ax] at hK
    exact bB hK (nrq _) ((lRq _).push _) (hcl2 _ _ _)
   |false =>
    rw [hs2,if_neg (by simp)] at h4
    cases h4
    rw [aq] at hK
    have hcc:∀ X Y,aA ((H.set id (.cells X)).set tb Y) id=some X:=fun X Y=>by rw [bJ hne,cH hid,if_pos rfl]
    simp only [go_sem,hfree,f1,f2,hgi,hgt',hsi,hst,ar,aq,ax,aD,aN,aC,aG,hne,ne_eq,hne',hl5,iNq,aJ,aI,i1,Int.reduceLE,eq_self,nFq,Bool.not_true,Bool.not_false,Bool.true_and,Bool.false_and,lAq,yaz,yba,nzq,hg,hp,hcs,aB,hgd,bY,hgi1,hgt1,hss,ht5,if_true,if_false,fA,d0,d1,d2,hs0,hp2,h3,k2b,hs2,Bool.false_eq_true]
    simp only [rst,go_sem,hfree,f1,f2,hgi,hgt',hsi,hst,ar,aq,ax,aD,aN,aC,aG,hne,ne_eq,hne',hl5,iNq,aJ,aI,i1,Int.reduceLE,eq_self,nFq,Bool.not_true,Bool.not_false,Bool.true_and,Bool.false_and,lAq,yaz,yba,nzq,hcc]
    refine ⟨by omega,?_⟩
    exact bB (hK a t1 (by omega)) (nrq _) ((lRq _).push _) (hcl2 _ _ _)
end Go.AL
