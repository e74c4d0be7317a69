/- Lemmas of the proof; no condition. -/
import Derived.Test.YtpofmhikcgkdhaaGreatE06
import Derived.Test.YtpofmhikcgkdhaaGreatLSyn
set_option linter.all false
set_option maxRecDepth 10000
set_option maxHeartbeats 32000000
open List renaming map_cons → yae, length_cons → yaz, length_nil → yba, take_of_length_le → ybc, drop_append → ybd, take_append → ybe, drop_eq_nil_of_le → ybf
open Go Go.AL Go.Proofs
namespace Go.AL
theorem rt:ti Tryz.prog 57=some ⟨.struct [(0,3,false),(1,3,false),(2,3,false),(3,9,false),(4,9,false),(5,55,false)],7,72,.agg [.int .i64 0,.int .i64 0,.int .i64 0,.str [],.str [],.int .u64 0,.int .u64 0]⟩:=by kernel_rfl
theorem zT:ti Tryz.prog 26=some ⟨.slice 57,1,24,.slice .nil 1 []⟩:=by kernel_rfl
theorem yg:ti Tryz.prog 110=some ⟨.struct [(0,35,false),(1,3,false),(2,26,false)],3,56,.agg [.slice .nil 1 [],.int .i64 0,.slice .nil 1 []]⟩:=by kernel_rfl
theorem t9:ti Tryz.prog 63=some ⟨.struct [(0,3,false),(1,9,false)],2,24,.agg [.int .i64 0,.str []]⟩:=by kernel_rfl
theorem rO:ti Tryz.prog 61=some ⟨.slice 63,1,24,.slice .nil 1 []⟩:=by kernel_rfl
theorem zH:ti Tryz.prog 107=some ⟨.int .i64,1,8,.int .i64 0⟩:=by kernel_rfl
attribute [go_sem] rt zT yg t9 rO zH
def gJ (n:Nd):AV:=.agg [.int .i64 (n.op:Int),.int .i64 (n.a:Int),.int .i64 (n.b:Int),.str n.name,.str n.attr,.int .u64 ((n.v/2^64:Nat):Int),.int .u64 ((n.v % 2^64:Nat):Int)]
def nds (t:List Nd):List AV:=t.map gJ
theorem az {t:List Nd}:(nds t).length=t.length:=by simp [nds]
theorem ux {t:List Nd} {n:Nd}:nds t++[gJ n]=nds (t++[n]):=by simp [nds]
theorem gH {n:Nat} {m:Mark} {t:List Nd}:AV.lt n (.slice m 7 (nds t))=∀ id,m=.own id→id<n:=by
 rw [AV.lt]
 refine propext ⟨fun h=>h.1,fun h=>⟨h,fun j hj=>?_⟩⟩
 simp only [nds,List.getElem_map,gJ]
 simp [znr,znu,znv,znf,znh]
theorem lF {n:Nat} {m:Mark} {l:List Tok}:AV.lt n (.slice m 3 (ce l))=∀ id,m=.own id→id<n:=by
 rw [AV.lt]
 refine propext ⟨fun h=>h.1,fun h=>⟨h,fun j hj=>?_⟩⟩
 simp only [ce,List.getElem_map,rX]
 simp [znr,znu,znv,znf,znh]
theorem px:∀ {l l':List Tok},ce l=ce l'→l=l'
 |[],[],_=>rfl
 |[],_::_,h=>by cases h
 |_::_,[],h=>by cases h
 |(a,b,c)::l,(a',b',c')::l',h=>by
  simp only [ce,yae,List.cons.injEq,rX,AV.agg.injEq,AV.int.injEq,AV.str.injEq,true_and,and_true] at h
  obtain ⟨⟨h1,h2,h3⟩,h4⟩:=h
  rw [px h4]
  congr 1
  simp only [Prod.mk.injEq]
  exact ⟨by omega,h2,by omega⟩
theorem rL:∀ {l l':List Nd},nds l=nds l'→l=l'
 |[],[],_=>rfl
 |[],_::_,h=>by cases h
 |_::_,[],h=>by cases h
 |⟨a1,a2,a3,a4,a5,a6⟩::l,⟨b1,b2,b3,b4,b5,b6⟩::l',h=>by
  simp only [nds,yae,List.cons.injEq,gJ,AV.agg.injEq,AV.int.injEq,AV.str.injEq,true_and,and_true] at h
  obtain ⟨⟨h1,h2,h3,h4,h5,h6,h7⟩,h8⟩:=h
  rw [rL h8]
  congr 1
  simp only [Nd.mk.injEq]
  exact ⟨by omega,by omega,by omega,h4,h5,by omega⟩
def sL (v:AV) (Kp:AV→AHeap→Prop) (H:AHeap):Prop:=match v with
 |.iface t v=>Kp (.iface t v) H
 |_=>False
@[congr] theorem Ay {v v':AV} {Kp:AV→AHeap→Prop} {H:AHeap} (h:v=v'):sL v Kp H=sL v' Kp H:=by rw [h]
theorem sl {t:TypeId} {v:AV} {Kp:AV→AHeap→Prop} {H:AHeap}:sL (.iface t v) Kp H=Kp (.iface t v) H:=rfl
theorem yq {P:Program} {Ω:Tbl} {ops:Array Oper} {rest:List Oper} {K:Fr→AHeap→Prop} {Kp:Fr→AV→AHeap→Prop} {fr:Fr} {H:AHeap} {d:Option Tmp} {x:Operand} {t:TypeId} {pos:String} {aft:Array Edge} :
 aV P Ω ops (Oper.mk d (.panic x) t pos aft none::rest) K Kp fr H=sL (ev fr x) (Kp fr) H:=(rfl)
def pst (m:Mark) (l:List Tok) (p tb:Nat) (t:List Nd):AObj:=.cells [.slice m 3 (ce l),.int .i64 (p:Int),.slice (.own tb) 7 (nds t)]
def onP (o:Option AObj) (K:Mark→List Tok→Nat→Nat→List Nd→Prop):Prop:=∃ m l p tb t,o=some (pst m l p tb t)∧K m l p tb t
@[congr] theorem Dl {o o':Option AObj} {K:Mark→List Tok→Nat→Nat→List Nd→Prop} (h:o=o'):onP o K=onP o' K:=by rw [h]
theorem aM {m:Mark} {l:List Tok} {p tb:Nat} {t:List Nd} {K:Mark→List Tok→Nat→Nat→List Nd→Prop}:onP (some (pst m l p tb t)) K=K m l p tb t:=by
 refine propext ⟨fun ⟨m',l',p',tb',t',h,hk⟩=>?_,fun h=>⟨m,l,p,tb,t,rfl,h⟩⟩
 simp only [pst,Option.some.injEq,AObj.cells.injEq,List.cons.injEq,AV.slice.injEq,AV.int.injEq,Mark.own.injEq,true_and,and_true] at h
 obtain ⟨⟨rfl,h1⟩,h2,rfl,h3⟩:=h
 have:=px h1
 have:=rL h3
 have:p=p':=by omega
 subst_vars
 exact hk
theorem qM {m:Mark} {l:List Tok} {p tb:Nat} {t:List Nd} {K:Mark→List Tok→Nat→Nat→List Nd→Prop}:onP (some (.cells [.slice m 3 (ce l),.int .i64 (p:Int),.slice (.own tb) 7 (nds t)])) K=K m l p tb t:=aM
def c6:List AV→AHeap→(AEnd→AHeap→Prop)→Prop
 |[.ptr id 0],H,K=>onP (H.get id) fun m l p tb t=>K (.panic (.iface 107 (.int .i64 (p:Int)))) H
 |_,_,_=>False
theorem iW:EntOk Tryz.prog 59 (Ent.effect c6):=by
 refine EntOk.effect fun args H K h=>?_
 unfold c6 at h
 split at h
 rotate_left
 ·exact h.elim
 rename_i id
 obtain ⟨m,l,p,tb,t,hg,hK⟩:=h
 refine ⟨_,_,hK,?_⟩
 clear hK
 refine ACalls.fW aE tNq Tryz.func59 [] (nrq _) (T:=ay []) (h:=fun hcl hlt=>?_)
 clear hlt
 have hcs:=bg (cs:=[.slice m 3 (ce l),.int .i64 (p:Int),.slice (.own tb) 7 (nds t)]) hg
 simp only [go_sem,hcs,↓yq,sl]
 exact Z0
def bh:List AV→AHeap→(AEnd→AHeap→Prop)→Prop
 |[.ptr id 0,.agg [.int .i64 op,.int .i64 a,.int .i64 b,.str nm,.str att,.int .u64 hi,.int .u64 lo]],H,K=>onP (H.get id) fun m l p tb t =>
   (0≤op∧0≤a∧0≤b∧gI hi lo∧id≠tb∧H.get tb=some (.buf 7 t.length)∧t.length≤100000) ∧
   K (.ret (.int .i64 (t.length:Int))) ((H.set id (pst m l p tb (t++[⟨op.toNat,a.toNat,b.toNat,nm,att,vOf hi.toNat lo.toNat⟩]))).set tb (.buf 7 (t.length+1)))
 |_,_,_=>False
theorem fF {H:AHeap} {id:Nat} {m:Mark} {l:List Tok} {p tb:Nat} {t:List Nd} (hg:H.get id=some (pst m l p tb t)) (hcl:H.Closed) (p':Nat) (t':List Nd):(H.set id (pst m l p' tb t')).Closed:=by
 have h0:=hcl id _ hg 0 (by simp)
 have h2:=hcl id _ hg 2 (by simp)
 simp only [List.getElem_cons_zero,List.getElem_cons_succ,lF,gH] at h0 h2
 refine ai hcl ?_
 simp only [znu,znv,lF,gH,znf,and_true,true_and]
 exact ⟨h0,h2⟩
theorem iC {H:AHeap} {i j:Nat} (h:i≠j) (o c:AObj):(H.set j o).set i c=(H.set i c).set j o:=by
 simp only [AHeap.set]
 congr 1
 funext k
 by_cases h1:k=i
 ·subst h1;simp [h]
 ·simp [h1]
theorem bJ {H:AHeap} {i j:Nat} (h:i≠j) (o:AObj):aA (H.set j o) i=aA H i:=by
 unfold aA;rw [AHeap.get_set_ne _ _ h]
theorem gd:EntOk Tryz.prog 79 (Ent.effect bh):=by
 refine EntOk.effect fun args H K h=>?_
 unfold bh at h
 split at h
 rotate_left
 ·exact h.elim
 rename_i id op a b nm att hi lo
 obtain ⟨m,l,p,tb,t,hg,⟨h1,h2,h3,⟨h4,h5,h6,h7⟩,hne,htb,htl⟩,hK⟩:=h
 refine ⟨_,_,hK,?_⟩
 clear hK
 obtain ⟨op,rfl⟩:=bO h1
 obtain ⟨a,rfl⟩:=bO h2
 obtain ⟨b,rfl⟩:=bO h3
 obtain ⟨hi,rfl⟩:=bO h4
 obtain ⟨lo,rfl⟩:=bO h6
 simp only [iNq]
 refine ACalls.fW aE tNq Tryz.func79 [.tmp 4] (nrq _) (T:=ay [(1,[[],[],[],[],[],[],[5],[4,5],[],[],[4,5]])]) (h:=fun hcl hlt=>?_)
 clear hlt
 have hid:=glq hg
 have htbl:=glq htb
 have hcs:=bg (cs:=[.slice m 3 (ce l),.int .i64 (p:Int),.slice (.own tb) 7 (nds t)]) hg
 have f1:=bw hid
 have f2:=bw htbl
 have g1:(id=tb)=False:=eq_false hne
 have g2:(tb=id)=False:=eq_false fun e=>hne e.symm
 have e1:nds t++[AV.agg [.int .i64 (op:Int),.int .i64 (a:Int),.int .i64 (b:Int),.str nm,.str att,.int .u64 (hi:Int),.int .u64 (lo:Int)]]=nds (t++[⟨op,a,b,nm,att,vOf hi lo⟩]):=by
  rw [← ux];unfold gJ;simp only;rw [yS (by omega),yQ (by omega)]
 have e2:IntKind.i64.wrap (((t.length+1:Nat):Int) - 1)=(t.length:Int):=by rw [wrap_i64]<;>omega
 have hcl1:=fF hg hcl p (t++[⟨op,a,b,nm,att,vOf hi lo⟩])
 have hcl2:((H.set id (pst m l p tb (t++[⟨op,a,b,nm,att,vOf hi lo⟩]))).set tb (.buf 7 (t.length+1))).Closed:=ac hcl1
 have s1:=iC (H:=H) hne
 have s2:=fun o=>(bJ (H:=H) hne o).trans hcs
 have s3:∀ o cs,aA ((H.set id (.cells cs)).set tb o) id=some cs:=fun o cs=>by rw [bJ hne,cH hid,if_pos rfl]
 simp only [go_sem,hcs,az,f1,f2,g1,g2,htb,dj,if_pos htbl,e1,s1,s2,s3,e2,lAq]
 refine ⟨⟨by omega,by omega,by simp [aY,AV.cells,AV.one]⟩,?_⟩
 simp only [pst] at hcl2 ⊢
 simp (disch:=first|exact Zd|omega) [↓zmo,beq,ybc,ybd,ybe,af,wk,wk2,wk1,wkM,wkL,am,ybf,hcl2,htbl,gH]
 trace_state
theorem vV {l:List Tok} {p k z:Nat} {x s:List UInt8} (hp:p<l.length) (h:l[p]=(k,x,z)):isS l p s=(k==3&&x==s):=by
 unfold isS;rw [gQq hp,h]
theorem rP {l:List Tok} {p:Nat} {s:List UInt8} (hp:l.length≤p):isS l p s=false:=by
 unfold isS;rw [gNq hp]
theorem jf {l:List Tok} {p k z:Nat} {x:List UInt8} (hp:p<l.length) (h:l[p]=(k,x,z)):(ce l).getD p .junk=.agg [.int .i64 (k:Int),.str x,.int .i64 (z:Int)]:=by
 rw [zd hp,h];rfl
def bf:List AV→AHeap→(AEnd→AHeap→Prop)→Prop
 |[.ptr id 0,.str s],H,K=>onP (H.get id) fun m l p tb t=>(p≤l.length∧l.length≤100000) ∧
   if isS l p s=true then K (.ret (.bool true)) (H.set id (pst m l (p+1) tb t)) else K (.ret (.bool false)) H
 |_,_,_=>False
theorem im:EntOk Tryz.prog 78 (Ent.effect bf):=by
 refine EntOk.effect fun args H K h=>?_
 unfold bf at h
 split at h
 rotate_left
 ·exact h.elim
 rename_i id s
 obtain ⟨m,l,p,tb,t,hg,⟨hp,hl⟩,hK⟩:=h
 have hid:=glq hg
 have hcs:=bg (cs:=[.slice m 3 (ce l),.int .i64 (p:Int),.slice (.own tb) 7 (nds t)]) hg
 have e1:IntKind.i64.wrap ((p:Int)+1)=((p+1:Nat):Int):=by rw [wrap_i64]<;>omega
 by_cases hlt0:p<l.length
 ·rcases htk:l[p] with ⟨k,x,z⟩
  have hgd:=jf hlt0 htk
  rw [vV hlt0 htk] at hK
  have d1:((p:Int)==(l.length:Int))=false:=by simp;omega
  by_cases hk:k=3
  ·subst hk
   by_cases hx:x=s
   ·subst hx
    simp only [beq_self_eq_true,Bool.and_self,if_true] at hK
    refine ⟨_,_,hK,?_⟩
    clear hK
    refine ACalls.fW aE tNq Tryz.func78 [.tmp 4] (nrq _) (T:=ay []) (h:=fun hcl hlt=>?_)
    clear hlt
    have hcl1:=fF hg hcl (p+1) t
    simp only [go_sem,hcs,aB,hgd,d1,iNq,e1,beq_self_eq_true,bne_self_eq_false]
    refine ⟨by omega,wG rfl ⟨by omega,?_⟩⟩
    change af (H.set id (pst m l (p+1) tb t)) _ _ _
    exact Z19
   ·have d3:(x==s)=false:=by simpa using hx
    rw [d3,Bool.and_false,if_neg (by simp)] at hK
    refine ⟨_,_,hK,?_⟩
    clear hK
    refine ACalls.fW aE tNq Tryz.func78 [.tmp 4] (nrq _) (T:=ay []) (h:=fun hcl hlt=>?_)
    clear hlt
    simp only [go_sem,hcs,aB,hgd,d1,d3,iNq,e1,beq_self_eq_true,bne_self_eq_false]
    refine ⟨by omega,wG rfl ⟨by omega,?_⟩⟩
    exact Z0
  ·have d3:(k==3)=false:=by simpa using hk
   rw [d3,Bool.false_and,if_neg (by simp)] at hK
   refine ⟨_,_,hK,?_⟩
   clear hK
   refine ACalls.fW aE tNq Tryz.func78 [.tmp 4] (nrq _) (T:=ay []) (h:=fun hcl hlt=>?_)
   clear hlt
   have d4:((k:Int) != 3)=true:=by simp;omega
   simp only [go_sem,hcs,aB,hgd,d1,d4,iNq,e1,beq_self_eq_true,bne_self_eq_false]
   refine ⟨by omega,?_⟩
   exact Z0
 ·have hpe:p=l.length:=by omega
  subst hpe
  rw [rP (nrq _),if_neg (by simp)] at hK
  refine ⟨_,_,hK,?_⟩
  clear hK
  refine ACalls.fW aE tNq Tryz.func78 [.tmp 4] (nrq _) (T:=ay []) (h:=fun hcl hlt=>?_)
  clear hlt
  simp only [go_sem,hcs,aB,beq_self_eq_true]
  exact Z0
def fX (l:List Tok) (p:Nat):Option (List UInt8):=match l[p]? with
 |none=>none
 |some (k,x,_)=>if k=2 then some x else none
def onW (o:Option (List UInt8)) (K1:List UInt8→Prop) (K2:Prop):Prop:=match o with
 |some x=>K1 x
 |none=>K2
@[congr] theorem Dm {o o':Option (List UInt8)} {K1:List UInt8→Prop} {K2:Prop} (h:o=o'):onW o K1 K2=onW o' K1 K2:=by rw [h]
theorem dV {x:List UInt8} {K1:List UInt8→Prop} {K2:Prop}:onW (some x) K1 K2=K1 x:=rfl
theorem da {K1:List UInt8→Prop} {K2:Prop}:onW none K1 K2=K2:=rfl
def fI:List AV→AHeap→(AEnd→AHeap→Prop)→Prop
 |[.ptr id 0,.int .i64 kd],H,K=>onP (H.get id) fun m l p tb t=>(kd=2∧p≤l.length∧l.length≤100000) ∧
   onW (fX l p) (fun x=>K (.ret (.str x)) (H.set id (pst m l (p+1) tb t))) (K (.panic (.iface 107 (.int .i64 (p:Int)))) H)
 |_,_,_=>False
theorem zU:EntOk Tryz.prog 110 (Ent.effect fI):=by
 refine EntOk.effect fun args H K h=>?_
 unfold fI at h
 split at h
 rotate_left
 ·exact h.elim
 rename_i id kd
 obtain ⟨m,l,p,tb,t,hg,⟨rfl,hp,hl⟩,hK⟩:=h
 have hid:=glq hg
 have hcs:=bg (cs:=[.slice m 3 (ce l),.int .i64 (p:Int),.slice (.own tb) 7 (nds t)]) hg
 have e1:IntKind.i64.wrap ((p:Int)+1)=((p+1:Nat):Int):=by rw [wrap_i64]<;>omega
 have e2:IntKind.i64.wrap (((p+1:Nat):Int) - 1)=(p:Int):=by rw [wrap_i64]<;>omega
 unfold fX at hK
 by_cases hlt0:p<l.length
 ·rcases htk:l[p] with ⟨k,x,z⟩
  have hgd:=jf hlt0 htk
  rw [gQq hlt0,htk] at hK
  dsimp only at hK
  have d1:((p:Int)==(l.length:Int))=false:=by simp;omega
  by_cases hk:k=2
  ·subst hk
   rw [if_pos rfl,dV] at hK
   refine ⟨_,_,hK,?_⟩
   clear hK
   refine ACalls.fW aE (tCq iW tNq) Tryz.func110 [.tmp 4] (by simp [zlf]) (T:=ay []) (h:=fun hcl hlt=>?_)
   clear hlt
   have hcl1:=fF hg hcl (p+1) t
   simp only [go_sem,hcs,aB,hgd,d1,iNq,e1,e2,cH hid,beq_self_eq_true,bne_self_eq_false]
   refine ⟨by omega,rf rfl ?_⟩
   simp only [go_sem,hcs,aB,hgd,d1,iNq,e1,e2,cH hid,beq_self_eq_true,bne_self_eq_false]
   refine ⟨by omega,?_⟩
   change af (H.set id (pst m l (p+1) tb t)) _ _ _
   exact Z19
  ·have d3:(k==2)=false:=by simpa using hk
   rw [if_neg hk,da] at hK
   refine ⟨_,_,hK,?_⟩
   clear hK
   refine ACalls.fW aE (tCq iW tNq) Tryz.func110 [.tmp 4] (nrq _) (T:=ay []) (h:=fun hcl hlt=>?_)
   clear hlt
   have d4:((k:Int) != 2)=true:=by simp;omega
   simp only [go_sem,hcs,aB,hgd,d1,d4,iNq,e1,c6,hg,aM]
   refine ⟨by omega,?_⟩
   exact Z0
 ·have hpe:p=l.length:=by omega
  subst hpe
  rw [gNq (nrq _)] at hK
  dsimp only at hK
  rw [da] at hK
  refine ⟨_,_,hK,?_⟩
  clear hK
  refine ACalls.fW aE (tCq iW tNq) Tryz.func110 [.tmp 4] (nrq _) (T:=ay []) (h:=fun hcl hlt=>?_)
  clear hlt
  simp only [go_sem,hcs,aB,beq_self_eq_true,c6,hg,aM]
  exact Z0
def fq (l:List (Nat × List UInt8)):List AV:=l.map fun o=>.agg [.int .i64 (o.1:Int),.str o.2]
theorem fk {l:List (Nat × List UInt8)}:(fq l).length=l.length:=by simp [fq]
theorem qJ:∀ {l l':List (Nat × List UInt8)},fq l=fq l'→l=l'
 |[],[],_=>rfl
 |[],_::_,h=>by cases h
 |_::_,[],h=>by cases h
 |(a,b)::l,(a',b')::l',h=>by
  simp only [fq,yae,List.cons.injEq,AV.agg.injEq,AV.int.injEq,AV.str.injEq,true_and,and_true] at h
  obtain ⟨⟨h1,h2⟩,h4⟩:=h
  rw [qJ h4]
  congr 1
  simp only [Prod.mk.injEq]
  exact ⟨by omega,h2⟩
theorem cJ {n:Nat} {l:List (Nat × List UInt8)}:AV.lt n (.slice .any 2 (fq l)):=eW fun x hx=>by
 simp only [fq,List.mem_map] at hx
 obtain ⟨o,_,rfl⟩:=hx
 simp [znr,znu,znv,znf,znh]
theorem BD:[AV.agg [.int .i64 8,.str [61,61]],.agg [.int .i64 9,.str [33,61]],.agg [.int .i64 10,.str [60]],.agg [.int .i64 11,.str [60,61]],.agg [.int .i64 12,.str [62]],.agg [.int .i64 13,.str [62,61]]]=fq opsC:=rfl
theorem BG:[AV.agg [.int .i64 6,.str [43]],.agg [.int .i64 7,.str [45]]]=fq opsS:=rfl
def df:List AV→AHeap→(AV→Prop)→Prop
 |[],_,K=>K (.slice .any 2 (fq opsC))
 |_,_,_=>False
theorem ss:EntOk Tryz.prog 43 (Ent.pure df):=by
 refine Ype fun _ H K h=>?_
 unfold df at h
 split at h
 rotate_left
 ·exact h.elim
 refine ⟨_,h,?_⟩
 clear h
 refine ACalls.fW aE tNq Tryz.func43 [.tmp 0] (nrq _) (T:=ay []) (h:=fun hcl hlt=>?_)
 clear hlt
 simp only [go_sem,BD]
 exact Z20
def gS:List AV→AHeap→(AV→Prop)→Prop
 |[],_,K=>K (.slice .any 2 (fq opsS))
 |_,_,_=>False
theorem zp:EntOk Tryz.prog 44 (Ent.pure gS):=by
 refine Ype fun _ H K h=>?_
 unfold gS at h
 split at h
 rotate_left
 ·exact h.elim
 refine ⟨_,h,?_⟩
 clear h
 refine ACalls.fW aE tNq Tryz.func44 [.tmp 0] (nrq _) (T:=ay []) (h:=fun hcl hlt=>?_)
 clear hlt
 simp only [go_sem,BG]
 exact Z20
def B2 (x:List AV) (K:List (Nat × List UInt8)→Prop):Prop:=∃ l,x=fq l∧K l
theorem fu {l:List (Nat × List UInt8)} {K:List (Nat × List UInt8)→Prop}:B2 (fq l) K=K l :=
 propext ⟨fun ⟨l',h,hk⟩=>by rw [qJ h];exact hk,fun h=>⟨l,rfl,h⟩⟩
def onN (o:Option Nat) (K1:Nat→Prop) (K2:Prop):Prop:=match o with
 |some x=>K1 x
 |none=>K2
@[congr] theorem Do {o o':Option Nat} {K1:Nat→Prop} {K2:Prop} (h:o=o'):onN o K1 K2=onN o' K1 K2:=by rw [h]
theorem jE {x:Nat} {K1:Nat→Prop} {K2:Prop}:onN (some x) K1 K2=K1 x:=rfl
theorem l7 {K1:Nat→Prop} {K2:Prop}:onN none K1 K2=K2:=rfl
def gV:List AV→AHeap→(AEnd→AHeap→Prop)→Prop
 |[.ptr id 0,.slice _ 2 x],H,K=>onP (H.get id) fun m l p tb t=>B2 x fun ops=>(p≤l.length∧l.length≤100000∧ops.length≤100) ∧
   onN (cv l p ops) (fun k=>K (.ret (.int .i64 (k:Int))) (H.set id (pst m l (p+1) tb t))) (K (.ret (.int .i64 0)) H)
 |_,_,_=>False
theorem qd {l:List (Nat × List UInt8)} {k:Nat} (h:k<l.length):(fq l).getD k .junk=.agg [.int .i64 (l[k].1:Int),.str l[k].2]:=by simp [fq,gEq,h]
theorem tV:EntOk Tryz.prog 102 (Ent.effect gV):=by
 refine EntOk.effect fun args H K h=>?_
 unfold gV at h
 split at h
 rotate_left
 ·exact h.elim
 rename_i id mo x
 obtain ⟨m,l,p,tb,t,hg,ops,rfl,⟨hp,hl,ho⟩,hK⟩:=h
 have hid:=glq hg
 have f1:=bw hid
 cases hop:cv l p ops with
 |some k =>
  rw [hop,jE] at hK
  refine ⟨_,_,hK,?_⟩
  clear hK
  refine ACalls.fW aE (tCq im tNq) Tryz.func102 [.tmp 4] (by simp [zlf]) (T:=ay []) (h:=fun hcl hlt=>?_)
  have hltm:∀ n',H.nx≤n'→AV.lt n' (.slice .any 2 (fq ops)):=fun n' _=>cJ
  clear hlt
  have hcl1:=fF hg hcl (p+1) t
  simp only [go_sem,fk]
  refine au (A:=Nat) (fun i=>[(9,.int .i64 (i:Int)),(8,.int .i64 (ops.length:Int)),(7,.slice .any 2 (fq ops)),(0,.ptr id 0)]) (fun _=>H) (fun i=>i≤ops.length∧cv l p (ops.drop i)=some k) (fun i=>ops.length - i) 0 ⟨by omega,hop⟩ ?_ fun i hi=>?_
  ·exact Z21
  obtain ⟨hi,hop'⟩:=hi
  simp only [go_sem]
  refine ah (fun h1=>?_) (fun h1=>?_)
  ·have hi1:i<ops.length:=by simp at h1;omega
   have e5:IntKind.i64.wrap ((i:Int)+1)=((i+1:Nat):Int):=by rw [wrap_i64]<;>omega
   have hgo:=qd hi1
   rw [dcq hi1] at hop'
   rcases hok:ops[i] with ⟨ko,so⟩
   rw [hok] at hop' hgo
   unfold cv at hop'
   by_cases hs:isS l p so=true
   ·rw [if_pos hs] at hop'
    cases hop'
    simp only [go_sem,iNq,fk,hgo,bf,f1,hg,aM,hs,if_true,hp,hl]
    refine ⟨by omega,?_⟩
    exact Z19
   ·rw [if_neg hs] at hop'
    have hs':isS l p so=false:=by simpa using hs
    simp only [go_sem,iNq,fk,hgo,bf,f1,hg,aM,hs',if_false,hp,hl,e5]
    refine ⟨by omega,i+1,⟨by omega,hop'⟩,by omega,?_⟩
    exact Z21
  ·exfalso
   have hi1:ops.length≤i:=by simp at h1;omega
   rw [ybf hi1] at hop'
   cases hop'
 |none =>
  rw [hop,l7] at hK
  refine ⟨_,_,hK,?_⟩
  clear hK
  refine ACalls.fW aE (tCq im tNq) Tryz.func102 [.tmp 4] (nrq _) (T:=ay []) (h:=fun hcl hlt=>?_)
  clear hlt
  simp only [go_sem,fk]
  refine au (A:=Nat) (fun i=>[(9,.int .i64 (i:Int)),(8,.int .i64 (ops.length:Int)),(7,.slice .any 2 (fq ops)),(0,.ptr id 0)]) (fun _=>H) (fun i=>i≤ops.length∧cv l p (ops.drop i)=none) (fun i=>ops.length - i) 0 ⟨by omega,hop⟩ ?_ fun i hi=>?_
  ·exact Z21
  obtain ⟨hi,hop'⟩:=hi
  simp only [go_sem]
  refine ah (fun h1=>?_) (fun h1=>?_)
  ·have hi1:i<ops.length:=by simp at h1;omega
   have e5:IntKind.i64.wrap ((i:Int)+1)=((i+1:Nat):Int):=by rw [wrap_i64]<;>omega
   have hgo:=qd hi1
   rw [dcq hi1] at hop'
   rcases hok:ops[i] with ⟨ko,so⟩
   rw [hok] at hop' hgo
   unfold cv at hop'
   by_cases hs:isS l p so=true
   ·rw [if_pos hs] at hop';cases hop'
   ·rw [if_neg hs] at hop'
    have hs':isS l p so=false:=by simpa using hs
    simp only [go_sem,iNq,fk,hgo,bf,f1,hg,aM,hs',if_false,hp,hl,e5]
    refine ⟨by omega,i+1,⟨by omega,hop'⟩,by omega,?_⟩
    exact Z21
  ·simp only [go_sem]
   exact Z0
def dX (op v:Int):AV:=.agg [.int .i64 op,.int .i64 0,.int .i64 0,.str [],.str [],.int .u64 0,.int .u64 v]
def hJ (s:List UInt8):AV:=if s=ey then .tup [dX 2 1,.bool true] else if s=cP then .tup [dX 2 0,.bool true] else .tup [dX 0 0,.bool false]
def mj:List AV→AHeap→(AV→Prop)→Prop
 |[.int .u64 n],_,K=>K (.agg [.int .u64 0,.int .u64 n])
 |_,_,_=>False
theorem rp:EntOk Tryz.prog 47 (Ent.pure mj):=by
 refine Ype fun _ H K h=>?_
 unfold mj at h
 split at h
 rotate_left
 ·exact h.elim
 rename_i n
 refine ⟨_,h,?_⟩
 clear h
 refine ACalls.fW aE tNq Tryz.func47 [.cell 2 55] (nrq _) (T:=ay []) (h:=fun hcl hlt=>?_)
 clear hlt
 simp only [go_sem]
 exact Z0
def eD:List AV→AHeap→(AV→Prop)→Prop
 |[.str s],_,K=>K (hJ s)
 |_,_,_=>False
theorem xq:EntOk Tryz.prog 111 (Ent.pure eD):=by
 refine Ype fun _ H K h=>?_
 unfold eD at h
 split at h
 rotate_left
 ·exact h.elim
 rename_i s
 refine ⟨_,h,?_⟩
 clear h
 unfold hJ
 by_cases h1:s=ey
 ·rw [if_pos h1]
  subst h1
  refine ACalls.fW aE (tCq rp tNq) Tryz.func111 [.cell 2 57,.tmp 3] (nrq _) (T:=ay []) (h:=fun hcl hlt=>?_)
  clear hlt
  have d1:(ey==[116,114,117,101])=true:=by decide
  simp only [go_sem,mj,d1,zld]
  exact Z22
 ·rw [if_neg h1]
  have d1:(s==[116,114,117,101])=false:=by simpa [ey] using h1
  by_cases h2:s=cP
  ·rw [if_pos h2]
   subst h2
   refine ACalls.fW aE (tCq rp tNq) Tryz.func111 [.cell 2 57,.tmp 3] (nrq _) (T:=ay []) (h:=fun hcl hlt=>?_)
   clear hlt
   have d2:(cP==[102,97,108,115,101])=true:=by decide
   simp only [go_sem,mj,d1,d2,zld]
   exact Z22
  ·rw [if_neg h2]
   have d2:(s==[102,97,108,115,101])=false:=by simpa [cP] using h2
   refine ACalls.fW aE (tCq rp tNq) Tryz.func111 [.cell 2 57,.tmp 3] (nrq _) (T:=ay []) (h:=fun hcl hlt=>?_)
   clear hlt
   simp only [go_sem,mj,d1,d2,zld]
   exact Z22
def lN (l:List Tok):Prop:=∀ x∈l,x.2.1.length≤1000∧(x.1=1→(lit x.2.1).isSome=true)
def dB (H:AHeap) (id tb:Nat) (l:List Tok) (p:Nat) (t:List Nd):Prop:=id≠tb∧H.get tb=some (.buf 7 t.length)∧t.length≤p∧p≤l.length∧l.length≤1000∧lN l∧Good t
theorem dt {H:AHeap} {id tb p p':Nat} {m:Mark} {l:List Tok} {t t':List Nd} (h:dB H id tb l p t) (hp:p'≤l.length) (ht:t'.length≤p') (hg:Good t'):dB ((H.set id (pst m l p' tb t')).set tb (.buf 7 t'.length)) id tb l p' t':=by
 obtain ⟨h1,h2,h3,h4,h5,h6,h7⟩:=h
 have htb:=glq h2
 refine ⟨h1,?_,ht,hp,h5,h6,hg⟩
 rw [dj,if_pos rfl,if_pos (by simpa [zlf] using htb)]
theorem gh {H:AHeap} {id tb p p':Nat} {o:AObj} {l:List Tok} {t:List Nd} (h:dB H id tb l p t) (hp:p'≤l.length) (ht:t.length≤p'):dB (H.set id o) id tb l p' t:=by
 obtain ⟨h1,h2,h3,h4,h5,h6,h7⟩:=h
 refine ⟨h1,?_,ht,hp,h5,h6,h7⟩
 rw [AHeap.get_set_ne _ _ (fun e=>h1 e.symm)];exact h2
def lv (l:List Tok) (p:Nat):Nat:=match l[p]? with
 |none=>0
 |some (k,_,_)=>k
def qz (l:List Tok) (p:Nat):Nat:=match l[p]? with
 |none=>0
 |some (_,x,_)=>(lit x).getD 0
def cY:List AV→AHeap→(AEnd→AHeap→Prop)→Prop
 |[.ptr id 0],H,K=>onP (H.get id) fun m l p tb t=>(dB H id tb l p t∧lv l p=1) ∧
   K (.ret (.int .i64 (t.length:Int))) ((H.set id (pst m l (p+1) tb (t++[⟨1,0,0,[],[],qz l p⟩]))).set tb (.buf 7 (t.length+1)))
 |_,_,_=>False
theorem tU:EntOk Tryz.prog 109 (Ent.effect cY):=by
 refine EntOk.effect fun args H K h=>?_
 unfold cY at h
 split at h
 rotate_left
 ·exact h.elim
 rename_i id
 obtain ⟨m,l,p,tb,t,hg,⟨⟨hne,htb,ht,hp,hl,hgl,hgt⟩,hk⟩,hK⟩:=h
 have hid:=glq hg
 have htbl:=glq htb
 have hcs:=bg (cs:=[.slice m 3 (ce l),.int .i64 (p:Int),.slice (.own tb) 7 (nds t)]) hg
 have f1:=bw hid
 have f2:=bw htbl
 have g1:(id=tb)=False:=eq_false hne
 have g2:(tb=id)=False:=eq_false fun e=>hne e.symm
 have e1:IntKind.i64.wrap ((p:Int)+1)=((p+1:Nat):Int):=by rw [wrap_i64]<;>omega
 have hlt0:p<l.length:=by
  rcases Nat.lt_or_ge p l.length with h1|h1
  ·exact h1
  ·unfold lv at hk;rw [gNq h1] at hk;cases hk
 rcases htk:l[p] with ⟨k,x,z⟩
 have hgd:=jf hlt0 htk
 have hk1:k=1:=by unfold lv at hk;rw [gQq hlt0,htk] at hk;exact hk
 subst hk1
 have hla:qz l p=(lit x).getD 0:=by unfold qz;rw [gQq hlt0,htk]
 rw [hla] at hK
 obtain ⟨hxl,hxs⟩:=hgl l[p] (gMq hlt0)
 rw [htk] at hxl hxs
 dsimp only at hxl hxs
 obtain ⟨n,hn⟩:=Option.isSome_iff_exists.1 (hxs rfl)
 have hn128:=sf hn
 rw [hn] at hK
 dsimp only [Option.getD_some] at hK
 refine ⟨_,_,hK,?_⟩
 clear hK
 refine ACalls.fW aE (tCq nv (tCq iW (tCq p4 (tCq gd tNq)))) Tryz.func109 [.tmp 2] (nrq _) (T:=ay [(1,[[],[],[],[],[],[],[],[],[],[],[],[3,7,10],[],[],[],[],[3,7,10,11]])]) (h:=fun hcl hlt=>?_)
 clear hlt
 have hxl':x.length≤140737488355328:=by omega
 have hv:iM (n:Int)=.tup [.agg [.int .u64 ((n/2^64:Nat):Int),.int .u64 ((n % 2^64:Nat):Int)],.bool true]:=by
  unfold iM
  rw [if_pos ⟨Int.natCast_nonneg n,Int.lt_of_lt_of_le (Int.ofNat_lt.2 hn128) (by decide)⟩]
  rfl
 have hn1:isN (n:Int):=⟨Int.le_trans (by decide) (Int.natCast_nonneg n),Int.lt_of_lt_of_le (Int.ofNat_lt.2 hn128) (by decide)⟩
 have hvo:vOf (n/2^64) (n % 2^64)=n:=iT n
 have hlo:n/2^64<18446744073709551616:=by omega
 have hlo2:n % 2^64<18446744073709551616:=by omega
 have hx1:(id=H.nx)=False:=eq_false (by omega)
 have s1:=iC (H:=H) hne
 simp only [go_sem,hcs,aB,hgd,iNq,e1,i7,hxl',nN,hn,hx1,nAV]
 simp only [gq]
 refine ⟨by omega,n,⟨rfl,hn1⟩,?_⟩
 rw [hv]
 have hn0:(0≤n/2^64):=Nat.zero_le _
 generalize hw0:w0 (n:Int)=y0
 generalize hw1:w1 (n:Int)=y1
 generalize hw2:w2 (n:Int)=y2
 have hgi:∀ o,(H.set id o).get id=some o:=fun o=>AHeap.get_set_same _ _ hid
 have hgt:∀ o,(H.set id o).get tb=some (.buf 7 t.length):=fun o=>by rw [AHeap.get_set_ne _ _ (fun e=>hne e.symm)];exact htb
 have hcl1:=fF hg hcl (p+1) (t++[⟨1,0,0,[],[],n⟩])
 have hcl2:((H.set id (pst m l (p+1) tb (t++[⟨1,0,0,[],[],n⟩]))).set tb (.buf 7 (t.length+1))).Closed:=ac hcl1
 simp only [uU,go_sem,hcs,iNq,e1,hx1,f1,f2,g1,g2,cH hid,bh,hgi,hgt,qM,hvo]
 refine ⟨⟨by decide,by decide,by decide,⟨by omega,by omega,by omega,by omega⟩,by omega⟩,?_⟩
 exact Z23
def xD (m:Mark) (l:List Tok) (tb id:Nat) (H:AHeap) (K:AEnd→AHeap→Prop) (o:Option PR):Prop:=match o with
 |none=>False
 |some (.ok a p t)=>K (.ret (.int .i64 (a:Int))) ((H.set id (pst m l p tb t)).set tb (.buf 7 t.length))
 |some (.bad p)=>K (.panic (.iface 107 (.int .i64 (p:Int)))) ((H.del id).del tb)
@[congr] theorem CL {m:Mark} {l:List Tok} {tb id:Nat} {H:AHeap} {K:AEnd→AHeap→Prop} {o o':Option PR} (h:o=o'):xD m l tb id H K o=xD m l tb id H K o':=by rw [h]
theorem aX {m:Mark} {l:List Tok} {tb id a p:Nat} {t:List Nd} {H:AHeap} {K:AEnd→AHeap→Prop}:xD m l tb id H K (some (.ok a p t))=K (.ret (.int .i64 (a:Int))) ((H.set id (pst m l p tb t)).set tb (.buf 7 t.length)):=rfl
theorem aO {m:Mark} {l:List Tok} {tb id p:Nat} {H:AHeap} {K:AEnd→AHeap→Prop}:xD m l tb id H K (some (.bad p))=K (.panic (.iface 107 (.int .i64 (p:Int)))) ((H.del id).del tb):=rfl
def aR (rl:Rl) (f:Nat):List AV→AHeap→(AEnd→AHeap→Prop)→Prop
 |[.ptr id 0],H,K=>onP (H.get id) fun m l p tb t=>dB H id tb l p t∧xD m l tb id H K (run l f rl p t)
 |_,_,_=>False
theorem bm {H:AHeap} {i j:Nat} {x y:AObj}:(((H.set i x).set j y).del i).del j=(H.del i).del j:=by
 simp only [AHeap.set,AHeap.del]
 congr 1
 funext k
 by_cases h1:k=j
 ·simp [h1]
 ·by_cases h2:k=i
  ·simp [h1,h2]
  ·simp [h1,h2]
theorem aW {H:AHeap} {i j:Nat} {x:AObj}:((H.set i x).del i).del j=(H.del i).del j:=by
 simp only [AHeap.set,AHeap.del]
 congr 1
 funext k
 by_cases h1:k=j
 ·simp [h1]
 ·by_cases h2:k=i
  ·simp [h1,h2]
  ·simp [h1,h2]
theorem eC {H:AHeap} {i j:Nat}:((H.del i).del j).Le H:=⟨nrq _,fun k x hk=>by
 rw [eK] at hk
 split at hk
 ·cases hk
 ·rw [eK] at hk
  split at hk
  ·cases hk
  ·exact hk⟩
theorem dm {H:AHeap} {i j:Nat} {x y:AObj}:((H.del i).del j).Le ((H.set i x).set j y):=by
 have:=eC (H:=(H.set i x).set j y) (i:=i) (j:=j)
 rwa [bm] at this
theorem dd_le1 {H:AHeap} {i j:Nat} {x:AObj}:((H.del i).del j).Le (H.set i x):=by
 have:=eC (H:=H.set i x) (i:=i) (j:=j)
 rwa [aW] at this
theorem fb {H:AHeap} {i j:Nat} (h:H.Closed):((H.del i).del j).Closed:=ak (ak h)
theorem eS {H:AHeap} {id tb p:Nat} {m:Mark} {l:List Tok} {t:List Nd} (hg:H.get id=some (pst m l p tb t)) (h:dB H id tb l p t) (hcl:H.Closed) :
 (∀ X Y,((H.set id X).set tb Y).get id=some X)∧(∀ X Y,((H.set id X).set tb Y).get tb=some Y)∧(∀ X Y Z,((H.set id X).set tb Y).set id Z=(H.set id Z).set tb Y) ∧
   (∀ p' t',((H.set id (pst m l p' tb t')).set tb (.buf 7 t'.length)).Closed)∧(∀ X Y Z,((H.set id X).set tb Y).set tb Z=(H.set id X).set tb Z):=by
 obtain ⟨h1,h2,h3,h4,h5,h6,h7⟩:=h
 have hid:=glq hg
 have htb:=glq h2
 refine ⟨fun X Y=>?_,fun X Y=>?_,fun X Y Z=>?_,fun p' t'=>ac (fF hg hcl p' t'),fun X Y Z=>?_⟩
 ·rw [AHeap.get_set_ne _ _ h1];exact AHeap.get_set_same _ _ hid
 ·exact AHeap.get_set_same _ _ (by simpa [zlf] using htb)
 ·rw [iC h1];congr 1;simp only [AHeap.set];congr 1;funext k;by_cases hk:k=id<;>simp [hk]
 ·simp only [AHeap.set];congr 1;funext k;by_cases hk:k=tb<;>simp [hk]
def fE (f:Nat):=aR .imp f
def nA (f:Nat):=aR .or f
def jJ (f:Nat):=aR .and f
def gu (f:Nat):=aR .not f
def pj (f:Nat):=aR .cmp f
def jV (f:Nat):=aR .sum f
def jI (f:Nat):=aR .un f
def lV (f:Nat):=aR .atom f
def xR:PR→AEnd
 |.ok a _ _=>.ret (.int .i64 (a:Int))
 |.bad p=>.panic (.iface 107 (.int .i64 (p:Int)))
def HR (m:Mark) (l:List Tok) (tb id:Nat) (H:AHeap):PR→AHeap
 |.ok _ p t=>(H.set id (pst m l p tb t)).set tb (.buf 7 t.length)
 |.bad _=>(H.del id).del tb
theorem bQ {a p:Nat} {t:List Nd}:xR (.ok a p t)=.ret (.int .i64 (a:Int)):=rfl
theorem bp {p:Nat}:xR (.bad p)=.panic (.iface 107 (.int .i64 (p:Int))):=rfl
theorem bR {m:Mark} {l:List Tok} {tb id a p:Nat} {t:List Nd} {H:AHeap}:HR m l tb id H (.ok a p t)=(H.set id (pst m l p tb t)).set tb (.buf 7 t.length):=rfl
theorem bq {m:Mark} {l:List Tok} {tb id p:Nat} {H:AHeap}:HR m l tb id H (.bad p)=(H.del id).del tb:=rfl
theorem dy {m:Mark} {l:List Tok} {tb id:Nat} {H:AHeap} {K:AEnd→AHeap→Prop} {r:PR}:xD m l tb id H K (some r)=K (xR r) (HR m l tb id H r):=by cases r<;>rfl
theorem ny {m:Mark} {l:List Tok} {tb id:Nat} {H:AHeap} {r:PR}:H.nx≤(HR m l tb id H r).nx:=by cases r<;>exact nrq _
theorem iB:(opsC.length≤100)=True:=eq_true (by decide)
theorem iE:(opsS.length≤100)=True:=eq_true (by decide)
def opv (l:List Tok) (p:Nat):Nat:=(cv l p opsS).getD 0
def oph (l:List Tok) (p:Nat):Nat:=if (cv l p opsS).isSome then p+1 else p
theorem B3:vOf 0 1=1:=rfl
theorem B9:gI 0 1=True:=eq_true (by unfold gI;decide)
theorem aJ:vOf 0 0=0:=rfl
theorem aI:gI 0 0=True:=eq_true (by unfold gI;decide)
theorem Bx {f:Nat} (h_yOr:EntOk Tryz.prog 77 (Ent.effect (nA f))) (h_yImp:EntOk Tryz.prog 58 (Ent.effect (fE f))):EntOk Tryz.prog 58 (Ent.effect (fE (f+1))):=by
 refine EntOk.effect fun args H K h=>?_
 unfold fE aR at h
 split at h
 rotate_left
 ·exact h.elim
 rename_i id
 obtain ⟨m,l,p,tb,t,hg,hpre,hK⟩:=h
 cases ho:run l (f+1) .imp p t with
 |none=>rw [ho] at hK;exact hK.elim
 |some r =>
 rw [ho,dy] at hK
 refine ⟨_,_,hK,?_⟩
 clear hK
 rw [run] at ho
 simp only [aZ] at ho
 have hpre':=hpre
 obtain ⟨hne,htb,ht,hp,hl,hgl,hgt⟩:=hpre
 have hid:=glq hg
 have htbl:=glq htb
 have f1:=bw hid
 have f2:=bw htbl
 have hl5:l.length≤100000:=by omega
 have i1:=@Int.natCast_nonneg
 have hne':(id=tb)=False:=eq_false hne
 refine ACalls.fW aE (tCq h_yOr (tCq im (tCq h_yImp (tCq gd tNq)))) Tryz.func58 [.tmp 2] ny (T:=ay []) (h:=fun hcl hlt=>?_)
 clear hlt
 obtain ⟨hgi,hgt',hsi,hcl2,hst⟩:=eS hg hpre' hcl
 rcases aK ho with ⟨q,h1,rfl⟩|⟨a,p1,t1,h1,h2⟩
 ·simp only [go_sem,f1,f2,hgi,hgt',hsi,hst,aM,aO,aX,bQ,bp,bR,bq,bm,aW,bf,bh,aR,hne,ne_eq,hne',hl5,iNq,aJ,aI,i1,Int.reduceLE,eq_self,nFq,nA,hg,hpre',h1]
  exact Z24
 clear ho
 obtain ⟨k1,k2,k3,k4,k5,k6⟩:=aH _ h1 hgt trivial hp
 simp only [Rl.isL,Bool.false_eq_true,if_false] at k4
 have hp1:dB ((H.set id (pst m l p1 tb t1)).set tb (.buf 7 t1.length)) id tb l p1 t1:=dt hpre' k2 (by omega) k5
 cases hs:isS l p1 [45,62] with
 |false =>
  rw [hs,if_neg (by simp)] at h2
  cases h2
  simp only [go_sem,f1,f2,hgi,hgt',hsi,hst,aM,aO,aX,bQ,bp,bR,bq,bm,aW,bf,bh,aR,hne,ne_eq,hne',hl5,iNq,aJ,aI,i1,Int.reduceLE,eq_self,nFq,nA,hg,hpre',h1,k2,hs,if_false]
  exact Z23
 |true =>
  rw [hs,if_pos rfl] at h2
  have hlt1:=bD hs
  have hp2:dB ((H.set id (pst m l (p1+1) tb t1)).set tb (.buf 7 t1.length)) id tb l (p1+1) t1:=dt hpre' hlt1 (by omega) k5
  rcases aK h2 with ⟨q,h3,rfl⟩|⟨b,p2,t2,h3,h4⟩
  ·simp only [go_sem,f1,f2,hgi,hgt',hsi,hst,aM,aO,aX,bQ,bp,bR,bq,bm,aW,bf,bh,aR,hne,ne_eq,hne',hl5,iNq,aJ,aI,i1,Int.reduceLE,eq_self,nFq,nA,fE,hg,hpre',h1,k2,hs,if_true,hp2,h3]
   exact Z24
  cases h4
  obtain ⟨k1b,k2b,k3b,k4b,k5b,k6b⟩:=aH _ h3 k5 trivial hlt1
  simp only [Rl.isL,Bool.false_eq_true,if_false] at k4b
  have ht2:t2.length≤100000:=by omega
  simp only [go_sem,f1,f2,hgi,hgt',hsi,hst,aM,aO,aX,bQ,bp,bR,bq,bm,aW,bf,bh,aR,hne,ne_eq,hne',hl5,iNq,aJ,aI,i1,Int.reduceLE,eq_self,nFq,nA,fE,hg,hpre',h1,k2,hs,if_true,hp2,h3,ht2,nd2]
  have hc3:=hcl2 p2 (t2++[⟨16,a,b,[],[],0⟩])
  simp only [lAq,yaz,yba,nzq] at hc3 ⊢
  exact Z25
theorem Dd {f:Nat} (h_yAnd:EntOk Tryz.prog 90 (Ent.effect (jJ f))):EntOk Tryz.prog 77 (Ent.effect (nA (f+1))):=by
 refine EntOk.effect fun args H K h=>?_
 unfold nA aR at h
 split at h
 rotate_left
 ·exact h.elim
 rename_i id
 obtain ⟨m,l,p,tb,t,hg,hpre,hK⟩:=h
 cases ho:run l (f+1) .or p t with
 |none=>rw [ho] at hK;exact hK.elim
 |some r =>
 rw [ho,dy] at hK
 refine ⟨_,_,hK,?_⟩
 clear hK
 rw [run] at ho
 simp only [aZ] at ho
 have hpre':=hpre
 obtain ⟨hne,htb,ht,hp,hl,hgl,hgt⟩:=hpre
 have hid:=glq hg
 have htbl:=glq htb
 have f1:=bw hid
 have f2:=bw htbl
 have hl5:l.length≤100000:=by omega
 have i1:=@Int.natCast_nonneg
 have hne':(id=tb)=False:=eq_false hne
 refine ACalls.fW aE (tCq h_yAnd (tCq im (tCq gd tNq))) Tryz.func77 [.tmp 2] ny (T:=ay []) (h:=fun hcl hlt=>?_)
 clear hlt
 obtain ⟨hgi,hgt',hsi,hcl2,hst⟩:=eS hg hpre' hcl
 rcases aK ho with ⟨q,h1,rfl⟩|⟨a,p1,t1,h1,h2⟩
 ·simp only [go_sem,f1,f2,hgi,hgt',hsi,hst,aM,aO,aX,bQ,bp,bR,bq,bm,aW,bf,bh,aR,hne,ne_eq,hne',hl5,iNq,aJ,aI,i1,Int.reduceLE,eq_self,nFq,jJ,hg,hpre',h1]
  exact Z24
 clear ho
 obtain ⟨k1,k2,k3,k4,k5,k6⟩:=aH _ h1 hgt trivial hp
 simp only [Rl.isL,Bool.false_eq_true,if_false] at k4
 have hp1:dB ((H.set id (pst m l p1 tb t1)).set tb (.buf 7 t1.length)) id tb l p1 t1:=dt hpre' k2 (by omega) k5
 simp only [go_sem,f1,f2,hgi,hgt',hsi,hst,aM,aO,aX,bQ,bp,bR,bq,bm,aW,bf,bh,aR,hne,ne_eq,hne',hl5,iNq,aJ,aI,i1,Int.reduceLE,eq_self,nFq,jJ,hg,hpre',h1]
 refine au (A:=Nat × Nat × Nat × List Nd) (fun x=>[(0,.ptr id 0),(3,.int .i64 (x.2.1:Int))]) (fun x=>(H.set id (pst m l x.2.2.1 tb x.2.2.2)).set tb (.buf 7 x.2.2.2.length))
  (fun x=>x.1≤f∧run l x.1 (.orL x.2.1) x.2.2.1 x.2.2.2=some r∧x.2.2.1≤l.length∧x.2.2.2.length≤x.2.2.1∧Good x.2.2.2∧x.2.1<x.2.2.2.length) (fun x=>x.1) (f,a,p1,t1) ⟨nrq _,h2,k2,by dsimp only;omega,k5,k1⟩ ?_ fun x hx=>?_
 ·exact Z26
 obtain ⟨g,a',p',t'⟩:=x
 obtain ⟨x1,x2,x3,x4,x5,x6⟩:=hx
 dsimp only at x1 x2 x3 x4 x5 x6 ⊢
 have ht':t'.length≤100000:=by omega
 have hpx:dB ((H.set id (pst m l p' tb t')).set tb (.buf 7 t'.length)) id tb l p' t':=dt hpre' x3 x4 x5
 cases g with
 |zero=>cases x2
 |succ g =>
 rw [run] at x2
 simp only [aZ] at x2
 cases hs:isS l p' [124,124] with
 |false =>
  rw [hs,if_neg (by simp)] at x2
  cases x2
  simp only [go_sem,f1,f2,hgi,hgt',hsi,hst,aM,aO,aX,bQ,bp,bR,bq,bm,aW,bf,bh,aR,hne,ne_eq,hne',hl5,iNq,aJ,aI,i1,Int.reduceLE,eq_self,nFq,x3,hs,if_false]
  exact Z23
 |true =>
  rw [hs,if_pos rfl] at x2
  have hlt1:=bD hs
  have hp2:dB ((H.set id (pst m l (p'+1) tb t')).set tb (.buf 7 t'.length)) id tb l (p'+1) t':=dt hpre' hlt1 (by omega) x5
  rcases aK x2 with ⟨q,h3,rfl⟩|⟨b,p2,t2,h3,h4⟩
  ·have h3':=bI (show g≤f by omega) h3
   simp only [go_sem,f1,f2,hgi,hgt',hsi,hst,aM,aO,aX,bQ,bp,bR,bq,bm,aW,bf,bh,aR,hne,ne_eq,hne',hl5,iNq,aJ,aI,i1,Int.reduceLE,eq_self,nFq,jJ,x3,hs,if_true,hp2,h3']
   exact Z24
  have h3':=bI (show g≤f by omega) h3
  obtain ⟨k1b,k2b,k3b,k4b,k5b,k6b⟩:=aH _ h3 x5 trivial hlt1
  simp only [Rl.isL,Bool.false_eq_true,if_false] at k4b
  have ht2:t2.length≤100000:=by omega
  simp only [go_sem,f1,f2,hgi,hgt',hsi,hst,aM,aO,aX,bQ,bp,bR,bq,bm,aW,bf,bh,aR,hne,ne_eq,hne',hl5,iNq,aJ,aI,i1,Int.reduceLE,eq_self,nFq,jJ,x3,hs,if_true,hp2,h3',ht2]
  have hc3:=hcl2 p2 (t2++[⟨15,a',b,[],[],0⟩])
  refine ⟨(g,t2.length,p2,t2++[⟨15,a',b,[],[],0⟩]),⟨by dsimp only;omega,h4,k2b,by simp;omega,k5b.snoc ⟨(show 1≤15 by decide),(show 15≤16 by decide)⟩ (show (0:Nat)<2^128 by decide) (.inr ⟨by simp only;omega,by simp only;omega⟩),by simp⟩,by dsimp only;omega,?_⟩
  simp only [lAq,yaz,yba,nzq] at hc3 ⊢
  exact Z27
theorem AW {f:Nat} (h_yNot:EntOk Tryz.prog 95 (Ent.effect (gu f))):EntOk Tryz.prog 90 (Ent.effect (jJ (f+1))):=by
 refine EntOk.effect fun args H K h=>?_
 unfold jJ aR at h
 split at h
 rotate_left
 ·exact h.elim
 rename_i id
 obtain ⟨m,l,p,tb,t,hg,hpre,hK⟩:=h
 cases ho:run l (f+1) .and p t with
 |none=>rw [ho] at hK;exact hK.elim
 |some r =>
 rw [ho,dy] at hK
 refine ⟨_,_,hK,?_⟩
 clear hK
 rw [run] at ho
 simp only [aZ] at ho
 have hpre':=hpre
 obtain ⟨hne,htb,ht,hp,hl,hgl,hgt⟩:=hpre
 have hid:=glq hg
 have htbl:=glq htb
 have f1:=bw hid
 have f2:=bw htbl
 have hl5:l.length≤100000:=by omega
 have i1:=@Int.natCast_nonneg
 have hne':(id=tb)=False:=eq_false hne
 refine ACalls.fW aE (tCq h_yNot (tCq im (tCq gd tNq))) Tryz.func90 [.tmp 2] ny (T:=ay []) (h:=fun hcl hlt=>?_)
 clear hlt
 obtain ⟨hgi,hgt',hsi,hcl2,hst⟩:=eS hg hpre' hcl
 rcases aK ho with ⟨q,h1,rfl⟩|⟨a,p1,t1,h1,h2⟩
 ·simp only [go_sem,f1,f2,hgi,hgt',hsi,hst,aM,aO,aX,bQ,bp,bR,bq,bm,aW,bf,bh,aR,hne,ne_eq,hne',hl5,iNq,aJ,aI,i1,Int.reduceLE,eq_self,nFq,gu,hg,hpre',h1]
  exact Z24
 clear ho
 obtain ⟨k1,k2,k3,k4,k5,k6⟩:=aH _ h1 hgt trivial hp
 simp only [Rl.isL,Bool.false_eq_true,if_false] at k4
 have hp1:dB ((H.set id (pst m l p1 tb t1)).set tb (.buf 7 t1.length)) id tb l p1 t1:=dt hpre' k2 (by omega) k5
 simp only [go_sem,f1,f2,hgi,hgt',hsi,hst,aM,aO,aX,bQ,bp,bR,bq,bm,aW,bf,bh,aR,hne,ne_eq,hne',hl5,iNq,aJ,aI,i1,Int.reduceLE,eq_self,nFq,gu,hg,hpre',h1]
 refine au (A:=Nat × Nat × Nat × List Nd) (fun x=>[(0,.ptr id 0),(3,.int .i64 (x.2.1:Int))]) (fun x=>(H.set id (pst m l x.2.2.1 tb x.2.2.2)).set tb (.buf 7 x.2.2.2.length))
  (fun x=>x.1≤f∧run l x.1 (.andL x.2.1) x.2.2.1 x.2.2.2=some r∧x.2.2.1≤l.length∧x.2.2.2.length≤x.2.2.1∧Good x.2.2.2∧x.2.1<x.2.2.2.length) (fun x=>x.1) (f,a,p1,t1) ⟨nrq _,h2,k2,by dsimp only;omega,k5,k1⟩ ?_ fun x hx=>?_
 ·exact Z26
 obtain ⟨g,a',p',t'⟩:=x
 obtain ⟨x1,x2,x3,x4,x5,x6⟩:=hx
 dsimp only at x1 x2 x3 x4 x5 x6 ⊢
 have ht':t'.length≤100000:=by omega
 have hpx:dB ((H.set id (pst m l p' tb t')).set tb (.buf 7 t'.length)) id tb l p' t':=dt hpre' x3 x4 x5
 cases g with
 |zero=>cases x2
 |succ g =>
 rw [run] at x2
 simp only [aZ] at x2
 cases hs:isS l p' [38,38] with
 |false =>
  rw [hs,if_neg (by simp)] at x2
  cases x2
  simp only [go_sem,f1,f2,hgi,hgt',hsi,hst,aM,aO,aX,bQ,bp,bR,bq,bm,aW,bf,bh,aR,hne,ne_eq,hne',hl5,iNq,aJ,aI,i1,Int.reduceLE,eq_self,nFq,x3,hs,if_false]
  exact Z23
 |true =>
  rw [hs,if_pos rfl] at x2
  have hlt1:=bD hs
  have hp2:dB ((H.set id (pst m l (p'+1) tb t')).set tb (.buf 7 t'.length)) id tb l (p'+1) t':=dt hpre' hlt1 (by omega) x5
  rcases aK x2 with ⟨q,h3,rfl⟩|⟨b,p2,t2,h3,h4⟩
  ·have h3':=bI (show g≤f by omega) h3
   simp only [go_sem,f1,f2,hgi,hgt',hsi,hst,aM,aO,aX,bQ,bp,bR,bq,bm,aW,bf,bh,aR,hne,ne_eq,hne',hl5,iNq,aJ,aI,i1,Int.reduceLE,eq_self,nFq,gu,x3,hs,if_true,hp2,h3']
   exact Z24
  have h3':=bI (show g≤f by omega) h3
  obtain ⟨k1b,k2b,k3b,k4b,k5b,k6b⟩:=aH _ h3 x5 trivial hlt1
  simp only [Rl.isL,Bool.false_eq_true,if_false] at k4b
  have ht2:t2.length≤100000:=by omega
  simp only [go_sem,f1,f2,hgi,hgt',hsi,hst,aM,aO,aX,bQ,bp,bR,bq,bm,aW,bf,bh,aR,hne,ne_eq,hne',hl5,iNq,aJ,aI,i1,Int.reduceLE,eq_self,nFq,gu,x3,hs,if_true,hp2,h3',ht2]
  have hc3:=hcl2 p2 (t2++[⟨14,a',b,[],[],0⟩])
  refine ⟨(g,t2.length,p2,t2++[⟨14,a',b,[],[],0⟩]),⟨by dsimp only;omega,h4,k2b,by simp;omega,k5b.snoc ⟨(show 1≤14 by decide),(show 14≤16 by decide)⟩ (show (0:Nat)<2^128 by decide) (.inr ⟨by simp only;omega,by simp only;omega⟩),by simp⟩,by dsimp only;omega,?_⟩
  simp only [lAq,yaz,yba,nzq] at hc3 ⊢
  exact Z27
theorem AK {f:Nat} (h_yNot:EntOk Tryz.prog 95 (Ent.effect (gu f))) (h_yCmp:EntOk Tryz.prog 99 (Ent.effect (pj f))):EntOk Tryz.prog 95 (Ent.effect (gu (f+1))):=by
 refine EntOk.effect fun args H K h=>?_
 unfold gu aR at h
 split at h
 rotate_left
 ·exact h.elim
 rename_i id
 obtain ⟨m,l,p,tb,t,hg,hpre,hK⟩:=h
 cases ho:run l (f+1) .not p t with
 |none=>rw [ho] at hK;exact hK.elim
 |some r =>
 rw [ho,dy] at hK
 refine ⟨_,_,hK,?_⟩
 clear hK
 rw [run] at ho
 simp only [aZ] at ho
 have hpre':=hpre
 obtain ⟨hne,htb,ht,hp,hl,hgl,hgt⟩:=hpre
 have hid:=glq hg
 have htbl:=glq htb
 have f1:=bw hid
 have f2:=bw htbl
 have hl5:l.length≤100000:=by omega
 have i1:=@Int.natCast_nonneg
 have hne':(id=tb)=False:=eq_false hne
 refine ACalls.fW aE (tCq im (tCq h_yNot (tCq gd (tCq h_yCmp tNq)))) Tryz.func95 [.tmp 2] ny (T:=ay []) (h:=fun hcl hlt=>?_)
 clear hlt
 obtain ⟨hgi,hgt',hsi,hcl2,hst⟩:=eS hg hpre' hcl
 cases hs:isS l p [33] with
 |false =>
  rw [hs,if_neg (by simp)] at ho
  simp only [go_sem,f1,f2,hgi,hgt',hsi,hst,aM,aO,aX,bQ,bp,bR,bq,bm,aW,bf,bh,aR,hne,ne_eq,hne',hl5,iNq,aJ,aI,i1,Int.reduceLE,eq_self,nFq,pj,hg,hp,hs,if_false,hpre',ho,dy]
  cases r with
  |ok a q u =>
   simp only [go_sem,f1,f2,hgi,hgt',hsi,hst,aM,aO,aX,bQ,bp,bR,bq,bm,aW,bf,bh,aR,hne,ne_eq,hne',hl5,iNq,aJ,aI,i1,Int.reduceLE,eq_self,nFq]
   exact Z23
  |bad q =>
   simp only [go_sem,f1,f2,hgi,hgt',hsi,hst,aM,aO,aX,bQ,bp,bR,bq,bm,aW,bf,bh,aR,hne,ne_eq,hne',hl5,iNq,aJ,aI,i1,Int.reduceLE,eq_self,nFq]
   exact Z24
 |true =>
  rw [hs,if_pos rfl] at ho
  have hlt1:=bD hs
  have hgi1:∀ X,(H.set id X).get id=some X:=fun X=>AHeap.get_set_same _ _ hid
  have hp2:dB (H.set id (pst m l (p+1) tb t)) id tb l (p+1) t:=gh hpre' hlt1 (by omega)
  have hss:∀ X Y,(H.set id X).set id Y=H.set id Y:=fun X Y=>by simp only [AHeap.set];congr 1;funext k;by_cases hk:k=id<;>simp [hk]
  rcases aK ho with ⟨q,h3,rfl⟩|⟨b,p2,t2,h3,h4⟩
  ·simp only [go_sem,f1,f2,hgi,hgt',hsi,hst,aM,aO,aX,bQ,bp,bR,bq,bm,aW,bf,bh,aR,hne,ne_eq,hne',hl5,iNq,aJ,aI,i1,Int.reduceLE,eq_self,nFq,gu,hg,hp,hs,if_true,hgi1,hss,hp2,h3]
   exact Z24
  cases h4
  obtain ⟨k1b,k2b,k3b,k4b,k5b,k6b⟩:=aH _ h3 hgt trivial hlt1
  simp only [Rl.isL,Bool.false_eq_true,if_false] at k4b
  have ht2:t2.length≤100000:=by omega
  simp only [go_sem,f1,f2,hgi,hgt',hsi,hst,aM,aO,aX,bQ,bp,bR,bq,bm,aW,bf,bh,aR,hne,ne_eq,hne',hl5,iNq,aJ,aI,i1,Int.reduceLE,eq_self,nFq,gu,hg,hp,hs,if_true,hgi1,hss,hp2,h3,ht2,nd2]
  have hc3:=hcl2 p2 (t2++[⟨5,b,0,[],[],0⟩])
  simp only [lAq,yaz,yba,nzq] at hc3 ⊢
  exact Z25
theorem Dh {f:Nat} (h_yUn:EntOk Tryz.prog 104 (Ent.effect (jI f))) (h_yAtom:EntOk Tryz.prog 106 (Ent.effect (lV f))):EntOk Tryz.prog 104 (Ent.effect (jI (f+1))):=by
 refine EntOk.effect fun args H K h=>?_
 unfold jI aR at h
 split at h
 rotate_left
 ·exact h.elim
 rename_i id
 obtain ⟨m,l,p,tb,t,hg,hpre,hK⟩:=h
 cases ho:run l (f+1) .un p t with
 |none=>rw [ho] at hK;exact hK.elim
 |some r =>
 rw [ho,dy] at hK
 refine ⟨_,_,hK,?_⟩
 clear hK
 rw [run] at ho
 simp only [aZ] at ho
 have hpre':=hpre
 obtain ⟨hne,htb,ht,hp,hl,hgl,hgt⟩:=hpre
 have hid:=glq hg
 have htbl:=glq htb
 have f1:=bw hid
 have f2:=bw htbl
 have hl5:l.length≤100000:=by omega
 have i1:=@Int.natCast_nonneg
 have hne':(id=tb)=False:=eq_false hne
 refine ACalls.fW aE (tCq im (tCq h_yUn (tCq gd (tCq h_yAtom tNq)))) Tryz.func104 [.tmp 2] ny (T:=ay []) (h:=fun hcl hlt=>?_)
 clear hlt
 obtain ⟨hgi,hgt',hsi,hcl2,hst⟩:=eS hg hpre' hcl
 cases hs:isS l p [45] with
 |false =>
  rw [hs,if_neg (by simp)] at ho
  simp only [go_sem,f1,f2,hgi,hgt',hsi,hst,aM,aO,aX,bQ,bp,bR,bq,bm,aW,bf,bh,aR,hne,ne_eq,hne',hl5,iNq,aJ,aI,i1,Int.reduceLE,eq_self,nFq,lV,hg,hp,hs,if_false,hpre',ho,dy]
  cases r with
  |ok a q u =>
   simp only [go_sem,f1,f2,hgi,hgt',hsi,hst,aM,aO,aX,bQ,bp,bR,bq,bm,aW,bf,bh,aR,hne,ne_eq,hne',hl5,iNq,aJ,aI,i1,Int.reduceLE,eq_self,nFq]
   exact Z23
  |bad q =>
   simp only [go_sem,f1,f2,hgi,hgt',hsi,hst,aM,aO,aX,bQ,bp,bR,bq,bm,aW,bf,bh,aR,hne,ne_eq,hne',hl5,iNq,aJ,aI,i1,Int.reduceLE,eq_self,nFq]
   exact Z24
 |true =>
  rw [hs,if_pos rfl] at ho
  have hlt1:=bD hs
  have hgi1:∀ X,(H.set id X).get id=some X:=fun X=>AHeap.get_set_same _ _ hid
  have hp2:dB (H.set id (pst m l (p+1) tb t)) id tb l (p+1) t:=gh hpre' hlt1 (by omega)
  have hss:∀ X Y,(H.set id X).set id Y=H.set id Y:=fun X Y=>by simp only [AHeap.set];congr 1;funext k;by_cases hk:k=id<;>simp [hk]
  rcases aK ho with ⟨q,h3,rfl⟩|⟨b,p2,t2,h3,h4⟩
  ·simp only [go_sem,f1,f2,hgi,hgt',hsi,hst,aM,aO,aX,bQ,bp,bR,bq,bm,aW,bf,bh,aR,hne,ne_eq,hne',hl5,iNq,aJ,aI,i1,Int.reduceLE,eq_self,nFq,jI,hg,hp,hs,if_true,hgi1,hss,hp2,h3]
   exact Z24
  cases h4
  obtain ⟨k1b,k2b,k3b,k4b,k5b,k6b⟩:=aH _ h3 hgt trivial hlt1
  simp only [Rl.isL,Bool.false_eq_true,if_false] at k4b
  have ht2:t2.length≤100000:=by omega
  simp only [go_sem,f1,f2,hgi,hgt',hsi,hst,aM,aO,aX,bQ,bp,bR,bq,bm,aW,bf,bh,aR,hne,ne_eq,hne',hl5,iNq,aJ,aI,i1,Int.reduceLE,eq_self,nFq,jI,hg,hp,hs,if_true,hgi1,hss,hp2,h3,ht2,nd2]
  have hc3:=hcl2 p2 (t2++[⟨4,b,0,[],[],0⟩])
  simp only [lAq,yaz,yba,nzq] at hc3 ⊢
  exact Z25
theorem Bk {f:Nat} (h_ySum:EntOk Tryz.prog 101 (Ent.effect (jV f))):EntOk Tryz.prog 99 (Ent.effect (pj (f+1))):=by
 refine EntOk.effect fun args H K h=>?_
 unfold pj aR at h
 split at h
 rotate_left
 ·exact h.elim
 rename_i id
 obtain ⟨m,l,p,tb,t,hg,hpre,hK⟩:=h
 cases ho:run l (f+1) .cmp p t with
 |none=>rw [ho] at hK;exact hK.elim
 |some r =>
 rw [ho,dy] at hK
 refine ⟨_,_,hK,?_⟩
 clear hK
 rw [run] at ho
 simp only [aZ] at ho
 have hpre':=hpre
 obtain ⟨hne,htb,ht,hp,hl,hgl,hgt⟩:=hpre
 have hid:=glq hg
 have htbl:=glq htb
 have f1:=bw hid
 have f2:=bw htbl
 have hl5:l.length≤100000:=by omega
 have i1:=@Int.natCast_nonneg
 have hne':(id=tb)=False:=eq_false hne
 refine ACalls.fW aE (tCq h_ySum (tCq ss (tCq tV (tCq gd tNq)))) Tryz.func99 [.tmp 2] ny (T:=ay []) (h:=fun hcl hlt=>?_)
 clear hlt
 obtain ⟨hgi,hgt',hsi,hcl2,hst⟩:=eS hg hpre' hcl
 rcases aK ho with ⟨q,h1,rfl⟩|⟨a,p1,t1,h1,h2⟩
 ·simp only [go_sem,f1,f2,hgi,hgt',hsi,hst,aM,aO,aX,bQ,bp,bR,bq,bm,aW,bf,bh,aR,hne,ne_eq,hne',hl5,iNq,aJ,aI,i1,Int.reduceLE,eq_self,nFq,jV,hg,hpre',h1]
  exact Z24
 clear ho
 obtain ⟨k1,k2,k3,k4,k5,k6⟩:=aH _ h1 hgt trivial hp
 simp only [Rl.isL,Bool.false_eq_true,if_false] at k4
 have hp1:dB ((H.set id (pst m l p1 tb t1)).set tb (.buf 7 t1.length)) id tb l p1 t1:=dt hpre' k2 (by omega) k5
 cases hs:cv l p1 opsC with
 |none =>
  rw [hs] at h2
  cases h2
  simp only [go_sem,f1,f2,hgi,hgt',hsi,hst,aM,aO,aX,bQ,bp,bR,bq,bm,aW,bf,bh,aR,hne,ne_eq,hne',hl5,iNq,aJ,aI,i1,Int.reduceLE,eq_self,nFq,gV,df,gS,fu,iB,iE,jV,hg,hpre',h1,k2,hs,l7]
  refine rf rfl ?_
  simp only [go_sem,f1,f2,hgi,hgt',hsi,hst,aM,aO,aX,bQ,bp,bR,bq,bm,aW,bf,bh,aR,hne,ne_eq,hne',hl5,iNq,aJ,aI,i1,Int.reduceLE,eq_self,nFq]
  exact Z23
 |some op =>
  rw [hs] at h2
  dsimp only at h2
  obtain ⟨hlt1,so,hso⟩:=dT hs
  obtain ⟨o1,o2⟩:=rN hso
  have hop:((op:Int) != 0)=true:=by simp;omega
  have hp2:dB ((H.set id (pst m l (p1+1) tb t1)).set tb (.buf 7 t1.length)) id tb l (p1+1) t1:=dt hpre' hlt1 (by omega) k5
  rcases aK h2 with ⟨q,h3,rfl⟩|⟨b,p2,t2,h3,h4⟩
  ·simp only [go_sem,f1,f2,hgi,hgt',hsi,hst,aM,aO,aX,bQ,bp,bR,bq,bm,aW,bf,bh,aR,hne,ne_eq,hne',hl5,iNq,aJ,aI,i1,Int.reduceLE,eq_self,nFq,gV,df,gS,fu,iB,iE,jV,hg,hpre',h1,k2,hs,jE,hop,hp2,h3]
   exact Z24
  cases h4
  obtain ⟨k1b,k2b,k3b,k4b,k5b,k6b⟩:=aH _ h3 k5 trivial hlt1
  simp only [Rl.isL,Bool.false_eq_true,if_false] at k4b
  have ht2:t2.length≤100000:=by omega
  simp only [go_sem,f1,f2,hgi,hgt',hsi,hst,aM,aO,aX,bQ,bp,bR,bq,bm,aW,bf,bh,aR,hne,ne_eq,hne',hl5,iNq,aJ,aI,i1,Int.reduceLE,eq_self,nFq,gV,df,gS,fu,iB,iE,jV,hg,hpre',h1,k2,hs,jE,hop,hp2,h3,ht2,nd2]
  have hc3:=hcl2 p2 (t2++[⟨op,a,b,[],[],0⟩])
  simp only [lAq,yaz,yba,nzq] at hc3 ⊢
  exact Z25
theorem BI {f:Nat} (h_yUn:EntOk Tryz.prog 104 (Ent.effect (jI f))):EntOk Tryz.prog 101 (Ent.effect (jV (f+1))):=by
 refine EntOk.effect fun args H K h=>?_
 unfold jV aR at h
 split at h
 rotate_left
 ·exact h.elim
 rename_i id
 obtain ⟨m,l,p,tb,t,hg,hpre,hK⟩:=h
 cases ho:run l (f+1) .sum p t with
 |none=>rw [ho] at hK;exact hK.elim
 |some r =>
 rw [ho,dy] at hK
 refine ⟨_,_,hK,?_⟩
 clear hK
 rw [run] at ho
 simp only [aZ] at ho
 have hpre':=hpre
 obtain ⟨hne,htb,ht,hp,hl,hgl,hgt⟩:=hpre
 have hid:=glq hg
 have htbl:=glq htb
 have f1:=bw hid
 have f2:=bw htbl
 have hl5:l.length≤100000:=by omega
 have i1:=@Int.natCast_nonneg
 have hne':(id=tb)=False:=eq_false hne
 refine ACalls.fW aE (tCq h_yUn (tCq zp (tCq tV (tCq gd tNq)))) Tryz.func101 [.tmp 2] ny (T:=ay []) (h:=fun hcl hlt=>?_)
 clear hlt
 obtain ⟨hgi,hgt',hsi,hcl2,hst⟩:=eS hg hpre' hcl
 rcases aK ho with ⟨q,h1,rfl⟩|⟨a,p1,t1,h1,h2⟩
 ·simp only [go_sem,f1,f2,hgi,hgt',hsi,hst,aM,aO,aX,bQ,bp,bR,bq,bm,aW,bf,bh,aR,hne,ne_eq,hne',hl5,iNq,aJ,aI,i1,Int.reduceLE,eq_self,nFq,jI,hg,hpre',h1]
  exact Z24
 clear ho
 obtain ⟨k1,k2,k3,k4,k5,k6⟩:=aH _ h1 hgt trivial hp
 simp only [Rl.isL,Bool.false_eq_true,if_false] at k4
 have hp1:dB ((H.set id (pst m l p1 tb t1)).set tb (.buf 7 t1.length)) id tb l p1 t1:=dt hpre' k2 (by omega) k5
 have hsn:∀ p',cv l p' opsS=none→opv l p'=0∧oph l p'=p':=fun p' e=>by simp [opv,oph,e]
 have hss:∀ p' op,cv l p' opsS=some op→opv l p'=op∧oph l p'=p'+1:=fun p' op e=>by simp [opv,oph,e]
 have hev:∀ p',(cv l p' opsS=none∧opv l p'=0∧oph l p'=p')∨∃ op,cv l p' opsS=some op∧opv l p'=op∧oph l p'=p'+1:=fun p'=>by
  cases hs:cv l p' opsS with
  |none=>exact .inl ⟨rfl,hsn _ hs⟩
  |some op=>exact .inr ⟨op,rfl,hss _ _ hs⟩
 simp only [go_sem,f1,f2,hgi,hgt',hsi,hst,aM,aO,aX,bQ,bp,bR,bq,bm,aW,bf,bh,aR,hne,ne_eq,hne',hl5,iNq,aJ,aI,i1,Int.reduceLE,eq_self,nFq,gV,df,gS,fu,iB,iE,jI,hg,hpre',h1,k2]
 rcases hev p1 with ⟨hs1,v1,v2⟩|⟨op1,hs1,v1,v2⟩
 all_goals
  simp only [go_sem,f1,f2,hgi,hgt',hsi,hst,aM,aO,aX,bQ,bp,bR,bq,bm,aW,bf,bh,aR,hne,ne_eq,hne',hl5,iNq,aJ,aI,i1,Int.reduceLE,eq_self,nFq,gV,df,gS,fu,iB,iE,k2,hs1,l7,jE]
  refine au (A:=Nat × Nat × Nat × List Nd) (fun x=>[(0,.ptr id 0),(3,.int .i64 (x.2.1:Int)),(4,.int .i64 (opv l x.2.2.1:Int))]) (fun x=>(H.set id (pst m l (oph l x.2.2.1) tb x.2.2.2)).set tb (.buf 7 x.2.2.2.length)) (fun x=>x.1≤f∧run l x.1 (.sumL x.2.1) x.2.2.1 x.2.2.2=some r∧x.2.2.1≤l.length∧x.2.2.2.length≤x.2.2.1∧Good x.2.2.2∧x.2.1<x.2.2.2.length) (fun x=>x.1) (f,a,p1,t1) ⟨nrq _,h2,k2,by dsimp only;omega,k5,k1⟩ ?_ fun x hx=>?_
  ·dsimp only
   rw [v1,v2]
   exact Z26
  obtain ⟨g,a',p',t'⟩:=x
  obtain ⟨x1,x2,x3,x4,x5,x6⟩:=hx
  dsimp only at x1 x2 x3 x4 x5 x6 ⊢
  have ht':t'.length≤100000:=by omega
  cases g with
  |zero=>cases x2
  |succ g =>
  rw [run] at x2
  simp only [aZ] at x2
  rcases hev p' with ⟨hs,u1,u2⟩|⟨op,hs,u1,u2⟩
  ·rw [hs] at x2
   cases x2
   rw [u1,u2]
   simp only [go_sem,f1,f2,hgi,hgt',hsi,hst,aM,aO,aX,bQ,bp,bR,bq,bm,aW,bf,bh,aR,hne,ne_eq,hne',hl5,iNq,aJ,aI,i1,Int.reduceLE,eq_self,nFq]
   refine rf rfl ?_
   simp only [go_sem,f1,f2,hgi,hgt',hsi,hst,aM,aO,aX,bQ,bp,bR,bq,bm,aW,bf,bh,aR,hne,ne_eq,hne',hl5,iNq,aJ,aI,i1,Int.reduceLE,eq_self,nFq]
   exact Z23
  ·rw [hs] at x2
   dsimp only at x2
   rw [u1,u2]
   obtain ⟨hlt1,so,hso⟩:=dT hs
   obtain ⟨o1,o2⟩:=kB hso
   have hop:((op:Int) != 0)=true:=by simp;omega
   have hp2:dB ((H.set id (pst m l (p'+1) tb t')).set tb (.buf 7 t'.length)) id tb l (p'+1) t':=dt hpre' hlt1 (by omega) x5
   rcases aK x2 with ⟨q,h3,rfl⟩|⟨b,p2,t2,h3,h4⟩
   ·have h3':=bI (show g≤f by omega) h3
    simp only [go_sem,f1,f2,hgi,hgt',hsi,hst,aM,aO,aX,bQ,bp,bR,bq,bm,aW,bf,bh,aR,hne,ne_eq,hne',hl5,iNq,aJ,aI,i1,Int.reduceLE,eq_self,nFq,jI,hop,hp2,h3']
    exact Z24
   have h3':=bI (show g≤f by omega) h3
   obtain ⟨k1b,k2b,k3b,k4b,k5b,k6b⟩:=aH _ h3 x5 trivial hlt1
   simp only [Rl.isL,Bool.false_eq_true,if_false] at k4b
   have ht2:t2.length≤100000:=by omega
   have hc3:=hcl2 (oph l p2) (t2++[⟨op,a',b,[],[],0⟩])
   rcases hev p2 with ⟨hs2,w1,w2⟩|⟨op2,hs2,w1,w2⟩
   all_goals
    simp only [go_sem,f1,f2,hgi,hgt',hsi,hst,aM,aO,aX,bQ,bp,bR,bq,bm,aW,bf,bh,aR,hne,ne_eq,hne',hl5,iNq,aJ,aI,i1,Int.reduceLE,eq_self,nFq,gV,df,gS,fu,iB,iE,jI,hop,hp2,h3',ht2,k2b,hs2,l7,jE]
    refine ⟨(g,t2.length,p2,t2++[⟨op,a',b,[],[],0⟩]),⟨by dsimp only;omega,h4,k2b,by simp;omega,k5b.snoc ⟨(by show 1≤op;omega),o2⟩ (show (0:Nat)<2^128 by decide) (.inr ⟨by simp only;omega,by simp only;omega⟩),by simp⟩,by dsimp only;omega,?_⟩
    dsimp only
    rw [w1,w2]
    rw [w2] at hc3
    simp only [lAq,yaz,yba,nzq] at hc3 ⊢
    (simp only [bkq,enterW,aU,ltF,ne_eq,Nat.reduceEqDiff,reduceCtorEq,hc3,hid];try simp (disch:=first|exact Zd|omega) [↓zmo,beq,ybc,ybd,ybe,af,wk,wk2,wk1,wkM,wkL,am,ybf,byq,biq,ae,hcl,hc3,hid];try (repeat' (first|assumption|omega|exact True.intro|refine And.intro ?_ ?_|refine ag ?_|refine ac ?_|refine aa ?_ ?_|refine ai ?_ ?_|refine ak ?_|exact lRq _|refine lPq ?_ _|refine AHeap.Le.del ?_ ?_|(simp only [bt,and_true,true_and,hc3,hid];first|done|omega|(simp;done)))))
theorem y7 {f:Nat} (h_yImp:EntOk Tryz.prog 58 (Ent.effect (fE f))):EntOk Tryz.prog 106 (Ent.effect (lV (f+1))):=by
 refine EntOk.effect fun args H K h=>?_
 unfold lV aR at h
 split at h
 rotate_left
 ·exact h.elim
 rename_i id
 obtain ⟨m,l,p,tb,t,hg,hpre,hK⟩:=h
 cases ho:run l (f+1) .atom p t with
 |none=>rw [ho] at hK;exact hK.elim
 |some r =>
 rw [ho,dy] at hK
 refine ⟨_,_,hK,?_⟩
 clear hK
 rw [run] at ho
 simp only [aZ] at ho
 have hpre':=hpre
 obtain ⟨hne,htb,ht,hp,hl,hgl,hgt⟩:=hpre
 have hid:=glq hg
 have htbl:=glq htb
 have f1:=bw hid
 have f2:=bw htbl
 have hl5:l.length≤100000:=by omega
 have i1:=@Int.natCast_nonneg
 have hne':(id=tb)=False:=eq_false hne
 refine ACalls.fW aE (tCq im (tCq h_yImp (tCq iW (tCq tU (tCq zU (tCq xq (tCq gd tNq))))))) Tryz.func106 [.tmp 2] ny (T:=ay []) (h:=fun hcl hlt=>?_)
 clear hlt
 obtain ⟨hgi,hgt',hsi,hcl2,hst⟩:=eS hg hpre' hcl
 have hgi1:∀ X,(H.set id X).get id=some X:=fun X=>AHeap.get_set_same _ _ hid
 have hgt1:∀ X,(H.set id X).get tb=some (.buf 7 t.length):=fun X=>by rw [AHeap.get_set_ne _ _ (fun e=>hne e.symm)];exact htb
 have hss:∀ X Y,(H.set id X).set id Y=H.set id Y:=fun X Y=>by simp only [AHeap.set];congr 1;funext k;by_cases hk:k=id<;>simp [hk]
 have hcs:=bg (cs:=[.slice m 3 (ce l),.int .i64 (p:Int),.slice (.own tb) 7 (nds t)]) hg
 have ht5:t.length≤100000:=by omega
 cases hs0:isS l p [40] with
 |true =>
  rw [hs0,if_pos rfl] at ho
  have hlt1:=bD hs0
  have hp2:dB (H.set id (pst m l (p+1) tb t)) id tb l (p+1) t:=gh hpre' hlt1 (by omega)
  rcases aK ho with ⟨q,h3,rfl⟩|⟨a,p1,t1,h3,h4⟩
  ·simp only [go_sem,f1,f2,hgi,hgt',hsi,hst,aM,aO,aX,bQ,bp,bR,bq,bm,aW,bf,bh,aR,hne,ne_eq,hne',hl5,iNq,aJ,aI,i1,Int.reduceLE,eq_self,nFq,fE,hg,hp,hs0,if_true,hgi1,hss,hp2,h3]
   exact Z24
  obtain ⟨k1b,k2b,k3b,k4b,k5b,k6b⟩:=aH _ h3 hgt trivial hlt1
  simp only [Rl.isL,Bool.false_eq_true,if_false] at k4b
  cases hs2:isS l p1 [41] with
  |true =>
   rw [hs2,if_pos rfl] at h4
   cases h4
   simp only [go_sem,f1,f2,hgi,hgt',hsi,hst,aM,aO,aX,bQ,bp,bR,bq,bm,aW,bf,bh,aR,hne,ne_eq,hne',hl5,iNq,aJ,aI,i1,Int.reduceLE,eq_self,nFq,fE,hg,hp,hs0,if_true,hgi1,hss,hp2,h3,k2b,hs2]
   exact Z23
  |false =>
   rw [hs2,if_neg (by simp)] at h4
   cases h4
   simp only [go_sem,f1,f2,hgi,hgt',hsi,hst,aM,aO,aX,bQ,bp,bR,bq,bm,aW,bf,bh,aR,hne,ne_eq,hne',hl5,iNq,aJ,aI,i1,Int.reduceLE,eq_self,nFq,fE,c6,hg,hp,hs0,if_true,if_false,hgi1,hss,hp2,h3,k2b,hs2]
   exact Z24
 |false =>
  rw [hs0,if_neg (by simp)] at ho
  cases ho
  by_cases hlt0:p<l.length
  ·rcases htk:l[p] with ⟨k,x,z⟩
   have hgd:=jf hlt0 htk
   have hge:l[p]?=some (k,x,z):=by rw [gQq hlt0,htk]
   have d0:decide ((p:Int)<(l.length:Int))=true:=by simp;omega
   by_cases hk1:k=1
   ·subst hk1
    have hka:lv l p=1:=by unfold lv;rw [hge]
    have hr:bC l p t=.ok t.length (p+1) (t++[⟨1,0,0,[],[],qz l p⟩]):=by unfold bC qz;rw [hge];rfl
    have hd1:(((1:Nat):Int)==1)=true:=rfl
    rw [hr]
    have hc3:=hcl2 (p+1) (t++[⟨1,0,0,[],[],qz l p⟩])
    simp only [go_sem,f1,f2,hgi,hgt',hsi,hst,aM,aO,aX,bQ,bp,bR,bq,bm,aW,bf,bh,aR,hne,ne_eq,hne',hl5,iNq,aJ,aI,i1,Int.reduceLE,eq_self,nFq,hg,hp,hs0,if_false,hcs,aB,hgd,d0,fI,cY,c6,eD,hp,hgi1,hgt1,hss,ht5,dV,da,dX,bne_self_eq_false,beq_self_eq_true,hd1,hka,hpre']
    simp only [lAq,yaz,yba,nzq] at hc3 ⊢
    refine ⟨by omega,?_⟩
    exact Z25
   ·have d1:((k:Int)==1)=false:=by simp;omega
    by_cases hk2:k=2
    ·subst hk2
     have hw:fX l p=some x:=by unfold fX;rw [hge];rfl
     have hd2:(((2:Nat):Int)==1)=false:=rfl
     by_cases hx1:x=ey
     ·have hr:bC l p t=.ok t.length (p+1) (t++[⟨2,0,0,[],[],1⟩]):=by unfold bC;rw [hge];simp [hx1]
      have htr:hJ x=.tup [dX 2 1,.bool true]:=by unfold hJ;rw [if_pos hx1]
      rw [hr]
      have hc3:=hcl2 (p+1) (t++[⟨2,0,0,[],[],1⟩])
      simp only [go_sem,f1,f2,hgi,hgt',hsi,hst,aM,aO,aX,bQ,bp,bR,bq,bm,aW,bf,bh,aR,hne,ne_eq,hne',hl5,iNq,aJ,aI,i1,Int.reduceLE,eq_self,nFq,hg,hp,hs0,if_false,hcs,aB,hgd,d0,fI,cY,c6,eD,hp,hgi1,hgt1,hss,ht5,dV,da,dX,bne_self_eq_false,beq_self_eq_true,hd2,hw,htr,B3,B9]
      simp only [lAq,yaz,yba,nzq] at hc3 ⊢
      refine ⟨by omega,?_⟩
      exact Z25
     ·by_cases hx2:x=cP
      ·have hr:bC l p t=.ok t.length (p+1) (t++[⟨2,0,0,[],[],0⟩]):=by unfold bC;rw [hge];simp [hx1,hx2];decide
       have htr:hJ x=.tup [dX 2 0,.bool true]:=by unfold hJ;rw [if_neg hx1,if_pos hx2]
       rw [hr]
       have hc3:=hcl2 (p+1) (t++[⟨2,0,0,[],[],0⟩])
       simp only [go_sem,f1,f2,hgi,hgt',hsi,hst,aM,aO,aX,bQ,bp,bR,bq,bm,aW,bf,bh,aR,hne,ne_eq,hne',hl5,iNq,aJ,aI,i1,Int.reduceLE,eq_self,nFq,hg,hp,hs0,if_false,hcs,aB,hgd,d0,fI,cY,c6,eD,hp,hgi1,hgt1,hss,ht5,dV,da,dX,bne_self_eq_false,beq_self_eq_true,hd2,hw,htr]
       simp only [lAq,yaz,yba,nzq] at hc3 ⊢
       refine ⟨by omega,?_⟩
       exact Z25
      ·have htr:hJ x=.tup [dX 0 0,.bool false]:=by unfold hJ;rw [if_neg hx1,if_neg hx2]
       have hp1:p+1≤l.length:=by omega
       cases hs3:isS l (p+1) [58,58] with
       |false =>
        have hr:bC l p t=.ok t.length (p+1) (t++[⟨3,0,0,x,[],0⟩]):=by unfold bC;rw [hge];simp [hx1,hx2,hs3]
        rw [hr]
        have hc3:=hcl2 (p+1) (t++[⟨3,0,0,x,[],0⟩])
        simp only [go_sem,f1,f2,hgi,hgt',hsi,hst,aM,aO,aX,bQ,bp,bR,bq,bm,aW,bf,bh,aR,hne,ne_eq,hne',hl5,iNq,aJ,aI,i1,Int.reduceLE,eq_self,nFq,hg,hp,hs0,if_false,hcs,aB,hgd,d0,fI,cY,c6,eD,hp,hgi1,hgt1,hss,ht5,dV,da,dX,bne_self_eq_false,beq_self_eq_true,hd2,hw,htr,hp1,hs3]
        simp only [lAq,yaz,yba,nzq] at hc3 ⊢
        refine ⟨by omega,?_⟩
        exact Z25
       |true =>
        have hlt3:=bD hs3
        have hp2:p+1+1≤l.length:=by omega
        have hp3:p+2=p+1+1:=rfl
        cases hw2:fX l (p+1+1) with
        |none =>
         have hr:bC l p t=.bad (p+1+1):=by
          unfold bC;rw [hge];simp [hx1,hx2,hs3]
          unfold fX at hw2
          cases hge2:l[p+1+1]? with
          |none=>rfl
          |some v =>
           obtain ⟨k2,y,z2⟩:=v
           rw [hge2] at hw2
           dsimp only at hw2 ⊢
           split at hw2
           ·cases hw2
           ·rename_i hk;rw [if_neg hk]
         rw [hr]
         simp only [go_sem,f1,f2,hgi,hgt',hsi,hst,aM,aO,aX,bQ,bp,bR,bq,bm,aW,bf,bh,aR,hne,ne_eq,hne',hl5,iNq,aJ,aI,i1,Int.reduceLE,eq_self,nFq,hg,hp,hs0,if_false,hcs,aB,hgd,d0,fI,cY,c6,eD,hp,hgi1,hgt1,hss,ht5,dV,da,dX,bne_self_eq_false,beq_self_eq_true,hd2,hw,htr,hp1,hs3,if_true,hp2,hw2]
         refine ⟨by omega,?_⟩
         simp (disch:=first|exact Zd|omega) [↓zmo,beq,ybc,ybd,ybe,af,wk,wk2,wk1,wkM,wkL,am,ybf,fb hcl,zmw,eC,dd_le1,dm]
         exact (dd_le1.push _).push _
        |some y =>
         have hr:bC l p t=.ok t.length (p+1+1+1) (t++[⟨3,0,0,x,y,0⟩]):=by
          unfold bC;rw [hge];simp [hx1,hx2,hs3]
          unfold fX at hw2
          cases hge2:l[p+1+1]? with
          |none=>rw [hge2] at hw2;cases hw2
          |some v =>
           obtain ⟨k2,y2,z2⟩:=v
           rw [hge2] at hw2
           dsimp only at hw2 ⊢
           split at hw2
           ·rename_i hk;cases hw2;rw [if_pos hk]
           ·cases hw2
         rw [hr]
         have hc3:=hcl2 (p+1+1+1) (t++[⟨3,0,0,x,y,0⟩])
         simp only [go_sem,f1,f2,hgi,hgt',hsi,hst,aM,aO,aX,bQ,bp,bR,bq,bm,aW,bf,bh,aR,hne,ne_eq,hne',hl5,iNq,aJ,aI,i1,Int.reduceLE,eq_self,nFq,hg,hp,hs0,if_false,hcs,aB,hgd,d0,fI,cY,c6,eD,hp,hgi1,hgt1,hss,ht5,dV,da,dX,bne_self_eq_false,beq_self_eq_true,hd2,hw,htr,hp1,hs3,if_true,hp2,hw2]
         simp only [lAq,yaz,yba,nzq] at hc3 ⊢
         refine ⟨by omega,?_⟩
         exact Z25
    ·have hw:fX l p=none:=by unfold fX;rw [hge];dsimp only;rw [if_neg hk2]
     have hr:bC l p t=.bad p:=by unfold bC;rw [hge];simp [hk1,hk2]
     rw [hr]
     simp only [go_sem,f1,f2,hgi,hgt',hsi,hst,aM,aO,aX,bQ,bp,bR,bq,bm,aW,bf,bh,aR,hne,ne_eq,hne',hl5,iNq,aJ,aI,i1,Int.reduceLE,eq_self,nFq,hg,hp,hs0,if_false,hcs,aB,hgd,d0,fI,cY,c6,eD,hp,hgi1,hgt1,hss,ht5,dV,da,dX,bne_self_eq_false,beq_self_eq_true,d1,hw]
     refine ⟨by omega,?_⟩
     exact Z24
  ·have hpe:p=l.length:=by omega
   subst hpe
   have hge:l[l.length]?=none:=gNq (nrq _)
   have hw:fX l l.length=none:=by unfold fX;rw [hge]
   have hr:bC l l.length t=.bad l.length:=by unfold bC;rw [hge]
   have d0:decide ((l.length:Int)<(l.length:Int))=false:=by simp
   rw [hr]
   simp only [go_sem,f1,f2,hgi,hgt',hsi,hst,aM,aO,aX,bQ,bp,bR,bq,bm,aW,bf,bh,aR,hne,ne_eq,hne',hl5,iNq,aJ,aI,i1,Int.reduceLE,eq_self,nFq,hg,hp,hs0,if_false,hcs,aB,d0,fI,cY,c6,eD,hp,hgi1,hgt1,hss,ht5,dV,da,dX,bne_self_eq_false,beq_self_eq_true,hw,nrq]
   exact Z24
end Go.AL
