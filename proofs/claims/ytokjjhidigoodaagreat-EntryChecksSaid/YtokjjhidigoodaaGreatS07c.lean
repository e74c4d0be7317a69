/- Lemmas of the proof; no condition. -/
import Derived.Test.YtokjjhidigoodaaGreatE06
import Derived.Test.YtokjjhidigoodaaGreatLSyn
set_option linter.all false
set_option maxRecDepth 10000
set_option maxHeartbeats 32000000
open List renaming map_cons → yae, length_cons → yaz, length_nil → yba, take_of_length_le → ybc, drop_append → ybd, take_append → ybe, drop_eq_nil_of_le → ybf
open Go Go.AL Go.Proofs
namespace Go.AL
theorem L4:ti Tryz.prog 180=some ⟨.struct [(0,3,false),(1,3,false),(2,3,false),(3,9,false),(4,9,false),(5,48,false)],7,72,.agg [.int .i64 0,.int .i64 0,.int .i64 0,.str [],.str [],.int .u64 0,.int .u64 0]⟩:=by kernel_rfl
theorem Js:ti Tryz.prog 92=some ⟨.slice 180,1,24,.slice .nil 1 []⟩:=by kernel_rfl
theorem Gw:ti Tryz.prog 441=some ⟨.struct [(0,181,false),(1,3,false),(2,92,false)],3,56,.agg [.slice .nil 1 [],.int .i64 0,.slice .nil 1 []]⟩:=by kernel_rfl
theorem Cg:ti Tryz.prog 524=some ⟨.struct [(0,3,false),(1,9,false)],2,24,.agg [.int .i64 0,.str []]⟩:=by kernel_rfl
theorem Al:ti Tryz.prog 521=some ⟨.slice 524,1,24,.slice .nil 1 []⟩:=by kernel_rfl
theorem KV:ti Tryz.prog 438=some ⟨.int .i64,1,8,.int .i64 0⟩:=by kernel_rfl
attribute [go_sem] L4 Js Gw Cg Al KV
def kL (n:Nd):AV:=.agg [.int .i64 (n.op:Int),.int .i64 (n.a:Int),.int .i64 (n.b:Int),.str n.name,.str n.attr,.int .u64 ((n.v/2^64:Nat):Int),.int .u64 ((n.v % 2^64:Nat):Int)]
def nds (t:List Nd):List AV:=t.map kL
theorem aJ {t:List Nd}:(nds t).length=t.length:=by simp [nds]
theorem CB {t:List Nd} {n:Nd}:nds t++[kL n]=nds (t++[n]):=by simp [nds]
theorem kE {n:Nat} {m:Mark} {t:List Nd}:AV.lt n (.slice m 7 (nds t))=∀ id,m=.own id→id<n:=by
 rw [AV.lt]
 refine propext ⟨fun h=>h.1,fun h=>⟨h,fun j hj=>?_⟩⟩
 simp only [nds,List.getElem_map,kL]
 simp [znn,znq,znr,znb,znd]
theorem rO {n:Nat} {m:Mark} {l:List Tok}:AV.lt n (.slice m 3 (dr l))=∀ id,m=.own id→id<n:=by
 rw [AV.lt]
 refine propext ⟨fun h=>h.1,fun h=>⟨h,fun j hj=>?_⟩⟩
 simp only [dr,List.getElem_map,zE]
 simp [znn,znq,znr,znb,znd]
theorem vp:∀ {l l':List Tok},dr l=dr l'→l=l'
 |[],[],_=>rfl
 |[],_::_,h=>by cases h
 |_::_,[],h=>by cases h
 |(a,b,c)::l,(a',b',c')::l',h=>by
  simp only [dr,yae,List.cons.injEq,zE,AV.agg.injEq,AV.int.injEq,AV.str.injEq,true_and,and_true] at h
  obtain ⟨⟨h1,h2,h3⟩,h4⟩:=h
  rw [vp h4]
  congr 1
  simp only [Prod.mk.injEq]
  exact ⟨by omega,h2,by omega⟩
theorem zo:∀ {l l':List Nd},nds l=nds l'→l=l'
 |[],[],_=>rfl
 |[],_::_,h=>by cases h
 |_::_,[],h=>by cases h
 |⟨a1,a2,a3,a4,a5,a6⟩::l,⟨b1,b2,b3,b4,b5,b6⟩::l',h=>by
  simp only [nds,yae,List.cons.injEq,kL,AV.agg.injEq,AV.int.injEq,AV.str.injEq,true_and,and_true] at h
  obtain ⟨⟨h1,h2,h3,h4,h5,h6,h7⟩,h8⟩:=h
  rw [zo h8]
  congr 1
  simp only [Nd.mk.injEq]
  exact ⟨by omega,by omega,by omega,h4,h5,by omega⟩
def Af (v:AV) (Kp:AV→AHeap→Prop) (H:AHeap):Prop:=match v with
 |.iface t v=>Kp (.iface t v) H
 |_=>False
@[congr] theorem Mj {v v':AV} {Kp:AV→AHeap→Prop} {H:AHeap} (h:v=v'):Af v Kp H=Af v' Kp H:=by rw [h]
theorem As {t:TypeId} {v:AV} {Kp:AV→AHeap→Prop} {H:AHeap}:Af (.iface t v) Kp H=Kp (.iface t v) H:=rfl
theorem Ju {P:Program} {Ω:Tbl} {ops:Array Oper} {rest:List Oper} {K:Fr→AHeap→Prop} {Kp:Fr→AV→AHeap→Prop} {fr:Fr} {H:AHeap} {d:Option Tmp} {x:Operand} {t:TypeId} {pos:String} {aft:Array Edge} :
 bP P Ω ops (Oper.mk d (.panic x) t pos aft none::rest) K Kp fr H=Af (ev fr x) (Kp fr) H:=(rfl)
def pst (m:Mark) (l:List Tok) (p tb:Nat) (t:List Nd):AObj:=.cells [.slice m 3 (dr l),.int .i64 (p:Int),.slice (.own tb) 7 (nds t)]
def onP (o:Option AObj) (K:Mark→List Tok→Nat→Nat→List Nd→Prop):Prop:=∃ m l p tb t,o=some (pst m l p tb t)∧K m l p tb t
@[congr] theorem Od {o o':Option AObj} {K:Mark→List Tok→Nat→Nat→List Nd→Prop} (h:o=o'):onP o K=onP o' K:=by rw [h]
theorem bn {m:Mark} {l:List Tok} {p tb:Nat} {t:List Nd} {K:Mark→List Tok→Nat→Nat→List Nd→Prop}:onP (some (pst m l p tb t)) K=K m l p tb t:=by
 refine propext ⟨fun ⟨m',l',p',tb',t',h,hk⟩=>?_,fun h=>⟨m,l,p,tb,t,rfl,h⟩⟩
 simp only [pst,Option.some.injEq,AObj.cells.injEq,List.cons.injEq,AV.slice.injEq,AV.int.injEq,Mark.own.injEq,true_and,and_true] at h
 obtain ⟨⟨rfl,h1⟩,h2,rfl,h3⟩:=h
 have:=vp h1
 have:=zo h3
 have:p=p':=by omega
 subst_vars
 exact hk
theorem yv {m:Mark} {l:List Tok} {p tb:Nat} {t:List Nd} {K:Mark→List Tok→Nat→Nat→List Nd→Prop}:onP (some (.cells [.slice m 3 (dr l),.int .i64 (p:Int),.slice (.own tb) 7 (nds t)])) K=K m l p tb t:=bn
def fJ:List AV→AHeap→(AEnd→AHeap→Prop)→Prop
 |[.ptr id 0],H,K=>onP (H.get id) fun m l p tb t=>K (.panic (.iface 438 (.int .i64 (p:Int)))) H
 |_,_,_=>False
theorem mJ:EntOk Tryz.prog 399 (Ent.effect fJ):=by
 refine EntOk.effect fun args H K h=>?_
 unfold fJ at h
 split at h
 rotate_left
 ·exact h.elim
 rename_i id
 obtain ⟨m,l,p,tb,t,hg,hK⟩:=h
 refine ⟨_,_,hK,?_⟩
 clear hK
 refine ACalls.fW ax tNq Tryz.func399 [] (nrq _) (T:=av []) (h:=fun hcl hlt=>?_)
 clear hlt
 have hcs:=ay (cs:=[.slice m 3 (dr l),.int .i64 (p:Int),.slice (.own tb) 7 (nds t)]) hg
 simp only [go_sem,hcs,↓Ju,As]
 exact Z0
def cb:List AV→AHeap→(AEnd→AHeap→Prop)→Prop
 |[.ptr id 0,.agg [.int .i64 op,.int .i64 a,.int .i64 b,.str nm,.str att,.int .u64 hi,.int .u64 lo]],H,K=>onP (H.get id) fun m l p tb t =>
   (0≤op∧0≤a∧0≤b∧lK hi lo∧id≠tb∧H.get tb=some (.buf 7 t.length)∧t.length≤100000) ∧
   K (.ret (.int .i64 (t.length:Int))) ((H.set id (pst m l p tb (t++[⟨op.toNat,a.toNat,b.toNat,nm,att,vOf hi.toNat lo.toNat⟩]))).set tb (.buf 7 (t.length+1)))
 |_,_,_=>False
theorem jM {H:AHeap} {id:Nat} {m:Mark} {l:List Tok} {p tb:Nat} {t:List Nd} (hg:H.get id=some (pst m l p tb t)) (hcl:H.Closed) (p':Nat) (t':List Nd):(H.set id (pst m l p' tb t')).Closed:=by
 have h0:=hcl id _ hg 0 (by simp)
 have h2:=hcl id _ hg 2 (by simp)
 simp only [List.getElem_cons_zero,List.getElem_cons_succ,rO,kE] at h0 h2
 refine ai hcl ?_
 simp only [znq,znr,rO,kE,znb,and_true,true_and]
 exact ⟨h0,h2⟩
theorem mY {H:AHeap} {i j:Nat} (h:i≠j) (o c:AObj):(H.set j o).set i c=(H.set i c).set j o:=by
 simp only [AHeap.set]
 congr 1
 funext k
 by_cases h1:k=i
 ·subst h1;simp [h]
 ·simp [h1]
theorem cL {H:AHeap} {i j:Nat} (h:i≠j) (o:AObj):aR (H.set j o) i=aR H i:=by
 unfold aR;rw [AHeap.get_set_ne _ _ h]
theorem kR:EntOk Tryz.prog 462 (Ent.effect cb):=by
 refine EntOk.effect fun args H K h=>?_
 unfold cb at h
 split at h
 rotate_left
 ·exact h.elim
 rename_i id op a b nm att hi lo
 obtain ⟨m,l,p,tb,t,hg,⟨h1,h2,h3,⟨h4,h5,h6,h7⟩,hne,htb,htl⟩,hK⟩:=h
 refine ⟨_,_,hK,?_⟩
 clear hK
 obtain ⟨op,rfl⟩:=bj h1
 obtain ⟨a,rfl⟩:=bj h2
 obtain ⟨b,rfl⟩:=bj h3
 obtain ⟨hi,rfl⟩:=bj h4
 obtain ⟨lo,rfl⟩:=bj h6
 simp only [iNq]
 refine ACalls.fW ax tNq Tryz.func462 [.tmp 4] (nrq _) (T:=av [(1,[[],[],[],[],[],[],[5],[4,5],[],[],[4,5]])]) (h:=fun hcl hlt=>?_)
 clear hlt
 have hid:=glq hg
 have htbl:=glq htb
 have hcs:=ay (cs:=[.slice m 3 (dr l),.int .i64 (p:Int),.slice (.own tb) 7 (nds t)]) hg
 have f1:=cD hid
 have f2:=cD htbl
 have g1:(id=tb)=False:=eq_false hne
 have g2:(tb=id)=False:=eq_false fun e=>hne e.symm
 have e1:nds t++[AV.agg [.int .i64 (op:Int),.int .i64 (a:Int),.int .i64 (b:Int),.str nm,.str att,.int .u64 (hi:Int),.int .u64 (lo:Int)]]=nds (t++[⟨op,a,b,nm,att,vOf hi lo⟩]):=by
  rw [← CB];unfold kL;simp only;rw [rn (by omega),AR (by omega)]
 have e2:IntKind.i64.wrap (((t.length+1:Nat):Int) - 1)=(t.length:Int):=by rw [wrap_i64]<;>omega
 have hcl1:=jM hg hcl p (t++[⟨op,a,b,nm,att,vOf hi lo⟩])
 have hcl2:((H.set id (pst m l p tb (t++[⟨op,a,b,nm,att,vOf hi lo⟩]))).set tb (.buf 7 (t.length+1))).Closed:=aa hcl1
 have s1:=mY (H:=H) hne
 have s2:=fun o=>(cL (H:=H) hne o).trans hcs
 have s3:∀ o cs,aR ((H.set id (.cells cs)).set tb o) id=some cs:=fun o cs=>by rw [cL hne,eX hid,if_pos rfl]
 simp only [go_sem,hcs,aJ,f1,f2,g1,g2,htb,aB,if_pos htbl,e1,s1,s2,s3,e2,lAq]
 refine ⟨⟨by omega,by omega,by simp [bM,AV.cells,AV.one]⟩,?_⟩
 simp only [pst] at hcl2 ⊢
 simp (disch:=first|exact Zd|omega) [↓zmk,beq,ybc,ybd,ybe,af,wk,wk2,wk1,wkM,wkL,aj,ybf,hcl2,htbl,kE]
 trace_state
theorem CC {l:List Tok} {p k z:Nat} {x s:List UInt8} (hp:p<l.length) (h:l[p]=(k,x,z)):isS l p s=(k==3&&x==s):=by
 unfold isS;rw [gQq hp,h]
theorem AH {l:List Tok} {p:Nat} {s:List UInt8} (hp:l.length≤p):isS l p s=false:=by
 unfold isS;rw [gNq hp]
theorem nt {l:List Tok} {p k z:Nat} {x:List UInt8} (hp:p<l.length) (h:l[p]=(k,x,z)):(dr l).getD p .junk=.agg [.int .i64 (k:Int),.str x,.int .i64 (z:Int)]:=by
 rw [IF hp,h];rfl
def bY:List AV→AHeap→(AEnd→AHeap→Prop)→Prop
 |[.ptr id 0,.str s],H,K=>onP (H.get id) fun m l p tb t=>(p≤l.length∧l.length≤100000) ∧
   if isS l p s=true then K (.ret (.bool true)) (H.set id (pst m l (p+1) tb t)) else K (.ret (.bool false)) H
 |_,_,_=>False
theorem mi:EntOk Tryz.prog 461 (Ent.effect bY):=by
 refine EntOk.effect fun args H K h=>?_
 unfold bY at h
 split at h
 rotate_left
 ·exact h.elim
 rename_i id s
 obtain ⟨m,l,p,tb,t,hg,⟨hp,hl⟩,hK⟩:=h
 have hid:=glq hg
 have hcs:=ay (cs:=[.slice m 3 (dr l),.int .i64 (p:Int),.slice (.own tb) 7 (nds t)]) hg
 have e1:IntKind.i64.wrap ((p:Int)+1)=((p+1:Nat):Int):=by rw [wrap_i64]<;>omega
 by_cases hlt0:p<l.length
 ·rcases htk:l[p] with ⟨k,x,z⟩
  have hgd:=nt hlt0 htk
  rw [CC hlt0 htk] at hK
  have d1:((p:Int)==(l.length:Int))=false:=by simp;omega
  by_cases hk:k=3
  ·subst hk
   by_cases hx:x=s
   ·subst hx
    simp only [beq_self_eq_true,Bool.and_self,if_true] at hK
    refine ⟨_,_,hK,?_⟩
    clear hK
    refine ACalls.fW ax tNq Tryz.func461 [.tmp 4] (nrq _) (T:=av []) (h:=fun hcl hlt=>?_)
    clear hlt
    have hcl1:=jM hg hcl (p+1) t
    simp only [go_sem,hcs,aT,hgd,d1,iNq,e1,beq_self_eq_true,bne_self_eq_false]
    refine ⟨by omega,ED rfl ⟨by omega,?_⟩⟩
    change af (H.set id (pst m l (p+1) tb t)) _ _ _
    exact Z27
   ·have d3:(x==s)=false:=by simpa using hx
    rw [d3,Bool.and_false,if_neg (by simp)] at hK
    refine ⟨_,_,hK,?_⟩
    clear hK
    refine ACalls.fW ax tNq Tryz.func461 [.tmp 4] (nrq _) (T:=av []) (h:=fun hcl hlt=>?_)
    clear hlt
    simp only [go_sem,hcs,aT,hgd,d1,d3,iNq,e1,beq_self_eq_true,bne_self_eq_false]
    refine ⟨by omega,ED rfl ⟨by omega,?_⟩⟩
    exact Z0
  ·have d3:(k==3)=false:=by simpa using hk
   rw [d3,Bool.false_and,if_neg (by simp)] at hK
   refine ⟨_,_,hK,?_⟩
   clear hK
   refine ACalls.fW ax tNq Tryz.func461 [.tmp 4] (nrq _) (T:=av []) (h:=fun hcl hlt=>?_)
   clear hlt
   have d4:((k:Int) != 3)=true:=by simp;omega
   simp only [go_sem,hcs,aT,hgd,d1,d4,iNq,e1,beq_self_eq_true,bne_self_eq_false]
   exact Y34
 ·have hpe:p=l.length:=by omega
  subst hpe
  rw [AH (nrq _),if_neg (by simp)] at hK
  refine ⟨_,_,hK,?_⟩
  clear hK
  refine ACalls.fW ax tNq Tryz.func461 [.tmp 4] (nrq _) (T:=av []) (h:=fun hcl hlt=>?_)
  clear hlt
  simp only [go_sem,hcs,aT,beq_self_eq_true]
  exact Z0
def kH (l:List Tok) (p:Nat):Option (List UInt8):=match l[p]? with
 |none=>none
 |some (k,x,_)=>if k=2 then some x else none
def onW (o:Option (List UInt8)) (K1:List UInt8→Prop) (K2:Prop):Prop:=match o with
 |some x=>K1 x
 |none=>K2
@[congr] theorem Oc {o o':Option (List UInt8)} {K1:List UInt8→Prop} {K2:Prop} (h:o=o'):onW o K1 K2=onW o' K1 K2:=by rw [h]
theorem ic {x:List UInt8} {K1:List UInt8→Prop} {K2:Prop}:onW (some x) K1 K2=K1 x:=rfl
theorem fT {K1:List UInt8→Prop} {K2:Prop}:onW none K1 K2=K2:=rfl
def j5:List AV→AHeap→(AEnd→AHeap→Prop)→Prop
 |[.ptr id 0,.int .i64 kd],H,K=>onP (H.get id) fun m l p tb t=>(kd=2∧p≤l.length∧l.length≤100000) ∧
   onW (kH l p) (fun x=>K (.ret (.str x)) (H.set id (pst m l (p+1) tb t))) (K (.panic (.iface 438 (.int .i64 (p:Int)))) H)
 |_,_,_=>False
theorem IY:EntOk Tryz.prog 510 (Ent.effect j5):=by
 refine EntOk.effect fun args H K h=>?_
 unfold j5 at h
 split at h
 rotate_left
 ·exact h.elim
 rename_i id kd
 obtain ⟨m,l,p,tb,t,hg,⟨rfl,hp,hl⟩,hK⟩:=h
 have hid:=glq hg
 have hcs:=ay (cs:=[.slice m 3 (dr l),.int .i64 (p:Int),.slice (.own tb) 7 (nds t)]) hg
 have e1:IntKind.i64.wrap ((p:Int)+1)=((p+1:Nat):Int):=by rw [wrap_i64]<;>omega
 have e2:IntKind.i64.wrap (((p+1:Nat):Int) - 1)=(p:Int):=by rw [wrap_i64]<;>omega
 unfold kH at hK
 by_cases hlt0:p<l.length
 ·rcases htk:l[p] with ⟨k,x,z⟩
  have hgd:=nt hlt0 htk
  rw [gQq hlt0,htk] at hK
  dsimp only at hK
  have d1:((p:Int)==(l.length:Int))=false:=by simp;omega
  by_cases hk:k=2
  ·subst hk
   rw [if_pos rfl,ic] at hK
   refine ⟨_,_,hK,?_⟩
   clear hK
   refine ACalls.fW ax (tCq mJ tNq) Tryz.func510 [.tmp 4] (by simp [zlb]) (T:=av []) (h:=fun hcl hlt=>?_)
   clear hlt
   have hcl1:=jM hg hcl (p+1) t
   simp only [go_sem,hcs,aT,hgd,d1,iNq,e1,e2,eX hid,beq_self_eq_true,bne_self_eq_false]
   refine ⟨by omega,Am rfl ?_⟩
   simp only [go_sem,hcs,aT,hgd,d1,iNq,e1,e2,eX hid,beq_self_eq_true,bne_self_eq_false]
   refine ⟨by omega,?_⟩
   change af (H.set id (pst m l (p+1) tb t)) _ _ _
   exact Z27
  ·have d3:(k==2)=false:=by simpa using hk
   rw [if_neg hk,fT] at hK
   refine ⟨_,_,hK,?_⟩
   clear hK
   refine ACalls.fW ax (tCq mJ tNq) Tryz.func510 [.tmp 4] (nrq _) (T:=av []) (h:=fun hcl hlt=>?_)
   clear hlt
   have d4:((k:Int) != 2)=true:=by simp;omega
   simp only [go_sem,hcs,aT,hgd,d1,d4,iNq,e1,fJ,hg,bn]
   exact Y34
 ·have hpe:p=l.length:=by omega
  subst hpe
  rw [gNq (nrq _)] at hK
  dsimp only at hK
  rw [fT] at hK
  refine ⟨_,_,hK,?_⟩
  clear hK
  refine ACalls.fW ax (tCq mJ tNq) Tryz.func510 [.tmp 4] (nrq _) (T:=av []) (h:=fun hcl hlt=>?_)
  clear hlt
  simp only [go_sem,hcs,aT,beq_self_eq_true,fJ,hg,bn]
  exact Z0
def jD (l:List (Nat × List UInt8)):List AV:=l.map fun o=>.agg [.int .i64 (o.1:Int),.str o.2]
theorem jh {l:List (Nat × List UInt8)}:(jD l).length=l.length:=by simp [jD]
theorem yI:∀ {l l':List (Nat × List UInt8)},jD l=jD l'→l=l'
 |[],[],_=>rfl
 |[],_::_,h=>by cases h
 |_::_,[],h=>by cases h
 |(a,b)::l,(a',b')::l',h=>by
  simp only [jD,yae,List.cons.injEq,AV.agg.injEq,AV.int.injEq,AV.str.injEq,true_and,and_true] at h
  obtain ⟨⟨h1,h2⟩,h4⟩:=h
  rw [yI h4]
  congr 1
  simp only [Prod.mk.injEq]
  exact ⟨by omega,h2⟩
theorem fg {n:Nat} {l:List (Nat × List UInt8)}:AV.lt n (.slice .any 2 (jD l)):=jf fun x hx=>by
 simp only [jD,List.mem_map] at hx
 obtain ⟨o,_,rfl⟩:=hx
 simp [znn,znq,znr,znb,znd]
theorem K3:[AV.agg [.int .i64 8,.str [61,61]],.agg [.int .i64 9,.str [33,61]],.agg [.int .i64 10,.str [60]],.agg [.int .i64 11,.str [60,61]],.agg [.int .i64 12,.str [62]],.agg [.int .i64 13,.str [62,61]]]=jD opsC:=rfl
theorem Mn:[AV.agg [.int .i64 6,.str [43]],.agg [.int .i64 7,.str [45]]]=jD opsS:=rfl
def gd:List AV→AHeap→(AV→Prop)→Prop
 |[],_,K=>K (.slice .any 2 (jD opsC))
 |_,_,_=>False
theorem Az:EntOk Tryz.prog 502 (Ent.pure gd):=by
 refine Ype fun _ H K h=>?_
 unfold gd at h
 split at h
 rotate_left
 ·exact h.elim
 refine ⟨_,h,?_⟩
 clear h
 refine Yfv ax tNq Tryz.func502 [.tmp 0] fun hcl hlt=>?_
 clear hlt
 simp only [go_sem,K3]
 exact Z28
def l5:List AV→AHeap→(AV→Prop)→Prop
 |[],_,K=>K (.slice .any 2 (jD opsS))
 |_,_,_=>False
theorem HX:EntOk Tryz.prog 505 (Ent.pure l5):=by
 refine Ype fun _ H K h=>?_
 unfold l5 at h
 split at h
 rotate_left
 ·exact h.elim
 refine ⟨_,h,?_⟩
 clear h
 refine Yfv ax tNq Tryz.func505 [.tmp 0] fun hcl hlt=>?_
 clear hlt
 simp only [go_sem,Mn]
 exact Z28
def M0 (x:List AV) (K:List (Nat × List UInt8)→Prop):Prop:=∃ l,x=jD l∧K l
theorem jI {l:List (Nat × List UInt8)} {K:List (Nat × List UInt8)→Prop}:M0 (jD l) K=K l :=
 propext ⟨fun ⟨l',h,hk⟩=>by rw [yI h];exact hk,fun h=>⟨l,rfl,h⟩⟩
def onN (o:Option Nat) (K1:Nat→Prop) (K2:Prop):Prop:=match o with
 |some x=>K1 x
 |none=>K2
@[congr] theorem Ob {o o':Option Nat} {K1:Nat→Prop} {K2:Prop} (h:o=o'):onN o K1 K2=onN o' K1 K2:=by rw [h]
theorem oP {x:Nat} {K1:Nat→Prop} {K2:Prop}:onN (some x) K1 K2=K1 x:=rfl
theorem rt {K1:Nat→Prop} {K2:Prop}:onN none K1 K2=K2:=rfl
def l7:List AV→AHeap→(AEnd→AHeap→Prop)→Prop
 |[.ptr id 0,.slice _ 2 x],H,K=>onP (H.get id) fun m l p tb t=>M0 x fun ops=>(p≤l.length∧l.length≤100000∧ops.length≤100) ∧
   onN (ir l p ops) (fun k=>K (.ret (.int .i64 (k:Int))) (H.set id (pst m l (p+1) tb t))) (K (.ret (.int .i64 0)) H)
 |_,_,_=>False
theorem yw {l:List (Nat × List UInt8)} {k:Nat} (h:k<l.length):(jD l).getD k .junk=.agg [.int .i64 (l[k].1:Int),.str l[k].2]:=by simp [jD,gEq,h]
theorem Cw:EntOk Tryz.prog 501 (Ent.effect l7):=by
 refine EntOk.effect fun args H K h=>?_
 unfold l7 at h
 split at h
 rotate_left
 ·exact h.elim
 rename_i id mo x
 obtain ⟨m,l,p,tb,t,hg,ops,rfl,⟨hp,hl,ho⟩,hK⟩:=h
 have hid:=glq hg
 have f1:=cD hid
 cases hop:ir l p ops with
 |some k =>
  rw [hop,oP] at hK
  refine ⟨_,_,hK,?_⟩
  clear hK
  refine ACalls.fW ax (tCq mi tNq) Tryz.func501 [.tmp 4] (by simp [zlb]) (T:=av []) (h:=fun hcl hlt=>?_)
  have hltm:∀ n',H.nx≤n'→AV.lt n' (.slice .any 2 (jD ops)):=fun n' _=>fg
  clear hlt
  have hcl1:=jM hg hcl (p+1) t
  simp only [go_sem,jh]
  refine az (A:=Nat) (fun i=>[(9,.int .i64 (i:Int)),(8,.int .i64 (ops.length:Int)),(7,.slice .any 2 (jD ops)),(0,.ptr id 0)]) (fun _=>H) (fun i=>i≤ops.length∧ir l p (ops.drop i)=some k) (fun i=>ops.length - i) 0 ⟨by omega,hop⟩ ?_ fun i hi=>?_
  ·exact Z29
  obtain ⟨hi,hop'⟩:=hi
  simp only [go_sem]
  refine au (fun h1=>?_) (fun h1=>?_)
  ·have hi1:i<ops.length:=by simp at h1;omega
   have e5:IntKind.i64.wrap ((i:Int)+1)=((i+1:Nat):Int):=by rw [wrap_i64]<;>omega
   have hgo:=yw hi1
   rw [dcq hi1] at hop'
   rcases hok:ops[i] with ⟨ko,so⟩
   rw [hok] at hop' hgo
   unfold ir at hop'
   by_cases hs:isS l p so=true
   ·rw [if_pos hs] at hop'
    cases hop'
    simp only [go_sem,iNq,jh,hgo,bY,f1,hg,bn,hs,if_true,hp,hl]
    refine ⟨by omega,?_⟩
    exact Z27
   ·exact Y87
  ·exfalso
   have hi1:ops.length≤i:=by simp at h1;omega
   rw [ybf hi1] at hop'
   cases hop'
 |none =>
  rw [hop,rt] at hK
  refine ⟨_,_,hK,?_⟩
  clear hK
  refine ACalls.fW ax (tCq mi tNq) Tryz.func501 [.tmp 4] (nrq _) (T:=av []) (h:=fun hcl hlt=>?_)
  clear hlt
  simp only [go_sem,jh]
  refine az (A:=Nat) (fun i=>[(9,.int .i64 (i:Int)),(8,.int .i64 (ops.length:Int)),(7,.slice .any 2 (jD ops)),(0,.ptr id 0)]) (fun _=>H) (fun i=>i≤ops.length∧ir l p (ops.drop i)=none) (fun i=>ops.length - i) 0 ⟨by omega,hop⟩ ?_ fun i hi=>?_
  ·exact Z29
  obtain ⟨hi,hop'⟩:=hi
  simp only [go_sem]
  refine au (fun h1=>?_) (fun h1=>?_)
  ·have hi1:i<ops.length:=by simp at h1;omega
   have e5:IntKind.i64.wrap ((i:Int)+1)=((i+1:Nat):Int):=by rw [wrap_i64]<;>omega
   have hgo:=yw hi1
   rw [dcq hi1] at hop'
   rcases hok:ops[i] with ⟨ko,so⟩
   rw [hok] at hop' hgo
   unfold ir at hop'
   by_cases hs:isS l p so=true
   ·rw [if_pos hs] at hop';cases hop'
   ·exact Y87
  ·exact Y47
def g7 (op v:Int):AV:=.agg [.int .i64 op,.int .i64 0,.int .i64 0,.str [],.str [],.int .u64 0,.int .u64 v]
def l9 (s:List UInt8):AV:=if s=t9 then .tup [g7 2 1,.bool true] else if s=n9 then .tup [g7 2 0,.bool true] else .tup [g7 0 0,.bool false]
def um:List AV→AHeap→(AV→Prop)→Prop
 |[.int .u64 n],_,K=>K (.agg [.int .u64 0,.int .u64 n])
 |_,_,_=>False
theorem tA:EntOk Tryz.prog 122 (Ent.pure um):=by
 refine Ype fun _ H K h=>?_
 unfold um at h
 split at h
 rotate_left
 ·exact h.elim
 rename_i n
 refine ⟨_,h,?_⟩
 clear h
 refine Yfv ax tNq Tryz.func122 [.cell 2 48] fun hcl hlt=>?_
 clear hlt
 exact Y47
def iJ:List AV→AHeap→(AV→Prop)→Prop
 |[.str s],_,K=>K (l9 s)
 |_,_,_=>False
theorem FB:EntOk Tryz.prog 511 (Ent.pure iJ):=by
 refine Ype fun _ H K h=>?_
 unfold iJ at h
 split at h
 rotate_left
 ·exact h.elim
 rename_i s
 refine ⟨_,h,?_⟩
 clear h
 unfold l9
 by_cases h1:s=t9
 ·rw [if_pos h1]
  subst h1
  refine Yfv ax (tCq tA tNq) Tryz.func511 [.cell 2 180,.tmp 3] fun hcl hlt=>?_
  clear hlt
  have d1:(t9==[116,114,117,101])=true:=by decide
  simp only [go_sem,um,d1,zkz]
  exact Z30
 ·rw [if_neg h1]
  have d1:(s==[116,114,117,101])=false:=by simpa [t9] using h1
  by_cases h2:s=n9
  ·rw [if_pos h2]
   subst h2
   refine Yfv ax (tCq tA tNq) Tryz.func511 [.cell 2 180,.tmp 3] fun hcl hlt=>?_
   clear hlt
   have d2:(n9==[102,97,108,115,101])=true:=by decide
   simp only [go_sem,um,d1,d2,zkz]
   exact Z30
  ·rw [if_neg h2]
   have d2:(s==[102,97,108,115,101])=false:=by simpa [n9] using h2
   refine Yfv ax (tCq tA tNq) Tryz.func511 [.cell 2 180,.tmp 3] fun hcl hlt=>?_
   clear hlt
   simp only [go_sem,um,d1,d2,zkz]
   exact Z30
def qd (l:List Tok):Prop:=∀ x∈l,x.2.1.length≤1000∧(x.1=1→(lit x.2.1).isSome=true)
def gM (H:AHeap) (id tb:Nat) (l:List Tok) (p:Nat) (t:List Nd):Prop:=id≠tb∧H.get tb=some (.buf 7 t.length)∧t.length≤p∧p≤l.length∧l.length≤1000∧qd l∧Good t
theorem gz {H:AHeap} {id tb p p':Nat} {m:Mark} {l:List Tok} {t t':List Nd} (h:gM H id tb l p t) (hp:p'≤l.length) (ht:t'.length≤p') (hg:Good t'):gM ((H.set id (pst m l p' tb t')).set tb (.buf 7 t'.length)) id tb l p' t':=by
 exact Y110
theorem kV {H:AHeap} {id tb p p':Nat} {o:AObj} {l:List Tok} {t:List Nd} (h:gM H id tb l p t) (hp:p'≤l.length) (ht:t.length≤p'):gM (H.set id o) id tb l p' t:=by
 obtain ⟨h1,h2,h3,h4,h5,h6,h7⟩:=h
 refine ⟨h1,?_,ht,hp,h5,h6,h7⟩
 rw [AHeap.get_set_ne _ _ (fun e=>h1 e.symm)];exact h2
def qW (l:List Tok) (p:Nat):Nat:=match l[p]? with
 |none=>0
 |some (k,_,_)=>k
def yH (l:List Tok) (p:Nat):Nat:=match l[p]? with
 |none=>0
 |some (_,x,_)=>(lit x).getD 0
def fE:List AV→AHeap→(AEnd→AHeap→Prop)→Prop
 |[.ptr id 0],H,K=>onP (H.get id) fun m l p tb t=>(gM H id tb l p t∧qW l p=1) ∧
   K (.ret (.int .i64 (t.length:Int))) ((H.set id (pst m l (p+1) tb (t++[⟨1,0,0,[],[],yH l p⟩]))).set tb (.buf 7 (t.length+1)))
 |_,_,_=>False
theorem Bu:EntOk Tryz.prog 509 (Ent.effect fE):=by
 refine EntOk.effect fun args H K h=>?_
 unfold fE at h
 split at h
 rotate_left
 ·exact h.elim
 rename_i id
 obtain ⟨m,l,p,tb,t,hg,⟨⟨hne,htb,ht,hp,hl,hgl,hgt⟩,hk⟩,hK⟩:=h
 have hid:=glq hg
 have htbl:=glq htb
 have hcs:=ay (cs:=[.slice m 3 (dr l),.int .i64 (p:Int),.slice (.own tb) 7 (nds t)]) hg
 have f1:=cD hid
 have f2:=cD htbl
 have g1:(id=tb)=False:=eq_false hne
 have g2:(tb=id)=False:=eq_false fun e=>hne e.symm
 have e1:IntKind.i64.wrap ((p:Int)+1)=((p+1:Nat):Int):=by rw [wrap_i64]<;>omega
 have hlt0:p<l.length:=by
  rcases Nat.lt_or_ge p l.length with h1|h1
  ·exact h1
  ·unfold qW at hk;rw [gNq h1] at hk;cases hk
 rcases htk:l[p] with ⟨k,x,z⟩
 have hgd:=nt hlt0 htk
 have hk1:k=1:=by unfold qW at hk;rw [gQq hlt0,htk] at hk;exact hk
 subst hk1
 have hla:yH l p=(lit x).getD 0:=by unfold yH;rw [gQq hlt0,htk]
 rw [hla] at hK
 obtain ⟨hxl,hxs⟩:=hgl l[p] (gMq hlt0)
 rw [htk] at hxl hxs
 dsimp only at hxl hxs
 obtain ⟨n,hn⟩:=Option.isSome_iff_exists.1 (hxs rfl)
 have hn128:=Aj hn
 rw [hn] at hK
 dsimp only [Option.getD_some] at hK
 refine ⟨_,_,hK,?_⟩
 clear hK
 refine ACalls.fW ax (tCq uc (tCq mJ (tCq ya (tCq kR tNq)))) Tryz.func509 [.tmp 2] (nrq _) (T:=av [(1,[[],[],[],[],[],[],[],[],[],[],[],[3,7,10],[],[],[],[],[3,7,10,11]])]) (h:=fun hcl hlt=>?_)
 clear hlt
 have hxl':x.length≤140737488355328:=by omega
 have hv:mT (n:Int)=.tup [.agg [.int .u64 ((n/2^64:Nat):Int),.int .u64 ((n % 2^64:Nat):Int)],.bool true]:=by
  unfold mT
  rw [if_pos ⟨Int.natCast_nonneg n,Int.lt_of_lt_of_le (Int.ofNat_lt.2 hn128) (by decide)⟩]
  rfl
 have hn1:isN (n:Int):=⟨Int.le_trans (by decide) (Int.natCast_nonneg n),Int.lt_of_lt_of_le (Int.ofNat_lt.2 hn128) (by decide)⟩
 have hvo:vOf (n/2^64) (n % 2^64)=n:=bD n
 have hlo:n/2^64<18446744073709551616:=by omega
 have hlo2:n % 2^64<18446744073709551616:=by omega
 have hx1:(id=H.nx)=False:=eq_false (by omega)
 have s1:=mY (H:=H) hne
 simp only [go_sem,hcs,aT,hgd,iNq,e1,nn,hxl',uI,hn,hx1,nAV]
 simp only [lC]
 refine ⟨by omega,n,⟨rfl,hn1⟩,?_⟩
 rw [hv]
 have hn0:(0≤n/2^64):=Nat.zero_le _
 generalize hw0:w0 (n:Int)=y0
 generalize hw1:w1 (n:Int)=y1
 generalize hw2:w2 (n:Int)=y2
 have hgi:∀ o,(H.set id o).get id=some o:=fun o=>AHeap.get_set_same _ _ hid
 have hgt:∀ o,(H.set id o).get tb=some (.buf 7 t.length):=fun o=>by rw [AHeap.get_set_ne _ _ (fun e=>hne e.symm)];exact htb
 have hcl1:=jM hg hcl (p+1) (t++[⟨1,0,0,[],[],n⟩])
 have hcl2:((H.set id (pst m l (p+1) tb (t++[⟨1,0,0,[],[],n⟩]))).set tb (.buf 7 (t.length+1))).Closed:=aa hcl1
 simp only [aM,go_sem,hcs,iNq,e1,hx1,f1,f2,g1,g2,eX hid,cb,hgi,hgt,yv,hvo]
 refine ⟨⟨by decide,by decide,by decide,⟨by omega,by omega,by omega,by omega⟩,by omega⟩,?_⟩
 exact Z25
def HJ (m:Mark) (l:List Tok) (tb id:Nat) (H:AHeap) (K:AEnd→AHeap→Prop) (o:Option PR):Prop:=match o with
 |none=>False
 |some (.ok a p t)=>K (.ret (.int .i64 (a:Int))) ((H.set id (pst m l p tb t)).set tb (.buf 7 t.length))
 |some (.bad p)=>K (.panic (.iface 438 (.int .i64 (p:Int)))) ((H.del id).del tb)
@[congr] theorem NZ {m:Mark} {l:List Tok} {tb id:Nat} {H:AHeap} {K:AEnd→AHeap→Prop} {o o':Option PR} (h:o=o'):HJ m l tb id H K o=HJ m l tb id H K o':=by rw [h]
theorem bO {m:Mark} {l:List Tok} {tb id a p:Nat} {t:List Nd} {H:AHeap} {K:AEnd→AHeap→Prop}:HJ m l tb id H K (some (.ok a p t))=K (.ret (.int .i64 (a:Int))) ((H.set id (pst m l p tb t)).set tb (.buf 7 t.length)):=rfl
theorem bA {m:Mark} {l:List Tok} {tb id p:Nat} {H:AHeap} {K:AEnd→AHeap→Prop}:HJ m l tb id H K (some (.bad p))=K (.panic (.iface 438 (.int .i64 (p:Int)))) ((H.del id).del tb):=rfl
def bI (rl:Rl) (f:Nat):List AV→AHeap→(AEnd→AHeap→Prop)→Prop
 |[.ptr id 0],H,K=>onP (H.get id) fun m l p tb t=>gM H id tb l p t∧HJ m l tb id H K (run l f rl p t)
 |_,_,_=>False
theorem cm {H:AHeap} {i j:Nat} {x y:AObj}:(((H.set i x).set j y).del i).del j=(H.del i).del j:=by
 exact Y122
theorem bN {H:AHeap} {i j:Nat} {x:AObj}:((H.set i x).del i).del j=(H.del i).del j:=by
 exact Y122
theorem iI {H:AHeap} {i j:Nat}:((H.del i).del j).Le H:=⟨nrq _,fun k x hk=>by
 rw [iN] at hk
 split at hk
 ·cases hk
 ·rw [iN] at hk
  split at hk
  ·cases hk
  ·exact hk⟩
theorem gk {H:AHeap} {i j:Nat} {x y:AObj}:((H.del i).del j).Le ((H.set i x).set j y):=by
 have:=iI (H:=(H.set i x).set j y) (i:=i) (j:=j)
 rwa [cm] at this
theorem dd_le1 {H:AHeap} {i j:Nat} {x:AObj}:((H.del i).del j).Le (H.set i x):=by
 have:=iI (H:=H.set i x) (i:=i) (j:=j)
 rwa [bN] at this
theorem jw {H:AHeap} {i j:Nat} (h:H.Closed):((H.del i).del j).Closed:=aq (aq h)
theorem i7 {H:AHeap} {id tb p:Nat} {m:Mark} {l:List Tok} {t:List Nd} (hg:H.get id=some (pst m l p tb t)) (h:gM H id tb l p t) (hcl:H.Closed) :
 (∀ X Y,((H.set id X).set tb Y).get id=some X)∧(∀ X Y,((H.set id X).set tb Y).get tb=some Y)∧(∀ X Y Z,((H.set id X).set tb Y).set id Z=(H.set id Z).set tb Y) ∧
   (∀ p' t',((H.set id (pst m l p' tb t')).set tb (.buf 7 t'.length)).Closed)∧(∀ X Y Z,((H.set id X).set tb Y).set tb Z=(H.set id X).set tb Z):=by
 obtain ⟨h1,h2,h3,h4,h5,h6,h7⟩:=h
 have hid:=glq hg
 have htb:=glq h2
 refine ⟨fun X Y=>?_,fun X Y=>?_,fun X Y Z=>?_,fun p' t'=>aa (jM hg hcl p' t'),fun X Y Z=>?_⟩
 ·rw [AHeap.get_set_ne _ _ h1];exact AHeap.get_set_same _ _ hid
 ·exact AHeap.get_set_same _ _ (by simpa [zlb] using htb)
 ·exact Y157
 ·simp only [AHeap.set];congr 1;funext k;by_cases hk:k=tb<;>simp [hk]
def jQ (f:Nat):=bI .imp f
def uh (f:Nat):=bI .or f
def oL (f:Nat):=bI .and f
def lq (f:Nat):=bI .not f
def wL (f:Nat):=bI .cmp f
def oR (f:Nat):=bI .sum f
def oq (f:Nat):=bI .un f
def sP (f:Nat):=bI .atom f
def xR:PR→AEnd
 |.ok a _ _=>.ret (.int .i64 (a:Int))
 |.bad p=>.panic (.iface 438 (.int .i64 (p:Int)))
def HR (m:Mark) (l:List Tok) (tb id:Nat) (H:AHeap):PR→AHeap
 |.ok _ p t=>(H.set id (pst m l p tb t)).set tb (.buf 7 t.length)
 |.bad _=>(H.del id).del tb
theorem cW {a p:Nat} {t:List Nd}:xR (.ok a p t)=.ret (.int .i64 (a:Int)):=rfl
theorem co {p:Nat}:xR (.bad p)=.panic (.iface 438 (.int .i64 (p:Int))):=rfl
theorem cU {m:Mark} {l:List Tok} {tb id a p:Nat} {t:List Nd} {H:AHeap}:HR m l tb id H (.ok a p t)=(H.set id (pst m l p tb t)).set tb (.buf 7 t.length):=rfl
theorem cq {m:Mark} {l:List Tok} {tb id p:Nat} {H:AHeap}:HR m l tb id H (.bad p)=(H.del id).del tb:=rfl
theorem gG {m:Mark} {l:List Tok} {tb id:Nat} {H:AHeap} {K:AEnd→AHeap→Prop} {r:PR}:HJ m l tb id H K (some r)=K (xR r) (HR m l tb id H r):=by cases r<;>rfl
theorem uz {m:Mark} {l:List Tok} {tb id:Nat} {H:AHeap} {r:PR}:H.nx≤(HR m l tb id H r).nx:=by cases r<;>exact nrq _
theorem mN:(opsC.length≤100)=True:=eq_true (by decide)
theorem nb:(opsS.length≤100)=True:=eq_true (by decide)
def opv (l:List Tok) (p:Nat):Nat:=(ir l p opsS).getD 0
def oph (l:List Tok) (p:Nat):Nat:=if (ir l p opsS).isSome then p+1 else p
theorem M2:vOf 0 1=1:=rfl
theorem M4:lK 0 1=True:=eq_true (by unfold lK;decide)
theorem aY:vOf 0 0=0:=rfl
theorem aX:lK 0 0=True:=eq_true (by unfold lK;decide)
theorem LG {f:Nat} (h_yOr:EntOk Tryz.prog 460 (Ent.effect (uh f))) (h_yImp:EntOk Tryz.prog 398 (Ent.effect (jQ f))):EntOk Tryz.prog 398 (Ent.effect (jQ (f+1))):=by
 refine EntOk.effect fun args H K h=>?_
 unfold jQ bI at h
 split at h
 rotate_left
 ·exact h.elim
 rename_i id
 obtain ⟨m,l,p,tb,t,hg,hpre,hK⟩:=h
 cases ho:run l (f+1) .imp p t with
 |none=>rw [ho] at hK;exact hK.elim
 |some r =>
 rw [ho,gG] at hK
 refine ⟨_,_,hK,?_⟩
 clear hK
 rw [run] at ho
 simp only [eD] at ho
 have hpre':=hpre
 obtain ⟨hne,htb,ht,hp,hl,hgl,hgt⟩:=hpre
 have hid:=glq hg
 have htbl:=glq htb
 have f1:=cD hid
 have f2:=cD htbl
 have hl5:l.length≤100000:=by omega
 have i1:=@Int.natCast_nonneg
 have hne':(id=tb)=False:=eq_false hne
 refine ACalls.fW ax (tCq h_yOr (tCq mi (tCq h_yImp (tCq kR tNq)))) Tryz.func398 [.tmp 2] uz (T:=av []) (h:=fun hcl hlt=>?_)
 clear hlt
 obtain ⟨hgi,hgt',hsi,hcl2,hst⟩:=i7 hg hpre' hcl
 rcases bg ho with ⟨q,h1,rfl⟩|⟨a,p1,t1,h1,h2⟩
 ·simp only [go_sem,f1,f2,hgi,hgt',hsi,hst,bn,bA,bO,cW,co,cU,cq,cm,bN,bY,cb,bI,hne,ne_eq,hne',hl5,iNq,aY,aX,i1,Int.reduceLE,eq_self,nFq,uh,hg,hpre',h1]
  exact Z31
 clear ho
 obtain ⟨k1,k2,k3,k4,k5,k6⟩:=br _ h1 hgt trivial hp
 simp only [Rl.isL,Bool.false_eq_true,if_false] at k4
 have hp1:gM ((H.set id (pst m l p1 tb t1)).set tb (.buf 7 t1.length)) id tb l p1 t1:=gz hpre' k2 (by omega) k5
 cases hs:isS l p1 [45,62] with
 |false =>
  rw [hs,if_neg (by simp)] at h2
  cases h2
  simp only [go_sem,f1,f2,hgi,hgt',hsi,hst,bn,bA,bO,cW,co,cU,cq,cm,bN,bY,cb,bI,hne,ne_eq,hne',hl5,iNq,aY,aX,i1,Int.reduceLE,eq_self,nFq,uh,hg,hpre',h1,k2,hs,if_false]
  exact Z25
 |true =>
  rw [hs,if_pos rfl] at h2
  have hlt1:=dt hs
  have hp2:gM ((H.set id (pst m l (p1+1) tb t1)).set tb (.buf 7 t1.length)) id tb l (p1+1) t1:=gz hpre' hlt1 (by omega) k5
  rcases bg h2 with ⟨q,h3,rfl⟩|⟨b,p2,t2,h3,h4⟩
  ·simp only [go_sem,f1,f2,hgi,hgt',hsi,hst,bn,bA,bO,cW,co,cU,cq,cm,bN,bY,cb,bI,hne,ne_eq,hne',hl5,iNq,aY,aX,i1,Int.reduceLE,eq_self,nFq,uh,jQ,hg,hpre',h1,k2,hs,if_true,hp2,h3]
   exact Z31
  cases h4
  obtain ⟨k1b,k2b,k3b,k4b,k5b,k6b⟩:=br _ h3 k5 trivial hlt1
  simp only [Rl.isL,Bool.false_eq_true,if_false] at k4b
  have ht2:t2.length≤100000:=by omega
  simp only [go_sem,f1,f2,hgi,hgt',hsi,hst,bn,bA,bO,cW,co,cU,cq,cm,bN,bY,cb,bI,hne,ne_eq,hne',hl5,iNq,aY,aX,i1,Int.reduceLE,eq_self,nFq,uh,jQ,hg,hpre',h1,k2,hs,if_true,hp2,h3,ht2,nd2]
  have hc3:=hcl2 p2 (t2++[⟨16,a,b,[],[],0⟩])
  exact Y89
theorem NP {f:Nat} (h_yAnd:EntOk Tryz.prog 482 (Ent.effect (oL f))):EntOk Tryz.prog 460 (Ent.effect (uh (f+1))):=by
 refine EntOk.effect fun args H K h=>?_
 unfold uh bI at h
 split at h
 rotate_left
 ·exact h.elim
 rename_i id
 obtain ⟨m,l,p,tb,t,hg,hpre,hK⟩:=h
 cases ho:run l (f+1) .or p t with
 |none=>rw [ho] at hK;exact hK.elim
 |some r =>
 rw [ho,gG] at hK
 refine ⟨_,_,hK,?_⟩
 clear hK
 rw [run] at ho
 simp only [eD] at ho
 have hpre':=hpre
 obtain ⟨hne,htb,ht,hp,hl,hgl,hgt⟩:=hpre
 have hid:=glq hg
 have htbl:=glq htb
 have f1:=cD hid
 have f2:=cD htbl
 have hl5:l.length≤100000:=by omega
 have i1:=@Int.natCast_nonneg
 have hne':(id=tb)=False:=eq_false hne
 refine ACalls.fW ax (tCq h_yAnd (tCq mi (tCq kR tNq))) Tryz.func460 [.tmp 2] uz (T:=av []) (h:=fun hcl hlt=>?_)
 clear hlt
 obtain ⟨hgi,hgt',hsi,hcl2,hst⟩:=i7 hg hpre' hcl
 rcases bg ho with ⟨q,h1,rfl⟩|⟨a,p1,t1,h1,h2⟩
 ·simp only [go_sem,f1,f2,hgi,hgt',hsi,hst,bn,bA,bO,cW,co,cU,cq,cm,bN,bY,cb,bI,hne,ne_eq,hne',hl5,iNq,aY,aX,i1,Int.reduceLE,eq_self,nFq,oL,hg,hpre',h1]
  exact Z31
 clear ho
 obtain ⟨k1,k2,k3,k4,k5,k6⟩:=br _ h1 hgt trivial hp
 simp only [Rl.isL,Bool.false_eq_true,if_false] at k4
 have hp1:gM ((H.set id (pst m l p1 tb t1)).set tb (.buf 7 t1.length)) id tb l p1 t1:=gz hpre' k2 (by omega) k5
 simp only [go_sem,f1,f2,hgi,hgt',hsi,hst,bn,bA,bO,cW,co,cU,cq,cm,bN,bY,cb,bI,hne,ne_eq,hne',hl5,iNq,aY,aX,i1,Int.reduceLE,eq_self,nFq,oL,hg,hpre',h1]
 refine az (A:=Nat × Nat × Nat × List Nd) (fun x=>[(0,.ptr id 0),(3,.int .i64 (x.2.1:Int))]) (fun x=>(H.set id (pst m l x.2.2.1 tb x.2.2.2)).set tb (.buf 7 x.2.2.2.length))
  (fun x=>x.1≤f∧run l x.1 (.orL x.2.1) x.2.2.1 x.2.2.2=some r∧x.2.2.1≤l.length∧x.2.2.2.length≤x.2.2.1∧Good x.2.2.2∧x.2.1<x.2.2.2.length) (fun x=>x.1) (f,a,p1,t1) ⟨nrq _,h2,k2,by dsimp only;omega,k5,k1⟩ ?_ fun x hx=>?_
 ·exact Z33
 obtain ⟨g,a',p',t'⟩:=x
 obtain ⟨x1,x2,x3,x4,x5,x6⟩:=hx
 dsimp only at x1 x2 x3 x4 x5 x6 ⊢
 have ht':t'.length≤100000:=by omega
 have hpx:gM ((H.set id (pst m l p' tb t')).set tb (.buf 7 t'.length)) id tb l p' t':=gz hpre' x3 x4 x5
 cases g with
 |zero=>cases x2
 |succ g =>
 rw [run] at x2
 simp only [eD] at x2
 cases hs:isS l p' [124,124] with
 |false =>
  exact Y85
 |true =>
  rw [hs,if_pos rfl] at x2
  have hlt1:=dt hs
  have hp2:gM ((H.set id (pst m l (p'+1) tb t')).set tb (.buf 7 t'.length)) id tb l (p'+1) t':=gz hpre' hlt1 (by omega) x5
  rcases bg x2 with ⟨q,h3,rfl⟩|⟨b,p2,t2,h3,h4⟩
  ·have h3':=dm (show g≤f by omega) h3
   simp only [go_sem,f1,f2,hgi,hgt',hsi,hst,bn,bA,bO,cW,co,cU,cq,cm,bN,bY,cb,bI,hne,ne_eq,hne',hl5,iNq,aY,aX,i1,Int.reduceLE,eq_self,nFq,oL,x3,hs,if_true,hp2,h3']
   exact Z31
  have h3':=dm (show g≤f by omega) h3
  obtain ⟨k1b,k2b,k3b,k4b,k5b,k6b⟩:=br _ h3 x5 trivial hlt1
  simp only [Rl.isL,Bool.false_eq_true,if_false] at k4b
  have ht2:t2.length≤100000:=by omega
  simp only [go_sem,f1,f2,hgi,hgt',hsi,hst,bn,bA,bO,cW,co,cU,cq,cm,bN,bY,cb,bI,hne,ne_eq,hne',hl5,iNq,aY,aX,i1,Int.reduceLE,eq_self,nFq,oL,x3,hs,if_true,hp2,h3',ht2]
  have hc3:=hcl2 p2 (t2++[⟨15,a',b,[],[],0⟩])
  refine ⟨(g,t2.length,p2,t2++[⟨15,a',b,[],[],0⟩]),⟨by dsimp only;omega,h4,k2b,by simp;omega,k5b.snoc ⟨(show 1≤15 by decide),(show 15≤16 by decide)⟩ (show (0:Nat)<2^128 by decide) (.inr ⟨by simp only;omega,by simp only;omega⟩),by simp⟩,by dsimp only;omega,?_⟩
  exact Y61
theorem LC {f:Nat} (h_yNot:EntOk Tryz.prog 494 (Ent.effect (lq f))):EntOk Tryz.prog 482 (Ent.effect (oL (f+1))):=by
 refine EntOk.effect fun args H K h=>?_
 unfold oL bI at h
 split at h
 rotate_left
 ·exact h.elim
 rename_i id
 obtain ⟨m,l,p,tb,t,hg,hpre,hK⟩:=h
 cases ho:run l (f+1) .and p t with
 |none=>rw [ho] at hK;exact hK.elim
 |some r =>
 rw [ho,gG] at hK
 refine ⟨_,_,hK,?_⟩
 clear hK
 rw [run] at ho
 simp only [eD] at ho
 have hpre':=hpre
 obtain ⟨hne,htb,ht,hp,hl,hgl,hgt⟩:=hpre
 have hid:=glq hg
 have htbl:=glq htb
 have f1:=cD hid
 have f2:=cD htbl
 have hl5:l.length≤100000:=by omega
 have i1:=@Int.natCast_nonneg
 have hne':(id=tb)=False:=eq_false hne
 refine ACalls.fW ax (tCq h_yNot (tCq mi (tCq kR tNq))) Tryz.func482 [.tmp 2] uz (T:=av []) (h:=fun hcl hlt=>?_)
 clear hlt
 obtain ⟨hgi,hgt',hsi,hcl2,hst⟩:=i7 hg hpre' hcl
 rcases bg ho with ⟨q,h1,rfl⟩|⟨a,p1,t1,h1,h2⟩
 ·simp only [go_sem,f1,f2,hgi,hgt',hsi,hst,bn,bA,bO,cW,co,cU,cq,cm,bN,bY,cb,bI,hne,ne_eq,hne',hl5,iNq,aY,aX,i1,Int.reduceLE,eq_self,nFq,lq,hg,hpre',h1]
  exact Z31
 clear ho
 obtain ⟨k1,k2,k3,k4,k5,k6⟩:=br _ h1 hgt trivial hp
 simp only [Rl.isL,Bool.false_eq_true,if_false] at k4
 have hp1:gM ((H.set id (pst m l p1 tb t1)).set tb (.buf 7 t1.length)) id tb l p1 t1:=gz hpre' k2 (by omega) k5
 simp only [go_sem,f1,f2,hgi,hgt',hsi,hst,bn,bA,bO,cW,co,cU,cq,cm,bN,bY,cb,bI,hne,ne_eq,hne',hl5,iNq,aY,aX,i1,Int.reduceLE,eq_self,nFq,lq,hg,hpre',h1]
 refine az (A:=Nat × Nat × Nat × List Nd) (fun x=>[(0,.ptr id 0),(3,.int .i64 (x.2.1:Int))]) (fun x=>(H.set id (pst m l x.2.2.1 tb x.2.2.2)).set tb (.buf 7 x.2.2.2.length))
  (fun x=>x.1≤f∧run l x.1 (.andL x.2.1) x.2.2.1 x.2.2.2=some r∧x.2.2.1≤l.length∧x.2.2.2.length≤x.2.2.1∧Good x.2.2.2∧x.2.1<x.2.2.2.length) (fun x=>x.1) (f,a,p1,t1) ⟨nrq _,h2,k2,by dsimp only;omega,k5,k1⟩ ?_ fun x hx=>?_
 ·exact Z33
 obtain ⟨g,a',p',t'⟩:=x
 obtain ⟨x1,x2,x3,x4,x5,x6⟩:=hx
 dsimp only at x1 x2 x3 x4 x5 x6 ⊢
 have ht':t'.length≤100000:=by omega
 have hpx:gM ((H.set id (pst m l p' tb t')).set tb (.buf 7 t'.length)) id tb l p' t':=gz hpre' x3 x4 x5
 cases g with
 |zero=>cases x2
 |succ g =>
 rw [run] at x2
 simp only [eD] at x2
 cases hs:isS l p' [38,38] with
 |false =>
  exact Y85
 |true =>
  rw [hs,if_pos rfl] at x2
  have hlt1:=dt hs
  have hp2:gM ((H.set id (pst m l (p'+1) tb t')).set tb (.buf 7 t'.length)) id tb l (p'+1) t':=gz hpre' hlt1 (by omega) x5
  rcases bg x2 with ⟨q,h3,rfl⟩|⟨b,p2,t2,h3,h4⟩
  ·have h3':=dm (show g≤f by omega) h3
   simp only [go_sem,f1,f2,hgi,hgt',hsi,hst,bn,bA,bO,cW,co,cU,cq,cm,bN,bY,cb,bI,hne,ne_eq,hne',hl5,iNq,aY,aX,i1,Int.reduceLE,eq_self,nFq,lq,x3,hs,if_true,hp2,h3']
   exact Z31
  have h3':=dm (show g≤f by omega) h3
  obtain ⟨k1b,k2b,k3b,k4b,k5b,k6b⟩:=br _ h3 x5 trivial hlt1
  simp only [Rl.isL,Bool.false_eq_true,if_false] at k4b
  have ht2:t2.length≤100000:=by omega
  simp only [go_sem,f1,f2,hgi,hgt',hsi,hst,bn,bA,bO,cW,co,cU,cq,cm,bN,bY,cb,bI,hne,ne_eq,hne',hl5,iNq,aY,aX,i1,Int.reduceLE,eq_self,nFq,lq,x3,hs,if_true,hp2,h3',ht2]
  have hc3:=hcl2 p2 (t2++[⟨14,a',b,[],[],0⟩])
  refine ⟨(g,t2.length,p2,t2++[⟨14,a',b,[],[],0⟩]),⟨by dsimp only;omega,h4,k2b,by simp;omega,k5b.snoc ⟨(show 1≤14 by decide),(show 14≤16 by decide)⟩ (show (0:Nat)<2^128 by decide) (.inr ⟨by simp only;omega,by simp only;omega⟩),by simp⟩,by dsimp only;omega,?_⟩
  exact Y61
theorem Lm {f:Nat} (h_yNot:EntOk Tryz.prog 494 (Ent.effect (lq f))) (h_yCmp:EntOk Tryz.prog 498 (Ent.effect (wL f))):EntOk Tryz.prog 494 (Ent.effect (lq (f+1))):=by
 refine EntOk.effect fun args H K h=>?_
 unfold lq bI at h
 split at h
 rotate_left
 ·exact h.elim
 rename_i id
 obtain ⟨m,l,p,tb,t,hg,hpre,hK⟩:=h
 cases ho:run l (f+1) .not p t with
 |none=>rw [ho] at hK;exact hK.elim
 |some r =>
 rw [ho,gG] at hK
 refine ⟨_,_,hK,?_⟩
 clear hK
 rw [run] at ho
 simp only [eD] at ho
 have hpre':=hpre
 obtain ⟨hne,htb,ht,hp,hl,hgl,hgt⟩:=hpre
 have hid:=glq hg
 have htbl:=glq htb
 have f1:=cD hid
 have f2:=cD htbl
 have hl5:l.length≤100000:=by omega
 have i1:=@Int.natCast_nonneg
 have hne':(id=tb)=False:=eq_false hne
 refine ACalls.fW ax (tCq mi (tCq h_yNot (tCq kR (tCq h_yCmp tNq)))) Tryz.func494 [.tmp 2] uz (T:=av []) (h:=fun hcl hlt=>?_)
 clear hlt
 obtain ⟨hgi,hgt',hsi,hcl2,hst⟩:=i7 hg hpre' hcl
 cases hs:isS l p [33] with
 |false =>
  rw [hs,if_neg (by simp)] at ho
  simp only [go_sem,f1,f2,hgi,hgt',hsi,hst,bn,bA,bO,cW,co,cU,cq,cm,bN,bY,cb,bI,hne,ne_eq,hne',hl5,iNq,aY,aX,i1,Int.reduceLE,eq_self,nFq,wL,hg,hp,hs,if_false,hpre',ho,gG]
  cases r with
  |ok a q u =>
   exact Y41
  |bad q =>
   exact Y95
 |true =>
  rw [hs,if_pos rfl] at ho
  have hlt1:=dt hs
  have hgi1:∀ X,(H.set id X).get id=some X:=fun X=>AHeap.get_set_same _ _ hid
  have hp2:gM (H.set id (pst m l (p+1) tb t)) id tb l (p+1) t:=kV hpre' hlt1 (by omega)
  have hss:∀ X Y,(H.set id X).set id Y=H.set id Y:=fun X Y=>by simp only [AHeap.set];congr 1;funext k;by_cases hk:k=id<;>simp [hk]
  rcases bg ho with ⟨q,h3,rfl⟩|⟨b,p2,t2,h3,h4⟩
  ·simp only [go_sem,f1,f2,hgi,hgt',hsi,hst,bn,bA,bO,cW,co,cU,cq,cm,bN,bY,cb,bI,hne,ne_eq,hne',hl5,iNq,aY,aX,i1,Int.reduceLE,eq_self,nFq,lq,hg,hp,hs,if_true,hgi1,hss,hp2,h3]
   exact Z31
  cases h4
  obtain ⟨k1b,k2b,k3b,k4b,k5b,k6b⟩:=br _ h3 hgt trivial hlt1
  simp only [Rl.isL,Bool.false_eq_true,if_false] at k4b
  have ht2:t2.length≤100000:=by omega
  simp only [go_sem,f1,f2,hgi,hgt',hsi,hst,bn,bA,bO,cW,co,cU,cq,cm,bN,bY,cb,bI,hne,ne_eq,hne',hl5,iNq,aY,aX,i1,Int.reduceLE,eq_self,nFq,lq,hg,hp,hs,if_true,hgi1,hss,hp2,h3,ht2,nd2]
  have hc3:=hcl2 p2 (t2++[⟨5,b,0,[],[],0⟩])
  exact Y89
theorem NR {f:Nat} (h_yUn:EntOk Tryz.prog 504 (Ent.effect (oq f))) (h_yAtom:EntOk Tryz.prog 507 (Ent.effect (sP f))):EntOk Tryz.prog 504 (Ent.effect (oq (f+1))):=by
 refine EntOk.effect fun args H K h=>?_
 unfold oq bI at h
 split at h
 rotate_left
 ·exact h.elim
 rename_i id
 obtain ⟨m,l,p,tb,t,hg,hpre,hK⟩:=h
 cases ho:run l (f+1) .un p t with
 |none=>rw [ho] at hK;exact hK.elim
 |some r =>
 rw [ho,gG] at hK
 refine ⟨_,_,hK,?_⟩
 clear hK
 rw [run] at ho
 simp only [eD] at ho
 have hpre':=hpre
 obtain ⟨hne,htb,ht,hp,hl,hgl,hgt⟩:=hpre
 have hid:=glq hg
 have htbl:=glq htb
 have f1:=cD hid
 have f2:=cD htbl
 have hl5:l.length≤100000:=by omega
 have i1:=@Int.natCast_nonneg
 have hne':(id=tb)=False:=eq_false hne
 refine ACalls.fW ax (tCq mi (tCq h_yUn (tCq kR (tCq h_yAtom tNq)))) Tryz.func504 [.tmp 2] uz (T:=av []) (h:=fun hcl hlt=>?_)
 clear hlt
 obtain ⟨hgi,hgt',hsi,hcl2,hst⟩:=i7 hg hpre' hcl
 cases hs:isS l p [45] with
 |false =>
  rw [hs,if_neg (by simp)] at ho
  simp only [go_sem,f1,f2,hgi,hgt',hsi,hst,bn,bA,bO,cW,co,cU,cq,cm,bN,bY,cb,bI,hne,ne_eq,hne',hl5,iNq,aY,aX,i1,Int.reduceLE,eq_self,nFq,sP,hg,hp,hs,if_false,hpre',ho,gG]
  cases r with
  |ok a q u =>
   exact Y41
  |bad q =>
   exact Y95
 |true =>
  rw [hs,if_pos rfl] at ho
  have hlt1:=dt hs
  have hgi1:∀ X,(H.set id X).get id=some X:=fun X=>AHeap.get_set_same _ _ hid
  have hp2:gM (H.set id (pst m l (p+1) tb t)) id tb l (p+1) t:=kV hpre' hlt1 (by omega)
  have hss:∀ X Y,(H.set id X).set id Y=H.set id Y:=fun X Y=>by simp only [AHeap.set];congr 1;funext k;by_cases hk:k=id<;>simp [hk]
  rcases bg ho with ⟨q,h3,rfl⟩|⟨b,p2,t2,h3,h4⟩
  ·simp only [go_sem,f1,f2,hgi,hgt',hsi,hst,bn,bA,bO,cW,co,cU,cq,cm,bN,bY,cb,bI,hne,ne_eq,hne',hl5,iNq,aY,aX,i1,Int.reduceLE,eq_self,nFq,oq,hg,hp,hs,if_true,hgi1,hss,hp2,h3]
   exact Z31
  cases h4
  obtain ⟨k1b,k2b,k3b,k4b,k5b,k6b⟩:=br _ h3 hgt trivial hlt1
  simp only [Rl.isL,Bool.false_eq_true,if_false] at k4b
  have ht2:t2.length≤100000:=by omega
  simp only [go_sem,f1,f2,hgi,hgt',hsi,hst,bn,bA,bO,cW,co,cU,cq,cm,bN,bY,cb,bI,hne,ne_eq,hne',hl5,iNq,aY,aX,i1,Int.reduceLE,eq_self,nFq,oq,hg,hp,hs,if_true,hgi1,hss,hp2,h3,ht2,nd2]
  have hc3:=hcl2 p2 (t2++[⟨4,b,0,[],[],0⟩])
  exact Y89
theorem LE {f:Nat} (h_ySum:EntOk Tryz.prog 500 (Ent.effect (oR f))):EntOk Tryz.prog 498 (Ent.effect (wL (f+1))):=by
 refine EntOk.effect fun args H K h=>?_
 unfold wL bI at h
 split at h
 rotate_left
 ·exact h.elim
 rename_i id
 obtain ⟨m,l,p,tb,t,hg,hpre,hK⟩:=h
 cases ho:run l (f+1) .cmp p t with
 |none=>rw [ho] at hK;exact hK.elim
 |some r =>
 rw [ho,gG] at hK
 refine ⟨_,_,hK,?_⟩
 clear hK
 rw [run] at ho
 simp only [eD] at ho
 have hpre':=hpre
 obtain ⟨hne,htb,ht,hp,hl,hgl,hgt⟩:=hpre
 have hid:=glq hg
 have htbl:=glq htb
 have f1:=cD hid
 have f2:=cD htbl
 have hl5:l.length≤100000:=by omega
 have i1:=@Int.natCast_nonneg
 have hne':(id=tb)=False:=eq_false hne
 refine ACalls.fW ax (tCq h_ySum (tCq Az (tCq Cw (tCq kR tNq)))) Tryz.func498 [.tmp 2] uz (T:=av []) (h:=fun hcl hlt=>?_)
 clear hlt
 obtain ⟨hgi,hgt',hsi,hcl2,hst⟩:=i7 hg hpre' hcl
 rcases bg ho with ⟨q,h1,rfl⟩|⟨a,p1,t1,h1,h2⟩
 ·simp only [go_sem,f1,f2,hgi,hgt',hsi,hst,bn,bA,bO,cW,co,cU,cq,cm,bN,bY,cb,bI,hne,ne_eq,hne',hl5,iNq,aY,aX,i1,Int.reduceLE,eq_self,nFq,oR,hg,hpre',h1]
  exact Z31
 clear ho
 obtain ⟨k1,k2,k3,k4,k5,k6⟩:=br _ h1 hgt trivial hp
 simp only [Rl.isL,Bool.false_eq_true,if_false] at k4
 have hp1:gM ((H.set id (pst m l p1 tb t1)).set tb (.buf 7 t1.length)) id tb l p1 t1:=gz hpre' k2 (by omega) k5
 cases hs:ir l p1 opsC with
 |none =>
  rw [hs] at h2
  cases h2
  simp only [go_sem,f1,f2,hgi,hgt',hsi,hst,bn,bA,bO,cW,co,cU,cq,cm,bN,bY,cb,bI,hne,ne_eq,hne',hl5,iNq,aY,aX,i1,Int.reduceLE,eq_self,nFq,l7,gd,l5,jI,mN,nb,oR,hg,hpre',h1,k2,hs,rt]
  refine Am rfl ?_
  exact Y41
 |some op =>
  rw [hs] at h2
  dsimp only at h2
  obtain ⟨hlt1,so,hso⟩:=iO hs
  obtain ⟨o1,o2⟩:=zz hso
  have hop:((op:Int) != 0)=true:=by simp;omega
  have hp2:gM ((H.set id (pst m l (p1+1) tb t1)).set tb (.buf 7 t1.length)) id tb l (p1+1) t1:=gz hpre' hlt1 (by omega) k5
  rcases bg h2 with ⟨q,h3,rfl⟩|⟨b,p2,t2,h3,h4⟩
  ·simp only [go_sem,f1,f2,hgi,hgt',hsi,hst,bn,bA,bO,cW,co,cU,cq,cm,bN,bY,cb,bI,hne,ne_eq,hne',hl5,iNq,aY,aX,i1,Int.reduceLE,eq_self,nFq,l7,gd,l5,jI,mN,nb,oR,hg,hpre',h1,k2,hs,oP,hop,hp2,h3]
   exact Z31
  cases h4
  obtain ⟨k1b,k2b,k3b,k4b,k5b,k6b⟩:=br _ h3 k5 trivial hlt1
  simp only [Rl.isL,Bool.false_eq_true,if_false] at k4b
  have ht2:t2.length≤100000:=by omega
  simp only [go_sem,f1,f2,hgi,hgt',hsi,hst,bn,bA,bO,cW,co,cU,cq,cm,bN,bY,cb,bI,hne,ne_eq,hne',hl5,iNq,aY,aX,i1,Int.reduceLE,eq_self,nFq,l7,gd,l5,jI,mN,nb,oR,hg,hpre',h1,k2,hs,oP,hop,hp2,h3,ht2,nd2]
  have hc3:=hcl2 p2 (t2++[⟨op,a,b,[],[],0⟩])
  exact Y89
theorem MQ {f:Nat} (h_yUn:EntOk Tryz.prog 504 (Ent.effect (oq f))):EntOk Tryz.prog 500 (Ent.effect (oR (f+1))):=by
 refine EntOk.effect fun args H K h=>?_
 unfold oR bI at h
 split at h
 rotate_left
 ·exact h.elim
 rename_i id
 obtain ⟨m,l,p,tb,t,hg,hpre,hK⟩:=h
 cases ho:run l (f+1) .sum p t with
 |none=>rw [ho] at hK;exact hK.elim
 |some r =>
 rw [ho,gG] at hK
 refine ⟨_,_,hK,?_⟩
 clear hK
 rw [run] at ho
 simp only [eD] at ho
 have hpre':=hpre
 obtain ⟨hne,htb,ht,hp,hl,hgl,hgt⟩:=hpre
 have hid:=glq hg
 have htbl:=glq htb
 have f1:=cD hid
 have f2:=cD htbl
 have hl5:l.length≤100000:=by omega
 have i1:=@Int.natCast_nonneg
 have hne':(id=tb)=False:=eq_false hne
 refine ACalls.fW ax (tCq h_yUn (tCq HX (tCq Cw (tCq kR tNq)))) Tryz.func500 [.tmp 2] uz (T:=av []) (h:=fun hcl hlt=>?_)
 clear hlt
 obtain ⟨hgi,hgt',hsi,hcl2,hst⟩:=i7 hg hpre' hcl
 rcases bg ho with ⟨q,h1,rfl⟩|⟨a,p1,t1,h1,h2⟩
 ·simp only [go_sem,f1,f2,hgi,hgt',hsi,hst,bn,bA,bO,cW,co,cU,cq,cm,bN,bY,cb,bI,hne,ne_eq,hne',hl5,iNq,aY,aX,i1,Int.reduceLE,eq_self,nFq,oq,hg,hpre',h1]
  exact Z31
 clear ho
 obtain ⟨k1,k2,k3,k4,k5,k6⟩:=br _ h1 hgt trivial hp
 simp only [Rl.isL,Bool.false_eq_true,if_false] at k4
 have hp1:gM ((H.set id (pst m l p1 tb t1)).set tb (.buf 7 t1.length)) id tb l p1 t1:=gz hpre' k2 (by omega) k5
 have hsn:∀ p',ir l p' opsS=none→opv l p'=0∧oph l p'=p':=fun p' e=>by simp [opv,oph,e]
 have hss:∀ p' op,ir l p' opsS=some op→opv l p'=op∧oph l p'=p'+1:=fun p' op e=>by simp [opv,oph,e]
 have hev:∀ p',(ir l p' opsS=none∧opv l p'=0∧oph l p'=p')∨∃ op,ir l p' opsS=some op∧opv l p'=op∧oph l p'=p'+1:=fun p'=>by
  cases hs:ir l p' opsS with
  |none=>exact .inl ⟨rfl,hsn _ hs⟩
  |some op=>exact .inr ⟨op,rfl,hss _ _ hs⟩
 simp only [go_sem,f1,f2,hgi,hgt',hsi,hst,bn,bA,bO,cW,co,cU,cq,cm,bN,bY,cb,bI,hne,ne_eq,hne',hl5,iNq,aY,aX,i1,Int.reduceLE,eq_self,nFq,l7,gd,l5,jI,mN,nb,oq,hg,hpre',h1,k2]
 rcases hev p1 with ⟨hs1,v1,v2⟩|⟨op1,hs1,v1,v2⟩
 all_goals
  simp only [go_sem,f1,f2,hgi,hgt',hsi,hst,bn,bA,bO,cW,co,cU,cq,cm,bN,bY,cb,bI,hne,ne_eq,hne',hl5,iNq,aY,aX,i1,Int.reduceLE,eq_self,nFq,l7,gd,l5,jI,mN,nb,k2,hs1,rt,oP]
  refine az (A:=Nat × Nat × Nat × List Nd) (fun x=>[(0,.ptr id 0),(3,.int .i64 (x.2.1:Int)),(4,.int .i64 (opv l x.2.2.1:Int))]) (fun x=>(H.set id (pst m l (oph l x.2.2.1) tb x.2.2.2)).set tb (.buf 7 x.2.2.2.length)) (fun x=>x.1≤f∧run l x.1 (.sumL x.2.1) x.2.2.1 x.2.2.2=some r∧x.2.2.1≤l.length∧x.2.2.2.length≤x.2.2.1∧Good x.2.2.2∧x.2.1<x.2.2.2.length) (fun x=>x.1) (f,a,p1,t1) ⟨nrq _,h2,k2,by dsimp only;omega,k5,k1⟩ ?_ fun x hx=>?_
  ·dsimp only
   rw [v1,v2]
   exact Z33
  obtain ⟨g,a',p',t'⟩:=x
  obtain ⟨x1,x2,x3,x4,x5,x6⟩:=hx
  dsimp only at x1 x2 x3 x4 x5 x6 ⊢
  have ht':t'.length≤100000:=by omega
  cases g with
  |zero=>cases x2
  |succ g =>
  rw [run] at x2
  simp only [eD] at x2
  rcases hev p' with ⟨hs,u1,u2⟩|⟨op,hs,u1,u2⟩
  ·rw [hs] at x2
   cases x2
   rw [u1,u2]
   simp only [go_sem,f1,f2,hgi,hgt',hsi,hst,bn,bA,bO,cW,co,cU,cq,cm,bN,bY,cb,bI,hne,ne_eq,hne',hl5,iNq,aY,aX,i1,Int.reduceLE,eq_self,nFq]
   refine Am rfl ?_
   exact Y41
  ·rw [hs] at x2
   dsimp only at x2
   rw [u1,u2]
   obtain ⟨hlt1,so,hso⟩:=iO hs
   obtain ⟨o1,o2⟩:=sD hso
   have hop:((op:Int) != 0)=true:=by simp;omega
   have hp2:gM ((H.set id (pst m l (p'+1) tb t')).set tb (.buf 7 t'.length)) id tb l (p'+1) t':=gz hpre' hlt1 (by omega) x5
   rcases bg x2 with ⟨q,h3,rfl⟩|⟨b,p2,t2,h3,h4⟩
   ·have h3':=dm (show g≤f by omega) h3
    simp only [go_sem,f1,f2,hgi,hgt',hsi,hst,bn,bA,bO,cW,co,cU,cq,cm,bN,bY,cb,bI,hne,ne_eq,hne',hl5,iNq,aY,aX,i1,Int.reduceLE,eq_self,nFq,oq,hop,hp2,h3']
    exact Z31
   have h3':=dm (show g≤f by omega) h3
   obtain ⟨k1b,k2b,k3b,k4b,k5b,k6b⟩:=br _ h3 x5 trivial hlt1
   simp only [Rl.isL,Bool.false_eq_true,if_false] at k4b
   have ht2:t2.length≤100000:=by omega
   have hc3:=hcl2 (oph l p2) (t2++[⟨op,a',b,[],[],0⟩])
   rcases hev p2 with ⟨hs2,w1,w2⟩|⟨op2,hs2,w1,w2⟩
   all_goals
    simp only [go_sem,f1,f2,hgi,hgt',hsi,hst,bn,bA,bO,cW,co,cU,cq,cm,bN,bY,cb,bI,hne,ne_eq,hne',hl5,iNq,aY,aX,i1,Int.reduceLE,eq_self,nFq,l7,gd,l5,jI,mN,nb,oq,hop,hp2,h3',ht2,k2b,hs2,rt,oP]
    refine ⟨(g,t2.length,p2,t2++[⟨op,a',b,[],[],0⟩]),⟨by dsimp only;omega,h4,k2b,by simp;omega,k5b.snoc ⟨(by show 1≤op;omega),o2⟩ (show (0:Nat)<2^128 by decide) (.inr ⟨by simp only;omega,by simp only;omega⟩),by simp⟩,by dsimp only;omega,?_⟩
    dsimp only
    rw [w1,w2]
    rw [w2] at hc3
    simp only [lAq,yaz,yba,nzq] at hc3 ⊢
    exact Z34
theorem KT {f:Nat} (h_yImp:EntOk Tryz.prog 398 (Ent.effect (jQ f))):EntOk Tryz.prog 507 (Ent.effect (sP (f+1))):=by
 refine EntOk.effect fun args H K h=>?_
 unfold sP bI at h
 split at h
 rotate_left
 ·exact h.elim
 rename_i id
 obtain ⟨m,l,p,tb,t,hg,hpre,hK⟩:=h
 cases ho:run l (f+1) .atom p t with
 |none=>rw [ho] at hK;exact hK.elim
 |some r =>
 rw [ho,gG] at hK
 refine ⟨_,_,hK,?_⟩
 clear hK
 rw [run] at ho
 simp only [eD] at ho
 have hpre':=hpre
 obtain ⟨hne,htb,ht,hp,hl,hgl,hgt⟩:=hpre
 have hid:=glq hg
 have htbl:=glq htb
 have f1:=cD hid
 have f2:=cD htbl
 have hl5:l.length≤100000:=by omega
 have i1:=@Int.natCast_nonneg
 have hne':(id=tb)=False:=eq_false hne
 refine ACalls.fW ax (tCq mi (tCq h_yImp (tCq mJ (tCq Bu (tCq IY (tCq FB (tCq kR tNq))))))) Tryz.func507 [.tmp 2] uz (T:=av []) (h:=fun hcl hlt=>?_)
 clear hlt
 obtain ⟨hgi,hgt',hsi,hcl2,hst⟩:=i7 hg hpre' hcl
 have hgi1:∀ X,(H.set id X).get id=some X:=fun X=>AHeap.get_set_same _ _ hid
 have hgt1:∀ X,(H.set id X).get tb=some (.buf 7 t.length):=fun X=>by rw [AHeap.get_set_ne _ _ (fun e=>hne e.symm)];exact htb
 have hss:∀ X Y,(H.set id X).set id Y=H.set id Y:=fun X Y=>by simp only [AHeap.set];congr 1;funext k;by_cases hk:k=id<;>simp [hk]
 have hcs:=ay (cs:=[.slice m 3 (dr l),.int .i64 (p:Int),.slice (.own tb) 7 (nds t)]) hg
 have ht5:t.length≤100000:=by omega
 cases hs0:isS l p [40] with
 |true =>
  rw [hs0,if_pos rfl] at ho
  have hlt1:=dt hs0
  have hp2:gM (H.set id (pst m l (p+1) tb t)) id tb l (p+1) t:=kV hpre' hlt1 (by omega)
  rcases bg ho with ⟨q,h3,rfl⟩|⟨a,p1,t1,h3,h4⟩
  ·simp only [go_sem,f1,f2,hgi,hgt',hsi,hst,bn,bA,bO,cW,co,cU,cq,cm,bN,bY,cb,bI,hne,ne_eq,hne',hl5,iNq,aY,aX,i1,Int.reduceLE,eq_self,nFq,jQ,hg,hp,hs0,if_true,hgi1,hss,hp2,h3]
   exact Z31
  obtain ⟨k1b,k2b,k3b,k4b,k5b,k6b⟩:=br _ h3 hgt trivial hlt1
  simp only [Rl.isL,Bool.false_eq_true,if_false] at k4b
  cases hs2:isS l p1 [41] with
  |true =>
   rw [hs2,if_pos rfl] at h4
   cases h4
   simp only [go_sem,f1,f2,hgi,hgt',hsi,hst,bn,bA,bO,cW,co,cU,cq,cm,bN,bY,cb,bI,hne,ne_eq,hne',hl5,iNq,aY,aX,i1,Int.reduceLE,eq_self,nFq,jQ,hg,hp,hs0,if_true,hgi1,hss,hp2,h3,k2b,hs2]
   exact Z25
  |false =>
   rw [hs2,if_neg (by simp)] at h4
   cases h4
   simp only [go_sem,f1,f2,hgi,hgt',hsi,hst,bn,bA,bO,cW,co,cU,cq,cm,bN,bY,cb,bI,hne,ne_eq,hne',hl5,iNq,aY,aX,i1,Int.reduceLE,eq_self,nFq,jQ,fJ,hg,hp,hs0,if_true,if_false,hgi1,hss,hp2,h3,k2b,hs2]
   exact Z31
 |false =>
  rw [hs0,if_neg (by simp)] at ho
  cases ho
  by_cases hlt0:p<l.length
  ·rcases htk:l[p] with ⟨k,x,z⟩
   have hgd:=nt hlt0 htk
   have hge:l[p]?=some (k,x,z):=by rw [gQq hlt0,htk]
   have d0:decide ((p:Int)<(l.length:Int))=true:=by simp;omega
   by_cases hk1:k=1
   ·subst hk1
    have hka:qW l p=1:=by unfold qW;rw [hge]
    have hr:dk l p t=.ok t.length (p+1) (t++[⟨1,0,0,[],[],yH l p⟩]):=by unfold dk yH;rw [hge];rfl
    have hd1:(((1:Nat):Int)==1)=true:=rfl
    rw [hr]
    have hc3:=hcl2 (p+1) (t++[⟨1,0,0,[],[],yH l p⟩])
    simp only [go_sem,f1,f2,hgi,hgt',hsi,hst,bn,bA,bO,cW,co,cU,cq,cm,bN,bY,cb,bI,hne,ne_eq,hne',hl5,iNq,aY,aX,i1,Int.reduceLE,eq_self,nFq,hg,hp,hs0,if_false,hcs,aT,hgd,d0,j5,fE,fJ,iJ,hp,hgi1,hgt1,hss,ht5,ic,fT,g7,bne_self_eq_false,beq_self_eq_true,hd1,hka,hpre']
    exact Y52
   ·have d1:((k:Int)==1)=false:=by simp;omega
    by_cases hk2:k=2
    ·subst hk2
     have hw:kH l p=some x:=by unfold kH;rw [hge];rfl
     have hd2:(((2:Nat):Int)==1)=false:=rfl
     by_cases hx1:x=t9
     ·have hr:dk l p t=.ok t.length (p+1) (t++[⟨2,0,0,[],[],1⟩]):=by unfold dk;rw [hge];simp [hx1]
      have htr:l9 x=.tup [g7 2 1,.bool true]:=by unfold l9;rw [if_pos hx1]
      rw [hr]
      have hc3:=hcl2 (p+1) (t++[⟨2,0,0,[],[],1⟩])
      simp only [go_sem,f1,f2,hgi,hgt',hsi,hst,bn,bA,bO,cW,co,cU,cq,cm,bN,bY,cb,bI,hne,ne_eq,hne',hl5,iNq,aY,aX,i1,Int.reduceLE,eq_self,nFq,hg,hp,hs0,if_false,hcs,aT,hgd,d0,j5,fE,fJ,iJ,hp,hgi1,hgt1,hss,ht5,ic,fT,g7,bne_self_eq_false,beq_self_eq_true,hd2,hw,htr,M2,M4]
      exact Y52
     ·by_cases hx2:x=n9
      ·have hr:dk l p t=.ok t.length (p+1) (t++[⟨2,0,0,[],[],0⟩]):=by unfold dk;rw [hge];simp [hx1,hx2];decide
       have htr:l9 x=.tup [g7 2 0,.bool true]:=by unfold l9;rw [if_neg hx1,if_pos hx2]
       rw [hr]
       have hc3:=hcl2 (p+1) (t++[⟨2,0,0,[],[],0⟩])
       simp only [go_sem,f1,f2,hgi,hgt',hsi,hst,bn,bA,bO,cW,co,cU,cq,cm,bN,bY,cb,bI,hne,ne_eq,hne',hl5,iNq,aY,aX,i1,Int.reduceLE,eq_self,nFq,hg,hp,hs0,if_false,hcs,aT,hgd,d0,j5,fE,fJ,iJ,hp,hgi1,hgt1,hss,ht5,ic,fT,g7,bne_self_eq_false,beq_self_eq_true,hd2,hw,htr]
       exact Y52
      ·have htr:l9 x=.tup [g7 0 0,.bool false]:=by unfold l9;rw [if_neg hx1,if_neg hx2]
       have hp1:p+1≤l.length:=by omega
       cases hs3:isS l (p+1) [58,58] with
       |false =>
        have hr:dk l p t=.ok t.length (p+1) (t++[⟨3,0,0,x,[],0⟩]):=by unfold dk;rw [hge];simp [hx1,hx2,hs3]
        rw [hr]
        have hc3:=hcl2 (p+1) (t++[⟨3,0,0,x,[],0⟩])
        simp only [go_sem,f1,f2,hgi,hgt',hsi,hst,bn,bA,bO,cW,co,cU,cq,cm,bN,bY,cb,bI,hne,ne_eq,hne',hl5,iNq,aY,aX,i1,Int.reduceLE,eq_self,nFq,hg,hp,hs0,if_false,hcs,aT,hgd,d0,j5,fE,fJ,iJ,hp,hgi1,hgt1,hss,ht5,ic,fT,g7,bne_self_eq_false,beq_self_eq_true,hd2,hw,htr,hp1,hs3]
        exact Y52
       |true =>
        have hlt3:=dt hs3
        have hp2:p+1+1≤l.length:=by omega
        have hp3:p+2=p+1+1:=rfl
        cases hw2:kH l (p+1+1) with
        |none =>
         have hr:dk l p t=.bad (p+1+1):=by
          unfold dk;rw [hge];simp [hx1,hx2,hs3]
          exact Y93
         rw [hr]
         simp only [go_sem,f1,f2,hgi,hgt',hsi,hst,bn,bA,bO,cW,co,cU,cq,cm,bN,bY,cb,bI,hne,ne_eq,hne',hl5,iNq,aY,aX,i1,Int.reduceLE,eq_self,nFq,hg,hp,hs0,if_false,hcs,aT,hgd,d0,j5,fE,fJ,iJ,hp,hgi1,hgt1,hss,ht5,ic,fT,g7,bne_self_eq_false,beq_self_eq_true,hd2,hw,htr,hp1,hs3,if_true,hp2,hw2]
         refine ⟨by omega,?_⟩
         simp (disch:=first|exact Zd|omega) [↓zmk,beq,ybc,ybd,ybe,af,wk,wk2,wk1,wkM,wkL,aj,ybf,jw hcl,zms,iI,dd_le1,gk]
         exact (dd_le1.push _).push _
        |some y =>
         have hr:dk l p t=.ok t.length (p+1+1+1) (t++[⟨3,0,0,x,y,0⟩]):=by
          unfold dk;rw [hge];simp [hx1,hx2,hs3]
          exact Y84
         rw [hr]
         have hc3:=hcl2 (p+1+1+1) (t++[⟨3,0,0,x,y,0⟩])
         simp only [go_sem,f1,f2,hgi,hgt',hsi,hst,bn,bA,bO,cW,co,cU,cq,cm,bN,bY,cb,bI,hne,ne_eq,hne',hl5,iNq,aY,aX,i1,Int.reduceLE,eq_self,nFq,hg,hp,hs0,if_false,hcs,aT,hgd,d0,j5,fE,fJ,iJ,hp,hgi1,hgt1,hss,ht5,ic,fT,g7,bne_self_eq_false,beq_self_eq_true,hd2,hw,htr,hp1,hs3,if_true,hp2,hw2]
         exact Y52
    ·have hw:kH l p=none:=by unfold kH;rw [hge];dsimp only;rw [if_neg hk2]
     have hr:dk l p t=.bad p:=by unfold dk;rw [hge];simp [hk1,hk2]
     rw [hr]
     simp only [go_sem,f1,f2,hgi,hgt',hsi,hst,bn,bA,bO,cW,co,cU,cq,cm,bN,bY,cb,bI,hne,ne_eq,hne',hl5,iNq,aY,aX,i1,Int.reduceLE,eq_self,nFq,hg,hp,hs0,if_false,hcs,aT,hgd,d0,j5,fE,fJ,iJ,hp,hgi1,hgt1,hss,ht5,ic,fT,g7,bne_self_eq_false,beq_self_eq_true,d1,hw]
     refine ⟨by omega,?_⟩
     exact Z31
  ·have hpe:p=l.length:=by omega
   subst hpe
   have hge:l[l.length]?=none:=gNq (nrq _)
   have hw:kH l l.length=none:=by unfold kH;rw [hge]
   have hr:dk l l.length t=.bad l.length:=by unfold dk;rw [hge]
   have d0:decide ((l.length:Int)<(l.length:Int))=false:=by simp
   rw [hr]
   simp only [go_sem,f1,f2,hgi,hgt',hsi,hst,bn,bA,bO,cW,co,cU,cq,cm,bN,bY,cb,bI,hne,ne_eq,hne',hl5,iNq,aY,aX,i1,Int.reduceLE,eq_self,nFq,hg,hp,hs0,if_false,hcs,aT,d0,j5,fE,fJ,iJ,hp,hgi1,hgt1,hss,ht5,ic,fT,g7,bne_self_eq_false,beq_self_eq_true,hw,nrq]
   exact Z31
end Go.AL
