/- Lemmas of the proof; no condition. -/
import Derived.Test.YtjnhidpnfdbmaaaGreatE06
import Derived.Test.YtjnhidpnfdbmaaaGreatLSyn
set_option linter.all false
set_option maxRecDepth 10000
set_option maxHeartbeats 32000000
open List renaming map_cons → yae, length_cons → yaz, length_nil → yba, take_of_length_le → ybc, drop_append → ybd, take_append → ybe, drop_eq_nil_of_le → ybf
open Go Go.AL Go.Proofs
namespace Go.AL
theorem I7:ti Tryz.prog 176=some ⟨.struct [(0,3,false),(1,3,false),(2,3,false),(3,9,false),(4,9,false),(5,29,false)],7,72,.agg [.int .i64 0,.int .i64 0,.int .i64 0,.str [],.str [],.int .u64 0,.int .u64 0]⟩:=by kernel_rfl
theorem GL:ti Tryz.prog 139=some ⟨.slice 176,1,24,.slice .nil 1 []⟩:=by kernel_rfl
theorem Dq:ti Tryz.prog 257=some ⟨.struct [(0,177,false),(1,3,false),(2,139,false)],3,56,.agg [.slice .nil 1 [],.int .i64 0,.slice .nil 1 []]⟩:=by kernel_rfl
theorem zf:ti Tryz.prog 303=some ⟨.struct [(0,3,false),(1,9,false)],2,24,.agg [.int .i64 0,.str []]⟩:=by kernel_rfl
theorem xA:ti Tryz.prog 300=some ⟨.slice 303,1,24,.slice .nil 1 []⟩:=by kernel_rfl
theorem GS:ti Tryz.prog 254=some ⟨.int .i64,1,8,.int .i64 0⟩:=by kernel_rfl
attribute [go_sem] I7 GL Dq zf xA GS
def qP (n:Nd):AV:=.agg [.int .i64 (n.op:Int),.int .i64 (n.a:Int),.int .i64 (n.b:Int),.str n.name,.str n.attr,.int .u64 ((n.v/2^64:Nat):Int),.int .u64 ((n.v % 2^64:Nat):Int)]
def nds (t:List Nd):List AV:=t.map qP
theorem a9 {t:List Nd}:(nds t).length=t.length:=by simp [nds]
theorem F9 {t:List Nd} {n:Nd}:nds t++[qP n]=nds (t++[n]):=by simp [nds]
theorem qA {n:Nat} {m:Mark} {t:List Nd}:AV.lt n (.slice m 7 (nds t))=∀ id,m=.own id→id<n:=by
 rw [AV.lt]
 refine propext ⟨fun h=>h.1,fun h=>⟨h,fun j hj=>?_⟩⟩
 simp only [nds,List.getElem_map,qP]
 simp [znr,znu,znv,znf,znh]
theorem yX {n:Nat} {m:Mark} {l:List Tok}:AV.lt n (.slice m 3 (dV l))=∀ id,m=.own id→id<n:=by
 rw [AV.lt]
 refine propext ⟨fun h=>h.1,fun h=>⟨h,fun j hj=>?_⟩⟩
 simp only [dV,List.getElem_map,xv]
 simp [znr,znu,znv,znf,znh]
theorem zp:∀ {l l':List Tok},dV l=dV l'→l=l'
 |[],[],_=>rfl
 |[],_::_,h=>by cases h
 |_::_,[],h=>by cases h
 |(a,b,c)::l,(a',b',c')::l',h=>by
  simp only [dV,yae,List.cons.injEq,xv,AV.agg.injEq,AV.int.injEq,AV.str.injEq,true_and,and_true] at h
  obtain ⟨⟨h1,h2,h3⟩,h4⟩:=h
  rw [zp h4]
  congr 1
  simp only [Prod.mk.injEq]
  exact ⟨by omega,h2,by omega⟩
theorem BR:∀ {l l':List Nd},nds l=nds l'→l=l'
 |[],[],_=>rfl
 |[],_::_,h=>by cases h
 |_::_,[],h=>by cases h
 |⟨a1,a2,a3,a4,a5,a6⟩::l,⟨b1,b2,b3,b4,b5,b6⟩::l',h=>by
  simp only [nds,yae,List.cons.injEq,qP,AV.agg.injEq,AV.int.injEq,AV.str.injEq,true_and,and_true] at h
  obtain ⟨⟨h1,h2,h3,h4,h5,h6,h7⟩,h8⟩:=h
  rw [BR h8]
  congr 1
  simp only [Nd.mk.injEq]
  exact ⟨by omega,by omega,by omega,h4,h5,by omega⟩
def wA (v:AV) (Kp:AV→AHeap→Prop) (H:AHeap):Prop:=match v with
 |.iface t v=>Kp (.iface t v) H
 |_=>False
@[congr] theorem It {v v':AV} {Kp:AV→AHeap→Prop} {H:AHeap} (h:v=v'):wA v Kp H=wA v' Kp H:=by rw [h]
theorem xh {t:TypeId} {v:AV} {Kp:AV→AHeap→Prop} {H:AHeap}:wA (.iface t v) Kp H=Kp (.iface t v) H:=rfl
theorem GZ {P:Program} {Ω:Tbl} {ops:Array Oper} {rest:List Oper} {K:Fr→AHeap→Prop} {Kp:Fr→AV→AHeap→Prop} {fr:Fr} {H:AHeap} {d:Option Tmp} {x:Operand} {t:TypeId} {pos:String} {aft:Array Edge} :
 bk P Ω ops (Oper.mk d (.panic x) t pos aft none::rest) K Kp fr H=wA (ev fr x) (Kp fr) H:=(rfl)
def pst (m:Mark) (l:List Tok) (p tb:Nat) (t:List Nd):AObj:=.cells [.slice m 3 (dV l),.int .i64 (p:Int),.slice (.own tb) 7 (nds t)]
def onP (o:Option AObj) (K:Mark→List Tok→Nat→Nat→List Nd→Prop):Prop:=∃ m l p tb t,o=some (pst m l p tb t)∧K m l p tb t
@[congr] theorem LU {o o':Option AObj} {K:Mark→List Tok→Nat→Nat→List Nd→Prop} (h:o=o'):onP o K=onP o' K:=by rw [h]
theorem aN {m:Mark} {l:List Tok} {p tb:Nat} {t:List Nd} {K:Mark→List Tok→Nat→Nat→List Nd→Prop}:onP (some (pst m l p tb t)) K=K m l p tb t:=by
 refine propext ⟨fun ⟨m',l',p',tb',t',h,hk⟩=>?_,fun h=>⟨m,l,p,tb,t,rfl,h⟩⟩
 simp only [pst,Option.some.injEq,AObj.cells.injEq,List.cons.injEq,AV.slice.injEq,AV.int.injEq,Mark.own.injEq,true_and,and_true] at h
 obtain ⟨⟨rfl,h1⟩,h2,rfl,h3⟩:=h
 have:=zp h1
 have:=BR h3
 have:p=p':=by omega
 subst_vars
 exact hk
theorem vU {m:Mark} {l:List Tok} {p tb:Nat} {t:List Nd} {K:Mark→List Tok→Nat→Nat→List Nd→Prop}:onP (some (.cells [.slice m 3 (dV l),.int .i64 (p:Int),.slice (.own tb) 7 (nds t)])) K=K m l p tb t:=aN
def ey:List AV→AHeap→(AEnd→AHeap→Prop)→Prop
 |[.ptr id 0],H,K=>onP (H.get id) fun m l p tb t=>K (.panic (.iface 254 (.int .i64 (p:Int)))) H
 |_,_,_=>False
theorem kM:EntOk Tryz.prog 175 (Ent.effect ey):=by
 refine EntOk.effect fun args H K h=>?_
 unfold ey at h
 split at h
 rotate_left
 ·exact h.elim
 rename_i id
 obtain ⟨m,l,p,tb,t,hg,hK⟩:=h
 refine ⟨_,_,hK,?_⟩
 clear hK
 refine ACalls.fW au tNq Tryz.func175 [] (nrq _) (T:=aq []) (h:=fun hcl hlt=>?_)
 clear hlt
 have hcs:=ax (cs:=[.slice m 3 (dV l),.int .i64 (p:Int),.slice (.own tb) 7 (nds t)]) hg
 simp only [go_sem,hcs,↓GZ,xh]
 exact Z0
def bF:List AV→AHeap→(AEnd→AHeap→Prop)→Prop
 |[.ptr id 0,.agg [.int .i64 op,.int .i64 a,.int .i64 b,.str nm,.str att,.int .u64 hi,.int .u64 lo]],H,K=>onP (H.get id) fun m l p tb t =>
   (0≤op∧0≤a∧0≤b∧GI hi lo∧id≠tb∧H.get tb=some (.buf 7 t.length)∧t.length≤100000) ∧
   K (.ret (.int .i64 (t.length:Int))) ((H.set id (pst m l p tb (t++[⟨op.toNat,a.toNat,b.toNat,nm,att,vOf hi.toNat lo.toNat⟩]))).set tb (.buf 7 (t.length+1)))
 |_,_,_=>False
theorem ip {H:AHeap} {id:Nat} {m:Mark} {l:List Tok} {p tb:Nat} {t:List Nd} (hg:H.get id=some (pst m l p tb t)) (hcl:H.Closed) (p':Nat) (t':List Nd):(H.set id (pst m l p' tb t')).Closed:=by
 have h0:=hcl id _ hg 0 (by simp)
 have h2:=hcl id _ hg 2 (by simp)
 simp only [List.getElem_cons_zero,List.getElem_cons_succ,yX,qA] at h0 h2
 refine aj hcl ?_
 simp only [znu,znv,yX,qA,znf,and_true,true_and]
 exact ⟨h0,h2⟩
theorem qU {H:AHeap} {i j:Nat} (h:i≠j) (o c:AObj):(H.set j o).set i c=(H.set i c).set j o:=by
 simp only [AHeap.set]
 congr 1
 funext k
 by_cases h1:k=i
 ·subst h1;simp [h]
 ·simp [h1]
theorem dD {H:AHeap} {i j:Nat} (h:i≠j) (o:AObj):aA (H.set j o) i=aA H i:=by
 unfold aA;rw [AHeap.get_set_ne _ _ h]
theorem jn:EntOk Tryz.prog 199 (Ent.effect bF):=by
 refine EntOk.effect fun args H K h=>?_
 unfold bF at h
 split at h
 rotate_left
 ·exact h.elim
 rename_i id op a b nm att hi lo
 obtain ⟨m,l,p,tb,t,hg,⟨h1,h2,h3,⟨h4,h5,h6,h7⟩,hne,htb,htl⟩,hK⟩:=h
 refine ⟨_,_,hK,?_⟩
 clear hK
 obtain ⟨op,rfl⟩:=bL h1
 obtain ⟨a,rfl⟩:=bL h2
 obtain ⟨b,rfl⟩:=bL h3
 obtain ⟨hi,rfl⟩:=bL h4
 obtain ⟨lo,rfl⟩:=bL h6
 simp only [iNq]
 refine ACalls.fW au tNq Tryz.func199 [.tmp 4] (nrq _) (T:=aq [(1,[[],[],[],[],[],[],[5],[4,5],[],[],[4,5]])]) (h:=fun hcl hlt=>?_)
 clear hlt
 have hid:=glq hg
 have htbl:=glq htb
 have hcs:=ax (cs:=[.slice m 3 (dV l),.int .i64 (p:Int),.slice (.own tb) 7 (nds t)]) hg
 have f1:=ep hid
 have f2:=ep htbl
 have g1:(id=tb)=False:=eq_false hne
 have g2:(tb=id)=False:=eq_false fun e=>hne e.symm
 have e1:nds t++[AV.agg [.int .i64 (op:Int),.int .i64 (a:Int),.int .i64 (b:Int),.str nm,.str att,.int .u64 (hi:Int),.int .u64 (lo:Int)]]=nds (t++[⟨op,a,b,nm,att,vOf hi lo⟩]):=by
  rw [← F9];unfold qP;simp only;rw [sH (by omega),HH (by omega)]
 have e2:IntKind.i64.wrap (((t.length+1:Nat):Int) - 1)=(t.length:Int):=by rw [wrap_i64]<;>omega
 have hcl1:=ip hg hcl p (t++[⟨op,a,b,nm,att,vOf hi lo⟩])
 have hcl2:((H.set id (pst m l p tb (t++[⟨op,a,b,nm,att,vOf hi lo⟩]))).set tb (.buf 7 (t.length+1))).Closed:=af hcl1
 have s1:=qU (H:=H) hne
 have s2:=fun o=>(dD (H:=H) hne o).trans hcs
 have s3:∀ o cs,aA ((H.set id (.cells cs)).set tb o) id=some cs:=fun o cs=>by rw [dD hne,fI hid,if_pos rfl]
 simp only [go_sem,hcs,a9,f1,f2,g1,g2,htb,bv,if_pos htbl,e1,s1,s2,s3,e2,lAq]
 refine ⟨⟨by omega,by omega,by simp [bf,AV.cells,AV.one]⟩,?_⟩
 simp only [pst] at hcl2 ⊢
 simp (disch:=first|exact Zd|omega) [↓zmo,beq,ybc,ybd,ybe,ae,wk,wk2,wk1,wkM,wkL,ah,ybf,hcl2,htbl,qA]
 trace_state
theorem Lr {l:List Tok} {p k z:Nat} {x s:List UInt8} (hp:p<l.length) (h:l[p]=(k,x,z)):isS l p s=(k==3&&x==s):=by
 unfold isS;rw [gQq hp,h]
theorem IX {l:List Tok} {p:Nat} {s:List UInt8} (hp:l.length≤p):isS l p s=false:=by
 unfold isS;rw [gNq hp]
theorem sw {l:List Tok} {p k z:Nat} {x:List UInt8} (hp:p<l.length) (h:l[p]=(k,x,z)):(dV l).getD p .junk=.agg [.int .i64 (k:Int),.str x,.int .i64 (z:Int)]:=by
 rw [FF hp,h];rfl
def bC:List AV→AHeap→(AEnd→AHeap→Prop)→Prop
 |[.ptr id 0,.str s],H,K=>onP (H.get id) fun m l p tb t=>(p≤l.length∧l.length≤100000) ∧
   if isS l p s=true then K (.ret (.bool true)) (H.set id (pst m l (p+1) tb t)) else K (.ret (.bool false)) H
 |_,_,_=>False
theorem j9:EntOk Tryz.prog 198 (Ent.effect bC):=by
 refine EntOk.effect fun args H K h=>?_
 unfold bC at h
 split at h
 rotate_left
 ·exact h.elim
 rename_i id s
 obtain ⟨m,l,p,tb,t,hg,⟨hp,hl⟩,hK⟩:=h
 have hid:=glq hg
 have hcs:=ax (cs:=[.slice m 3 (dV l),.int .i64 (p:Int),.slice (.own tb) 7 (nds t)]) hg
 have e1:IntKind.i64.wrap ((p:Int)+1)=((p+1:Nat):Int):=by rw [wrap_i64]<;>omega
 by_cases hlt0:p<l.length
 ·rcases htk:l[p] with ⟨k,x,z⟩
  have hgd:=sw hlt0 htk
  rw [Lr hlt0 htk] at hK
  have d1:((p:Int)==(l.length:Int))=false:=by simp;omega
  by_cases hk:k=3
  ·subst hk
   by_cases hx:x=s
   ·subst hx
    simp only [beq_self_eq_true,Bool.and_self,if_true] at hK
    refine ⟨_,_,hK,?_⟩
    clear hK
    refine ACalls.fW au tNq Tryz.func198 [.tmp 4] (nrq _) (T:=aq []) (h:=fun hcl hlt=>?_)
    clear hlt
    have hcl1:=ip hg hcl (p+1) t
    simp only [go_sem,hcs,bG,hgd,d1,iNq,e1,beq_self_eq_true,bne_self_eq_false]
    refine ⟨by omega,BL rfl ⟨by omega,?_⟩⟩
    change ae (H.set id (pst m l (p+1) tb t)) _ _ _
    exact Z10
   ·have d3:(x==s)=false:=by simpa using hx
    rw [d3,Bool.and_false,if_neg (by simp)] at hK
    refine ⟨_,_,hK,?_⟩
    clear hK
    refine ACalls.fW au tNq Tryz.func198 [.tmp 4] (nrq _) (T:=aq []) (h:=fun hcl hlt=>?_)
    clear hlt
    simp only [go_sem,hcs,bG,hgd,d1,d3,iNq,e1,beq_self_eq_true,bne_self_eq_false]
    refine ⟨by omega,BL rfl ⟨by omega,?_⟩⟩
    exact Z0
  ·have d3:(k==3)=false:=by simpa using hk
   rw [d3,Bool.false_and,if_neg (by simp)] at hK
   refine ⟨_,_,hK,?_⟩
   clear hK
   refine ACalls.fW au tNq Tryz.func198 [.tmp 4] (nrq _) (T:=aq []) (h:=fun hcl hlt=>?_)
   clear hlt
   have d4:((k:Int) != 3)=true:=by simp;omega
   simp only [go_sem,hcs,bG,hgd,d1,d4,iNq,e1,beq_self_eq_true,bne_self_eq_false]
   refine ⟨by omega,?_⟩
   exact Z0
 ·have hpe:p=l.length:=by omega
  subst hpe
  rw [IX (nrq _),if_neg (by simp)] at hK
  refine ⟨_,_,hK,?_⟩
  clear hK
  refine ACalls.fW au tNq Tryz.func198 [.tmp 4] (nrq _) (T:=aq []) (h:=fun hcl hlt=>?_)
  clear hlt
  simp only [go_sem,hcs,bG,beq_self_eq_true]
  exact Z0
def mB (l:List Tok) (p:Nat):Option (List UInt8):=match l[p]? with
 |none=>none
 |some (k,x,_)=>if k=2 then some x else none
def onW (o:Option (List UInt8)) (K1:List UInt8→Prop) (K2:Prop):Prop:=match o with
 |some x=>K1 x
 |none=>K2
@[congr] theorem LV {o o':Option (List UInt8)} {K1:List UInt8→Prop} {K2:Prop} (h:o=o'):onW o K1 K2=onW o' K1 K2:=by rw [h]
theorem g7 {x:List UInt8} {K1:List UInt8→Prop} {K2:Prop}:onW (some x) K1 K2=K1 x:=rfl
theorem fV {K1:List UInt8→Prop} {K2:Prop}:onW none K1 K2=K2:=rfl
def iS:List AV→AHeap→(AEnd→AHeap→Prop)→Prop
 |[.ptr id 0,.int .i64 kd],H,K=>onP (H.get id) fun m l p tb t=>(kd=2∧p≤l.length∧l.length≤100000) ∧
   onW (mB l p) (fun x=>K (.ret (.str x)) (H.set id (pst m l (p+1) tb t))) (K (.panic (.iface 254 (.int .i64 (p:Int)))) H)
 |_,_,_=>False
theorem Hr:EntOk Tryz.prog 235 (Ent.effect iS):=by
 refine EntOk.effect fun args H K h=>?_
 unfold iS at h
 split at h
 rotate_left
 ·exact h.elim
 rename_i id kd
 obtain ⟨m,l,p,tb,t,hg,⟨rfl,hp,hl⟩,hK⟩:=h
 have hid:=glq hg
 have hcs:=ax (cs:=[.slice m 3 (dV l),.int .i64 (p:Int),.slice (.own tb) 7 (nds t)]) hg
 have e1:IntKind.i64.wrap ((p:Int)+1)=((p+1:Nat):Int):=by rw [wrap_i64]<;>omega
 have e2:IntKind.i64.wrap (((p+1:Nat):Int) - 1)=(p:Int):=by rw [wrap_i64]<;>omega
 unfold mB at hK
 by_cases hlt0:p<l.length
 ·rcases htk:l[p] with ⟨k,x,z⟩
  have hgd:=sw hlt0 htk
  rw [gQq hlt0,htk] at hK
  dsimp only at hK
  have d1:((p:Int)==(l.length:Int))=false:=by simp;omega
  by_cases hk:k=2
  ·subst hk
   rw [if_pos rfl,g7] at hK
   refine ⟨_,_,hK,?_⟩
   clear hK
   refine ACalls.fW au (tCq kM tNq) Tryz.func235 [.tmp 4] (by simp [zlf]) (T:=aq []) (h:=fun hcl hlt=>?_)
   clear hlt
   have hcl1:=ip hg hcl (p+1) t
   simp only [go_sem,hcs,bG,hgd,d1,iNq,e1,e2,fI hid,beq_self_eq_true,bne_self_eq_false]
   refine ⟨by omega,wC rfl ?_⟩
   simp only [go_sem,hcs,bG,hgd,d1,iNq,e1,e2,fI hid,beq_self_eq_true,bne_self_eq_false]
   refine ⟨by omega,?_⟩
   change ae (H.set id (pst m l (p+1) tb t)) _ _ _
   exact Z10
  ·have d3:(k==2)=false:=by simpa using hk
   rw [if_neg hk,fV] at hK
   refine ⟨_,_,hK,?_⟩
   clear hK
   refine ACalls.fW au (tCq kM tNq) Tryz.func235 [.tmp 4] (nrq _) (T:=aq []) (h:=fun hcl hlt=>?_)
   clear hlt
   have d4:((k:Int) != 2)=true:=by simp;omega
   simp only [go_sem,hcs,bG,hgd,d1,d4,iNq,e1,ey,hg,aN]
   refine ⟨by omega,?_⟩
   exact Z0
 ·have hpe:p=l.length:=by omega
  subst hpe
  rw [gNq (nrq _)] at hK
  dsimp only at hK
  rw [fV] at hK
  refine ⟨_,_,hK,?_⟩
  clear hK
  refine ACalls.fW au (tCq kM tNq) Tryz.func235 [.tmp 4] (nrq _) (T:=aq []) (h:=fun hcl hlt=>?_)
  clear hlt
  simp only [go_sem,hcs,bG,beq_self_eq_true,ey,hg,aN]
  exact Z0
def ik (l:List (Nat × List UInt8)):List AV:=l.map fun o=>.agg [.int .i64 (o.1:Int),.str o.2]
theorem ig {l:List (Nat × List UInt8)}:(ik l).length=l.length:=by simp [ik]
theorem vS:∀ {l l':List (Nat × List UInt8)},ik l=ik l'→l=l'
 |[],[],_=>rfl
 |[],_::_,h=>by cases h
 |_::_,[],h=>by cases h
 |(a,b)::l,(a',b')::l',h=>by
  simp only [ik,yae,List.cons.injEq,AV.agg.injEq,AV.int.injEq,AV.str.injEq,true_and,and_true] at h
  obtain ⟨⟨h1,h2⟩,h4⟩:=h
  rw [vS h4]
  congr 1
  simp only [Prod.mk.injEq]
  exact ⟨by omega,h2⟩
theorem dN {n:Nat} {l:List (Nat × List UInt8)}:AV.lt n (.slice .any 2 (ik l)):=i7 fun x hx=>by
 simp only [ik,List.mem_map] at hx
 obtain ⟨o,_,rfl⟩:=hx
 simp [znr,znu,znv,znf,znh]
theorem Jg:[AV.agg [.int .i64 8,.str [61,61]],.agg [.int .i64 9,.str [33,61]],.agg [.int .i64 10,.str [60]],.agg [.int .i64 11,.str [60,61]],.agg [.int .i64 12,.str [62]],.agg [.int .i64 13,.str [62,61]]]=ik opsC:=rfl
theorem H6:[AV.agg [.int .i64 6,.str [43]],.agg [.int .i64 7,.str [45]]]=ik opsS:=rfl
def eP:List AV→AHeap→(AV→Prop)→Prop
 |[],_,K=>K (.slice .any 2 (ik opsC))
 |_,_,_=>False
theorem wV:EntOk Tryz.prog 227 (Ent.pure eP):=by
 refine Ype fun _ H K h=>?_
 unfold eP at h
 split at h
 rotate_left
 ·exact h.elim
 refine ⟨_,h,?_⟩
 clear h
 refine ACalls.fW au tNq Tryz.func227 [.tmp 0] (nrq _) (T:=aq []) (h:=fun hcl hlt=>?_)
 clear hlt
 simp only [go_sem,Jg]
 exact Z11
def ki:List AV→AHeap→(AV→Prop)→Prop
 |[],_,K=>K (.slice .any 2 (ik opsS))
 |_,_,_=>False
theorem Ff:EntOk Tryz.prog 230 (Ent.pure ki):=by
 refine Ype fun _ H K h=>?_
 unfold ki at h
 split at h
 rotate_left
 ·exact h.elim
 refine ⟨_,h,?_⟩
 clear h
 refine ACalls.fW au tNq Tryz.func230 [.tmp 0] (nrq _) (T:=aq []) (h:=fun hcl hlt=>?_)
 clear hlt
 simp only [go_sem,H6]
 exact Z11
def Ks (x:List AV) (K:List (Nat × List UInt8)→Prop):Prop:=∃ l,x=ik l∧K l
theorem iH {l:List (Nat × List UInt8)} {K:List (Nat × List UInt8)→Prop}:Ks (ik l) K=K l :=
 propext ⟨fun ⟨l',h,hk⟩=>by rw [vS h];exact hk,fun h=>⟨l,rfl,h⟩⟩
def onN (o:Option Nat) (K1:Nat→Prop) (K2:Prop):Prop:=match o with
 |some x=>K1 x
 |none=>K2
@[congr] theorem LW {o o':Option Nat} {K1:Nat→Prop} {K2:Prop} (h:o=o'):onN o K1 K2=onN o' K1 K2:=by rw [h]
theorem mX {x:Nat} {K1:Nat→Prop} {K2:Prop}:onN (some x) K1 K2=K1 x:=rfl
theorem o9 {K1:Nat→Prop} {K2:Prop}:onN none K1 K2=K2:=rfl
def ke:List AV→AHeap→(AEnd→AHeap→Prop)→Prop
 |[.ptr id 0,.slice _ 2 x],H,K=>onP (H.get id) fun m l p tb t=>Ks x fun ops=>(p≤l.length∧l.length≤100000∧ops.length≤100) ∧
   onN (jS l p ops) (fun k=>K (.ret (.int .i64 (k:Int))) (H.set id (pst m l (p+1) tb t))) (K (.ret (.int .i64 0)) H)
 |_,_,_=>False
theorem vr {l:List (Nat × List UInt8)} {k:Nat} (h:k<l.length):(ik l).getD k .junk=.agg [.int .i64 (l[k].1:Int),.str l[k].2]:=by simp [ik,gEq,h]
theorem y4:EntOk Tryz.prog 226 (Ent.effect ke):=by
 refine EntOk.effect fun args H K h=>?_
 unfold ke at h
 split at h
 rotate_left
 ·exact h.elim
 rename_i id mo x
 obtain ⟨m,l,p,tb,t,hg,ops,rfl,⟨hp,hl,ho⟩,hK⟩:=h
 have hid:=glq hg
 have f1:=ep hid
 cases hop:jS l p ops with
 |some k =>
  rw [hop,mX] at hK
  refine ⟨_,_,hK,?_⟩
  clear hK
  refine ACalls.fW au (tCq j9 tNq) Tryz.func226 [.tmp 4] (by simp [zlf]) (T:=aq []) (h:=fun hcl hlt=>?_)
  have hltm:∀ n',H.nx≤n'→AV.lt n' (.slice .any 2 (ik ops)):=fun n' _=>dN
  clear hlt
  have hcl1:=ip hg hcl (p+1) t
  simp only [go_sem,ig]
  refine az (A:=Nat) (fun i=>[(9,.int .i64 (i:Int)),(8,.int .i64 (ops.length:Int)),(7,.slice .any 2 (ik ops)),(0,.ptr id 0)]) (fun _=>H) (fun i=>i≤ops.length∧jS l p (ops.drop i)=some k) (fun i=>ops.length - i) 0 ⟨by omega,hop⟩ ?_ fun i hi=>?_
  ·exact Z12
  obtain ⟨hi,hop'⟩:=hi
  simp only [go_sem]
  refine ai (fun h1=>?_) (fun h1=>?_)
  ·have hi1:i<ops.length:=by simp at h1;omega
   have e5:IntKind.i64.wrap ((i:Int)+1)=((i+1:Nat):Int):=by rw [wrap_i64]<;>omega
   have hgo:=vr hi1
   rw [dcq hi1] at hop'
   rcases hok:ops[i] with ⟨ko,so⟩
   rw [hok] at hop' hgo
   unfold jS at hop'
   by_cases hs:isS l p so=true
   ·rw [if_pos hs] at hop'
    cases hop'
    simp only [go_sem,iNq,ig,hgo,bC,f1,hg,aN,hs,if_true,hp,hl]
    refine ⟨by omega,?_⟩
    exact Z10
   ·rw [if_neg hs] at hop'
    have hs':isS l p so=false:=by simpa using hs
    simp only [go_sem,iNq,ig,hgo,bC,f1,hg,aN,hs',if_false,hp,hl,e5]
    refine ⟨by omega,i+1,⟨by omega,hop'⟩,by omega,?_⟩
    exact Z12
  ·exfalso
   have hi1:ops.length≤i:=by simp at h1;omega
   rw [ybf hi1] at hop'
   cases hop'
 |none =>
  rw [hop,o9] at hK
  refine ⟨_,_,hK,?_⟩
  clear hK
  refine ACalls.fW au (tCq j9 tNq) Tryz.func226 [.tmp 4] (nrq _) (T:=aq []) (h:=fun hcl hlt=>?_)
  clear hlt
  simp only [go_sem,ig]
  refine az (A:=Nat) (fun i=>[(9,.int .i64 (i:Int)),(8,.int .i64 (ops.length:Int)),(7,.slice .any 2 (ik ops)),(0,.ptr id 0)]) (fun _=>H) (fun i=>i≤ops.length∧jS l p (ops.drop i)=none) (fun i=>ops.length - i) 0 ⟨by omega,hop⟩ ?_ fun i hi=>?_
  ·exact Z12
  obtain ⟨hi,hop'⟩:=hi
  simp only [go_sem]
  refine ai (fun h1=>?_) (fun h1=>?_)
  ·have hi1:i<ops.length:=by simp at h1;omega
   have e5:IntKind.i64.wrap ((i:Int)+1)=((i+1:Nat):Int):=by rw [wrap_i64]<;>omega
   have hgo:=vr hi1
   rw [dcq hi1] at hop'
   rcases hok:ops[i] with ⟨ko,so⟩
   rw [hok] at hop' hgo
   unfold jS at hop'
   by_cases hs:isS l p so=true
   ·rw [if_pos hs] at hop';cases hop'
   ·rw [if_neg hs] at hop'
    have hs':isS l p so=false:=by simpa using hs
    simp only [go_sem,iNq,ig,hgo,bC,f1,hg,aN,hs',if_false,hp,hl,e5]
    refine ⟨by omega,i+1,⟨by omega,hop'⟩,by omega,?_⟩
    exact Z12
  ·simp only [go_sem]
   exact Z0
def fu (op v:Int):AV:=.agg [.int .i64 op,.int .i64 0,.int .i64 0,.str [],.str [],.int .u64 0,.int .u64 v]
def kp (s:List UInt8):AV:=if s=vJ then .tup [fu 2 1,.bool true] else if s=qf then .tup [fu 2 0,.bool true] else .tup [fu 0 0,.bool false]
def rA:List AV→AHeap→(AV→Prop)→Prop
 |[.int .u64 n],_,K=>K (.agg [.int .u64 0,.int .u64 n])
 |_,_,_=>False
theorem qt:EntOk Tryz.prog 113 (Ent.pure rA):=by
 refine Ype fun _ H K h=>?_
 unfold rA at h
 split at h
 rotate_left
 ·exact h.elim
 rename_i n
 refine ⟨_,h,?_⟩
 clear h
 refine ACalls.fW au tNq Tryz.func113 [.cell 2 29] (nrq _) (T:=aq []) (h:=fun hcl hlt=>?_)
 clear hlt
 simp only [go_sem]
 exact Z0
def fX:List AV→AHeap→(AV→Prop)→Prop
 |[.str s],_,K=>K (kp s)
 |_,_,_=>False
theorem D7:EntOk Tryz.prog 236 (Ent.pure fX):=by
 refine Ype fun _ H K h=>?_
 unfold fX at h
 split at h
 rotate_left
 ·exact h.elim
 rename_i s
 refine ⟨_,h,?_⟩
 clear h
 unfold kp
 by_cases h1:s=vJ
 ·rw [if_pos h1]
  subst h1
  refine ACalls.fW au (tCq qt tNq) Tryz.func236 [.cell 2 176,.tmp 3] (nrq _) (T:=aq []) (h:=fun hcl hlt=>?_)
  clear hlt
  have d1:(vJ==[116,114,117,101])=true:=by decide
  simp only [go_sem,rA,d1,zld]
  exact Z13
 ·rw [if_neg h1]
  have d1:(s==[116,114,117,101])=false:=by simpa [vJ] using h1
  by_cases h2:s=qf
  ·rw [if_pos h2]
   subst h2
   refine ACalls.fW au (tCq qt tNq) Tryz.func236 [.cell 2 176,.tmp 3] (nrq _) (T:=aq []) (h:=fun hcl hlt=>?_)
   clear hlt
   have d2:(qf==[102,97,108,115,101])=true:=by decide
   simp only [go_sem,rA,d1,d2,zld]
   exact Z13
  ·rw [if_neg h2]
   have d2:(s==[102,97,108,115,101])=false:=by simpa [qf] using h2
   refine ACalls.fW au (tCq qt tNq) Tryz.func236 [.cell 2 176,.tmp 3] (nrq _) (T:=aq []) (h:=fun hcl hlt=>?_)
   clear hlt
   simp only [go_sem,rA,d1,d2,zld]
   exact Z13
def rp (l:List Tok):Prop:=∀ x∈l,x.2.1.length≤1000∧(x.1=1→(lit x.2.1).isSome=true)
def jV (H:AHeap) (id tb:Nat) (l:List Tok) (p:Nat) (t:List Nd):Prop:=id≠tb∧H.get tb=some (.buf 7 t.length)∧t.length≤p∧p≤l.length∧l.length≤1000∧rp l∧Good t
theorem fc {H:AHeap} {id tb p p':Nat} {m:Mark} {l:List Tok} {t t':List Nd} (h:jV H id tb l p t) (hp:p'≤l.length) (ht:t'.length≤p') (hg:Good t'):jV ((H.set id (pst m l p' tb t')).set tb (.buf 7 t'.length)) id tb l p' t':=by
 obtain ⟨h1,h2,h3,h4,h5,h6,h7⟩:=h
 have htb:=glq h2
 refine ⟨h1,?_,ht,hp,h5,h6,hg⟩
 rw [bv,if_pos rfl,if_pos (by simpa [zlf] using htb)]
theorem qI {H:AHeap} {id tb p p':Nat} {o:AObj} {l:List Tok} {t:List Nd} (h:jV H id tb l p t) (hp:p'≤l.length) (ht:t.length≤p'):jV (H.set id o) id tb l p' t:=by
 obtain ⟨h1,h2,h3,h4,h5,h6,h7⟩:=h
 refine ⟨h1,?_,ht,hp,h5,h6,h7⟩
 rw [AHeap.get_set_ne _ _ (fun e=>h1 e.symm)];exact h2
def tW (l:List Tok) (p:Nat):Nat:=match l[p]? with
 |none=>0
 |some (k,_,_)=>k
def vj (l:List Tok) (p:Nat):Nat:=match l[p]? with
 |none=>0
 |some (_,x,_)=>(lit x).getD 0
def ej:List AV→AHeap→(AEnd→AHeap→Prop)→Prop
 |[.ptr id 0],H,K=>onP (H.get id) fun m l p tb t=>(jV H id tb l p t∧tW l p=1) ∧
   K (.ret (.int .i64 (t.length:Int))) ((H.set id (pst m l (p+1) tb (t++[⟨1,0,0,[],[],vj l p⟩]))).set tb (.buf 7 (t.length+1)))
 |_,_,_=>False
theorem zh:EntOk Tryz.prog 234 (Ent.effect ej):=by
 refine EntOk.effect fun args H K h=>?_
 unfold ej at h
 split at h
 rotate_left
 ·exact h.elim
 rename_i id
 obtain ⟨m,l,p,tb,t,hg,⟨⟨hne,htb,ht,hp,hl,hgl,hgt⟩,hk⟩,hK⟩:=h
 have hid:=glq hg
 have htbl:=glq htb
 have hcs:=ax (cs:=[.slice m 3 (dV l),.int .i64 (p:Int),.slice (.own tb) 7 (nds t)]) hg
 have f1:=ep hid
 have f2:=ep htbl
 have g1:(id=tb)=False:=eq_false hne
 have g2:(tb=id)=False:=eq_false fun e=>hne e.symm
 have e1:IntKind.i64.wrap ((p:Int)+1)=((p+1:Nat):Int):=by rw [wrap_i64]<;>omega
 have hlt0:p<l.length:=by
  rcases Nat.lt_or_ge p l.length with h1|h1
  ·exact h1
  ·unfold tW at hk;rw [gNq h1] at hk;cases hk
 rcases htk:l[p] with ⟨k,x,z⟩
 have hgd:=sw hlt0 htk
 have hk1:k=1:=by unfold tW at hk;rw [gQq hlt0,htk] at hk;exact hk
 subst hk1
 have hla:vj l p=(lit x).getD 0:=by unfold vj;rw [gQq hlt0,htk]
 rw [hla] at hK
 obtain ⟨hxl,hxs⟩:=hgl l[p] (gMq hlt0)
 rw [htk] at hxl hxs
 dsimp only at hxl hxs
 obtain ⟨n,hn⟩:=Option.isSome_iff_exists.1 (hxs rfl)
 have hn128:=Hx hn
 rw [hn] at hK
 dsimp only [Option.getD_some] at hK
 refine ⟨_,_,hK,?_⟩
 clear hK
 refine ACalls.fW au (tCq re (tCq kM (tCq wg (tCq jn tNq)))) Tryz.func234 [.tmp 2] (nrq _) (T:=aq [(1,[[],[],[],[],[],[],[],[],[],[],[],[3,7,10],[],[],[],[],[3,7,10,11]])]) (h:=fun hcl hlt=>?_)
 clear hlt
 have hxl':x.length≤140737488355328:=by omega
 have hv:k8 (n:Int)=.tup [.agg [.int .u64 ((n/2^64:Nat):Int),.int .u64 ((n % 2^64:Nat):Int)],.bool true]:=by
  unfold k8
  rw [if_pos ⟨Int.natCast_nonneg n,Int.lt_of_lt_of_le (Int.ofNat_lt.2 hn128) (by decide)⟩]
  rfl
 have hn1:isN (n:Int):=⟨Int.le_trans (by decide) (Int.natCast_nonneg n),Int.lt_of_lt_of_le (Int.ofNat_lt.2 hn128) (by decide)⟩
 have hvo:vOf (n/2^64) (n % 2^64)=n:=cu n
 have hlo:n/2^64<18446744073709551616:=by omega
 have hlo2:n % 2^64<18446744073709551616:=by omega
 have hx1:(id=H.nx)=False:=eq_false (by omega)
 have s1:=qU (H:=H) hne
 simp only [go_sem,hcs,bG,hgd,iNq,e1,lz,hxl',rT,hn,hx1,nAV]
 simp only [jF]
 refine ⟨by omega,n,⟨rfl,hn1⟩,?_⟩
 rw [hv]
 have hn0:(0≤n/2^64):=Nat.zero_le _
 generalize hw0:w0 (n:Int)=y0
 generalize hw1:w1 (n:Int)=y1
 generalize hw2:w2 (n:Int)=y2
 have hgi:∀ o,(H.set id o).get id=some o:=fun o=>AHeap.get_set_same _ _ hid
 have hgt:∀ o,(H.set id o).get tb=some (.buf 7 t.length):=fun o=>by rw [AHeap.get_set_ne _ _ (fun e=>hne e.symm)];exact htb
 have hcl1:=ip hg hcl (p+1) (t++[⟨1,0,0,[],[],n⟩])
 have hcl2:((H.set id (pst m l (p+1) tb (t++[⟨1,0,0,[],[],n⟩]))).set tb (.buf 7 (t.length+1))).Closed:=af hcl1
 simp only [aH,go_sem,hcs,iNq,e1,hx1,f1,f2,g1,g2,fI hid,bF,hgi,hgt,vU,hvo]
 refine ⟨⟨by decide,by decide,by decide,⟨by omega,by omega,by omega,by omega⟩,by omega⟩,?_⟩
 exact Z8
def C7 (m:Mark) (l:List Tok) (tb id:Nat) (H:AHeap) (K:AEnd→AHeap→Prop) (o:Option PR):Prop:=match o with
 |none=>False
 |some (.ok a p t)=>K (.ret (.int .i64 (a:Int))) ((H.set id (pst m l p tb t)).set tb (.buf 7 t.length))
 |some (.bad p)=>K (.panic (.iface 254 (.int .i64 (p:Int)))) ((H.del id).del tb)
@[congr] theorem KW {m:Mark} {l:List Tok} {tb id:Nat} {H:AHeap} {K:AEnd→AHeap→Prop} {o o':Option PR} (h:o=o'):C7 m l tb id H K o=C7 m l tb id H K o':=by rw [h]
theorem bn {m:Mark} {l:List Tok} {tb id a p:Nat} {t:List Nd} {H:AHeap} {K:AEnd→AHeap→Prop}:C7 m l tb id H K (some (.ok a p t))=K (.ret (.int .i64 (a:Int))) ((H.set id (pst m l p tb t)).set tb (.buf 7 t.length)):=rfl
theorem aX {m:Mark} {l:List Tok} {tb id p:Nat} {H:AHeap} {K:AEnd→AHeap→Prop}:C7 m l tb id H K (some (.bad p))=K (.panic (.iface 254 (.int .i64 (p:Int)))) ((H.del id).del tb):=rfl
def bc (rl:Rl) (f:Nat):List AV→AHeap→(AEnd→AHeap→Prop)→Prop
 |[.ptr id 0],H,K=>onP (H.get id) fun m l p tb t=>jV H id tb l p t∧C7 m l tb id H K (run l f rl p t)
 |_,_,_=>False
theorem bJ {H:AHeap} {i j:Nat} {x y:AObj}:(((H.set i x).set j y).del i).del j=(H.del i).del j:=by
 simp only [AHeap.set,AHeap.del]
 congr 1
 funext k
 by_cases h1:k=j
 ·simp [h1]
 ·by_cases h2:k=i
  ·simp [h1,h2]
  ·simp [h1,h2]
theorem bp {H:AHeap} {i j:Nat} {x:AObj}:((H.set i x).del i).del j=(H.del i).del j:=by
 simp only [AHeap.set,AHeap.del]
 congr 1
 funext k
 by_cases h1:k=j
 ·simp [h1]
 ·by_cases h2:k=i
  ·simp [h1,h2]
  ·simp [h1,h2]
theorem fU {H:AHeap} {i j:Nat}:((H.del i).del j).Le H:=⟨nrq _,fun k x hk=>by
 rw [gu] at hk
 split at hk
 ·cases hk
 ·rw [gu] at hk
  split at hk
  ·cases hk
  ·exact hk⟩
theorem fa {H:AHeap} {i j:Nat} {x y:AObj}:((H.del i).del j).Le ((H.set i x).set j y):=by
 have:=fU (H:=(H.set i x).set j y) (i:=i) (j:=j)
 rwa [bJ] at this
theorem dd_le1 {H:AHeap} {i j:Nat} {x:AObj}:((H.del i).del j).Le (H.set i x):=by
 have:=fU (H:=H.set i x) (i:=i) (j:=j)
 rwa [bp] at this
theorem gP {H:AHeap} {i j:Nat} (h:H.Closed):((H.del i).del j).Closed:=ay (ay h)
theorem gM {H:AHeap} {id tb p:Nat} {m:Mark} {l:List Tok} {t:List Nd} (hg:H.get id=some (pst m l p tb t)) (h:jV H id tb l p t) (hcl:H.Closed) :
 (∀ X Y,((H.set id X).set tb Y).get id=some X)∧(∀ X Y,((H.set id X).set tb Y).get tb=some Y)∧(∀ X Y Z,((H.set id X).set tb Y).set id Z=(H.set id Z).set tb Y) ∧
   (∀ p' t',((H.set id (pst m l p' tb t')).set tb (.buf 7 t'.length)).Closed)∧(∀ X Y Z,((H.set id X).set tb Y).set tb Z=(H.set id X).set tb Z):=by
 obtain ⟨h1,h2,h3,h4,h5,h6,h7⟩:=h
 have hid:=glq hg
 have htb:=glq h2
 refine ⟨fun X Y=>?_,fun X Y=>?_,fun X Y Z=>?_,fun p' t'=>af (ip hg hcl p' t'),fun X Y Z=>?_⟩
 ·rw [AHeap.get_set_ne _ _ h1];exact AHeap.get_set_same _ _ hid
 ·exact AHeap.get_set_same _ _ (by simpa [zlf] using htb)
 ·rw [qU h1];congr 1;simp only [AHeap.set];congr 1;funext k;by_cases hk:k=id<;>simp [hk]
 ·simp only [AHeap.set];congr 1;funext k;by_cases hk:k=tb<;>simp [hk]
def iF (f:Nat):=bc .imp f
def rg (f:Nat):=bc .or f
def m9 (f:Nat):=bc .and f
def jN (f:Nat):=bc .not f
def sO (f:Nat):=bc .cmp f
def me (f:Nat):=bc .sum f
def mm (f:Nat):=bc .un f
def pj (f:Nat):=bc .atom f
def xR:PR→AEnd
 |.ok a _ _=>.ret (.int .i64 (a:Int))
 |.bad p=>.panic (.iface 254 (.int .i64 (p:Int)))
def HR (m:Mark) (l:List Tok) (tb id:Nat) (H:AHeap):PR→AHeap
 |.ok _ p t=>(H.set id (pst m l p tb t)).set tb (.buf 7 t.length)
 |.bad _=>(H.del id).del tb
theorem cr {a p:Nat} {t:List Nd}:xR (.ok a p t)=.ret (.int .i64 (a:Int)):=rfl
theorem bK {p:Nat}:xR (.bad p)=.panic (.iface 254 (.int .i64 (p:Int))):=rfl
theorem cw {m:Mark} {l:List Tok} {tb id a p:Nat} {t:List Nd} {H:AHeap}:HR m l tb id H (.ok a p t)=(H.set id (pst m l p tb t)).set tb (.buf 7 t.length):=rfl
theorem bM {m:Mark} {l:List Tok} {tb id p:Nat} {H:AHeap}:HR m l tb id H (.bad p)=(H.del id).del tb:=rfl
theorem fg {m:Mark} {l:List Tok} {tb id:Nat} {H:AHeap} {K:AEnd→AHeap→Prop} {r:PR}:C7 m l tb id H K (some r)=K (xR r) (HR m l tb id H r):=by cases r<;>rfl
theorem rP {m:Mark} {l:List Tok} {tb id:Nat} {H:AHeap} {r:PR}:H.nx≤(HR m l tb id H r).nx:=by cases r<;>exact nrq _
theorem kR:(opsC.length≤100)=True:=eq_true (by decide)
theorem kZ:(opsS.length≤100)=True:=eq_true (by decide)
def opv (l:List Tok) (p:Nat):Nat:=(jS l p opsS).getD 0
def oph (l:List Tok) (p:Nat):Nat:=if (jS l p opsS).isSome then p+1 else p
theorem Mn:vOf 0 1=1:=rfl
theorem Nv:GI 0 1=True:=eq_true (by unfold GI;decide)
theorem cy:vOf 0 0=0:=rfl
theorem ct:GI 0 0=True:=eq_true (by unfold GI;decide)
theorem II {f:Nat} (h_yOr:EntOk Tryz.prog 197 (Ent.effect (rg f))) (h_yImp:EntOk Tryz.prog 174 (Ent.effect (iF f))):EntOk Tryz.prog 174 (Ent.effect (iF (f+1))):=by
 refine EntOk.effect fun args H K h=>?_
 unfold iF bc at h
 split at h
 rotate_left
 ·exact h.elim
 rename_i id
 obtain ⟨m,l,p,tb,t,hg,hpre,hK⟩:=h
 cases ho:run l (f+1) .imp p t with
 |none=>rw [ho] at hK;exact hK.elim
 |some r =>
 rw [ho,fg] at hK
 refine ⟨_,_,hK,?_⟩
 clear hK
 rw [run] at ho
 simp only [eN] at ho
 have hpre':=hpre
 obtain ⟨hne,htb,ht,hp,hl,hgl,hgt⟩:=hpre
 have hid:=glq hg
 have htbl:=glq htb
 have f1:=ep hid
 have f2:=ep htbl
 have hl5:l.length≤100000:=by omega
 have i1:=@Int.natCast_nonneg
 have hne':(id=tb)=False:=eq_false hne
 refine ACalls.fW au (tCq h_yOr (tCq j9 (tCq h_yImp (tCq jn tNq)))) Tryz.func174 [.tmp 2] rP (T:=aq []) (h:=fun hcl hlt=>?_)
 clear hlt
 obtain ⟨hgi,hgt',hsi,hcl2,hst⟩:=gM hg hpre' hcl
 rcases bu ho with ⟨q,h1,rfl⟩|⟨a,p1,t1,h1,h2⟩
 ·simp only [go_sem,f1,f2,hgi,hgt',hsi,hst,aN,aX,bn,cr,bK,cw,bM,bJ,bp,bC,bF,bc,hne,ne_eq,hne',hl5,iNq,cy,ct,i1,Int.reduceLE,eq_self,nFq,rg,hg,hpre',h1]
  exact Z14
 clear ho
 obtain ⟨k1,k2,k3,k4,k5,k6⟩:=cf _ h1 hgt trivial hp
 simp only [Rl.isL,Bool.false_eq_true,if_false] at k4
 have hp1:jV ((H.set id (pst m l p1 tb t1)).set tb (.buf 7 t1.length)) id tb l p1 t1:=fc hpre' k2 (by omega) k5
 cases hs:isS l p1 [45,62] with
 |false =>
  rw [hs,if_neg (by simp)] at h2
  cases h2
  simp only [go_sem,f1,f2,hgi,hgt',hsi,hst,aN,aX,bn,cr,bK,cw,bM,bJ,bp,bC,bF,bc,hne,ne_eq,hne',hl5,iNq,cy,ct,i1,Int.reduceLE,eq_self,nFq,rg,hg,hpre',h1,k2,hs,if_false]
  exact Z8
 |true =>
  rw [hs,if_pos rfl] at h2
  have hlt1:=dW hs
  have hp2:jV ((H.set id (pst m l (p1+1) tb t1)).set tb (.buf 7 t1.length)) id tb l (p1+1) t1:=fc hpre' hlt1 (by omega) k5
  rcases bu h2 with ⟨q,h3,rfl⟩|⟨b,p2,t2,h3,h4⟩
  ·simp only [go_sem,f1,f2,hgi,hgt',hsi,hst,aN,aX,bn,cr,bK,cw,bM,bJ,bp,bC,bF,bc,hne,ne_eq,hne',hl5,iNq,cy,ct,i1,Int.reduceLE,eq_self,nFq,rg,iF,hg,hpre',h1,k2,hs,if_true,hp2,h3]
   exact Z14
  cases h4
  obtain ⟨k1b,k2b,k3b,k4b,k5b,k6b⟩:=cf _ h3 k5 trivial hlt1
  simp only [Rl.isL,Bool.false_eq_true,if_false] at k4b
  have ht2:t2.length≤100000:=by omega
  simp only [go_sem,f1,f2,hgi,hgt',hsi,hst,aN,aX,bn,cr,bK,cw,bM,bJ,bp,bC,bF,bc,hne,ne_eq,hne',hl5,iNq,cy,ct,i1,Int.reduceLE,eq_self,nFq,rg,iF,hg,hpre',h1,k2,hs,if_true,hp2,h3,ht2,nd2]
  have hc3:=hcl2 p2 (t2++[⟨16,a,b,[],[],0⟩])
  simp only [lAq,yaz,yba,nzq] at hc3 ⊢
  exact Z15
theorem K8 {f:Nat} (h_yAnd:EntOk Tryz.prog 212 (Ent.effect (m9 f))):EntOk Tryz.prog 197 (Ent.effect (rg (f+1))):=by
 refine EntOk.effect fun args H K h=>?_
 unfold rg bc at h
 split at h
 rotate_left
 ·exact h.elim
 rename_i id
 obtain ⟨m,l,p,tb,t,hg,hpre,hK⟩:=h
 cases ho:run l (f+1) .or p t with
 |none=>rw [ho] at hK;exact hK.elim
 |some r =>
 rw [ho,fg] at hK
 refine ⟨_,_,hK,?_⟩
 clear hK
 rw [run] at ho
 simp only [eN] at ho
 have hpre':=hpre
 obtain ⟨hne,htb,ht,hp,hl,hgl,hgt⟩:=hpre
 have hid:=glq hg
 have htbl:=glq htb
 have f1:=ep hid
 have f2:=ep htbl
 have hl5:l.length≤100000:=by omega
 have i1:=@Int.natCast_nonneg
 have hne':(id=tb)=False:=eq_false hne
 refine ACalls.fW au (tCq h_yAnd (tCq j9 (tCq jn tNq))) Tryz.func197 [.tmp 2] rP (T:=aq []) (h:=fun hcl hlt=>?_)
 clear hlt
 obtain ⟨hgi,hgt',hsi,hcl2,hst⟩:=gM hg hpre' hcl
 rcases bu ho with ⟨q,h1,rfl⟩|⟨a,p1,t1,h1,h2⟩
 ·simp only [go_sem,f1,f2,hgi,hgt',hsi,hst,aN,aX,bn,cr,bK,cw,bM,bJ,bp,bC,bF,bc,hne,ne_eq,hne',hl5,iNq,cy,ct,i1,Int.reduceLE,eq_self,nFq,m9,hg,hpre',h1]
  exact Z14
 clear ho
 obtain ⟨k1,k2,k3,k4,k5,k6⟩:=cf _ h1 hgt trivial hp
 simp only [Rl.isL,Bool.false_eq_true,if_false] at k4
 have hp1:jV ((H.set id (pst m l p1 tb t1)).set tb (.buf 7 t1.length)) id tb l p1 t1:=fc hpre' k2 (by omega) k5
 simp only [go_sem,f1,f2,hgi,hgt',hsi,hst,aN,aX,bn,cr,bK,cw,bM,bJ,bp,bC,bF,bc,hne,ne_eq,hne',hl5,iNq,cy,ct,i1,Int.reduceLE,eq_self,nFq,m9,hg,hpre',h1]
 refine az (A:=Nat × Nat × Nat × List Nd) (fun x=>[(0,.ptr id 0),(3,.int .i64 (x.2.1:Int))]) (fun x=>(H.set id (pst m l x.2.2.1 tb x.2.2.2)).set tb (.buf 7 x.2.2.2.length))
  (fun x=>x.1≤f∧run l x.1 (.orL x.2.1) x.2.2.1 x.2.2.2=some r∧x.2.2.1≤l.length∧x.2.2.2.length≤x.2.2.1∧Good x.2.2.2∧x.2.1<x.2.2.2.length) (fun x=>x.1) (f,a,p1,t1) ⟨nrq _,h2,k2,by dsimp only;omega,k5,k1⟩ ?_ fun x hx=>?_
 ·exact Z16
 obtain ⟨g,a',p',t'⟩:=x
 obtain ⟨x1,x2,x3,x4,x5,x6⟩:=hx
 dsimp only at x1 x2 x3 x4 x5 x6 ⊢
 have ht':t'.length≤100000:=by omega
 have hpx:jV ((H.set id (pst m l p' tb t')).set tb (.buf 7 t'.length)) id tb l p' t':=fc hpre' x3 x4 x5
 cases g with
 |zero=>cases x2
 |succ g =>
 rw [run] at x2
 simp only [eN] at x2
 cases hs:isS l p' [124,124] with
 |false =>
  rw [hs,if_neg (by simp)] at x2
  cases x2
  simp only [go_sem,f1,f2,hgi,hgt',hsi,hst,aN,aX,bn,cr,bK,cw,bM,bJ,bp,bC,bF,bc,hne,ne_eq,hne',hl5,iNq,cy,ct,i1,Int.reduceLE,eq_self,nFq,x3,hs,if_false]
  exact Z8
 |true =>
  rw [hs,if_pos rfl] at x2
  have hlt1:=dW hs
  have hp2:jV ((H.set id (pst m l (p'+1) tb t')).set tb (.buf 7 t'.length)) id tb l (p'+1) t':=fc hpre' hlt1 (by omega) x5
  rcases bu x2 with ⟨q,h3,rfl⟩|⟨b,p2,t2,h3,h4⟩
  ·have h3':=dM (show g≤f by omega) h3
   simp only [go_sem,f1,f2,hgi,hgt',hsi,hst,aN,aX,bn,cr,bK,cw,bM,bJ,bp,bC,bF,bc,hne,ne_eq,hne',hl5,iNq,cy,ct,i1,Int.reduceLE,eq_self,nFq,m9,x3,hs,if_true,hp2,h3']
   exact Z14
  have h3':=dM (show g≤f by omega) h3
  obtain ⟨k1b,k2b,k3b,k4b,k5b,k6b⟩:=cf _ h3 x5 trivial hlt1
  simp only [Rl.isL,Bool.false_eq_true,if_false] at k4b
  have ht2:t2.length≤100000:=by omega
  simp only [go_sem,f1,f2,hgi,hgt',hsi,hst,aN,aX,bn,cr,bK,cw,bM,bJ,bp,bC,bF,bc,hne,ne_eq,hne',hl5,iNq,cy,ct,i1,Int.reduceLE,eq_self,nFq,m9,x3,hs,if_true,hp2,h3',ht2]
  have hc3:=hcl2 p2 (t2++[⟨15,a',b,[],[],0⟩])
  refine ⟨(g,t2.length,p2,t2++[⟨15,a',b,[],[],0⟩]),⟨by dsimp only;omega,h4,k2b,by simp;omega,k5b.snoc ⟨(show 1≤15 by decide),(show 15≤16 by decide)⟩ (show (0:Nat)<2^128 by decide) (.inr ⟨by simp only;omega,by simp only;omega⟩),by simp⟩,by dsimp only;omega,?_⟩
  simp only [lAq,yaz,yba,nzq] at hc3 ⊢
  exact Z17
theorem Jz {f:Nat} (h_yNot:EntOk Tryz.prog 220 (Ent.effect (jN f))):EntOk Tryz.prog 212 (Ent.effect (m9 (f+1))):=by
 refine EntOk.effect fun args H K h=>?_
 unfold m9 bc at h
 split at h
 rotate_left
 ·exact h.elim
 rename_i id
 obtain ⟨m,l,p,tb,t,hg,hpre,hK⟩:=h
 cases ho:run l (f+1) .and p t with
 |none=>rw [ho] at hK;exact hK.elim
 |some r =>
 rw [ho,fg] at hK
 refine ⟨_,_,hK,?_⟩
 clear hK
 rw [run] at ho
 simp only [eN] at ho
 have hpre':=hpre
 obtain ⟨hne,htb,ht,hp,hl,hgl,hgt⟩:=hpre
 have hid:=glq hg
 have htbl:=glq htb
 have f1:=ep hid
 have f2:=ep htbl
 have hl5:l.length≤100000:=by omega
 have i1:=@Int.natCast_nonneg
 have hne':(id=tb)=False:=eq_false hne
 refine ACalls.fW au (tCq h_yNot (tCq j9 (tCq jn tNq))) Tryz.func212 [.tmp 2] rP (T:=aq []) (h:=fun hcl hlt=>?_)
 clear hlt
 obtain ⟨hgi,hgt',hsi,hcl2,hst⟩:=gM hg hpre' hcl
 rcases bu ho with ⟨q,h1,rfl⟩|⟨a,p1,t1,h1,h2⟩
 ·simp only [go_sem,f1,f2,hgi,hgt',hsi,hst,aN,aX,bn,cr,bK,cw,bM,bJ,bp,bC,bF,bc,hne,ne_eq,hne',hl5,iNq,cy,ct,i1,Int.reduceLE,eq_self,nFq,jN,hg,hpre',h1]
  exact Z14
 clear ho
 obtain ⟨k1,k2,k3,k4,k5,k6⟩:=cf _ h1 hgt trivial hp
 simp only [Rl.isL,Bool.false_eq_true,if_false] at k4
 have hp1:jV ((H.set id (pst m l p1 tb t1)).set tb (.buf 7 t1.length)) id tb l p1 t1:=fc hpre' k2 (by omega) k5
 simp only [go_sem,f1,f2,hgi,hgt',hsi,hst,aN,aX,bn,cr,bK,cw,bM,bJ,bp,bC,bF,bc,hne,ne_eq,hne',hl5,iNq,cy,ct,i1,Int.reduceLE,eq_self,nFq,jN,hg,hpre',h1]
 refine az (A:=Nat × Nat × Nat × List Nd) (fun x=>[(0,.ptr id 0),(3,.int .i64 (x.2.1:Int))]) (fun x=>(H.set id (pst m l x.2.2.1 tb x.2.2.2)).set tb (.buf 7 x.2.2.2.length))
  (fun x=>x.1≤f∧run l x.1 (.andL x.2.1) x.2.2.1 x.2.2.2=some r∧x.2.2.1≤l.length∧x.2.2.2.length≤x.2.2.1∧Good x.2.2.2∧x.2.1<x.2.2.2.length) (fun x=>x.1) (f,a,p1,t1) ⟨nrq _,h2,k2,by dsimp only;omega,k5,k1⟩ ?_ fun x hx=>?_
 ·exact Z16
 obtain ⟨g,a',p',t'⟩:=x
 obtain ⟨x1,x2,x3,x4,x5,x6⟩:=hx
 dsimp only at x1 x2 x3 x4 x5 x6 ⊢
 have ht':t'.length≤100000:=by omega
 have hpx:jV ((H.set id (pst m l p' tb t')).set tb (.buf 7 t'.length)) id tb l p' t':=fc hpre' x3 x4 x5
 cases g with
 |zero=>cases x2
 |succ g =>
 rw [run] at x2
 simp only [eN] at x2
 cases hs:isS l p' [38,38] with
 |false =>
  rw [hs,if_neg (by simp)] at x2
  cases x2
  simp only [go_sem,f1,f2,hgi,hgt',hsi,hst,aN,aX,bn,cr,bK,cw,bM,bJ,bp,bC,bF,bc,hne,ne_eq,hne',hl5,iNq,cy,ct,i1,Int.reduceLE,eq_self,nFq,x3,hs,if_false]
  exact Z8
 |true =>
  rw [hs,if_pos rfl] at x2
  have hlt1:=dW hs
  have hp2:jV ((H.set id (pst m l (p'+1) tb t')).set tb (.buf 7 t'.length)) id tb l (p'+1) t':=fc hpre' hlt1 (by omega) x5
  rcases bu x2 with ⟨q,h3,rfl⟩|⟨b,p2,t2,h3,h4⟩
  ·have h3':=dM (show g≤f by omega) h3
   simp only [go_sem,f1,f2,hgi,hgt',hsi,hst,aN,aX,bn,cr,bK,cw,bM,bJ,bp,bC,bF,bc,hne,ne_eq,hne',hl5,iNq,cy,ct,i1,Int.reduceLE,eq_self,nFq,jN,x3,hs,if_true,hp2,h3']
   exact Z14
  have h3':=dM (show g≤f by omega) h3
  obtain ⟨k1b,k2b,k3b,k4b,k5b,k6b⟩:=cf _ h3 x5 trivial hlt1
  simp only [Rl.isL,Bool.false_eq_true,if_false] at k4b
  have ht2:t2.length≤100000:=by omega
  simp only [go_sem,f1,f2,hgi,hgt',hsi,hst,aN,aX,bn,cr,bK,cw,bM,bJ,bp,bC,bF,bc,hne,ne_eq,hne',hl5,iNq,cy,ct,i1,Int.reduceLE,eq_self,nFq,jN,x3,hs,if_true,hp2,h3',ht2]
  have hc3:=hcl2 p2 (t2++[⟨14,a',b,[],[],0⟩])
  refine ⟨(g,t2.length,p2,t2++[⟨14,a',b,[],[],0⟩]),⟨by dsimp only;omega,h4,k2b,by simp;omega,k5b.snoc ⟨(show 1≤14 by decide),(show 14≤16 by decide)⟩ (show (0:Nat)<2^128 by decide) (.inr ⟨by simp only;omega,by simp only;omega⟩),by simp⟩,by dsimp only;omega,?_⟩
  simp only [lAq,yaz,yba,nzq] at hc3 ⊢
  exact Z17
theorem Iz {f:Nat} (h_yNot:EntOk Tryz.prog 220 (Ent.effect (jN f))) (h_yCmp:EntOk Tryz.prog 223 (Ent.effect (sO f))):EntOk Tryz.prog 220 (Ent.effect (jN (f+1))):=by
 refine EntOk.effect fun args H K h=>?_
 unfold jN bc at h
 split at h
 rotate_left
 ·exact h.elim
 rename_i id
 obtain ⟨m,l,p,tb,t,hg,hpre,hK⟩:=h
 cases ho:run l (f+1) .not p t with
 |none=>rw [ho] at hK;exact hK.elim
 |some r =>
 rw [ho,fg] at hK
 refine ⟨_,_,hK,?_⟩
 clear hK
 rw [run] at ho
 simp only [eN] at ho
 have hpre':=hpre
 obtain ⟨hne,htb,ht,hp,hl,hgl,hgt⟩:=hpre
 have hid:=glq hg
 have htbl:=glq htb
 have f1:=ep hid
 have f2:=ep htbl
 have hl5:l.length≤100000:=by omega
 have i1:=@Int.natCast_nonneg
 have hne':(id=tb)=False:=eq_false hne
 refine ACalls.fW au (tCq j9 (tCq h_yNot (tCq jn (tCq h_yCmp tNq)))) Tryz.func220 [.tmp 2] rP (T:=aq []) (h:=fun hcl hlt=>?_)
 clear hlt
 obtain ⟨hgi,hgt',hsi,hcl2,hst⟩:=gM hg hpre' hcl
 cases hs:isS l p [33] with
 |false =>
  rw [hs,if_neg (by simp)] at ho
  simp only [go_sem,f1,f2,hgi,hgt',hsi,hst,aN,aX,bn,cr,bK,cw,bM,bJ,bp,bC,bF,bc,hne,ne_eq,hne',hl5,iNq,cy,ct,i1,Int.reduceLE,eq_self,nFq,sO,hg,hp,hs,if_false,hpre',ho,fg]
  cases r with
  |ok a q u =>
   simp only [go_sem,f1,f2,hgi,hgt',hsi,hst,aN,aX,bn,cr,bK,cw,bM,bJ,bp,bC,bF,bc,hne,ne_eq,hne',hl5,iNq,cy,ct,i1,Int.reduceLE,eq_self,nFq]
   exact Z8
  |bad q =>
   simp only [go_sem,f1,f2,hgi,hgt',hsi,hst,aN,aX,bn,cr,bK,cw,bM,bJ,bp,bC,bF,bc,hne,ne_eq,hne',hl5,iNq,cy,ct,i1,Int.reduceLE,eq_self,nFq]
   exact Z14
 |true =>
  rw [hs,if_pos rfl] at ho
  have hlt1:=dW hs
  have hgi1:∀ X,(H.set id X).get id=some X:=fun X=>AHeap.get_set_same _ _ hid
  have hp2:jV (H.set id (pst m l (p+1) tb t)) id tb l (p+1) t:=qI hpre' hlt1 (by omega)
  have hss:∀ X Y,(H.set id X).set id Y=H.set id Y:=fun X Y=>by simp only [AHeap.set];congr 1;funext k;by_cases hk:k=id<;>simp [hk]
  rcases bu ho with ⟨q,h3,rfl⟩|⟨b,p2,t2,h3,h4⟩
  ·simp only [go_sem,f1,f2,hgi,hgt',hsi,hst,aN,aX,bn,cr,bK,cw,bM,bJ,bp,bC,bF,bc,hne,ne_eq,hne',hl5,iNq,cy,ct,i1,Int.reduceLE,eq_self,nFq,jN,hg,hp,hs,if_true,hgi1,hss,hp2,h3]
   exact Z14
  cases h4
  obtain ⟨k1b,k2b,k3b,k4b,k5b,k6b⟩:=cf _ h3 hgt trivial hlt1
  simp only [Rl.isL,Bool.false_eq_true,if_false] at k4b
  have ht2:t2.length≤100000:=by omega
  simp only [go_sem,f1,f2,hgi,hgt',hsi,hst,aN,aX,bn,cr,bK,cw,bM,bJ,bp,bC,bF,bc,hne,ne_eq,hne',hl5,iNq,cy,ct,i1,Int.reduceLE,eq_self,nFq,jN,hg,hp,hs,if_true,hgi1,hss,hp2,h3,ht2,nd2]
  have hc3:=hcl2 p2 (t2++[⟨5,b,0,[],[],0⟩])
  simp only [lAq,yaz,yba,nzq] at hc3 ⊢
  exact Z15
theorem KN {f:Nat} (h_yUn:EntOk Tryz.prog 229 (Ent.effect (mm f))) (h_yAtom:EntOk Tryz.prog 232 (Ent.effect (pj f))):EntOk Tryz.prog 229 (Ent.effect (mm (f+1))):=by
 refine EntOk.effect fun args H K h=>?_
 unfold mm bc at h
 split at h
 rotate_left
 ·exact h.elim
 rename_i id
 obtain ⟨m,l,p,tb,t,hg,hpre,hK⟩:=h
 cases ho:run l (f+1) .un p t with
 |none=>rw [ho] at hK;exact hK.elim
 |some r =>
 rw [ho,fg] at hK
 refine ⟨_,_,hK,?_⟩
 clear hK
 rw [run] at ho
 simp only [eN] at ho
 have hpre':=hpre
 obtain ⟨hne,htb,ht,hp,hl,hgl,hgt⟩:=hpre
 have hid:=glq hg
 have htbl:=glq htb
 have f1:=ep hid
 have f2:=ep htbl
 have hl5:l.length≤100000:=by omega
 have i1:=@Int.natCast_nonneg
 have hne':(id=tb)=False:=eq_false hne
 refine ACalls.fW au (tCq j9 (tCq h_yUn (tCq jn (tCq h_yAtom tNq)))) Tryz.func229 [.tmp 2] rP (T:=aq []) (h:=fun hcl hlt=>?_)
 clear hlt
 obtain ⟨hgi,hgt',hsi,hcl2,hst⟩:=gM hg hpre' hcl
 cases hs:isS l p [45] with
 |false =>
  rw [hs,if_neg (by simp)] at ho
  simp only [go_sem,f1,f2,hgi,hgt',hsi,hst,aN,aX,bn,cr,bK,cw,bM,bJ,bp,bC,bF,bc,hne,ne_eq,hne',hl5,iNq,cy,ct,i1,Int.reduceLE,eq_self,nFq,pj,hg,hp,hs,if_false,hpre',ho,fg]
  cases r with
  |ok a q u =>
   simp only [go_sem,f1,f2,hgi,hgt',hsi,hst,aN,aX,bn,cr,bK,cw,bM,bJ,bp,bC,bF,bc,hne,ne_eq,hne',hl5,iNq,cy,ct,i1,Int.reduceLE,eq_self,nFq]
   exact Z8
  |bad q =>
   simp only [go_sem,f1,f2,hgi,hgt',hsi,hst,aN,aX,bn,cr,bK,cw,bM,bJ,bp,bC,bF,bc,hne,ne_eq,hne',hl5,iNq,cy,ct,i1,Int.reduceLE,eq_self,nFq]
   exact Z14
 |true =>
  rw [hs,if_pos rfl] at ho
  have hlt1:=dW hs
  have hgi1:∀ X,(H.set id X).get id=some X:=fun X=>AHeap.get_set_same _ _ hid
  have hp2:jV (H.set id (pst m l (p+1) tb t)) id tb l (p+1) t:=qI hpre' hlt1 (by omega)
  have hss:∀ X Y,(H.set id X).set id Y=H.set id Y:=fun X Y=>by simp only [AHeap.set];congr 1;funext k;by_cases hk:k=id<;>simp [hk]
  rcases bu ho with ⟨q,h3,rfl⟩|⟨b,p2,t2,h3,h4⟩
  ·simp only [go_sem,f1,f2,hgi,hgt',hsi,hst,aN,aX,bn,cr,bK,cw,bM,bJ,bp,bC,bF,bc,hne,ne_eq,hne',hl5,iNq,cy,ct,i1,Int.reduceLE,eq_self,nFq,mm,hg,hp,hs,if_true,hgi1,hss,hp2,h3]
   exact Z14
  cases h4
  obtain ⟨k1b,k2b,k3b,k4b,k5b,k6b⟩:=cf _ h3 hgt trivial hlt1
  simp only [Rl.isL,Bool.false_eq_true,if_false] at k4b
  have ht2:t2.length≤100000:=by omega
  simp only [go_sem,f1,f2,hgi,hgt',hsi,hst,aN,aX,bn,cr,bK,cw,bM,bJ,bp,bC,bF,bc,hne,ne_eq,hne',hl5,iNq,cy,ct,i1,Int.reduceLE,eq_self,nFq,mm,hg,hp,hs,if_true,hgi1,hss,hp2,h3,ht2,nd2]
  have hc3:=hcl2 p2 (t2++[⟨4,b,0,[],[],0⟩])
  simp only [lAq,yaz,yba,nzq] at hc3 ⊢
  exact Z15
theorem Ij {f:Nat} (h_ySum:EntOk Tryz.prog 225 (Ent.effect (me f))):EntOk Tryz.prog 223 (Ent.effect (sO (f+1))):=by
 refine EntOk.effect fun args H K h=>?_
 unfold sO bc at h
 split at h
 rotate_left
 ·exact h.elim
 rename_i id
 obtain ⟨m,l,p,tb,t,hg,hpre,hK⟩:=h
 cases ho:run l (f+1) .cmp p t with
 |none=>rw [ho] at hK;exact hK.elim
 |some r =>
 rw [ho,fg] at hK
 refine ⟨_,_,hK,?_⟩
 clear hK
 rw [run] at ho
 simp only [eN] at ho
 have hpre':=hpre
 obtain ⟨hne,htb,ht,hp,hl,hgl,hgt⟩:=hpre
 have hid:=glq hg
 have htbl:=glq htb
 have f1:=ep hid
 have f2:=ep htbl
 have hl5:l.length≤100000:=by omega
 have i1:=@Int.natCast_nonneg
 have hne':(id=tb)=False:=eq_false hne
 refine ACalls.fW au (tCq h_ySum (tCq wV (tCq y4 (tCq jn tNq)))) Tryz.func223 [.tmp 2] rP (T:=aq []) (h:=fun hcl hlt=>?_)
 clear hlt
 obtain ⟨hgi,hgt',hsi,hcl2,hst⟩:=gM hg hpre' hcl
 rcases bu ho with ⟨q,h1,rfl⟩|⟨a,p1,t1,h1,h2⟩
 ·simp only [go_sem,f1,f2,hgi,hgt',hsi,hst,aN,aX,bn,cr,bK,cw,bM,bJ,bp,bC,bF,bc,hne,ne_eq,hne',hl5,iNq,cy,ct,i1,Int.reduceLE,eq_self,nFq,me,hg,hpre',h1]
  exact Z14
 clear ho
 obtain ⟨k1,k2,k3,k4,k5,k6⟩:=cf _ h1 hgt trivial hp
 simp only [Rl.isL,Bool.false_eq_true,if_false] at k4
 have hp1:jV ((H.set id (pst m l p1 tb t1)).set tb (.buf 7 t1.length)) id tb l p1 t1:=fc hpre' k2 (by omega) k5
 cases hs:jS l p1 opsC with
 |none =>
  rw [hs] at h2
  cases h2
  simp only [go_sem,f1,f2,hgi,hgt',hsi,hst,aN,aX,bn,cr,bK,cw,bM,bJ,bp,bC,bF,bc,hne,ne_eq,hne',hl5,iNq,cy,ct,i1,Int.reduceLE,eq_self,nFq,ke,eP,ki,iH,kR,kZ,me,hg,hpre',h1,k2,hs,o9]
  refine wC rfl ?_
  simp only [go_sem,f1,f2,hgi,hgt',hsi,hst,aN,aX,bn,cr,bK,cw,bM,bJ,bp,bC,bF,bc,hne,ne_eq,hne',hl5,iNq,cy,ct,i1,Int.reduceLE,eq_self,nFq]
  exact Z8
 |some op =>
  rw [hs] at h2
  dsimp only at h2
  obtain ⟨hlt1,so,hso⟩:=gO hs
  obtain ⟨o1,o2⟩:=xj hso
  have hop:((op:Int) != 0)=true:=by simp;omega
  have hp2:jV ((H.set id (pst m l (p1+1) tb t1)).set tb (.buf 7 t1.length)) id tb l (p1+1) t1:=fc hpre' hlt1 (by omega) k5
  rcases bu h2 with ⟨q,h3,rfl⟩|⟨b,p2,t2,h3,h4⟩
  ·simp only [go_sem,f1,f2,hgi,hgt',hsi,hst,aN,aX,bn,cr,bK,cw,bM,bJ,bp,bC,bF,bc,hne,ne_eq,hne',hl5,iNq,cy,ct,i1,Int.reduceLE,eq_self,nFq,ke,eP,ki,iH,kR,kZ,me,hg,hpre',h1,k2,hs,mX,hop,hp2,h3]
   exact Z14
  cases h4
  obtain ⟨k1b,k2b,k3b,k4b,k5b,k6b⟩:=cf _ h3 k5 trivial hlt1
  simp only [Rl.isL,Bool.false_eq_true,if_false] at k4b
  have ht2:t2.length≤100000:=by omega
  simp only [go_sem,f1,f2,hgi,hgt',hsi,hst,aN,aX,bn,cr,bK,cw,bM,bJ,bp,bC,bF,bc,hne,ne_eq,hne',hl5,iNq,cy,ct,i1,Int.reduceLE,eq_self,nFq,ke,eP,ki,iH,kR,kZ,me,hg,hpre',h1,k2,hs,mX,hop,hp2,h3,ht2,nd2]
  have hc3:=hcl2 p2 (t2++[⟨op,a,b,[],[],0⟩])
  simp only [lAq,yaz,yba,nzq] at hc3 ⊢
  exact Z15
theorem IJ {f:Nat} (h_yUn:EntOk Tryz.prog 229 (Ent.effect (mm f))):EntOk Tryz.prog 225 (Ent.effect (me (f+1))):=by
 refine EntOk.effect fun args H K h=>?_
 unfold me bc at h
 split at h
 rotate_left
 ·exact h.elim
 rename_i id
 obtain ⟨m,l,p,tb,t,hg,hpre,hK⟩:=h
 cases ho:run l (f+1) .sum p t with
 |none=>rw [ho] at hK;exact hK.elim
 |some r =>
 rw [ho,fg] at hK
 refine ⟨_,_,hK,?_⟩
 clear hK
 rw [run] at ho
 simp only [eN] at ho
 have hpre':=hpre
 obtain ⟨hne,htb,ht,hp,hl,hgl,hgt⟩:=hpre
 have hid:=glq hg
 have htbl:=glq htb
 have f1:=ep hid
 have f2:=ep htbl
 have hl5:l.length≤100000:=by omega
 have i1:=@Int.natCast_nonneg
 have hne':(id=tb)=False:=eq_false hne
 refine ACalls.fW au (tCq h_yUn (tCq Ff (tCq y4 (tCq jn tNq)))) Tryz.func225 [.tmp 2] rP (T:=aq []) (h:=fun hcl hlt=>?_)
 clear hlt
 obtain ⟨hgi,hgt',hsi,hcl2,hst⟩:=gM hg hpre' hcl
 rcases bu ho with ⟨q,h1,rfl⟩|⟨a,p1,t1,h1,h2⟩
 ·simp only [go_sem,f1,f2,hgi,hgt',hsi,hst,aN,aX,bn,cr,bK,cw,bM,bJ,bp,bC,bF,bc,hne,ne_eq,hne',hl5,iNq,cy,ct,i1,Int.reduceLE,eq_self,nFq,mm,hg,hpre',h1]
  exact Z14
 clear ho
 obtain ⟨k1,k2,k3,k4,k5,k6⟩:=cf _ h1 hgt trivial hp
 simp only [Rl.isL,Bool.false_eq_true,if_false] at k4
 have hp1:jV ((H.set id (pst m l p1 tb t1)).set tb (.buf 7 t1.length)) id tb l p1 t1:=fc hpre' k2 (by omega) k5
 have hsn:∀ p',jS l p' opsS=none→opv l p'=0∧oph l p'=p':=fun p' e=>by simp [opv,oph,e]
 have hss:∀ p' op,jS l p' opsS=some op→opv l p'=op∧oph l p'=p'+1:=fun p' op e=>by simp [opv,oph,e]
 have hev:∀ p',(jS l p' opsS=none∧opv l p'=0∧oph l p'=p')∨∃ op,jS l p' opsS=some op∧opv l p'=op∧oph l p'=p'+1:=fun p'=>by
  cases hs:jS l p' opsS with
  |none=>exact .inl ⟨rfl,hsn _ hs⟩
  |some op=>exact .inr ⟨op,rfl,hss _ _ hs⟩
 simp only [go_sem,f1,f2,hgi,hgt',hsi,hst,aN,aX,bn,cr,bK,cw,bM,bJ,bp,bC,bF,bc,hne,ne_eq,hne',hl5,iNq,cy,ct,i1,Int.reduceLE,eq_self,nFq,ke,eP,ki,iH,kR,kZ,mm,hg,hpre',h1,k2]
 rcases hev p1 with ⟨hs1,v1,v2⟩|⟨op1,hs1,v1,v2⟩
 all_goals
  simp only [go_sem,f1,f2,hgi,hgt',hsi,hst,aN,aX,bn,cr,bK,cw,bM,bJ,bp,bC,bF,bc,hne,ne_eq,hne',hl5,iNq,cy,ct,i1,Int.reduceLE,eq_self,nFq,ke,eP,ki,iH,kR,kZ,k2,hs1,o9,mX]
  refine az (A:=Nat × Nat × Nat × List Nd) (fun x=>[(0,.ptr id 0),(3,.int .i64 (x.2.1:Int)),(4,.int .i64 (opv l x.2.2.1:Int))]) (fun x=>(H.set id (pst m l (oph l x.2.2.1) tb x.2.2.2)).set tb (.buf 7 x.2.2.2.length)) (fun x=>x.1≤f∧run l x.1 (.sumL x.2.1) x.2.2.1 x.2.2.2=some r∧x.2.2.1≤l.length∧x.2.2.2.length≤x.2.2.1∧Good x.2.2.2∧x.2.1<x.2.2.2.length) (fun x=>x.1) (f,a,p1,t1) ⟨nrq _,h2,k2,by dsimp only;omega,k5,k1⟩ ?_ fun x hx=>?_
  ·dsimp only
   rw [v1,v2]
   exact Z16
  obtain ⟨g,a',p',t'⟩:=x
  obtain ⟨x1,x2,x3,x4,x5,x6⟩:=hx
  dsimp only at x1 x2 x3 x4 x5 x6 ⊢
  have ht':t'.length≤100000:=by omega
  cases g with
  |zero=>cases x2
  |succ g =>
  rw [run] at x2
  simp only [eN] at x2
  rcases hev p' with ⟨hs,u1,u2⟩|⟨op,hs,u1,u2⟩
  ·rw [hs] at x2
   cases x2
   rw [u1,u2]
   simp only [go_sem,f1,f2,hgi,hgt',hsi,hst,aN,aX,bn,cr,bK,cw,bM,bJ,bp,bC,bF,bc,hne,ne_eq,hne',hl5,iNq,cy,ct,i1,Int.reduceLE,eq_self,nFq]
   refine wC rfl ?_
   simp only [go_sem,f1,f2,hgi,hgt',hsi,hst,aN,aX,bn,cr,bK,cw,bM,bJ,bp,bC,bF,bc,hne,ne_eq,hne',hl5,iNq,cy,ct,i1,Int.reduceLE,eq_self,nFq]
   exact Z8
  ·rw [hs] at x2
   dsimp only at x2
   rw [u1,u2]
   obtain ⟨hlt1,so,hso⟩:=gO hs
   obtain ⟨o1,o2⟩:=su hso
   have hop:((op:Int) != 0)=true:=by simp;omega
   have hp2:jV ((H.set id (pst m l (p'+1) tb t')).set tb (.buf 7 t'.length)) id tb l (p'+1) t':=fc hpre' hlt1 (by omega) x5
   rcases bu x2 with ⟨q,h3,rfl⟩|⟨b,p2,t2,h3,h4⟩
   ·have h3':=dM (show g≤f by omega) h3
    simp only [go_sem,f1,f2,hgi,hgt',hsi,hst,aN,aX,bn,cr,bK,cw,bM,bJ,bp,bC,bF,bc,hne,ne_eq,hne',hl5,iNq,cy,ct,i1,Int.reduceLE,eq_self,nFq,mm,hop,hp2,h3']
    exact Z14
   have h3':=dM (show g≤f by omega) h3
   obtain ⟨k1b,k2b,k3b,k4b,k5b,k6b⟩:=cf _ h3 x5 trivial hlt1
   simp only [Rl.isL,Bool.false_eq_true,if_false] at k4b
   have ht2:t2.length≤100000:=by omega
   have hc3:=hcl2 (oph l p2) (t2++[⟨op,a',b,[],[],0⟩])
   rcases hev p2 with ⟨hs2,w1,w2⟩|⟨op2,hs2,w1,w2⟩
   all_goals
    simp only [go_sem,f1,f2,hgi,hgt',hsi,hst,aN,aX,bn,cr,bK,cw,bM,bJ,bp,bC,bF,bc,hne,ne_eq,hne',hl5,iNq,cy,ct,i1,Int.reduceLE,eq_self,nFq,ke,eP,ki,iH,kR,kZ,mm,hop,hp2,h3',ht2,k2b,hs2,o9,mX]
    refine ⟨(g,t2.length,p2,t2++[⟨op,a',b,[],[],0⟩]),⟨by dsimp only;omega,h4,k2b,by simp;omega,k5b.snoc ⟨(by show 1≤op;omega),o2⟩ (show (0:Nat)<2^128 by decide) (.inr ⟨by simp only;omega,by simp only;omega⟩),by simp⟩,by dsimp only;omega,?_⟩
    dsimp only
    rw [w1,w2]
    rw [w2] at hc3
    simp only [lAq,yaz,yba,nzq] at hc3 ⊢
    (simp only [bkq,enterW,aJ,ltF,ne_eq,Nat.reduceEqDiff,reduceCtorEq,hc3,hid];try simp (disch:=first|exact Zd|omega) [↓zmo,beq,ybc,ybd,ybe,ae,wk,wk2,wk1,wkM,wkL,ah,ybf,byq,biq,aG,hcl,hc3,hid];try (repeat' (first|assumption|omega|exact True.intro|refine And.intro ?_ ?_|refine ag ?_|refine af ?_|refine aa ?_ ?_|refine aj ?_ ?_|refine ay ?_|exact lRq _|refine lPq ?_ _|refine AHeap.Le.del ?_ ?_|(simp only [bt,and_true,true_and,hc3,hid];first|done|omega|(simp;done)))))
theorem Fp {f:Nat} (h_yImp:EntOk Tryz.prog 174 (Ent.effect (iF f))):EntOk Tryz.prog 232 (Ent.effect (pj (f+1))):=by
 refine EntOk.effect fun args H K h=>?_
 unfold pj bc at h
 split at h
 rotate_left
 ·exact h.elim
 rename_i id
 obtain ⟨m,l,p,tb,t,hg,hpre,hK⟩:=h
 cases ho:run l (f+1) .atom p t with
 |none=>rw [ho] at hK;exact hK.elim
 |some r =>
 rw [ho,fg] at hK
 refine ⟨_,_,hK,?_⟩
 clear hK
 rw [run] at ho
 simp only [eN] at ho
 have hpre':=hpre
 obtain ⟨hne,htb,ht,hp,hl,hgl,hgt⟩:=hpre
 have hid:=glq hg
 have htbl:=glq htb
 have f1:=ep hid
 have f2:=ep htbl
 have hl5:l.length≤100000:=by omega
 have i1:=@Int.natCast_nonneg
 have hne':(id=tb)=False:=eq_false hne
 refine ACalls.fW au (tCq j9 (tCq h_yImp (tCq kM (tCq zh (tCq Hr (tCq D7 (tCq jn tNq))))))) Tryz.func232 [.tmp 2] rP (T:=aq []) (h:=fun hcl hlt=>?_)
 clear hlt
 obtain ⟨hgi,hgt',hsi,hcl2,hst⟩:=gM hg hpre' hcl
 have hgi1:∀ X,(H.set id X).get id=some X:=fun X=>AHeap.get_set_same _ _ hid
 have hgt1:∀ X,(H.set id X).get tb=some (.buf 7 t.length):=fun X=>by rw [AHeap.get_set_ne _ _ (fun e=>hne e.symm)];exact htb
 have hss:∀ X Y,(H.set id X).set id Y=H.set id Y:=fun X Y=>by simp only [AHeap.set];congr 1;funext k;by_cases hk:k=id<;>simp [hk]
 have hcs:=ax (cs:=[.slice m 3 (dV l),.int .i64 (p:Int),.slice (.own tb) 7 (nds t)]) hg
 have ht5:t.length≤100000:=by omega
 cases hs0:isS l p [40] with
 |true =>
  rw [hs0,if_pos rfl] at ho
  have hlt1:=dW hs0
  have hp2:jV (H.set id (pst m l (p+1) tb t)) id tb l (p+1) t:=qI hpre' hlt1 (by omega)
  rcases bu ho with ⟨q,h3,rfl⟩|⟨a,p1,t1,h3,h4⟩
  ·simp only [go_sem,f1,f2,hgi,hgt',hsi,hst,aN,aX,bn,cr,bK,cw,bM,bJ,bp,bC,bF,bc,hne,ne_eq,hne',hl5,iNq,cy,ct,i1,Int.reduceLE,eq_self,nFq,iF,hg,hp,hs0,if_true,hgi1,hss,hp2,h3]
   exact Z14
  obtain ⟨k1b,k2b,k3b,k4b,k5b,k6b⟩:=cf _ h3 hgt trivial hlt1
  simp only [Rl.isL,Bool.false_eq_true,if_false] at k4b
  cases hs2:isS l p1 [41] with
  |true =>
   rw [hs2,if_pos rfl] at h4
   cases h4
   simp only [go_sem,f1,f2,hgi,hgt',hsi,hst,aN,aX,bn,cr,bK,cw,bM,bJ,bp,bC,bF,bc,hne,ne_eq,hne',hl5,iNq,cy,ct,i1,Int.reduceLE,eq_self,nFq,iF,hg,hp,hs0,if_true,hgi1,hss,hp2,h3,k2b,hs2]
   exact Z8
  |false =>
   rw [hs2,if_neg (by simp)] at h4
   cases h4
   simp only [go_sem,f1,f2,hgi,hgt',hsi,hst,aN,aX,bn,cr,bK,cw,bM,bJ,bp,bC,bF,bc,hne,ne_eq,hne',hl5,iNq,cy,ct,i1,Int.reduceLE,eq_self,nFq,iF,ey,hg,hp,hs0,if_true,if_false,hgi1,hss,hp2,h3,k2b,hs2]
   exact Z14
 |false =>
  rw [hs0,if_neg (by simp)] at ho
  cases ho
  by_cases hlt0:p<l.length
  ·rcases htk:l[p] with ⟨k,x,z⟩
   have hgd:=sw hlt0 htk
   have hge:l[p]?=some (k,x,z):=by rw [gQq hlt0,htk]
   have d0:decide ((p:Int)<(l.length:Int))=true:=by simp;omega
   by_cases hk1:k=1
   ·subst hk1
    have hka:tW l p=1:=by unfold tW;rw [hge]
    have hr:eD l p t=.ok t.length (p+1) (t++[⟨1,0,0,[],[],vj l p⟩]):=by unfold eD vj;rw [hge];rfl
    have hd1:(((1:Nat):Int)==1)=true:=rfl
    rw [hr]
    have hc3:=hcl2 (p+1) (t++[⟨1,0,0,[],[],vj l p⟩])
    simp only [go_sem,f1,f2,hgi,hgt',hsi,hst,aN,aX,bn,cr,bK,cw,bM,bJ,bp,bC,bF,bc,hne,ne_eq,hne',hl5,iNq,cy,ct,i1,Int.reduceLE,eq_self,nFq,hg,hp,hs0,if_false,hcs,bG,hgd,d0,iS,ej,ey,fX,hp,hgi1,hgt1,hss,ht5,g7,fV,fu,bne_self_eq_false,beq_self_eq_true,hd1,hka,hpre']
    simp only [lAq,yaz,yba,nzq] at hc3 ⊢
    refine ⟨by omega,?_⟩
    exact Z15
   ·have d1:((k:Int)==1)=false:=by simp;omega
    by_cases hk2:k=2
    ·subst hk2
     have hw:mB l p=some x:=by unfold mB;rw [hge];rfl
     have hd2:(((2:Nat):Int)==1)=false:=rfl
     by_cases hx1:x=vJ
     ·have hr:eD l p t=.ok t.length (p+1) (t++[⟨2,0,0,[],[],1⟩]):=by unfold eD;rw [hge];simp [hx1]
      have htr:kp x=.tup [fu 2 1,.bool true]:=by unfold kp;rw [if_pos hx1]
      rw [hr]
      have hc3:=hcl2 (p+1) (t++[⟨2,0,0,[],[],1⟩])
      simp only [go_sem,f1,f2,hgi,hgt',hsi,hst,aN,aX,bn,cr,bK,cw,bM,bJ,bp,bC,bF,bc,hne,ne_eq,hne',hl5,iNq,cy,ct,i1,Int.reduceLE,eq_self,nFq,hg,hp,hs0,if_false,hcs,bG,hgd,d0,iS,ej,ey,fX,hp,hgi1,hgt1,hss,ht5,g7,fV,fu,bne_self_eq_false,beq_self_eq_true,hd2,hw,htr,Mn,Nv]
      simp only [lAq,yaz,yba,nzq] at hc3 ⊢
      refine ⟨by omega,?_⟩
      exact Z15
     ·by_cases hx2:x=qf
      ·have hr:eD l p t=.ok t.length (p+1) (t++[⟨2,0,0,[],[],0⟩]):=by unfold eD;rw [hge];simp [hx1,hx2];decide
       have htr:kp x=.tup [fu 2 0,.bool true]:=by unfold kp;rw [if_neg hx1,if_pos hx2]
       rw [hr]
       have hc3:=hcl2 (p+1) (t++[⟨2,0,0,[],[],0⟩])
       simp only [go_sem,f1,f2,hgi,hgt',hsi,hst,aN,aX,bn,cr,bK,cw,bM,bJ,bp,bC,bF,bc,hne,ne_eq,hne',hl5,iNq,cy,ct,i1,Int.reduceLE,eq_self,nFq,hg,hp,hs0,if_false,hcs,bG,hgd,d0,iS,ej,ey,fX,hp,hgi1,hgt1,hss,ht5,g7,fV,fu,bne_self_eq_false,beq_self_eq_true,hd2,hw,htr]
       simp only [lAq,yaz,yba,nzq] at hc3 ⊢
       refine ⟨by omega,?_⟩
       exact Z15
      ·have htr:kp x=.tup [fu 0 0,.bool false]:=by unfold kp;rw [if_neg hx1,if_neg hx2]
       have hp1:p+1≤l.length:=by omega
       cases hs3:isS l (p+1) [58,58] with
       |false =>
        have hr:eD l p t=.ok t.length (p+1) (t++[⟨3,0,0,x,[],0⟩]):=by unfold eD;rw [hge];simp [hx1,hx2,hs3]
        rw [hr]
        have hc3:=hcl2 (p+1) (t++[⟨3,0,0,x,[],0⟩])
        simp only [go_sem,f1,f2,hgi,hgt',hsi,hst,aN,aX,bn,cr,bK,cw,bM,bJ,bp,bC,bF,bc,hne,ne_eq,hne',hl5,iNq,cy,ct,i1,Int.reduceLE,eq_self,nFq,hg,hp,hs0,if_false,hcs,bG,hgd,d0,iS,ej,ey,fX,hp,hgi1,hgt1,hss,ht5,g7,fV,fu,bne_self_eq_false,beq_self_eq_true,hd2,hw,htr,hp1,hs3]
        simp only [lAq,yaz,yba,nzq] at hc3 ⊢
        refine ⟨by omega,?_⟩
        exact Z15
       |true =>
        have hlt3:=dW hs3
        have hp2:p+1+1≤l.length:=by omega
        have hp3:p+2=p+1+1:=rfl
        cases hw2:mB l (p+1+1) with
        |none =>
         have hr:eD l p t=.bad (p+1+1):=by
          unfold eD;rw [hge];simp [hx1,hx2,hs3]
          unfold mB at hw2
          cases hge2:l[p+1+1]? with
          |none=>rfl
          |some v =>
           obtain ⟨k2,y,z2⟩:=v
           rw [hge2] at hw2
           dsimp only at hw2 ⊢
           split at hw2
           ·cases hw2
           ·rename_i hk;rw [if_neg hk]
         rw [hr]
         simp only [go_sem,f1,f2,hgi,hgt',hsi,hst,aN,aX,bn,cr,bK,cw,bM,bJ,bp,bC,bF,bc,hne,ne_eq,hne',hl5,iNq,cy,ct,i1,Int.reduceLE,eq_self,nFq,hg,hp,hs0,if_false,hcs,bG,hgd,d0,iS,ej,ey,fX,hp,hgi1,hgt1,hss,ht5,g7,fV,fu,bne_self_eq_false,beq_self_eq_true,hd2,hw,htr,hp1,hs3,if_true,hp2,hw2]
         refine ⟨by omega,?_⟩
         simp (disch:=first|exact Zd|omega) [↓zmo,beq,ybc,ybd,ybe,ae,wk,wk2,wk1,wkM,wkL,ah,ybf,gP hcl,zmw,fU,dd_le1,fa]
         exact (dd_le1.push _).push _
        |some y =>
         have hr:eD l p t=.ok t.length (p+1+1+1) (t++[⟨3,0,0,x,y,0⟩]):=by
          unfold eD;rw [hge];simp [hx1,hx2,hs3]
          unfold mB at hw2
          cases hge2:l[p+1+1]? with
          |none=>rw [hge2] at hw2;cases hw2
          |some v =>
           obtain ⟨k2,y2,z2⟩:=v
           rw [hge2] at hw2
           dsimp only at hw2 ⊢
           split at hw2
           ·rename_i hk;cases hw2;rw [if_pos hk]
           ·cases hw2
         rw [hr]
         have hc3:=hcl2 (p+1+1+1) (t++[⟨3,0,0,x,y,0⟩])
         simp only [go_sem,f1,f2,hgi,hgt',hsi,hst,aN,aX,bn,cr,bK,cw,bM,bJ,bp,bC,bF,bc,hne,ne_eq,hne',hl5,iNq,cy,ct,i1,Int.reduceLE,eq_self,nFq,hg,hp,hs0,if_false,hcs,bG,hgd,d0,iS,ej,ey,fX,hp,hgi1,hgt1,hss,ht5,g7,fV,fu,bne_self_eq_false,beq_self_eq_true,hd2,hw,htr,hp1,hs3,if_true,hp2,hw2]
         simp only [lAq,yaz,yba,nzq] at hc3 ⊢
         refine ⟨by omega,?_⟩
         exact Z15
    ·have hw:mB l p=none:=by unfold mB;rw [hge];dsimp only;rw [if_neg hk2]
     have hr:eD l p t=.bad p:=by unfold eD;rw [hge];simp [hk1,hk2]
     rw [hr]
     simp only [go_sem,f1,f2,hgi,hgt',hsi,hst,aN,aX,bn,cr,bK,cw,bM,bJ,bp,bC,bF,bc,hne,ne_eq,hne',hl5,iNq,cy,ct,i1,Int.reduceLE,eq_self,nFq,hg,hp,hs0,if_false,hcs,bG,hgd,d0,iS,ej,ey,fX,hp,hgi1,hgt1,hss,ht5,g7,fV,fu,bne_self_eq_false,beq_self_eq_true,d1,hw]
     refine ⟨by omega,?_⟩
     exact Z14
  ·have hpe:p=l.length:=by omega
   subst hpe
   have hge:l[l.length]?=none:=gNq (nrq _)
   have hw:mB l l.length=none:=by unfold mB;rw [hge]
   have hr:eD l l.length t=.bad l.length:=by unfold eD;rw [hge]
   have d0:decide ((l.length:Int)<(l.length:Int))=false:=by simp
   rw [hr]
   simp only [go_sem,f1,f2,hgi,hgt',hsi,hst,aN,aX,bn,cr,bK,cw,bM,bJ,bp,bC,bF,bc,hne,ne_eq,hne',hl5,iNq,cy,ct,i1,Int.reduceLE,eq_self,nFq,hg,hp,hs0,if_false,hcs,bG,d0,iS,ej,ey,fX,hp,hgi1,hgt1,hss,ht5,g7,fV,fu,bne_self_eq_false,beq_self_eq_true,hw,nrq]
   exact Z14
end Go.AL
