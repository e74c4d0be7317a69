/- Contracts and plain laws, a part of the proof; no condition of its own. -/
import Derived.Test.YtokjjhidigoodaaE06
import Derived.Test.YtokjjhidigoodaaLSyn
set_option maxHeartbeats 32000000
open List renaming map_cons → yae, length_cons → yaz, length_nil → yba, take_of_length_le → ybc, drop_append → ybd, take_append → ybe, drop_eq_nil_of_le → ybf
open Go Go.AL Go.Proofs
namespace Go.AL
set_option linter.all false
set_option maxRecDepth 10000
theorem Cy:ti Try.prog 113=some ⟨.struct [(0,3,false),(1,3,false),(2,3,false),(3,9,false),(4,9,false),(5,95,false)],7,72,.agg [.int .i64 0,.int .i64 0,.int .i64 0,.str [],.str [],.int .u64 0,.int .u64 0]⟩:=by kernel_rfl
theorem A0:ti Try.prog 73=some ⟨.slice 113,1,24,.slice .nil 1 []⟩:=by kernel_rfl
theorem w6:ti Try.prog 191=some ⟨.struct [(0,114,false),(1,3,false),(2,73,false)],3,56,.agg [.slice .nil 1 [],.int .i64 0,.slice .nil 1 []]⟩:=by kernel_rfl
theorem sV:ti Try.prog 212=some ⟨.struct [(0,3,false),(1,9,false)],2,24,.agg [.int .i64 0,.str []]⟩:=by kernel_rfl
theorem ri:ti Try.prog 209=some ⟨.slice 212,1,24,.slice .nil 1 []⟩:=by kernel_rfl
theorem zg:ti Try.prog 188=some ⟨.int .i64,1,8,.int .i64 0⟩:=by kernel_rfl
attribute [go_sem] Cy A0 w6 sV ri zg
def mA (n:Nd):AV:=.agg [.int .i64 (n.op:Int),.int .i64 (n.a:Int),.int .i64 (n.b:Int),.str n.name,.str n.attr,.int .u64 ((n.v/2^64:Nat):Int),.int .u64 ((n.v % 2^64:Nat):Int)]
def nds (t:List Nd):List AV:=t.map mA
theorem aJ {t:List Nd}:(nds t).length=t.length:=by simp [nds]
theorem y9 {t:List Nd} {n:Nd}:nds t++[mA n]=nds (t++[n]):=by simp [nds]
theorem mq {n:Nat} {m:Mark} {t:List Nd}:AV.lt n (.slice m 7 (nds t))=∀ id,m=.own id→id<n:=by
 rw [AV.lt]
 refine propext ⟨fun h=>h.1,fun h=>⟨h,fun j hj=>?_⟩⟩
 simp only [nds,List.getElem_map,mA]
 simp [znn,znq,znr,znb,znd]
theorem tG {n:Nat} {m:Mark} {l:List Tok}:AV.lt n (.slice m 3 (cV l))=∀ id,m=.own id→id<n:=by
 rw [AV.lt]
 refine propext ⟨fun h=>h.1,fun h=>⟨h,fun j hj=>?_⟩⟩
 simp only [cV,List.getElem_map,sm]
 simp [znn,znq,znr,znb,znd]
theorem sH:∀ {l l':List Tok},cV l=cV l'→l=l'
 |[],[],_=>rfl
 |[],_::_,h=>by cases h
 |_::_,[],h=>by cases h
 |(a,b,c)::l,(a',b',c')::l',h=>by
  simp only [cV,yae,List.cons.injEq,sm,AV.agg.injEq,AV.int.injEq,AV.str.injEq,true_and,and_true] at h
  obtain ⟨⟨h1,h2,h3⟩,h4⟩:=h
  rw [sH h4]
  congr 1
  simp only [Prod.mk.injEq]
  exact ⟨by omega,h2,by omega⟩
theorem wl:∀ {l l':List Nd},nds l=nds l'→l=l'
 |[],[],_=>rfl
 |[],_::_,h=>by cases h
 |_::_,[],h=>by cases h
 |⟨a1,a2,a3,a4,a5,a6⟩::l,⟨b1,b2,b3,b4,b5,b6⟩::l',h=>by
  simp only [nds,yae,List.cons.injEq,mA,AV.agg.injEq,AV.int.injEq,AV.str.injEq,true_and,and_true] at h
  obtain ⟨⟨h1,h2,h3,h4,h5,h6,h7⟩,h8⟩:=h
  rw [wl h8]
  congr 1
  simp only [Nd.mk.injEq]
  exact ⟨by omega,by omega,by omega,h4,h5,by omega⟩
def rM (v:AV) (Kp:AV→AHeap→Prop) (H:AHeap):Prop:=match v with
 |.iface t v=>Kp (.iface t v) H
 |_=>False
@[congr] theorem B0 {v v':AV} {Kp:AV→AHeap→Prop} {H:AHeap} (h:v=v'):rM v Kp H=rM v' Kp H:=by rw [h]
theorem sj {t:TypeId} {v:AV} {Kp:AV→AHeap→Prop} {H:AHeap}:rM (.iface t v) Kp H=Kp (.iface t v) H:=rfl
theorem zn {P:Program} {Ω:Tbl} {ops:Array Oper} {rest:List Oper} {K:Fr→AHeap→Prop} {Kp:Fr→AV→AHeap→Prop} {fr:Fr} {H:AHeap} {d:Option Tmp} {x:Operand} {t:TypeId} {pos:String} {aft:Array Edge} :
 aR P Ω ops (Oper.mk d (.panic x) t pos aft none::rest) K Kp fr H=rM (ev fr x) (Kp fr) H:=(rfl)
/-- the parser in memory -/
def pst (m:Mark) (l:List Tok) (p tb:Nat) (t:List Nd):AObj:=.cells [.slice m 3 (cV l),.int .i64 (p:Int),.slice (.own tb) 7 (nds t)]
def onP (o:Option AObj) (K:Mark→List Tok→Nat→Nat→List Nd→Prop):Prop:=∃ m l p tb t,o=some (pst m l p tb t)∧K m l p tb t
@[congr] theorem DV {o o':Option AObj} {K:Mark→List Tok→Nat→Nat→List Nd→Prop} (h:o=o'):onP o K=onP o' K:=by rw [h]
theorem aE {m:Mark} {l:List Tok} {p tb:Nat} {t:List Nd} {K:Mark→List Tok→Nat→Nat→List Nd→Prop}:onP (some (pst m l p tb t)) K=K m l p tb t:=by
 refine propext ⟨fun ⟨m',l',p',tb',t',h,hk⟩=>?_,fun h=>⟨m,l,p,tb,t,rfl,h⟩⟩
 simp only [pst,Option.some.injEq,AObj.cells.injEq,List.cons.injEq,AV.slice.injEq,AV.int.injEq,Mark.own.injEq,true_and,and_true] at h
 obtain ⟨⟨rfl,h1⟩,h2,rfl,h3⟩:=h
 have:=sH h1
 have:=wl h3
 have:p=p':=by omega
 subst_vars
 exact hk
theorem qb {m:Mark} {l:List Tok} {p tb:Nat} {t:List Nd} {K:Mark→List Tok→Nat→Nat→List Nd→Prop}:onP (some (.cells [.slice m 3 (cV l),.int .i64 (p:Int),.slice (.own tb) 7 (nds t)])) K=K m l p tb t:=aE
def db:List AV→AHeap→(AEnd→AHeap→Prop)→Prop
 |[.ptr id 0],H,K=>onP (H.get id) fun m l p tb t=>K (.panic (.iface 188 (.int .i64 (p:Int)))) H
 |_,_,_=>False
theorem iz:EntOk Try.prog 78 (Ent.effect db):=by
 refine EntOk.effect fun args H K h=>?_
 unfold db at h
 split at h
 rotate_left
 ·exact h.elim
 rename_i id
 obtain ⟨m,l,p,tb,t,hg,hK⟩:=h
 refine ⟨_,_,hK,?_⟩
 clear hK
 refine ACalls.fW aD TblOk.nil Try.func78 [] (Nat.le_refl _) (T:=az []) (h:=fun hcl hlt=>?_)
 clear hlt
 have hcs:=ai (cs:=[.slice m 3 (cV l),.int .i64 (p:Int),.slice (.own tb) 7 (nds t)]) hg
 simp only [go_sem,hcs,↓zn,sj]
 simp (disch:=first|assumption|omega|(simp;done)|(simp;omega)|(simp only [bt,and_true];first|done|omega|(simp;done))) [↓zmk,beq,ybc,ybd,ybe,ag,wk,wk2,wk1,wkM,wkL,am,ybf,hcl]
def a8:List AV→AHeap→(AEnd→AHeap→Prop)→Prop
 |[.ptr id 0,.agg [.int .i64 op,.int .i64 a,.int .i64 b,.str nm,.str att,.int .u64 hi,.int .u64 lo]],H,K=>onP (H.get id) fun m l p tb t =>
   (0≤op∧0≤a∧0≤b∧AW hi lo∧id≠tb∧H.get tb=some (.buf 7 t.length)∧t.length≤100000) ∧
   K (.ret (.int .i64 (t.length:Int))) ((H.set id (pst m l p tb (t++[⟨op.toNat,a.toNat,b.toNat,nm,att,vOf hi.toNat lo.toNat⟩]))).set tb (.buf 7 (t.length+1)))
 |_,_,_=>False
theorem fA {H:AHeap} {id:Nat} {m:Mark} {l:List Tok} {p tb:Nat} {t:List Nd} (hg:H.get id=some (pst m l p tb t)) (hcl:H.Closed) (p':Nat) (t':List Nd):(H.set id (pst m l p' tb t')).Closed:=by
 have h0:=hcl id _ hg 0 (by simp)
 have h2:=hcl id _ hg 2 (by simp)
 simp only [List.getElem_cons_zero,List.getElem_cons_succ,tG,mq] at h0 h2
 refine ah hcl ?_
 simp only [znq,znr,tG,mq,znb,and_true,true_and]
 exact ⟨h0,h2⟩
theorem mc {H:AHeap} {i j:Nat} (h:i≠j) (o c:AObj):(H.set j o).set i c=(H.set i c).set j o:=by
 simp only [AHeap.set]
 congr 1
 funext k
 by_cases h1:k=i
 ·subst h1;simp [h]
 ·simp [h1]
theorem cQ {H:AHeap} {i j:Nat} (h:i≠j) (o:AObj):aA (H.set j o) i=aA H i:=by
 unfold aA;rw [AHeap.get_set_ne _ _ h]
theorem gx:EntOk Try.prog 92 (Ent.effect a8):=by
 refine EntOk.effect fun args H K h=>?_
 unfold a8 at h
 split at h
 rotate_left
 ·exact h.elim
 rename_i id op a b nm att hi lo
 obtain ⟨m,l,p,tb,t,hg,⟨h1,h2,h3,⟨h4,h5,h6,h7⟩,hne,htb,htl⟩,hK⟩:=h
 refine ⟨_,_,hK,?_⟩
 clear hK
 obtain ⟨op,rfl⟩:=eB h1
 obtain ⟨a,rfl⟩:=eB h2
 obtain ⟨b,rfl⟩:=eB h3
 obtain ⟨hi,rfl⟩:=eB h4
 obtain ⟨lo,rfl⟩:=eB h6
 simp only [Int.toNat_natCast]
 refine ACalls.fW aD TblOk.nil Try.func92 [.tmp 4] (Nat.le_refl _) (T:=az [(1,[[],[],[],[],[],[],[5],[4,5],[],[],[4,5]])]) (h:=fun hcl hlt=>?_)
 clear hlt
 have hid:=AHeap.get_lt hg
 have htbl:=AHeap.get_lt htb
 have hcs:=ai (cs:=[.slice m 3 (cV l),.int .i64 (p:Int),.slice (.own tb) 7 (nds t)]) hg
 have f1:=c9 hid
 have f2:=c9 htbl
 have g1:(id=tb)=False:=eq_false hne
 have g2:(tb=id)=False:=eq_false fun e=>hne e.symm
 have e1:nds t++[AV.agg [.int .i64 (op:Int),.int .i64 (a:Int),.int .i64 (b:Int),.str nm,.str att,.int .u64 (hi:Int),.int .u64 (lo:Int)]]=nds (t++[⟨op,a,b,nm,att,vOf hi lo⟩]):=by
  rw [← y9];unfold mA;simp only;rw [oa (by omega),vo (by omega)]
 have e2:IntKind.i64.wrap (((t.length+1:Nat):Int) - 1)=(t.length:Int):=by rw [wrap_i64]<;>omega
 have hcl1:=fA hg hcl p (t++[⟨op,a,b,nm,att,vOf hi lo⟩])
 have hcl2:((H.set id (pst m l p tb (t++[⟨op,a,b,nm,att,vOf hi lo⟩]))).set tb (.buf 7 (t.length+1))).Closed:=aa hcl1
 have s1:=mc (H:=H) hne
 have s2:=fun o=>(cQ (H:=H) hne o).trans hcs
 have s3:∀ o cs,aA ((H.set id (.cells cs)).set tb o) id=some cs:=fun o cs=>by rw [cQ hne,eZ hid,if_pos rfl]
 simp only [go_sem,hcs,aJ,f1,f2,g1,g2,htb,aq,if_pos htbl,e1,s1,s2,s3,e2,List.length_append]
 refine ⟨⟨by omega,by omega,by simp [aW,AV.cells,AV.one]⟩,?_⟩
 simp only [pst] at hcl2 ⊢
 simp (disch:=first|assumption|omega|(simp;done)|(simp;omega)|(simp only [bt,and_true];first|done|omega|(simp;done))) [↓zmk,beq,ybc,ybd,ybe,ag,wk,wk2,wk1,wkM,wkL,am,ybf,hcl2,htbl,mq]
 trace_state
theorem CZ {l:List Tok} {p k z:Nat} {x s:List UInt8} (hp:p<l.length) (h:l[p]=(k,x,z)):isS l p s=(k==3&&x==s):=by
 unfold isS;rw [List.getElem?_eq_getElem hp,h]
theorem Bz {l:List Tok} {p:Nat} {s:List UInt8} (hp:l.length≤p):isS l p s=false:=by
 unfold isS;rw [List.getElem?_eq_none hp]
theorem nF {l:List Tok} {p k z:Nat} {x:List UInt8} (hp:p<l.length) (h:l[p]=(k,x,z)):(cV l).getD p .junk=.agg [.int .i64 (k:Int),.str x,.int .i64 (z:Int)]:=by
 rw [z4 hp,h];rfl
def aZ:List AV→AHeap→(AEnd→AHeap→Prop)→Prop
 |[.ptr id 0,.str s],H,K=>onP (H.get id) fun m l p tb t=>(p≤l.length∧l.length≤100000) ∧
   if isS l p s=true then K (.ret (.bool true)) (H.set id (pst m l (p+1) tb t)) else K (.ret (.bool false)) H
 |_,_,_=>False
theorem ik:EntOk Try.prog 91 (Ent.effect aZ):=by
 refine EntOk.effect fun args H K h=>?_
 unfold aZ at h
 split at h
 rotate_left
 ·exact h.elim
 rename_i id s
 obtain ⟨m,l,p,tb,t,hg,⟨hp,hl⟩,hK⟩:=h
 have hid:=AHeap.get_lt hg
 have hcs:=ai (cs:=[.slice m 3 (cV l),.int .i64 (p:Int),.slice (.own tb) 7 (nds t)]) hg
 have e1:IntKind.i64.wrap ((p:Int)+1)=((p+1:Nat):Int):=by rw [wrap_i64]<;>omega
 by_cases hlt0:p<l.length
 ·rcases htk:l[p] with ⟨k,x,z⟩
  have hgd:=nF hlt0 htk
  rw [CZ hlt0 htk] at hK
  have d1:((p:Int)==(l.length:Int))=false:=by simp;omega
  by_cases hk:k=3
  ·subst hk
   by_cases hx:x=s
   ·subst hx
    simp only [beq_self_eq_true,Bool.and_self,if_true] at hK
    refine ⟨_,_,hK,?_⟩
    clear hK
    refine ACalls.fW aD TblOk.nil Try.func91 [.tmp 4] (Nat.le_refl _) (T:=az []) (h:=fun hcl hlt=>?_)
    clear hlt
    have hcl1:=fA hg hcl (p+1) t
    simp only [go_sem,hcs,bc,hgd,d1,Int.toNat_natCast,e1,beq_self_eq_true,bne_self_eq_false]
    refine ⟨by omega,wE rfl ⟨by omega,?_⟩⟩
    change ag (H.set id (pst m l (p+1) tb t)) _ _ _
    simp (disch:=first|assumption|omega|(simp;done)|(simp;omega)|(simp only [bt,and_true];first|done|omega|(simp;done))) [↓zmk,beq,ybc,ybd,ybe,ag,wk,wk2,wk1,wkM,wkL,am,ybf,hcl1]
   ·have d3:(x==s)=false:=by simpa using hx
    rw [d3,Bool.and_false,if_neg (by simp)] at hK
    refine ⟨_,_,hK,?_⟩
    clear hK
    refine ACalls.fW aD TblOk.nil Try.func91 [.tmp 4] (Nat.le_refl _) (T:=az []) (h:=fun hcl hlt=>?_)
    clear hlt
    simp only [go_sem,hcs,bc,hgd,d1,d3,Int.toNat_natCast,e1,beq_self_eq_true,bne_self_eq_false]
    refine ⟨by omega,wE rfl ⟨by omega,?_⟩⟩
    simp (disch:=first|assumption|omega|(simp;done)|(simp;omega)|(simp only [bt,and_true];first|done|omega|(simp;done))) [↓zmk,beq,ybc,ybd,ybe,ag,wk,wk2,wk1,wkM,wkL,am,ybf,hcl]
  ·have d3:(k==3)=false:=by simpa using hk
   rw [d3,Bool.false_and,if_neg (by simp)] at hK
   refine ⟨_,_,hK,?_⟩
   clear hK
   refine ACalls.fW aD TblOk.nil Try.func91 [.tmp 4] (Nat.le_refl _) (T:=az []) (h:=fun hcl hlt=>?_)
   clear hlt
   have d4:((k:Int) != 3)=true:=by simp;omega
   simp only [go_sem,hcs,bc,hgd,d1,d4,Int.toNat_natCast,e1,beq_self_eq_true,bne_self_eq_false]
   refine ⟨by omega,?_⟩
   simp (disch:=first|assumption|omega|(simp;done)|(simp;omega)|(simp only [bt,and_true];first|done|omega|(simp;done))) [↓zmk,beq,ybc,ybd,ybe,ag,wk,wk2,wk1,wkM,wkL,am,ybf,hcl]
 ·have hpe:p=l.length:=by omega
  subst hpe
  rw [Bz (Nat.le_refl _),if_neg (by simp)] at hK
  refine ⟨_,_,hK,?_⟩
  clear hK
  refine ACalls.fW aD TblOk.nil Try.func91 [.tmp 4] (Nat.le_refl _) (T:=az []) (h:=fun hcl hlt=>?_)
  clear hlt
  simp only [go_sem,hcs,bc,beq_self_eq_true]
  simp (disch:=first|assumption|omega|(simp;done)|(simp;omega)|(simp only [bt,and_true];first|done|omega|(simp;done))) [↓zmk,beq,ybc,ybd,ybe,ag,wk,wk2,wk1,wkM,wkL,am,ybf,hcl]
def jv (l:List Tok) (p:Nat):Option (List UInt8):=match l[p]? with
 |none=>none
 |some (k,x,_)=>if k=2 then some x else none
def onW (o:Option (List UInt8)) (K1:List UInt8→Prop) (K2:Prop):Prop:=match o with
 |some x=>K1 x
 |none=>K2
@[congr] theorem DX {o o':Option (List UInt8)} {K1:List UInt8→Prop} {K2:Prop} (h:o=o'):onW o K1 K2=onW o' K1 K2:=by rw [h]
theorem fe {x:List UInt8} {K1:List UInt8→Prop} {K2:Prop}:onW (some x) K1 K2=K1 x:=rfl
theorem eJ {K1:List UInt8→Prop} {K2:Prop}:onW none K1 K2=K2:=rfl
def fR:List AV→AHeap→(AEnd→AHeap→Prop)→Prop
 |[.ptr id 0,.int .i64 kd],H,K=>onP (H.get id) fun m l p tb t=>(kd=2∧p≤l.length∧l.length≤100000) ∧
   onW (jv l p) (fun x=>K (.ret (.str x)) (H.set id (pst m l (p+1) tb t))) (K (.panic (.iface 188 (.int .i64 (p:Int)))) H)
 |_,_,_=>False
theorem yN:EntOk Try.prog 104 (Ent.effect fR):=by
 refine EntOk.effect fun args H K h=>?_
 unfold fR at h
 split at h
 rotate_left
 ·exact h.elim
 rename_i id kd
 obtain ⟨m,l,p,tb,t,hg,⟨rfl,hp,hl⟩,hK⟩:=h
 have hid:=AHeap.get_lt hg
 have hcs:=ai (cs:=[.slice m 3 (cV l),.int .i64 (p:Int),.slice (.own tb) 7 (nds t)]) hg
 have e1:IntKind.i64.wrap ((p:Int)+1)=((p+1:Nat):Int):=by rw [wrap_i64]<;>omega
 have e2:IntKind.i64.wrap (((p+1:Nat):Int) - 1)=(p:Int):=by rw [wrap_i64]<;>omega
 unfold jv at hK
 by_cases hlt0:p<l.length
 ·rcases htk:l[p] with ⟨k,x,z⟩
  have hgd:=nF hlt0 htk
  rw [List.getElem?_eq_getElem hlt0,htk] at hK
  dsimp only at hK
  have d1:((p:Int)==(l.length:Int))=false:=by simp;omega
  by_cases hk:k=2
  ·subst hk
   rw [if_pos rfl,fe] at hK
   refine ⟨_,_,hK,?_⟩
   clear hK
   refine ACalls.fW aD (TblOk.cons iz TblOk.nil) Try.func104 [.tmp 4] (by simp [zlb]) (T:=az []) (h:=fun hcl hlt=>?_)
   clear hlt
   have hcl1:=fA hg hcl (p+1) t
   simp only [go_sem,hcs,bc,hgd,d1,Int.toNat_natCast,e1,e2,eZ hid,beq_self_eq_true,bne_self_eq_false]
   refine ⟨by omega,q8 rfl ?_⟩
   simp only [go_sem,hcs,bc,hgd,d1,Int.toNat_natCast,e1,e2,eZ hid,beq_self_eq_true,bne_self_eq_false]
   refine ⟨by omega,?_⟩
   change ag (H.set id (pst m l (p+1) tb t)) _ _ _
   simp (disch:=first|assumption|omega|(simp;done)|(simp;omega)|(simp only [bt,and_true];first|done|omega|(simp;done))) [↓zmk,beq,ybc,ybd,ybe,ag,wk,wk2,wk1,wkM,wkL,am,ybf,hcl1]
  ·have d3:(k==2)=false:=by simpa using hk
   rw [if_neg hk,eJ] at hK
   refine ⟨_,_,hK,?_⟩
   clear hK
   refine ACalls.fW aD (TblOk.cons iz TblOk.nil) Try.func104 [.tmp 4] (Nat.le_refl _) (T:=az []) (h:=fun hcl hlt=>?_)
   clear hlt
   have d4:((k:Int) != 2)=true:=by simp;omega
   simp only [go_sem,hcs,bc,hgd,d1,d4,Int.toNat_natCast,e1,db,hg,aE]
   refine ⟨by omega,?_⟩
   simp (disch:=first|assumption|omega|(simp;done)|(simp;omega)|(simp only [bt,and_true];first|done|omega|(simp;done))) [↓zmk,beq,ybc,ybd,ybe,ag,wk,wk2,wk1,wkM,wkL,am,ybf,hcl]
 ·have hpe:p=l.length:=by omega
  subst hpe
  rw [List.getElem?_eq_none (Nat.le_refl _)] at hK
  dsimp only at hK
  rw [eJ] at hK
  refine ⟨_,_,hK,?_⟩
  clear hK
  refine ACalls.fW aD (TblOk.cons iz TblOk.nil) Try.func104 [.tmp 4] (Nat.le_refl _) (T:=az []) (h:=fun hcl hlt=>?_)
  clear hlt
  simp only [go_sem,hcs,bc,beq_self_eq_true,db,hg,aE]
  simp (disch:=first|assumption|omega|(simp;done)|(simp;omega)|(simp only [bt,and_true];first|done|omega|(simp;done))) [↓zmk,beq,ybc,ybd,ybe,ag,wk,wk2,wk1,wkM,wkL,am,ybf,hcl]
def fy (l:List (Nat × List UInt8)):List AV:=l.map fun o=>.agg [.int .i64 (o.1:Int),.str o.2]
theorem fg {l:List (Nat × List UInt8)}:(fy l).length=l.length:=by simp [fy]
theorem qk:∀ {l l':List (Nat × List UInt8)},fy l=fy l'→l=l'
 |[],[],_=>rfl
 |[],_::_,h=>by cases h
 |_::_,[],h=>by cases h
 |(a,b)::l,(a',b')::l',h=>by
  simp only [fy,yae,List.cons.injEq,AV.agg.injEq,AV.int.injEq,AV.str.injEq,true_and,and_true] at h
  obtain ⟨⟨h1,h2⟩,h4⟩:=h
  rw [qk h4]
  congr 1
  simp only [Prod.mk.injEq]
  exact ⟨by omega,h2⟩
theorem cS {n:Nat} {l:List (Nat × List UInt8)}:AV.lt n (.slice .any 2 (fy l)):=fY fun x hx=>by
 simp only [fy,List.mem_map] at hx
 obtain ⟨o,_,rfl⟩:=hx
 simp [znn,znq,znr,znb,znd]
theorem Br:[AV.agg [.int .i64 8,.str [61,61]],.agg [.int .i64 9,.str [33,61]],.agg [.int .i64 10,.str [60]],.agg [.int .i64 11,.str [60,61]],.agg [.int .i64 12,.str [62]],.agg [.int .i64 13,.str [62,61]]]=fy opsC:=rfl
theorem BQ:[AV.agg [.int .i64 6,.str [43]],.agg [.int .i64 7,.str [45]]]=fy opsS:=rfl
def du:List AV→AHeap→(AV→Prop)→Prop
 |[],_,K=>K (.slice .any 2 (fy opsC))
 |_,_,_=>False
theorem re:EntOk Try.prog 99 (Ent.pure du):=by
 refine EntOk.pure fun args H K h=>?_
 unfold du at h
 split at h
 rotate_left
 ·exact h.elim
 refine ⟨_,h,?_⟩
 clear h
 refine ACalls.fW aD TblOk.nil Try.func99 [.tmp 0] (Nat.le_refl _) (T:=az []) (h:=fun hcl hlt=>?_)
 clear hlt
 simp only [go_sem,Br]
 simp (disch:=first|assumption|omega|(simp;done)|(simp;omega)|(simp only [bt,and_true];first|done|omega|(simp;done))) [↓zmk,beq,ybc,ybd,ybe,ag,wk,wk2,wk1,wkM,wkL,am,ybf,hcl,cS]
def ib:List AV→AHeap→(AV→Prop)→Prop
 |[],_,K=>K (.slice .any 2 (fy opsS))
 |_,_,_=>False
theorem Ad:EntOk Try.prog 101 (Ent.pure ib):=by
 refine EntOk.pure fun args H K h=>?_
 unfold ib at h
 split at h
 rotate_left
 ·exact h.elim
 refine ⟨_,h,?_⟩
 clear h
 refine ACalls.fW aD TblOk.nil Try.func101 [.tmp 0] (Nat.le_refl _) (T:=az []) (h:=fun hcl hlt=>?_)
 clear hlt
 simp only [go_sem,BQ]
 simp (disch:=first|assumption|omega|(simp;done)|(simp;omega)|(simp only [bt,and_true];first|done|omega|(simp;done))) [↓zmk,beq,ybc,ybd,ybe,ag,wk,wk2,wk1,wkM,wkL,am,ybf,hcl,cS]
def CM (x:List AV) (K:List (Nat × List UInt8)→Prop):Prop:=∃ l,x=fy l∧K l
theorem fG {l:List (Nat × List UInt8)} {K:List (Nat × List UInt8)→Prop}:CM (fy l) K=K l :=
 propext ⟨fun ⟨l',h,hk⟩=>by rw [qk h];exact hk,fun h=>⟨l,rfl,h⟩⟩
def onN (o:Option Nat) (K1:Nat→Prop) (K2:Prop):Prop:=match o with
 |some x=>K1 x
 |none=>K2
@[congr] theorem DU {o o':Option Nat} {K1:Nat→Prop} {K2:Prop} (h:o=o'):onN o K1 K2=onN o' K1 K2:=by rw [h]
theorem jT {x:Nat} {K1:Nat→Prop} {K2:Prop}:onN (some x) K1 K2=K1 x:=rfl
theorem lM {K1:Nat→Prop} {K2:Prop}:onN none K1 K2=K2:=rfl
def io:List AV→AHeap→(AEnd→AHeap→Prop)→Prop
 |[.ptr id 0,.slice _ 2 x],H,K=>onP (H.get id) fun m l p tb t=>CM x fun ops=>(p≤l.length∧l.length≤100000∧ops.length≤100) ∧
   onN (gW l p ops) (fun k=>K (.ret (.int .i64 (k:Int))) (H.set id (pst m l (p+1) tb t))) (K (.ret (.int .i64 0)) H)
 |_,_,_=>False
theorem pZ {l:List (Nat × List UInt8)} {k:Nat} (h:k<l.length):(fy l).getD k .junk=.agg [.int .i64 (l[k].1:Int),.str l[k].2]:=by simp [fy,List.getD_eq_getElem?_getD,h]
theorem tL:EntOk Try.prog 98 (Ent.effect io):=by
 refine EntOk.effect fun args H K h=>?_
 unfold io at h
 split at h
 rotate_left
 ·exact h.elim
 rename_i id mo x
 obtain ⟨m,l,p,tb,t,hg,ops,rfl,⟨hp,hl,ho⟩,hK⟩:=h
 have hid:=AHeap.get_lt hg
 have f1:=c9 hid
 cases hop:gW l p ops with
 |some k =>
  rw [hop,jT] at hK
  refine ⟨_,_,hK,?_⟩
  clear hK
  refine ACalls.fW aD (TblOk.cons ik TblOk.nil) Try.func98 [.tmp 4] (by simp [zlb]) (T:=az []) (h:=fun hcl hlt=>?_)
  have hltm:∀ n',H.nx≤n'→AV.lt n' (.slice .any 2 (fy ops)):=fun n' _=>cS
  clear hlt
  have hcl1:=fA hg hcl (p+1) t
  simp only [go_sem,fg]
  refine aB (A:=Nat) (fun i=>[(9,.int .i64 (i:Int)),(8,.int .i64 (ops.length:Int)),(7,.slice .any 2 (fy ops)),(0,.ptr id 0)]) (fun _=>H) (fun i=>i≤ops.length∧gW l p (ops.drop i)=some k) (fun i=>ops.length - i) 0 ⟨by omega,hop⟩ ?_ fun i hi=>?_
  ·(simp only [bkq,enterW,aI,ltF,ne_eq,Nat.reduceEqDiff,reduceCtorEq,cS,hid];try simp (disch:=first|assumption|omega|(simp;done)|(simp;omega)|(simp only [bt,and_true];first|done|omega|(simp;done))) [↓zmk,beq,ybc,ybd,ybe,ag,wk,wk2,wk1,wkM,wkL,am,ybf,byq,biq,au,hcl,cS,hid];try (repeat' (first|assumption|omega|exact True.intro|refine And.intro ?_ ?_|refine af ?_|refine aa ?_|refine ae ?_ ?_|refine ah ?_ ?_|refine ak ?_|exact AHeap.Le.refl _|refine AHeap.Le.push ?_ _|refine AHeap.Le.del ?_ ?_|(simp only [bt,and_true,true_and,cS,hid];first|done|omega|(simp;done)))))
  obtain ⟨hi,hop'⟩:=hi
  simp only [go_sem]
  refine ax (fun h1=>?_) (fun h1=>?_)
  ·have hi1:i<ops.length:=by simp at h1;omega
   have e5:IntKind.i64.wrap ((i:Int)+1)=((i+1:Nat):Int):=by rw [wrap_i64]<;>omega
   have hgo:=pZ hi1
   rw [List.drop_eq_getElem_cons hi1] at hop'
   rcases hok:ops[i] with ⟨ko,so⟩
   rw [hok] at hop' hgo
   unfold gW at hop'
   by_cases hs:isS l p so=true
   ·rw [if_pos hs] at hop'
    cases hop'
    simp only [go_sem,Int.toNat_natCast,fg,hgo,aZ,f1,hg,aE,hs,if_true,hp,hl]
    refine ⟨by omega,?_⟩
    simp (disch:=first|assumption|omega|(simp;done)|(simp;omega)|(simp only [bt,and_true];first|done|omega|(simp;done))) [↓zmk,beq,ybc,ybd,ybe,ag,wk,wk2,wk1,wkM,wkL,am,ybf,hcl1]
   ·rw [if_neg hs] at hop'
    have hs':isS l p so=false:=by simpa using hs
    simp only [go_sem,Int.toNat_natCast,fg,hgo,aZ,f1,hg,aE,hs',if_false,hp,hl,e5]
    refine ⟨by omega,i+1,⟨by omega,hop'⟩,by omega,?_⟩
    (simp only [bkq,enterW,aI,ltF,ne_eq,Nat.reduceEqDiff,reduceCtorEq,cS,hid];try simp (disch:=first|assumption|omega|(simp;done)|(simp;omega)|(simp only [bt,and_true];first|done|omega|(simp;done))) [↓zmk,beq,ybc,ybd,ybe,ag,wk,wk2,wk1,wkM,wkL,am,ybf,byq,biq,au,hcl,cS,hid];try (repeat' (first|assumption|omega|exact True.intro|refine And.intro ?_ ?_|refine af ?_|refine aa ?_|refine ae ?_ ?_|refine ah ?_ ?_|refine ak ?_|exact AHeap.Le.refl _|refine AHeap.Le.push ?_ _|refine AHeap.Le.del ?_ ?_|(simp only [bt,and_true,true_and,cS,hid];first|done|omega|(simp;done)))))
  ·exfalso
   have hi1:ops.length≤i:=by simp at h1;omega
   rw [ybf hi1] at hop'
   cases hop'
 |none =>
  rw [hop,lM] at hK
  refine ⟨_,_,hK,?_⟩
  clear hK
  refine ACalls.fW aD (TblOk.cons ik TblOk.nil) Try.func98 [.tmp 4] (Nat.le_refl _) (T:=az []) (h:=fun hcl hlt=>?_)
  clear hlt
  simp only [go_sem,fg]
  refine aB (A:=Nat) (fun i=>[(9,.int .i64 (i:Int)),(8,.int .i64 (ops.length:Int)),(7,.slice .any 2 (fy ops)),(0,.ptr id 0)]) (fun _=>H) (fun i=>i≤ops.length∧gW l p (ops.drop i)=none) (fun i=>ops.length - i) 0 ⟨by omega,hop⟩ ?_ fun i hi=>?_
  ·(simp only [bkq,enterW,aI,ltF,ne_eq,Nat.reduceEqDiff,reduceCtorEq,cS,hid];try simp (disch:=first|assumption|omega|(simp;done)|(simp;omega)|(simp only [bt,and_true];first|done|omega|(simp;done))) [↓zmk,beq,ybc,ybd,ybe,ag,wk,wk2,wk1,wkM,wkL,am,ybf,byq,biq,au,hcl,cS,hid];try (repeat' (first|assumption|omega|exact True.intro|refine And.intro ?_ ?_|refine af ?_|refine aa ?_|refine ae ?_ ?_|refine ah ?_ ?_|refine ak ?_|exact AHeap.Le.refl _|refine AHeap.Le.push ?_ _|refine AHeap.Le.del ?_ ?_|(simp only [bt,and_true,true_and,cS,hid];first|done|omega|(simp;done)))))
  obtain ⟨hi,hop'⟩:=hi
  simp only [go_sem]
  refine ax (fun h1=>?_) (fun h1=>?_)
  ·have hi1:i<ops.length:=by simp at h1;omega
   have e5:IntKind.i64.wrap ((i:Int)+1)=((i+1:Nat):Int):=by rw [wrap_i64]<;>omega
   have hgo:=pZ hi1
   rw [List.drop_eq_getElem_cons hi1] at hop'
   rcases hok:ops[i] with ⟨ko,so⟩
   rw [hok] at hop' hgo
   unfold gW at hop'
   by_cases hs:isS l p so=true
   ·rw [if_pos hs] at hop';cases hop'
   ·rw [if_neg hs] at hop'
    have hs':isS l p so=false:=by simpa using hs
    simp only [go_sem,Int.toNat_natCast,fg,hgo,aZ,f1,hg,aE,hs',if_false,hp,hl,e5]
    refine ⟨by omega,i+1,⟨by omega,hop'⟩,by omega,?_⟩
    (simp only [bkq,enterW,aI,ltF,ne_eq,Nat.reduceEqDiff,reduceCtorEq,cS,hid];try simp (disch:=first|assumption|omega|(simp;done)|(simp;omega)|(simp only [bt,and_true];first|done|omega|(simp;done))) [↓zmk,beq,ybc,ybd,ybe,ag,wk,wk2,wk1,wkM,wkL,am,ybf,byq,biq,au,hcl,cS,hid];try (repeat' (first|assumption|omega|exact True.intro|refine And.intro ?_ ?_|refine af ?_|refine aa ?_|refine ae ?_ ?_|refine ah ?_ ?_|refine ak ?_|exact AHeap.Le.refl _|refine AHeap.Le.push ?_ _|refine AHeap.Le.del ?_ ?_|(simp only [bt,and_true,true_and,cS,hid];first|done|omega|(simp;done)))))
  ·simp only [go_sem]
   simp (disch:=first|assumption|omega|(simp;done)|(simp;omega)|(simp only [bt,and_true];first|done|omega|(simp;done))) [↓zmk,beq,ybc,ybd,ybe,ag,wk,wk2,wk1,wkM,wkL,am,ybf,hcl]
end Go.AL
open Go Go.AL Go.Proofs
namespace Go.AL
set_option linter.all false
set_option maxRecDepth 10000
def ef (op v:Int):AV:=.agg [.int .i64 op,.int .i64 0,.int .i64 0,.str [],.str [],.int .u64 0,.int .u64 v]
def ii (s:List UInt8):AV:=if s=p8 then .tup [ef 2 1,.bool true] else if s=mC then .tup [ef 2 0,.bool true] else .tup [ef 0 0,.bool false]
def m7:List AV→AHeap→(AV→Prop)→Prop
 |[.int .u64 n],_,K=>K (.agg [.int .u64 0,.int .u64 n])
 |_,_,_=>False
theorem mN:EntOk Try.prog 36 (Ent.pure m7):=by
 refine EntOk.pure fun args H K h=>?_
 unfold m7 at h
 split at h
 rotate_left
 ·exact h.elim
 rename_i n
 refine ⟨_,h,?_⟩
 clear h
 refine ACalls.fW aD TblOk.nil Try.func36 [.cell 2 95] (Nat.le_refl _) (T:=az []) (h:=fun hcl hlt=>?_)
 clear hlt
 simp only [go_sem]
 simp (disch:=first|assumption|omega|(simp;done)|(simp;omega)|(simp only [bt,and_true];first|done|omega|(simp;done))) [↓zmk,beq,ybc,ybd,ybe,ag,wk,wk2,wk1,wkM,wkL,am,ybf,hcl]
def eD:List AV→AHeap→(AV→Prop)→Prop
 |[.str s],_,K=>K (ii s)
 |_,_,_=>False
theorem yE:EntOk Try.prog 105 (Ent.pure eD):=by
 refine EntOk.pure fun args H K h=>?_
 unfold eD at h
 split at h
 rotate_left
 ·exact h.elim
 rename_i s
 refine ⟨_,h,?_⟩
 clear h
 unfold ii
 by_cases h1:s=p8
 ·rw [if_pos h1]
  subst h1
  refine ACalls.fW aD (TblOk.cons mN TblOk.nil) Try.func105 [.cell 2 113,.tmp 3] (Nat.le_refl _) (T:=az []) (h:=fun hcl hlt=>?_)
  clear hlt
  have d1:(p8==[116,114,117,101])=true:=by decide
  simp only [go_sem,m7,d1,zkz]
  simp (disch:=first|assumption|omega|(simp;done)|(simp;omega)|(simp only [bt,and_true];first|done|omega|(simp;done))) [↓zmk,beq,ybc,ybd,ybe,ag,wk,wk2,wk1,wkM,wkL,am,ybf,hcl,ef]
 ·rw [if_neg h1]
  have d1:(s==[116,114,117,101])=false:=by simpa [p8] using h1
  by_cases h2:s=mC
  ·rw [if_pos h2]
   subst h2
   refine ACalls.fW aD (TblOk.cons mN TblOk.nil) Try.func105 [.cell 2 113,.tmp 3] (Nat.le_refl _) (T:=az []) (h:=fun hcl hlt=>?_)
   clear hlt
   have d2:(mC==[102,97,108,115,101])=true:=by decide
   simp only [go_sem,m7,d1,d2,zkz]
   simp (disch:=first|assumption|omega|(simp;done)|(simp;omega)|(simp only [bt,and_true];first|done|omega|(simp;done))) [↓zmk,beq,ybc,ybd,ybe,ag,wk,wk2,wk1,wkM,wkL,am,ybf,hcl,ef]
  ·rw [if_neg h2]
   have d2:(s==[102,97,108,115,101])=false:=by simpa [mC] using h2
   refine ACalls.fW aD (TblOk.cons mN TblOk.nil) Try.func105 [.cell 2 113,.tmp 3] (Nat.le_refl _) (T:=az []) (h:=fun hcl hlt=>?_)
   clear hlt
   simp only [go_sem,m7,d1,d2,zkz]
   simp (disch:=first|assumption|omega|(simp;done)|(simp;omega)|(simp only [bt,and_true];first|done|omega|(simp;done))) [↓zmk,beq,ybc,ybd,ybe,ag,wk,wk2,wk1,wkM,wkL,am,ybf,hcl,ef]
def mT (l:List Tok):Prop:=∀ x∈l,x.2.1.length≤1000∧(x.1=1→(lit x.2.1).isSome=true)
def gV (H:AHeap) (id tb:Nat) (l:List Tok) (p:Nat) (t:List Nd):Prop:=id≠tb∧H.get tb=some (.buf 7 t.length)∧t.length≤p∧p≤l.length∧l.length≤1000∧mT l∧Good t
theorem dD {H:AHeap} {id tb p p':Nat} {m:Mark} {l:List Tok} {t t':List Nd} (h:gV H id tb l p t) (hp:p'≤l.length) (ht:t'.length≤p') (hg:Good t'):gV ((H.set id (pst m l p' tb t')).set tb (.buf 7 t'.length)) id tb l p' t':=by
 obtain ⟨h1,h2,h3,h4,h5,h6,h7⟩:=h
 have htb:=AHeap.get_lt h2
 refine ⟨h1,?_,ht,hp,h5,h6,hg⟩
 rw [aq,if_pos rfl,if_pos (by simpa [zlb] using htb)]
theorem mn {H:AHeap} {id tb p p':Nat} {o:AObj} {l:List Tok} {t:List Nd} (h:gV H id tb l p t) (hp:p'≤l.length) (ht:t.length≤p'):gV (H.set id o) id tb l p' t:=by
 obtain ⟨h1,h2,h3,h4,h5,h6,h7⟩:=h
 refine ⟨h1,?_,ht,hp,h5,h6,h7⟩
 rw [AHeap.get_set_ne _ _ (fun e=>h1 e.symm)];exact h2
def pn (l:List Tok) (p:Nat):Nat:=match l[p]? with
 |none=>0
 |some (k,_,_)=>k
def qy (l:List Tok) (p:Nat):Nat:=match l[p]? with
 |none=>0
 |some (_,x,_)=>(lit x).getD 0
def c6:List AV→AHeap→(AEnd→AHeap→Prop)→Prop
 |[.ptr id 0],H,K=>onP (H.get id) fun m l p tb t=>(gV H id tb l p t∧pn l p=1) ∧
   K (.ret (.int .i64 (t.length:Int))) ((H.set id (pst m l (p+1) tb (t++[⟨1,0,0,[],[],qy l p⟩]))).set tb (.buf 7 (t.length+1)))
 |_,_,_=>False
theorem sW:EntOk Try.prog 103 (Ent.effect c6):=by
 refine EntOk.effect fun args H K h=>?_
 unfold c6 at h
 split at h
 rotate_left
 ·exact h.elim
 rename_i id
 obtain ⟨m,l,p,tb,t,hg,⟨⟨hne,htb,ht,hp,hl,hgl,hgt⟩,hk⟩,hK⟩:=h
 have hid:=AHeap.get_lt hg
 have htbl:=AHeap.get_lt htb
 have hcs:=ai (cs:=[.slice m 3 (cV l),.int .i64 (p:Int),.slice (.own tb) 7 (nds t)]) hg
 have f1:=c9 hid
 have f2:=c9 htbl
 have g1:(id=tb)=False:=eq_false hne
 have g2:(tb=id)=False:=eq_false fun e=>hne e.symm
 have e1:IntKind.i64.wrap ((p:Int)+1)=((p+1:Nat):Int):=by rw [wrap_i64]<;>omega
 have hlt0:p<l.length:=by
  rcases Nat.lt_or_ge p l.length with h1|h1
  ·exact h1
  ·unfold pn at hk;rw [List.getElem?_eq_none h1] at hk;cases hk
 rcases htk:l[p] with ⟨k,x,z⟩
 have hgd:=nF hlt0 htk
 have hk1:k=1:=by unfold pn at hk;rw [List.getElem?_eq_getElem hlt0,htk] at hk;exact hk
 subst hk1
 have hla:qy l p=(lit x).getD 0:=by unfold qy;rw [List.getElem?_eq_getElem hlt0,htk]
 rw [hla] at hK
 obtain ⟨hxl,hxs⟩:=hgl l[p] (List.getElem_mem hlt0)
 rw [htk] at hxl hxs
 dsimp only at hxl hxs
 obtain ⟨n,hn⟩:=Option.isSome_iff_exists.1 (hxs rfl)
 have hn128:=Bb hn
 rw [hn] at hK
 dsimp only [Option.getD_some] at hK
 refine ⟨_,_,hK,?_⟩
 clear hK
 refine ACalls.fW aD (TblOk.cons nd (TblOk.cons iz (TblOk.cons qj (TblOk.cons gx TblOk.nil)))) Try.func103 [.tmp 2] (Nat.le_refl _) (T:=az [(1,[[],[],[],[],[],[],[],[],[],[],[],[3,7,10],[],[],[],[],[3,7,10,11]])]) (h:=fun hcl hlt=>?_)
 clear hlt
 have hxl':x.length≤140737488355328:=by omega
 have hv:iC (n:Int)=.tup [.agg [.int .u64 ((n/2^64:Nat):Int),.int .u64 ((n % 2^64:Nat):Int)],.bool true]:=by
  unfold iC
  rw [if_pos ⟨Int.natCast_nonneg n,Int.lt_of_lt_of_le (Int.ofNat_lt.2 hn128) (by decide)⟩]
  rfl
 have hn1:isN (n:Int):=⟨Int.le_trans (by decide) (Int.natCast_nonneg n),Int.lt_of_lt_of_le (Int.ofNat_lt.2 hn128) (by decide)⟩
 have hvo:vOf (n/2^64) (n % 2^64)=n:=zq n
 have hlo:n/2^64<18446744073709551616:=by omega
 have hlo2:n % 2^64<18446744073709551616:=by omega
 have hx1:(id=H.nx)=False:=eq_false (by omega)
 have s1:=mc (H:=H) hne
 simp only [go_sem,hcs,bc,hgd,Int.toNat_natCast,e1,i5,hxl',nB,hn,hx1,nAV]
 simp only [gS]
 refine ⟨by omega,n,⟨rfl,hn1⟩,?_⟩
 rw [hv]
 have hn0:(0≤n/2^64):=Nat.zero_le _
 generalize hw0:w0 (n:Int)=y0
 generalize hw1:w1 (n:Int)=y1
 generalize hw2:w2 (n:Int)=y2
 have hgi:∀ o,(H.set id o).get id=some o:=fun o=>AHeap.get_set_same _ _ hid
 have hgt:∀ o,(H.set id o).get tb=some (.buf 7 t.length):=fun o=>by rw [AHeap.get_set_ne _ _ (fun e=>hne e.symm)];exact htb
 have hcl1:=fA hg hcl (p+1) (t++[⟨1,0,0,[],[],n⟩])
 have hcl2:((H.set id (pst m l (p+1) tb (t++[⟨1,0,0,[],[],n⟩]))).set tb (.buf 7 (t.length+1))).Closed:=aa hcl1
 simp only [bM,go_sem,hcs,Int.toNat_natCast,e1,hx1,f1,f2,g1,g2,eZ hid,a8,hgi,hgt,qb,hvo]
 refine ⟨⟨by decide,by decide,by decide,⟨by omega,by omega,by omega,by omega⟩,by omega⟩,?_⟩
 simp (disch:=first|assumption|omega|(simp;done)|(simp;omega)|(simp only [bt,and_true];first|done|omega|(simp;done))) [↓zmk,beq,ybc,ybd,ybe,ag,wk,wk2,wk1,wkM,wkL,am,ybf,hcl2]
/-! ### The rules -/
def xH (m:Mark) (l:List Tok) (tb id:Nat) (H:AHeap) (K:AEnd→AHeap→Prop) (o:Option PR):Prop:=match o with
 |none=>False
 |some (.ok a p t)=>K (.ret (.int .i64 (a:Int))) ((H.set id (pst m l p tb t)).set tb (.buf 7 t.length))
 |some (.bad p)=>K (.panic (.iface 188 (.int .i64 (p:Int)))) ((H.del id).del tb)
@[congr] theorem C8 {m:Mark} {l:List Tok} {tb id:Nat} {H:AHeap} {K:AEnd→AHeap→Prop} {o o':Option PR} (h:o=o'):xH m l tb id H K o=xH m l tb id H K o':=by rw [h]
theorem aP {m:Mark} {l:List Tok} {tb id a p:Nat} {t:List Nd} {H:AHeap} {K:AEnd→AHeap→Prop}:xH m l tb id H K (some (.ok a p t))=K (.ret (.int .i64 (a:Int))) ((H.set id (pst m l p tb t)).set tb (.buf 7 t.length)):=rfl
theorem aH {m:Mark} {l:List Tok} {tb id p:Nat} {H:AHeap} {K:AEnd→AHeap→Prop}:xH m l tb id H K (some (.bad p))=K (.panic (.iface 188 (.int .i64 (p:Int)))) ((H.del id).del tb):=rfl
def aK (rl:Rl) (f:Nat):List AV→AHeap→(AEnd→AHeap→Prop)→Prop
 |[.ptr id 0],H,K=>onP (H.get id) fun m l p tb t=>gV H id tb l p t∧xH m l tb id H K (run l f rl p t)
 |_,_,_=>False
theorem bg {H:AHeap} {i j:Nat} {x y:AObj}:(((H.set i x).set j y).del i).del j=(H.del i).del j:=by
 simp only [AHeap.set,AHeap.del]
 congr 1
 funext k
 by_cases h1:k=j
 ·simp [h1]
 ·by_cases h2:k=i
  ·simp [h1,h2]
  ·simp [h1,h2]
theorem aQ {H:AHeap} {i j:Nat} {x:AObj}:((H.set i x).del i).del j=(H.del i).del j:=by
 simp only [AHeap.set,AHeap.del]
 congr 1
 funext k
 by_cases h1:k=j
 ·simp [h1]
 ·by_cases h2:k=i
  ·simp [h1,h2]
  ·simp [h1,h2]
theorem eC {H:AHeap} {i j:Nat}:((H.del i).del j).Le H:=⟨Nat.le_refl _,fun k x hk=>by
 rw [eK] at hk
 split at hk
 ·cases hk
 ·rw [eK] at hk
  split at hk
  ·cases hk
  ·exact hk⟩
theorem dv {H:AHeap} {i j:Nat} {x y:AObj}:((H.del i).del j).Le ((H.set i x).set j y):=by
 have:=eC (H:=(H.set i x).set j y) (i:=i) (j:=j)
 rwa [bg] at this
theorem dd_le1 {H:AHeap} {i j:Nat} {x:AObj}:((H.del i).del j).Le (H.set i x):=by
 have:=eC (H:=H.set i x) (i:=i) (j:=j)
 rwa [aQ] at this
theorem fb {H:AHeap} {i j:Nat} (h:H.Closed):((H.del i).del j).Closed:=ak (ak h)
theorem eV {H:AHeap} {id tb p:Nat} {m:Mark} {l:List Tok} {t:List Nd} (hg:H.get id=some (pst m l p tb t)) (h:gV H id tb l p t) (hcl:H.Closed) :
 (∀ X Y,((H.set id X).set tb Y).get id=some X)∧(∀ X Y,((H.set id X).set tb Y).get tb=some Y)∧(∀ X Y Z,((H.set id X).set tb Y).set id Z=(H.set id Z).set tb Y) ∧
   (∀ p' t',((H.set id (pst m l p' tb t')).set tb (.buf 7 t'.length)).Closed)∧(∀ X Y Z,((H.set id X).set tb Y).set tb Z=(H.set id X).set tb Z):=by
 obtain ⟨h1,h2,h3,h4,h5,h6,h7⟩:=h
 have hid:=AHeap.get_lt hg
 have htb:=AHeap.get_lt h2
 refine ⟨fun X Y=>?_,fun X Y=>?_,fun X Y Z=>?_,fun p' t'=>aa (fA hg hcl p' t'),fun X Y Z=>?_⟩
 ·rw [AHeap.get_set_ne _ _ h1];exact AHeap.get_set_same _ _ hid
 ·exact AHeap.get_set_same _ _ (by simpa [zlb] using htb)
 ·rw [mc h1];congr 1;simp only [AHeap.set];congr 1;funext k;by_cases hk:k=id<;>simp [hk]
 ·simp only [AHeap.set];congr 1;funext k;by_cases hk:k=tb<;>simp [hk]
end Go.AL
open Go Go.AL Go.Proofs
namespace Go.AL
set_option linter.all false
set_option maxRecDepth 10000
def fP (f:Nat):=aK .imp f
def nb (f:Nat):=aK .or f
def jz (f:Nat):=aK .and f
def gM (f:Nat):=aK .not f
def oQ (f:Nat):=aK .cmp f
def jQ (f:Nat):=aK .sum f
def jR (f:Nat):=aK .un f
def lH (f:Nat):=aK .atom f
def xR:PR→AEnd
 |.ok a _ _=>.ret (.int .i64 (a:Int))
 |.bad p=>.panic (.iface 188 (.int .i64 (p:Int)))
def HR (m:Mark) (l:List Tok) (tb id:Nat) (H:AHeap):PR→AHeap
 |.ok _ p t=>(H.set id (pst m l p tb t)).set tb (.buf 7 t.length)
 |.bad _=>(H.del id).del tb
theorem bR {a p:Nat} {t:List Nd}:xR (.ok a p t)=.ret (.int .i64 (a:Int)):=rfl
theorem bp {p:Nat}:xR (.bad p)=.panic (.iface 188 (.int .i64 (p:Int))):=rfl
theorem bS {m:Mark} {l:List Tok} {tb id a p:Nat} {t:List Nd} {H:AHeap}:HR m l tb id H (.ok a p t)=(H.set id (pst m l p tb t)).set tb (.buf 7 t.length):=rfl
theorem bn {m:Mark} {l:List Tok} {tb id p:Nat} {H:AHeap}:HR m l tb id H (.bad p)=(H.del id).del tb:=rfl
theorem dM {m:Mark} {l:List Tok} {tb id:Nat} {H:AHeap} {K:AEnd→AHeap→Prop} {r:PR}:xH m l tb id H K (some r)=K (xR r) (HR m l tb id H r):=by cases r<;>rfl
theorem nr {m:Mark} {l:List Tok} {tb id:Nat} {H:AHeap} {r:PR}:H.nx≤(HR m l tb id H r).nx:=by cases r<;>exact Nat.le_refl _
theorem iJ:(opsC.length≤100)=True:=eq_true (by decide)
theorem iP:(opsS.length≤100)=True:=eq_true (by decide)
def opv (l:List Tok) (p:Nat):Nat:=(gW l p opsS).getD 0
def oph (l:List Tok) (p:Nat):Nat:=if (gW l p opsS).isSome then p+1 else p
theorem EI:vOf 0 1=1:=rfl
theorem Ea:AW 0 1=True:=eq_true (by unfold AW;decide)
theorem bV:vOf 0 0=0:=rfl
theorem bT:AW 0 0=True:=eq_true (by unfold AW;decide)
theorem CC {f:Nat} (h_yOr:EntOk Try.prog 90 (Ent.effect (nb f))) (h_yImp:EntOk Try.prog 77 (Ent.effect (fP f))):EntOk Try.prog 77 (Ent.effect (fP (f+1))):=by
 refine EntOk.effect fun args H K h=>?_
 unfold fP aK at h
 split at h
 rotate_left
 ·exact h.elim
 rename_i id
 obtain ⟨m,l,p,tb,t,hg,hpre,hK⟩:=h
 cases ho:run l (f+1) .imp p t with
 |none=>rw [ho] at hK;exact hK.elim
 |some r =>
 rw [ho,dM] at hK
 refine ⟨_,_,hK,?_⟩
 clear hK
 rw [run] at ho
 simp only [dq] at ho
 have hpre':=hpre
 obtain ⟨hne,htb,ht,hp,hl,hgl,hgt⟩:=hpre
 have hid:=AHeap.get_lt hg
 have htbl:=AHeap.get_lt htb
 have f1:=c9 hid
 have f2:=c9 htbl
 have hl5:l.length≤100000:=by omega
 have i1:=@Int.natCast_nonneg
 have hne':(id=tb)=False:=eq_false hne
 refine ACalls.fW aD (TblOk.cons h_yOr (TblOk.cons ik (TblOk.cons h_yImp (TblOk.cons gx TblOk.nil)))) Try.func77 [.tmp 2] nr (T:=az []) (h:=fun hcl hlt=>?_)
 clear hlt
 obtain ⟨hgi,hgt',hsi,hcl2,hst⟩:=eV hg hpre' hcl
 rcases aS ho with ⟨q,h1,rfl⟩|⟨a,p1,t1,h1,h2⟩
 ·simp only [go_sem,f1,f2,hgi,hgt',hsi,hst,aE,aH,aP,bR,bp,bS,bn,bg,aQ,aZ,a8,aK,hne,ne_eq,hne',hl5,Int.toNat_natCast,bV,bT,i1,Int.reduceLE,eq_self,not_false_eq_true,nb,hg,hpre',h1]
  simp (disch:=first|assumption|omega|(simp;done)|(simp;omega)|(simp only [bt,and_true];first|done|omega|(simp;done))) [↓zmk,beq,ybc,ybd,ybe,ag,wk,wk2,wk1,wkM,wkL,am,ybf,fb hcl,zms,eC,dd_le1,dv]
 clear ho
 obtain ⟨k1,k2,k3,k4,k5,k6⟩:=bL _ h1 hgt trivial hp
 simp only [Rl.isL,Bool.false_eq_true,if_false] at k4
 have hp1:gV ((H.set id (pst m l p1 tb t1)).set tb (.buf 7 t1.length)) id tb l p1 t1:=dD hpre' k2 (by omega) k5
 cases hs:isS l p1 [45,62] with
 |false =>
  rw [hs,if_neg (by simp)] at h2
  cases h2
  simp only [go_sem,f1,f2,hgi,hgt',hsi,hst,aE,aH,aP,bR,bp,bS,bn,bg,aQ,aZ,a8,aK,hne,ne_eq,hne',hl5,Int.toNat_natCast,bV,bT,i1,Int.reduceLE,eq_self,not_false_eq_true,nb,hg,hpre',h1,k2,hs,if_false]
  simp (disch:=first|assumption|omega|(simp;done)|(simp;omega)|(simp only [bt,and_true];first|done|omega|(simp;done))) [↓zmk,beq,ybc,ybd,ybe,ag,wk,wk2,wk1,wkM,wkL,am,ybf,hcl2]
 |true =>
  rw [hs,if_pos rfl] at h2
  have hlt1:=cW hs
  have hp2:gV ((H.set id (pst m l (p1+1) tb t1)).set tb (.buf 7 t1.length)) id tb l (p1+1) t1:=dD hpre' hlt1 (by omega) k5
  rcases aS h2 with ⟨q,h3,rfl⟩|⟨b,p2,t2,h3,h4⟩
  ·simp only [go_sem,f1,f2,hgi,hgt',hsi,hst,aE,aH,aP,bR,bp,bS,bn,bg,aQ,aZ,a8,aK,hne,ne_eq,hne',hl5,Int.toNat_natCast,bV,bT,i1,Int.reduceLE,eq_self,not_false_eq_true,nb,fP,hg,hpre',h1,k2,hs,if_true,hp2,h3]
   simp (disch:=first|assumption|omega|(simp;done)|(simp;omega)|(simp only [bt,and_true];first|done|omega|(simp;done))) [↓zmk,beq,ybc,ybd,ybe,ag,wk,wk2,wk1,wkM,wkL,am,ybf,fb hcl,zms,eC,dd_le1,dv]
  cases h4
  obtain ⟨k1b,k2b,k3b,k4b,k5b,k6b⟩:=bL _ h3 k5 trivial hlt1
  simp only [Rl.isL,Bool.false_eq_true,if_false] at k4b
  have ht2:t2.length≤100000:=by omega
  simp only [go_sem,f1,f2,hgi,hgt',hsi,hst,aE,aH,aP,bR,bp,bS,bn,bg,aQ,aZ,a8,aK,hne,ne_eq,hne',hl5,Int.toNat_natCast,bV,bT,i1,Int.reduceLE,eq_self,not_false_eq_true,nb,fP,hg,hpre',h1,k2,hs,if_true,hp2,h3,ht2,nd2]
  have hc3:=hcl2 p2 (t2++[⟨16,a,b,[],[],0⟩])
  simp only [List.length_append,yaz,yba,Nat.zero_add] at hc3 ⊢
  simp (disch:=first|assumption|omega|(simp;done)|(simp;omega)|(simp only [bt,and_true];first|done|omega|(simp;done))) [↓zmk,beq,ybc,ybd,ybe,ag,wk,wk2,wk1,wkM,wkL,am,ybf,hc3]
theorem DH {f:Nat} (h_yAnd:EntOk Try.prog 94 (Ent.effect (jz f))):EntOk Try.prog 90 (Ent.effect (nb (f+1))):=by
 refine EntOk.effect fun args H K h=>?_
 unfold nb aK at h
 split at h
 rotate_left
 ·exact h.elim
 rename_i id
 obtain ⟨m,l,p,tb,t,hg,hpre,hK⟩:=h
 cases ho:run l (f+1) .or p t with
 |none=>rw [ho] at hK;exact hK.elim
 |some r =>
 rw [ho,dM] at hK
 refine ⟨_,_,hK,?_⟩
 clear hK
 rw [run] at ho
 simp only [dq] at ho
 have hpre':=hpre
 obtain ⟨hne,htb,ht,hp,hl,hgl,hgt⟩:=hpre
 have hid:=AHeap.get_lt hg
 have htbl:=AHeap.get_lt htb
 have f1:=c9 hid
 have f2:=c9 htbl
 have hl5:l.length≤100000:=by omega
 have i1:=@Int.natCast_nonneg
 have hne':(id=tb)=False:=eq_false hne
 refine ACalls.fW aD (TblOk.cons h_yAnd (TblOk.cons ik (TblOk.cons gx TblOk.nil))) Try.func90 [.tmp 2] nr (T:=az []) (h:=fun hcl hlt=>?_)
 clear hlt
 obtain ⟨hgi,hgt',hsi,hcl2,hst⟩:=eV hg hpre' hcl
 rcases aS ho with ⟨q,h1,rfl⟩|⟨a,p1,t1,h1,h2⟩
 ·simp only [go_sem,f1,f2,hgi,hgt',hsi,hst,aE,aH,aP,bR,bp,bS,bn,bg,aQ,aZ,a8,aK,hne,ne_eq,hne',hl5,Int.toNat_natCast,bV,bT,i1,Int.reduceLE,eq_self,not_false_eq_true,jz,hg,hpre',h1]
  simp (disch:=first|assumption|omega|(simp;done)|(simp;omega)|(simp only [bt,and_true];first|done|omega|(simp;done))) [↓zmk,beq,ybc,ybd,ybe,ag,wk,wk2,wk1,wkM,wkL,am,ybf,fb hcl,zms,eC,dd_le1,dv]
 clear ho
 obtain ⟨k1,k2,k3,k4,k5,k6⟩:=bL _ h1 hgt trivial hp
 simp only [Rl.isL,Bool.false_eq_true,if_false] at k4
 have hp1:gV ((H.set id (pst m l p1 tb t1)).set tb (.buf 7 t1.length)) id tb l p1 t1:=dD hpre' k2 (by omega) k5
 simp only [go_sem,f1,f2,hgi,hgt',hsi,hst,aE,aH,aP,bR,bp,bS,bn,bg,aQ,aZ,a8,aK,hne,ne_eq,hne',hl5,Int.toNat_natCast,bV,bT,i1,Int.reduceLE,eq_self,not_false_eq_true,jz,hg,hpre',h1]
 refine aB (A:=Nat × Nat × Nat × List Nd) (fun x=>[(0,.ptr id 0),(3,.int .i64 (x.2.1:Int))]) (fun x=>(H.set id (pst m l x.2.2.1 tb x.2.2.2)).set tb (.buf 7 x.2.2.2.length))
  (fun x=>x.1≤f∧run l x.1 (.orL x.2.1) x.2.2.1 x.2.2.2=some r∧x.2.2.1≤l.length∧x.2.2.2.length≤x.2.2.1∧Good x.2.2.2∧x.2.1<x.2.2.2.length) (fun x=>x.1) (f,a,p1,t1) ⟨Nat.le_refl _,h2,k2,by dsimp only;omega,k5,k1⟩ ?_ fun x hx=>?_
 ·(simp only [bkq,enterW,aI,ltF,ne_eq,Nat.reduceEqDiff,reduceCtorEq,hcl2,hid];try simp (disch:=first|assumption|omega|(simp;done)|(simp;omega)|(simp only [bt,and_true];first|done|omega|(simp;done))) [↓zmk,beq,ybc,ybd,ybe,ag,wk,wk2,wk1,wkM,wkL,am,ybf,byq,biq,au,hcl,hcl2,hid];try (repeat' (first|assumption|omega|exact True.intro|refine And.intro ?_ ?_|refine af ?_|refine aa ?_|refine ae ?_ ?_|refine ah ?_ ?_|refine ak ?_|exact AHeap.Le.refl _|refine AHeap.Le.push ?_ _|refine AHeap.Le.del ?_ ?_|(simp only [bt,and_true,true_and,hcl2,hid];first|done|omega|(simp;done)))))
 obtain ⟨g,a',p',t'⟩:=x
 obtain ⟨x1,x2,x3,x4,x5,x6⟩:=hx
 dsimp only at x1 x2 x3 x4 x5 x6 ⊢
 have ht':t'.length≤100000:=by omega
 have hpx:gV ((H.set id (pst m l p' tb t')).set tb (.buf 7 t'.length)) id tb l p' t':=dD hpre' x3 x4 x5
 cases g with
 |zero=>cases x2
 |succ g =>
 rw [run] at x2
 simp only [dq] at x2
 cases hs:isS l p' [124,124] with
 |false =>
  rw [hs,if_neg (by simp)] at x2
  cases x2
  simp only [go_sem,f1,f2,hgi,hgt',hsi,hst,aE,aH,aP,bR,bp,bS,bn,bg,aQ,aZ,a8,aK,hne,ne_eq,hne',hl5,Int.toNat_natCast,bV,bT,i1,Int.reduceLE,eq_self,not_false_eq_true,x3,hs,if_false]
  simp (disch:=first|assumption|omega|(simp;done)|(simp;omega)|(simp only [bt,and_true];first|done|omega|(simp;done))) [↓zmk,beq,ybc,ybd,ybe,ag,wk,wk2,wk1,wkM,wkL,am,ybf,hcl2]
 |true =>
  rw [hs,if_pos rfl] at x2
  have hlt1:=cW hs
  have hp2:gV ((H.set id (pst m l (p'+1) tb t')).set tb (.buf 7 t'.length)) id tb l (p'+1) t':=dD hpre' hlt1 (by omega) x5
  rcases aS x2 with ⟨q,h3,rfl⟩|⟨b,p2,t2,h3,h4⟩
  ·have h3':=cA (show g≤f by omega) h3
   simp only [go_sem,f1,f2,hgi,hgt',hsi,hst,aE,aH,aP,bR,bp,bS,bn,bg,aQ,aZ,a8,aK,hne,ne_eq,hne',hl5,Int.toNat_natCast,bV,bT,i1,Int.reduceLE,eq_self,not_false_eq_true,jz,x3,hs,if_true,hp2,h3']
   simp (disch:=first|assumption|omega|(simp;done)|(simp;omega)|(simp only [bt,and_true];first|done|omega|(simp;done))) [↓zmk,beq,ybc,ybd,ybe,ag,wk,wk2,wk1,wkM,wkL,am,ybf,fb hcl,zms,eC,dd_le1,dv]
  have h3':=cA (show g≤f by omega) h3
  obtain ⟨k1b,k2b,k3b,k4b,k5b,k6b⟩:=bL _ h3 x5 trivial hlt1
  simp only [Rl.isL,Bool.false_eq_true,if_false] at k4b
  have ht2:t2.length≤100000:=by omega
  simp only [go_sem,f1,f2,hgi,hgt',hsi,hst,aE,aH,aP,bR,bp,bS,bn,bg,aQ,aZ,a8,aK,hne,ne_eq,hne',hl5,Int.toNat_natCast,bV,bT,i1,Int.reduceLE,eq_self,not_false_eq_true,jz,x3,hs,if_true,hp2,h3',ht2]
  have hc3:=hcl2 p2 (t2++[⟨15,a',b,[],[],0⟩])
  refine ⟨(g,t2.length,p2,t2++[⟨15,a',b,[],[],0⟩]),⟨by dsimp only;omega,h4,k2b,by simp;omega,k5b.snoc ⟨(show 1≤15 by decide),(show 15≤16 by decide)⟩ (show (0:Nat)<2^128 by decide) (.inr ⟨by simp only;omega,by simp only;omega⟩),by simp⟩,by dsimp only;omega,?_⟩
  simp only [List.length_append,yaz,yba,Nat.zero_add] at hc3 ⊢
  (simp only [bkq,enterW,aI,ltF,ne_eq,Nat.reduceEqDiff,reduceCtorEq,hc3,hid];try simp (disch:=first|assumption|omega|(simp;done)|(simp;omega)|(simp only [bt,and_true];first|done|omega|(simp;done))) [↓zmk,beq,ybc,ybd,ybe,ag,wk,wk2,wk1,wkM,wkL,am,ybf,byq,biq,au,hcl,hc3,hid];try (repeat' (first|assumption|omega|exact True.intro|refine And.intro ?_ ?_|refine af ?_|refine aa ?_|refine ae ?_ ?_|refine ah ?_ ?_|refine ak ?_|exact AHeap.Le.refl _|refine AHeap.Le.push ?_ _|refine AHeap.Le.del ?_ ?_|(simp only [bt,and_true,true_and,hc3,hid];first|done|omega|(simp;done)))))
theorem Cr {f:Nat} (h_yNot:EntOk Try.prog 95 (Ent.effect (gM f))):EntOk Try.prog 94 (Ent.effect (jz (f+1))):=by
 refine EntOk.effect fun args H K h=>?_
 unfold jz aK at h
 split at h
 rotate_left
 ·exact h.elim
 rename_i id
 obtain ⟨m,l,p,tb,t,hg,hpre,hK⟩:=h
 cases ho:run l (f+1) .and p t with
 |none=>rw [ho] at hK;exact hK.elim
 |some r =>
 rw [ho,dM] at hK
 refine ⟨_,_,hK,?_⟩
 clear hK
 rw [run] at ho
 simp only [dq] at ho
 have hpre':=hpre
 obtain ⟨hne,htb,ht,hp,hl,hgl,hgt⟩:=hpre
 have hid:=AHeap.get_lt hg
 have htbl:=AHeap.get_lt htb
 have f1:=c9 hid
 have f2:=c9 htbl
 have hl5:l.length≤100000:=by omega
 have i1:=@Int.natCast_nonneg
 have hne':(id=tb)=False:=eq_false hne
 refine ACalls.fW aD (TblOk.cons h_yNot (TblOk.cons ik (TblOk.cons gx TblOk.nil))) Try.func94 [.tmp 2] nr (T:=az []) (h:=fun hcl hlt=>?_)
 clear hlt
 obtain ⟨hgi,hgt',hsi,hcl2,hst⟩:=eV hg hpre' hcl
 rcases aS ho with ⟨q,h1,rfl⟩|⟨a,p1,t1,h1,h2⟩
 ·simp only [go_sem,f1,f2,hgi,hgt',hsi,hst,aE,aH,aP,bR,bp,bS,bn,bg,aQ,aZ,a8,aK,hne,ne_eq,hne',hl5,Int.toNat_natCast,bV,bT,i1,Int.reduceLE,eq_self,not_false_eq_true,gM,hg,hpre',h1]
  simp (disch:=first|assumption|omega|(simp;done)|(simp;omega)|(simp only [bt,and_true];first|done|omega|(simp;done))) [↓zmk,beq,ybc,ybd,ybe,ag,wk,wk2,wk1,wkM,wkL,am,ybf,fb hcl,zms,eC,dd_le1,dv]
 clear ho
 obtain ⟨k1,k2,k3,k4,k5,k6⟩:=bL _ h1 hgt trivial hp
 simp only [Rl.isL,Bool.false_eq_true,if_false] at k4
 have hp1:gV ((H.set id (pst m l p1 tb t1)).set tb (.buf 7 t1.length)) id tb l p1 t1:=dD hpre' k2 (by omega) k5
 simp only [go_sem,f1,f2,hgi,hgt',hsi,hst,aE,aH,aP,bR,bp,bS,bn,bg,aQ,aZ,a8,aK,hne,ne_eq,hne',hl5,Int.toNat_natCast,bV,bT,i1,Int.reduceLE,eq_self,not_false_eq_true,gM,hg,hpre',h1]
 refine aB (A:=Nat × Nat × Nat × List Nd) (fun x=>[(0,.ptr id 0),(3,.int .i64 (x.2.1:Int))]) (fun x=>(H.set id (pst m l x.2.2.1 tb x.2.2.2)).set tb (.buf 7 x.2.2.2.length))
  (fun x=>x.1≤f∧run l x.1 (.andL x.2.1) x.2.2.1 x.2.2.2=some r∧x.2.2.1≤l.length∧x.2.2.2.length≤x.2.2.1∧Good x.2.2.2∧x.2.1<x.2.2.2.length) (fun x=>x.1) (f,a,p1,t1) ⟨Nat.le_refl _,h2,k2,by dsimp only;omega,k5,k1⟩ ?_ fun x hx=>?_
 ·(simp only [bkq,enterW,aI,ltF,ne_eq,Nat.reduceEqDiff,reduceCtorEq,hcl2,hid];try simp (disch:=first|assumption|omega|(simp;done)|(simp;omega)|(simp only [bt,and_true];first|done|omega|(simp;done))) [↓zmk,beq,ybc,ybd,ybe,ag,wk,wk2,wk1,wkM,wkL,am,ybf,byq,biq,au,hcl,hcl2,hid];try (repeat' (first|assumption|omega|exact True.intro|refine And.intro ?_ ?_|refine af ?_|refine aa ?_|refine ae ?_ ?_|refine ah ?_ ?_|refine ak ?_|exact AHeap.Le.refl _|refine AHeap.Le.push ?_ _|refine AHeap.Le.del ?_ ?_|(simp only [bt,and_true,true_and,hcl2,hid];first|done|omega|(simp;done)))))
 obtain ⟨g,a',p',t'⟩:=x
 obtain ⟨x1,x2,x3,x4,x5,x6⟩:=hx
 dsimp only at x1 x2 x3 x4 x5 x6 ⊢
 have ht':t'.length≤100000:=by omega
 have hpx:gV ((H.set id (pst m l p' tb t')).set tb (.buf 7 t'.length)) id tb l p' t':=dD hpre' x3 x4 x5
 cases g with
 |zero=>cases x2
 |succ g =>
 rw [run] at x2
 simp only [dq] at x2
 cases hs:isS l p' [38,38] with
 |false =>
  rw [hs,if_neg (by simp)] at x2
  cases x2
  simp only [go_sem,f1,f2,hgi,hgt',hsi,hst,aE,aH,aP,bR,bp,bS,bn,bg,aQ,aZ,a8,aK,hne,ne_eq,hne',hl5,Int.toNat_natCast,bV,bT,i1,Int.reduceLE,eq_self,not_false_eq_true,x3,hs,if_false]
  simp (disch:=first|assumption|omega|(simp;done)|(simp;omega)|(simp only [bt,and_true];first|done|omega|(simp;done))) [↓zmk,beq,ybc,ybd,ybe,ag,wk,wk2,wk1,wkM,wkL,am,ybf,hcl2]
 |true =>
  rw [hs,if_pos rfl] at x2
  have hlt1:=cW hs
  have hp2:gV ((H.set id (pst m l (p'+1) tb t')).set tb (.buf 7 t'.length)) id tb l (p'+1) t':=dD hpre' hlt1 (by omega) x5
  rcases aS x2 with ⟨q,h3,rfl⟩|⟨b,p2,t2,h3,h4⟩
  ·have h3':=cA (show g≤f by omega) h3
   simp only [go_sem,f1,f2,hgi,hgt',hsi,hst,aE,aH,aP,bR,bp,bS,bn,bg,aQ,aZ,a8,aK,hne,ne_eq,hne',hl5,Int.toNat_natCast,bV,bT,i1,Int.reduceLE,eq_self,not_false_eq_true,gM,x3,hs,if_true,hp2,h3']
   simp (disch:=first|assumption|omega|(simp;done)|(simp;omega)|(simp only [bt,and_true];first|done|omega|(simp;done))) [↓zmk,beq,ybc,ybd,ybe,ag,wk,wk2,wk1,wkM,wkL,am,ybf,fb hcl,zms,eC,dd_le1,dv]
  have h3':=cA (show g≤f by omega) h3
  obtain ⟨k1b,k2b,k3b,k4b,k5b,k6b⟩:=bL _ h3 x5 trivial hlt1
  simp only [Rl.isL,Bool.false_eq_true,if_false] at k4b
  have ht2:t2.length≤100000:=by omega
  simp only [go_sem,f1,f2,hgi,hgt',hsi,hst,aE,aH,aP,bR,bp,bS,bn,bg,aQ,aZ,a8,aK,hne,ne_eq,hne',hl5,Int.toNat_natCast,bV,bT,i1,Int.reduceLE,eq_self,not_false_eq_true,gM,x3,hs,if_true,hp2,h3',ht2]
  have hc3:=hcl2 p2 (t2++[⟨14,a',b,[],[],0⟩])
  refine ⟨(g,t2.length,p2,t2++[⟨14,a',b,[],[],0⟩]),⟨by dsimp only;omega,h4,k2b,by simp;omega,k5b.snoc ⟨(show 1≤14 by decide),(show 14≤16 by decide)⟩ (show (0:Nat)<2^128 by decide) (.inr ⟨by simp only;omega,by simp only;omega⟩),by simp⟩,by dsimp only;omega,?_⟩
  simp only [List.length_append,yaz,yba,Nat.zero_add] at hc3 ⊢
  (simp only [bkq,enterW,aI,ltF,ne_eq,Nat.reduceEqDiff,reduceCtorEq,hc3,hid];try simp (disch:=first|assumption|omega|(simp;done)|(simp;omega)|(simp only [bt,and_true];first|done|omega|(simp;done))) [↓zmk,beq,ybc,ybd,ybe,ag,wk,wk2,wk1,wkM,wkL,am,ybf,byq,biq,au,hcl,hc3,hid];try (repeat' (first|assumption|omega|exact True.intro|refine And.intro ?_ ?_|refine af ?_|refine aa ?_|refine ae ?_ ?_|refine ah ?_ ?_|refine ak ?_|exact AHeap.Le.refl _|refine AHeap.Le.push ?_ _|refine AHeap.Le.del ?_ ?_|(simp only [bt,and_true,true_and,hc3,hid];first|done|omega|(simp;done)))))
theorem Bq {f:Nat} (h_yNot:EntOk Try.prog 95 (Ent.effect (gM f))) (h_yCmp:EntOk Try.prog 96 (Ent.effect (oQ f))):EntOk Try.prog 95 (Ent.effect (gM (f+1))):=by
 refine EntOk.effect fun args H K h=>?_
 unfold gM aK at h
 split at h
 rotate_left
 ·exact h.elim
 rename_i id
 obtain ⟨m,l,p,tb,t,hg,hpre,hK⟩:=h
 cases ho:run l (f+1) .not p t with
 |none=>rw [ho] at hK;exact hK.elim
 |some r =>
 rw [ho,dM] at hK
 refine ⟨_,_,hK,?_⟩
 clear hK
 rw [run] at ho
 simp only [dq] at ho
 have hpre':=hpre
 obtain ⟨hne,htb,ht,hp,hl,hgl,hgt⟩:=hpre
 have hid:=AHeap.get_lt hg
 have htbl:=AHeap.get_lt htb
 have f1:=c9 hid
 have f2:=c9 htbl
 have hl5:l.length≤100000:=by omega
 have i1:=@Int.natCast_nonneg
 have hne':(id=tb)=False:=eq_false hne
 refine ACalls.fW aD (TblOk.cons ik (TblOk.cons h_yNot (TblOk.cons gx (TblOk.cons h_yCmp TblOk.nil)))) Try.func95 [.tmp 2] nr (T:=az []) (h:=fun hcl hlt=>?_)
 clear hlt
 obtain ⟨hgi,hgt',hsi,hcl2,hst⟩:=eV hg hpre' hcl
 cases hs:isS l p [33] with
 |false =>
  rw [hs,if_neg (by simp)] at ho
  simp only [go_sem,f1,f2,hgi,hgt',hsi,hst,aE,aH,aP,bR,bp,bS,bn,bg,aQ,aZ,a8,aK,hne,ne_eq,hne',hl5,Int.toNat_natCast,bV,bT,i1,Int.reduceLE,eq_self,not_false_eq_true,oQ,hg,hp,hs,if_false,hpre',ho,dM]
  cases r with
  |ok a q u =>
   simp only [go_sem,f1,f2,hgi,hgt',hsi,hst,aE,aH,aP,bR,bp,bS,bn,bg,aQ,aZ,a8,aK,hne,ne_eq,hne',hl5,Int.toNat_natCast,bV,bT,i1,Int.reduceLE,eq_self,not_false_eq_true]
   simp (disch:=first|assumption|omega|(simp;done)|(simp;omega)|(simp only [bt,and_true];first|done|omega|(simp;done))) [↓zmk,beq,ybc,ybd,ybe,ag,wk,wk2,wk1,wkM,wkL,am,ybf,hcl2]
  |bad q =>
   simp only [go_sem,f1,f2,hgi,hgt',hsi,hst,aE,aH,aP,bR,bp,bS,bn,bg,aQ,aZ,a8,aK,hne,ne_eq,hne',hl5,Int.toNat_natCast,bV,bT,i1,Int.reduceLE,eq_self,not_false_eq_true]
   simp (disch:=first|assumption|omega|(simp;done)|(simp;omega)|(simp only [bt,and_true];first|done|omega|(simp;done))) [↓zmk,beq,ybc,ybd,ybe,ag,wk,wk2,wk1,wkM,wkL,am,ybf,fb hcl,zms,eC,dd_le1,dv]
 |true =>
  rw [hs,if_pos rfl] at ho
  have hlt1:=cW hs
  have hgi1:∀ X,(H.set id X).get id=some X:=fun X=>AHeap.get_set_same _ _ hid
  have hp2:gV (H.set id (pst m l (p+1) tb t)) id tb l (p+1) t:=mn hpre' hlt1 (by omega)
  have hss:∀ X Y,(H.set id X).set id Y=H.set id Y:=fun X Y=>by simp only [AHeap.set];congr 1;funext k;by_cases hk:k=id<;>simp [hk]
  rcases aS ho with ⟨q,h3,rfl⟩|⟨b,p2,t2,h3,h4⟩
  ·simp only [go_sem,f1,f2,hgi,hgt',hsi,hst,aE,aH,aP,bR,bp,bS,bn,bg,aQ,aZ,a8,aK,hne,ne_eq,hne',hl5,Int.toNat_natCast,bV,bT,i1,Int.reduceLE,eq_self,not_false_eq_true,gM,hg,hp,hs,if_true,hgi1,hss,hp2,h3]
   simp (disch:=first|assumption|omega|(simp;done)|(simp;omega)|(simp only [bt,and_true];first|done|omega|(simp;done))) [↓zmk,beq,ybc,ybd,ybe,ag,wk,wk2,wk1,wkM,wkL,am,ybf,fb hcl,zms,eC,dd_le1,dv]
  cases h4
  obtain ⟨k1b,k2b,k3b,k4b,k5b,k6b⟩:=bL _ h3 hgt trivial hlt1
  simp only [Rl.isL,Bool.false_eq_true,if_false] at k4b
  have ht2:t2.length≤100000:=by omega
  simp only [go_sem,f1,f2,hgi,hgt',hsi,hst,aE,aH,aP,bR,bp,bS,bn,bg,aQ,aZ,a8,aK,hne,ne_eq,hne',hl5,Int.toNat_natCast,bV,bT,i1,Int.reduceLE,eq_self,not_false_eq_true,gM,hg,hp,hs,if_true,hgi1,hss,hp2,h3,ht2,nd2]
  have hc3:=hcl2 p2 (t2++[⟨5,b,0,[],[],0⟩])
  simp only [List.length_append,yaz,yba,Nat.zero_add] at hc3 ⊢
  simp (disch:=first|assumption|omega|(simp;done)|(simp;omega)|(simp only [bt,and_true];first|done|omega|(simp;done))) [↓zmk,beq,ybc,ybd,ybe,ag,wk,wk2,wk1,wkM,wkL,am,ybf,hc3]
theorem Da {f:Nat} (h_yUn:EntOk Try.prog 100 (Ent.effect (jR f))) (h_yAtom:EntOk Try.prog 102 (Ent.effect (lH f))):EntOk Try.prog 100 (Ent.effect (jR (f+1))):=by
 refine EntOk.effect fun args H K h=>?_
 unfold jR aK at h
 split at h
 rotate_left
 ·exact h.elim
 rename_i id
 obtain ⟨m,l,p,tb,t,hg,hpre,hK⟩:=h
 cases ho:run l (f+1) .un p t with
 |none=>rw [ho] at hK;exact hK.elim
 |some r =>
 rw [ho,dM] at hK
 refine ⟨_,_,hK,?_⟩
 clear hK
 rw [run] at ho
 simp only [dq] at ho
 have hpre':=hpre
 obtain ⟨hne,htb,ht,hp,hl,hgl,hgt⟩:=hpre
 have hid:=AHeap.get_lt hg
 have htbl:=AHeap.get_lt htb
 have f1:=c9 hid
 have f2:=c9 htbl
 have hl5:l.length≤100000:=by omega
 have i1:=@Int.natCast_nonneg
 have hne':(id=tb)=False:=eq_false hne
 refine ACalls.fW aD (TblOk.cons ik (TblOk.cons h_yUn (TblOk.cons gx (TblOk.cons h_yAtom TblOk.nil)))) Try.func100 [.tmp 2] nr (T:=az []) (h:=fun hcl hlt=>?_)
 clear hlt
 obtain ⟨hgi,hgt',hsi,hcl2,hst⟩:=eV hg hpre' hcl
 cases hs:isS l p [45] with
 |false =>
  rw [hs,if_neg (by simp)] at ho
  simp only [go_sem,f1,f2,hgi,hgt',hsi,hst,aE,aH,aP,bR,bp,bS,bn,bg,aQ,aZ,a8,aK,hne,ne_eq,hne',hl5,Int.toNat_natCast,bV,bT,i1,Int.reduceLE,eq_self,not_false_eq_true,lH,hg,hp,hs,if_false,hpre',ho,dM]
  cases r with
  |ok a q u =>
   simp only [go_sem,f1,f2,hgi,hgt',hsi,hst,aE,aH,aP,bR,bp,bS,bn,bg,aQ,aZ,a8,aK,hne,ne_eq,hne',hl5,Int.toNat_natCast,bV,bT,i1,Int.reduceLE,eq_self,not_false_eq_true]
   simp (disch:=first|assumption|omega|(simp;done)|(simp;omega)|(simp only [bt,and_true];first|done|omega|(simp;done))) [↓zmk,beq,ybc,ybd,ybe,ag,wk,wk2,wk1,wkM,wkL,am,ybf,hcl2]
  |bad q =>
   simp only [go_sem,f1,f2,hgi,hgt',hsi,hst,aE,aH,aP,bR,bp,bS,bn,bg,aQ,aZ,a8,aK,hne,ne_eq,hne',hl5,Int.toNat_natCast,bV,bT,i1,Int.reduceLE,eq_self,not_false_eq_true]
   simp (disch:=first|assumption|omega|(simp;done)|(simp;omega)|(simp only [bt,and_true];first|done|omega|(simp;done))) [↓zmk,beq,ybc,ybd,ybe,ag,wk,wk2,wk1,wkM,wkL,am,ybf,fb hcl,zms,eC,dd_le1,dv]
 |true =>
  rw [hs,if_pos rfl] at ho
  have hlt1:=cW hs
  have hgi1:∀ X,(H.set id X).get id=some X:=fun X=>AHeap.get_set_same _ _ hid
  have hp2:gV (H.set id (pst m l (p+1) tb t)) id tb l (p+1) t:=mn hpre' hlt1 (by omega)
  have hss:∀ X Y,(H.set id X).set id Y=H.set id Y:=fun X Y=>by simp only [AHeap.set];congr 1;funext k;by_cases hk:k=id<;>simp [hk]
  rcases aS ho with ⟨q,h3,rfl⟩|⟨b,p2,t2,h3,h4⟩
  ·simp only [go_sem,f1,f2,hgi,hgt',hsi,hst,aE,aH,aP,bR,bp,bS,bn,bg,aQ,aZ,a8,aK,hne,ne_eq,hne',hl5,Int.toNat_natCast,bV,bT,i1,Int.reduceLE,eq_self,not_false_eq_true,jR,hg,hp,hs,if_true,hgi1,hss,hp2,h3]
   simp (disch:=first|assumption|omega|(simp;done)|(simp;omega)|(simp only [bt,and_true];first|done|omega|(simp;done))) [↓zmk,beq,ybc,ybd,ybe,ag,wk,wk2,wk1,wkM,wkL,am,ybf,fb hcl,zms,eC,dd_le1,dv]
  cases h4
  obtain ⟨k1b,k2b,k3b,k4b,k5b,k6b⟩:=bL _ h3 hgt trivial hlt1
  simp only [Rl.isL,Bool.false_eq_true,if_false] at k4b
  have ht2:t2.length≤100000:=by omega
  simp only [go_sem,f1,f2,hgi,hgt',hsi,hst,aE,aH,aP,bR,bp,bS,bn,bg,aQ,aZ,a8,aK,hne,ne_eq,hne',hl5,Int.toNat_natCast,bV,bT,i1,Int.reduceLE,eq_self,not_false_eq_true,jR,hg,hp,hs,if_true,hgi1,hss,hp2,h3,ht2,nd2]
  have hc3:=hcl2 p2 (t2++[⟨4,b,0,[],[],0⟩])
  simp only [List.length_append,yaz,yba,Nat.zero_add] at hc3 ⊢
  simp (disch:=first|assumption|omega|(simp;done)|(simp;omega)|(simp only [bt,and_true];first|done|omega|(simp;done))) [↓zmk,beq,ybc,ybd,ybe,ag,wk,wk2,wk1,wkM,wkL,am,ybf,hc3]
theorem Cx {f:Nat} (h_ySum:EntOk Try.prog 97 (Ent.effect (jQ f))):EntOk Try.prog 96 (Ent.effect (oQ (f+1))):=by
 refine EntOk.effect fun args H K h=>?_
 unfold oQ aK at h
 split at h
 rotate_left
 ·exact h.elim
 rename_i id
 obtain ⟨m,l,p,tb,t,hg,hpre,hK⟩:=h
 cases ho:run l (f+1) .cmp p t with
 |none=>rw [ho] at hK;exact hK.elim
 |some r =>
 rw [ho,dM] at hK
 refine ⟨_,_,hK,?_⟩
 clear hK
 rw [run] at ho
 simp only [dq] at ho
 have hpre':=hpre
 obtain ⟨hne,htb,ht,hp,hl,hgl,hgt⟩:=hpre
 have hid:=AHeap.get_lt hg
 have htbl:=AHeap.get_lt htb
 have f1:=c9 hid
 have f2:=c9 htbl
 have hl5:l.length≤100000:=by omega
 have i1:=@Int.natCast_nonneg
 have hne':(id=tb)=False:=eq_false hne
 refine ACalls.fW aD (TblOk.cons h_ySum (TblOk.cons re (TblOk.cons tL (TblOk.cons gx TblOk.nil)))) Try.func96 [.tmp 2] nr (T:=az []) (h:=fun hcl hlt=>?_)
 clear hlt
 obtain ⟨hgi,hgt',hsi,hcl2,hst⟩:=eV hg hpre' hcl
 rcases aS ho with ⟨q,h1,rfl⟩|⟨a,p1,t1,h1,h2⟩
 ·simp only [go_sem,f1,f2,hgi,hgt',hsi,hst,aE,aH,aP,bR,bp,bS,bn,bg,aQ,aZ,a8,aK,hne,ne_eq,hne',hl5,Int.toNat_natCast,bV,bT,i1,Int.reduceLE,eq_self,not_false_eq_true,jQ,hg,hpre',h1]
  simp (disch:=first|assumption|omega|(simp;done)|(simp;omega)|(simp only [bt,and_true];first|done|omega|(simp;done))) [↓zmk,beq,ybc,ybd,ybe,ag,wk,wk2,wk1,wkM,wkL,am,ybf,fb hcl,zms,eC,dd_le1,dv]
 clear ho
 obtain ⟨k1,k2,k3,k4,k5,k6⟩:=bL _ h1 hgt trivial hp
 simp only [Rl.isL,Bool.false_eq_true,if_false] at k4
 have hp1:gV ((H.set id (pst m l p1 tb t1)).set tb (.buf 7 t1.length)) id tb l p1 t1:=dD hpre' k2 (by omega) k5
 cases hs:gW l p1 opsC with
 |none =>
  rw [hs] at h2
  cases h2
  simp only [go_sem,f1,f2,hgi,hgt',hsi,hst,aE,aH,aP,bR,bp,bS,bn,bg,aQ,aZ,a8,aK,hne,ne_eq,hne',hl5,Int.toNat_natCast,bV,bT,i1,Int.reduceLE,eq_self,not_false_eq_true,io,du,ib,fG,iJ,iP,jQ,hg,hpre',h1,k2,hs,lM]
  refine q8 rfl ?_
  simp only [go_sem,f1,f2,hgi,hgt',hsi,hst,aE,aH,aP,bR,bp,bS,bn,bg,aQ,aZ,a8,aK,hne,ne_eq,hne',hl5,Int.toNat_natCast,bV,bT,i1,Int.reduceLE,eq_self,not_false_eq_true]
  simp (disch:=first|assumption|omega|(simp;done)|(simp;omega)|(simp only [bt,and_true];first|done|omega|(simp;done))) [↓zmk,beq,ybc,ybd,ybe,ag,wk,wk2,wk1,wkM,wkL,am,ybf,hcl2]
 |some op =>
  rw [hs] at h2
  dsimp only at h2
  obtain ⟨hlt1,so,hso⟩:=fq hs
  obtain ⟨o1,o2⟩:=si hso
  have hop:((op:Int) != 0)=true:=by simp;omega
  have hp2:gV ((H.set id (pst m l (p1+1) tb t1)).set tb (.buf 7 t1.length)) id tb l (p1+1) t1:=dD hpre' hlt1 (by omega) k5
  rcases aS h2 with ⟨q,h3,rfl⟩|⟨b,p2,t2,h3,h4⟩
  ·simp only [go_sem,f1,f2,hgi,hgt',hsi,hst,aE,aH,aP,bR,bp,bS,bn,bg,aQ,aZ,a8,aK,hne,ne_eq,hne',hl5,Int.toNat_natCast,bV,bT,i1,Int.reduceLE,eq_self,not_false_eq_true,io,du,ib,fG,iJ,iP,jQ,hg,hpre',h1,k2,hs,jT,hop,hp2,h3]
   simp (disch:=first|assumption|omega|(simp;done)|(simp;omega)|(simp only [bt,and_true];first|done|omega|(simp;done))) [↓zmk,beq,ybc,ybd,ybe,ag,wk,wk2,wk1,wkM,wkL,am,ybf,fb hcl,zms,eC,dd_le1,dv]
  cases h4
  obtain ⟨k1b,k2b,k3b,k4b,k5b,k6b⟩:=bL _ h3 k5 trivial hlt1
  simp only [Rl.isL,Bool.false_eq_true,if_false] at k4b
  have ht2:t2.length≤100000:=by omega
  simp only [go_sem,f1,f2,hgi,hgt',hsi,hst,aE,aH,aP,bR,bp,bS,bn,bg,aQ,aZ,a8,aK,hne,ne_eq,hne',hl5,Int.toNat_natCast,bV,bT,i1,Int.reduceLE,eq_self,not_false_eq_true,io,du,ib,fG,iJ,iP,jQ,hg,hpre',h1,k2,hs,jT,hop,hp2,h3,ht2,nd2]
  have hc3:=hcl2 p2 (t2++[⟨op,a,b,[],[],0⟩])
  simp only [List.length_append,yaz,yba,Nat.zero_add] at hc3 ⊢
  simp (disch:=first|assumption|omega|(simp;done)|(simp;omega)|(simp only [bt,and_true];first|done|omega|(simp;done))) [↓zmk,beq,ybc,ybd,ybe,ag,wk,wk2,wk1,wkM,wkL,am,ybf,hc3]
theorem Bn {f:Nat} (h_yUn:EntOk Try.prog 100 (Ent.effect (jR f))):EntOk Try.prog 97 (Ent.effect (jQ (f+1))):=by
 refine EntOk.effect fun args H K h=>?_
 unfold jQ aK at h
 split at h
 rotate_left
 ·exact h.elim
 rename_i id
 obtain ⟨m,l,p,tb,t,hg,hpre,hK⟩:=h
 cases ho:run l (f+1) .sum p t with
 |none=>rw [ho] at hK;exact hK.elim
 |some r =>
 rw [ho,dM] at hK
 refine ⟨_,_,hK,?_⟩
 clear hK
 rw [run] at ho
 simp only [dq] at ho
 have hpre':=hpre
 obtain ⟨hne,htb,ht,hp,hl,hgl,hgt⟩:=hpre
 have hid:=AHeap.get_lt hg
 have htbl:=AHeap.get_lt htb
 have f1:=c9 hid
 have f2:=c9 htbl
 have hl5:l.length≤100000:=by omega
 have i1:=@Int.natCast_nonneg
 have hne':(id=tb)=False:=eq_false hne
 refine ACalls.fW aD (TblOk.cons h_yUn (TblOk.cons Ad (TblOk.cons tL (TblOk.cons gx TblOk.nil)))) Try.func97 [.tmp 2] nr (T:=az []) (h:=fun hcl hlt=>?_)
 clear hlt
 obtain ⟨hgi,hgt',hsi,hcl2,hst⟩:=eV hg hpre' hcl
 rcases aS ho with ⟨q,h1,rfl⟩|⟨a,p1,t1,h1,h2⟩
 ·simp only [go_sem,f1,f2,hgi,hgt',hsi,hst,aE,aH,aP,bR,bp,bS,bn,bg,aQ,aZ,a8,aK,hne,ne_eq,hne',hl5,Int.toNat_natCast,bV,bT,i1,Int.reduceLE,eq_self,not_false_eq_true,jR,hg,hpre',h1]
  simp (disch:=first|assumption|omega|(simp;done)|(simp;omega)|(simp only [bt,and_true];first|done|omega|(simp;done))) [↓zmk,beq,ybc,ybd,ybe,ag,wk,wk2,wk1,wkM,wkL,am,ybf,fb hcl,zms,eC,dd_le1,dv]
 clear ho
 obtain ⟨k1,k2,k3,k4,k5,k6⟩:=bL _ h1 hgt trivial hp
 simp only [Rl.isL,Bool.false_eq_true,if_false] at k4
 have hp1:gV ((H.set id (pst m l p1 tb t1)).set tb (.buf 7 t1.length)) id tb l p1 t1:=dD hpre' k2 (by omega) k5
 have hsn:∀ p',gW l p' opsS=none→opv l p'=0∧oph l p'=p':=fun p' e=>by simp [opv,oph,e]
 have hss:∀ p' op,gW l p' opsS=some op→opv l p'=op∧oph l p'=p'+1:=fun p' op e=>by simp [opv,oph,e]
 have hev:∀ p',(gW l p' opsS=none∧opv l p'=0∧oph l p'=p')∨∃ op,gW l p' opsS=some op∧opv l p'=op∧oph l p'=p'+1:=fun p'=>by
  cases hs:gW l p' opsS with
  |none=>exact .inl ⟨rfl,hsn _ hs⟩
  |some op=>exact .inr ⟨op,rfl,hss _ _ hs⟩
 simp only [go_sem,f1,f2,hgi,hgt',hsi,hst,aE,aH,aP,bR,bp,bS,bn,bg,aQ,aZ,a8,aK,hne,ne_eq,hne',hl5,Int.toNat_natCast,bV,bT,i1,Int.reduceLE,eq_self,not_false_eq_true,io,du,ib,fG,iJ,iP,jR,hg,hpre',h1,k2]
 rcases hev p1 with ⟨hs1,v1,v2⟩|⟨op1,hs1,v1,v2⟩
 all_goals
  simp only [go_sem,f1,f2,hgi,hgt',hsi,hst,aE,aH,aP,bR,bp,bS,bn,bg,aQ,aZ,a8,aK,hne,ne_eq,hne',hl5,Int.toNat_natCast,bV,bT,i1,Int.reduceLE,eq_self,not_false_eq_true,io,du,ib,fG,iJ,iP,k2,hs1,lM,jT]
  refine aB (A:=Nat × Nat × Nat × List Nd) (fun x=>[(0,.ptr id 0),(3,.int .i64 (x.2.1:Int)),(4,.int .i64 (opv l x.2.2.1:Int))]) (fun x=>(H.set id (pst m l (oph l x.2.2.1) tb x.2.2.2)).set tb (.buf 7 x.2.2.2.length)) (fun x=>x.1≤f∧run l x.1 (.sumL x.2.1) x.2.2.1 x.2.2.2=some r∧x.2.2.1≤l.length∧x.2.2.2.length≤x.2.2.1∧Good x.2.2.2∧x.2.1<x.2.2.2.length) (fun x=>x.1) (f,a,p1,t1) ⟨Nat.le_refl _,h2,k2,by dsimp only;omega,k5,k1⟩ ?_ fun x hx=>?_
  ·dsimp only
   rw [v1,v2]
   (simp only [bkq,enterW,aI,ltF,ne_eq,Nat.reduceEqDiff,reduceCtorEq,hcl2,hid];try simp (disch:=first|assumption|omega|(simp;done)|(simp;omega)|(simp only [bt,and_true];first|done|omega|(simp;done))) [↓zmk,beq,ybc,ybd,ybe,ag,wk,wk2,wk1,wkM,wkL,am,ybf,byq,biq,au,hcl,hcl2,hid];try (repeat' (first|assumption|omega|exact True.intro|refine And.intro ?_ ?_|refine af ?_|refine aa ?_|refine ae ?_ ?_|refine ah ?_ ?_|refine ak ?_|exact AHeap.Le.refl _|refine AHeap.Le.push ?_ _|refine AHeap.Le.del ?_ ?_|(simp only [bt,and_true,true_and,hcl2,hid];first|done|omega|(simp;done)))))
  obtain ⟨g,a',p',t'⟩:=x
  obtain ⟨x1,x2,x3,x4,x5,x6⟩:=hx
  dsimp only at x1 x2 x3 x4 x5 x6 ⊢
  have ht':t'.length≤100000:=by omega
  cases g with
  |zero=>cases x2
  |succ g =>
  rw [run] at x2
  simp only [dq] at x2
  rcases hev p' with ⟨hs,u1,u2⟩|⟨op,hs,u1,u2⟩
  ·rw [hs] at x2
   cases x2
   rw [u1,u2]
   simp only [go_sem,f1,f2,hgi,hgt',hsi,hst,aE,aH,aP,bR,bp,bS,bn,bg,aQ,aZ,a8,aK,hne,ne_eq,hne',hl5,Int.toNat_natCast,bV,bT,i1,Int.reduceLE,eq_self,not_false_eq_true]
   refine q8 rfl ?_
   simp only [go_sem,f1,f2,hgi,hgt',hsi,hst,aE,aH,aP,bR,bp,bS,bn,bg,aQ,aZ,a8,aK,hne,ne_eq,hne',hl5,Int.toNat_natCast,bV,bT,i1,Int.reduceLE,eq_self,not_false_eq_true]
   simp (disch:=first|assumption|omega|(simp;done)|(simp;omega)|(simp only [bt,and_true];first|done|omega|(simp;done))) [↓zmk,beq,ybc,ybd,ybe,ag,wk,wk2,wk1,wkM,wkL,am,ybf,hcl2]
  ·rw [hs] at x2
   dsimp only at x2
   rw [u1,u2]
   obtain ⟨hlt1,so,hso⟩:=fq hs
   obtain ⟨o1,o2⟩:=nI hso
   have hop:((op:Int) != 0)=true:=by simp;omega
   have hp2:gV ((H.set id (pst m l (p'+1) tb t')).set tb (.buf 7 t'.length)) id tb l (p'+1) t':=dD hpre' hlt1 (by omega) x5
   rcases aS x2 with ⟨q,h3,rfl⟩|⟨b,p2,t2,h3,h4⟩
   ·have h3':=cA (show g≤f by omega) h3
    simp only [go_sem,f1,f2,hgi,hgt',hsi,hst,aE,aH,aP,bR,bp,bS,bn,bg,aQ,aZ,a8,aK,hne,ne_eq,hne',hl5,Int.toNat_natCast,bV,bT,i1,Int.reduceLE,eq_self,not_false_eq_true,jR,hop,hp2,h3']
    simp (disch:=first|assumption|omega|(simp;done)|(simp;omega)|(simp only [bt,and_true];first|done|omega|(simp;done))) [↓zmk,beq,ybc,ybd,ybe,ag,wk,wk2,wk1,wkM,wkL,am,ybf,fb hcl,zms,eC,dd_le1,dv]
   have h3':=cA (show g≤f by omega) h3
   obtain ⟨k1b,k2b,k3b,k4b,k5b,k6b⟩:=bL _ h3 x5 trivial hlt1
   simp only [Rl.isL,Bool.false_eq_true,if_false] at k4b
   have ht2:t2.length≤100000:=by omega
   have hc3:=hcl2 (oph l p2) (t2++[⟨op,a',b,[],[],0⟩])
   rcases hev p2 with ⟨hs2,w1,w2⟩|⟨op2,hs2,w1,w2⟩
   all_goals
    simp only [go_sem,f1,f2,hgi,hgt',hsi,hst,aE,aH,aP,bR,bp,bS,bn,bg,aQ,aZ,a8,aK,hne,ne_eq,hne',hl5,Int.toNat_natCast,bV,bT,i1,Int.reduceLE,eq_self,not_false_eq_true,io,du,ib,fG,iJ,iP,jR,hop,hp2,h3',ht2,k2b,hs2,lM,jT]
    refine ⟨(g,t2.length,p2,t2++[⟨op,a',b,[],[],0⟩]),⟨by dsimp only;omega,h4,k2b,by simp;omega,k5b.snoc ⟨(by show 1≤op;omega),o2⟩ (show (0:Nat)<2^128 by decide) (.inr ⟨by simp only;omega,by simp only;omega⟩),by simp⟩,by dsimp only;omega,?_⟩
    dsimp only
    rw [w1,w2]
    rw [w2] at hc3
    simp only [List.length_append,yaz,yba,Nat.zero_add] at hc3 ⊢
    (simp only [bkq,enterW,aI,ltF,ne_eq,Nat.reduceEqDiff,reduceCtorEq,hc3,hid];try simp (disch:=first|assumption|omega|(simp;done)|(simp;omega)|(simp only [bt,and_true];first|done|omega|(simp;done))) [↓zmk,beq,ybc,ybd,ybe,ag,wk,wk2,wk1,wkM,wkL,am,ybf,byq,biq,au,hcl,hc3,hid];try (repeat' (first|assumption|omega|exact True.intro|refine And.intro ?_ ?_|refine af ?_|refine aa ?_|refine ae ?_ ?_|refine ah ?_ ?_|refine ak ?_|exact AHeap.Le.refl _|refine AHeap.Le.push ?_ _|refine AHeap.Le.del ?_ ?_|(simp only [bt,and_true,true_and,hc3,hid];first|done|omega|(simp;done)))))
theorem AQ {f:Nat} (h_yImp:EntOk Try.prog 77 (Ent.effect (fP f))):EntOk Try.prog 102 (Ent.effect (lH (f+1))):=by
 refine EntOk.effect fun args H K h=>?_
 unfold lH aK at h
 split at h
 rotate_left
 ·exact h.elim
 rename_i id
 obtain ⟨m,l,p,tb,t,hg,hpre,hK⟩:=h
 cases ho:run l (f+1) .atom p t with
 |none=>rw [ho] at hK;exact hK.elim
 |some r =>
 rw [ho,dM] at hK
 refine ⟨_,_,hK,?_⟩
 clear hK
 rw [run] at ho
 simp only [dq] at ho
 have hpre':=hpre
 obtain ⟨hne,htb,ht,hp,hl,hgl,hgt⟩:=hpre
 have hid:=AHeap.get_lt hg
 have htbl:=AHeap.get_lt htb
 have f1:=c9 hid
 have f2:=c9 htbl
 have hl5:l.length≤100000:=by omega
 have i1:=@Int.natCast_nonneg
 have hne':(id=tb)=False:=eq_false hne
 refine ACalls.fW aD (TblOk.cons ik (TblOk.cons h_yImp (TblOk.cons iz (TblOk.cons sW (TblOk.cons yN (TblOk.cons yE (TblOk.cons gx TblOk.nil))))))) Try.func102 [.tmp 2] nr (T:=az []) (h:=fun hcl hlt=>?_)
 clear hlt
 obtain ⟨hgi,hgt',hsi,hcl2,hst⟩:=eV hg hpre' hcl
 have hgi1:∀ X,(H.set id X).get id=some X:=fun X=>AHeap.get_set_same _ _ hid
 have hgt1:∀ X,(H.set id X).get tb=some (.buf 7 t.length):=fun X=>by rw [AHeap.get_set_ne _ _ (fun e=>hne e.symm)];exact htb
 have hss:∀ X Y,(H.set id X).set id Y=H.set id Y:=fun X Y=>by simp only [AHeap.set];congr 1;funext k;by_cases hk:k=id<;>simp [hk]
 have hcs:=ai (cs:=[.slice m 3 (cV l),.int .i64 (p:Int),.slice (.own tb) 7 (nds t)]) hg
 have ht5:t.length≤100000:=by omega
 cases hs0:isS l p [40] with
 |true =>
  rw [hs0,if_pos rfl] at ho
  have hlt1:=cW hs0
  have hp2:gV (H.set id (pst m l (p+1) tb t)) id tb l (p+1) t:=mn hpre' hlt1 (by omega)
  rcases aS ho with ⟨q,h3,rfl⟩|⟨a,p1,t1,h3,h4⟩
  ·simp only [go_sem,f1,f2,hgi,hgt',hsi,hst,aE,aH,aP,bR,bp,bS,bn,bg,aQ,aZ,a8,aK,hne,ne_eq,hne',hl5,Int.toNat_natCast,bV,bT,i1,Int.reduceLE,eq_self,not_false_eq_true,fP,hg,hp,hs0,if_true,hgi1,hss,hp2,h3]
   simp (disch:=first|assumption|omega|(simp;done)|(simp;omega)|(simp only [bt,and_true];first|done|omega|(simp;done))) [↓zmk,beq,ybc,ybd,ybe,ag,wk,wk2,wk1,wkM,wkL,am,ybf,fb hcl,zms,eC,dd_le1,dv]
  obtain ⟨k1b,k2b,k3b,k4b,k5b,k6b⟩:=bL _ h3 hgt trivial hlt1
  simp only [Rl.isL,Bool.false_eq_true,if_false] at k4b
  cases hs2:isS l p1 [41] with
  |true =>
   rw [hs2,if_pos rfl] at h4
   cases h4
   simp only [go_sem,f1,f2,hgi,hgt',hsi,hst,aE,aH,aP,bR,bp,bS,bn,bg,aQ,aZ,a8,aK,hne,ne_eq,hne',hl5,Int.toNat_natCast,bV,bT,i1,Int.reduceLE,eq_self,not_false_eq_true,fP,hg,hp,hs0,if_true,hgi1,hss,hp2,h3,k2b,hs2]
   simp (disch:=first|assumption|omega|(simp;done)|(simp;omega)|(simp only [bt,and_true];first|done|omega|(simp;done))) [↓zmk,beq,ybc,ybd,ybe,ag,wk,wk2,wk1,wkM,wkL,am,ybf,hcl2]
  |false =>
   rw [hs2,if_neg (by simp)] at h4
   cases h4
   simp only [go_sem,f1,f2,hgi,hgt',hsi,hst,aE,aH,aP,bR,bp,bS,bn,bg,aQ,aZ,a8,aK,hne,ne_eq,hne',hl5,Int.toNat_natCast,bV,bT,i1,Int.reduceLE,eq_self,not_false_eq_true,fP,db,hg,hp,hs0,if_true,if_false,hgi1,hss,hp2,h3,k2b,hs2]
   simp (disch:=first|assumption|omega|(simp;done)|(simp;omega)|(simp only [bt,and_true];first|done|omega|(simp;done))) [↓zmk,beq,ybc,ybd,ybe,ag,wk,wk2,wk1,wkM,wkL,am,ybf,fb hcl,zms,eC,dd_le1,dv]
 |false =>
  rw [hs0,if_neg (by simp)] at ho
  cases ho
  by_cases hlt0:p<l.length
  ·rcases htk:l[p] with ⟨k,x,z⟩
   have hgd:=nF hlt0 htk
   have hge:l[p]?=some (k,x,z):=by rw [List.getElem?_eq_getElem hlt0,htk]
   have d0:decide ((p:Int)<(l.length:Int))=true:=by simp;omega
   by_cases hk1:k=1
   ·subst hk1
    have hka:pn l p=1:=by unfold pn;rw [hge]
    have hr:df l p t=.ok t.length (p+1) (t++[⟨1,0,0,[],[],qy l p⟩]):=by unfold df qy;rw [hge];rfl
    have hd1:(((1:Nat):Int)==1)=true:=rfl
    rw [hr]
    have hc3:=hcl2 (p+1) (t++[⟨1,0,0,[],[],qy l p⟩])
    simp only [go_sem,f1,f2,hgi,hgt',hsi,hst,aE,aH,aP,bR,bp,bS,bn,bg,aQ,aZ,a8,aK,hne,ne_eq,hne',hl5,Int.toNat_natCast,bV,bT,i1,Int.reduceLE,eq_self,not_false_eq_true,hg,hp,hs0,if_false,hcs,bc,hgd,d0,fR,c6,db,eD,hp,hgi1,hgt1,hss,ht5,fe,eJ,ef,bne_self_eq_false,beq_self_eq_true,hd1,hka,hpre']
    simp only [List.length_append,yaz,yba,Nat.zero_add] at hc3 ⊢
    refine ⟨by omega,?_⟩
    simp (disch:=first|assumption|omega|(simp;done)|(simp;omega)|(simp only [bt,and_true];first|done|omega|(simp;done))) [↓zmk,beq,ybc,ybd,ybe,ag,wk,wk2,wk1,wkM,wkL,am,ybf,hc3]
   ·have d1:((k:Int)==1)=false:=by simp;omega
    by_cases hk2:k=2
    ·subst hk2
     have hw:jv l p=some x:=by unfold jv;rw [hge];rfl
     have hd2:(((2:Nat):Int)==1)=false:=rfl
     by_cases hx1:x=p8
     ·have hr:df l p t=.ok t.length (p+1) (t++[⟨2,0,0,[],[],1⟩]):=by unfold df;rw [hge];simp [hx1]
      have htr:ii x=.tup [ef 2 1,.bool true]:=by unfold ii;rw [if_pos hx1]
      rw [hr]
      have hc3:=hcl2 (p+1) (t++[⟨2,0,0,[],[],1⟩])
      simp only [go_sem,f1,f2,hgi,hgt',hsi,hst,aE,aH,aP,bR,bp,bS,bn,bg,aQ,aZ,a8,aK,hne,ne_eq,hne',hl5,Int.toNat_natCast,bV,bT,i1,Int.reduceLE,eq_self,not_false_eq_true,hg,hp,hs0,if_false,hcs,bc,hgd,d0,fR,c6,db,eD,hp,hgi1,hgt1,hss,ht5,fe,eJ,ef,bne_self_eq_false,beq_self_eq_true,hd2,hw,htr,EI,Ea]
      simp only [List.length_append,yaz,yba,Nat.zero_add] at hc3 ⊢
      refine ⟨by omega,?_⟩
      simp (disch:=first|assumption|omega|(simp;done)|(simp;omega)|(simp only [bt,and_true];first|done|omega|(simp;done))) [↓zmk,beq,ybc,ybd,ybe,ag,wk,wk2,wk1,wkM,wkL,am,ybf,hc3]
     ·by_cases hx2:x=mC
      ·have hr:df l p t=.ok t.length (p+1) (t++[⟨2,0,0,[],[],0⟩]):=by unfold df;rw [hge];simp [hx1,hx2];decide
       have htr:ii x=.tup [ef 2 0,.bool true]:=by unfold ii;rw [if_neg hx1,if_pos hx2]
       rw [hr]
       have hc3:=hcl2 (p+1) (t++[⟨2,0,0,[],[],0⟩])
       simp only [go_sem,f1,f2,hgi,hgt',hsi,hst,aE,aH,aP,bR,bp,bS,bn,bg,aQ,aZ,a8,aK,hne,ne_eq,hne',hl5,Int.toNat_natCast,bV,bT,i1,Int.reduceLE,eq_self,not_false_eq_true,hg,hp,hs0,if_false,hcs,bc,hgd,d0,fR,c6,db,eD,hp,hgi1,hgt1,hss,ht5,fe,eJ,ef,bne_self_eq_false,beq_self_eq_true,hd2,hw,htr]
       simp only [List.length_append,yaz,yba,Nat.zero_add] at hc3 ⊢
       refine ⟨by omega,?_⟩
       simp (disch:=first|assumption|omega|(simp;done)|(simp;omega)|(simp only [bt,and_true];first|done|omega|(simp;done))) [↓zmk,beq,ybc,ybd,ybe,ag,wk,wk2,wk1,wkM,wkL,am,ybf,hc3]
      ·have htr:ii x=.tup [ef 0 0,.bool false]:=by unfold ii;rw [if_neg hx1,if_neg hx2]
       have hp1:p+1≤l.length:=by omega
       cases hs3:isS l (p+1) [58,58] with
       |false =>
        have hr:df l p t=.ok t.length (p+1) (t++[⟨3,0,0,x,[],0⟩]):=by unfold df;rw [hge];simp [hx1,hx2,hs3]
        rw [hr]
        have hc3:=hcl2 (p+1) (t++[⟨3,0,0,x,[],0⟩])
        simp only [go_sem,f1,f2,hgi,hgt',hsi,hst,aE,aH,aP,bR,bp,bS,bn,bg,aQ,aZ,a8,aK,hne,ne_eq,hne',hl5,Int.toNat_natCast,bV,bT,i1,Int.reduceLE,eq_self,not_false_eq_true,hg,hp,hs0,if_false,hcs,bc,hgd,d0,fR,c6,db,eD,hp,hgi1,hgt1,hss,ht5,fe,eJ,ef,bne_self_eq_false,beq_self_eq_true,hd2,hw,htr,hp1,hs3]
        simp only [List.length_append,yaz,yba,Nat.zero_add] at hc3 ⊢
        refine ⟨by omega,?_⟩
        simp (disch:=first|assumption|omega|(simp;done)|(simp;omega)|(simp only [bt,and_true];first|done|omega|(simp;done))) [↓zmk,beq,ybc,ybd,ybe,ag,wk,wk2,wk1,wkM,wkL,am,ybf,hc3]
       |true =>
        have hlt3:=cW hs3
        have hp2:p+1+1≤l.length:=by omega
        have hp3:p+2=p+1+1:=rfl
        cases hw2:jv l (p+1+1) with
        |none =>
         have hr:df l p t=.bad (p+1+1):=by
          unfold df;rw [hge];simp [hx1,hx2,hs3]
          unfold jv at hw2
          cases hge2:l[p+1+1]? with
          |none=>rfl
          |some v =>
           obtain ⟨k2,y,z2⟩:=v
           rw [hge2] at hw2
           dsimp only at hw2 ⊢
           split at hw2
           ·cases hw2
           ·rename_i hk;rw [if_neg hk]
         rw [hr]
         simp only [go_sem,f1,f2,hgi,hgt',hsi,hst,aE,aH,aP,bR,bp,bS,bn,bg,aQ,aZ,a8,aK,hne,ne_eq,hne',hl5,Int.toNat_natCast,bV,bT,i1,Int.reduceLE,eq_self,not_false_eq_true,hg,hp,hs0,if_false,hcs,bc,hgd,d0,fR,c6,db,eD,hp,hgi1,hgt1,hss,ht5,fe,eJ,ef,bne_self_eq_false,beq_self_eq_true,hd2,hw,htr,hp1,hs3,if_true,hp2,hw2]
         refine ⟨by omega,?_⟩
         simp (disch:=first|assumption|omega|(simp;done)|(simp;omega)|(simp only [bt,and_true];first|done|omega|(simp;done))) [↓zmk,beq,ybc,ybd,ybe,ag,wk,wk2,wk1,wkM,wkL,am,ybf,fb hcl,zms,eC,dd_le1,dv]
         exact (dd_le1.push _).push _
        |some y =>
         have hr:df l p t=.ok t.length (p+1+1+1) (t++[⟨3,0,0,x,y,0⟩]):=by
          unfold df;rw [hge];simp [hx1,hx2,hs3]
          unfold jv at hw2
          cases hge2:l[p+1+1]? with
          |none=>rw [hge2] at hw2;cases hw2
          |some v =>
           obtain ⟨k2,y2,z2⟩:=v
           rw [hge2] at hw2
           dsimp only at hw2 ⊢
           split at hw2
           ·rename_i hk;cases hw2;rw [if_pos hk]
           ·cases hw2
         rw [hr]
         have hc3:=hcl2 (p+1+1+1) (t++[⟨3,0,0,x,y,0⟩])
         simp only [go_sem,f1,f2,hgi,hgt',hsi,hst,aE,aH,aP,bR,bp,bS,bn,bg,aQ,aZ,a8,aK,hne,ne_eq,hne',hl5,Int.toNat_natCast,bV,bT,i1,Int.reduceLE,eq_self,not_false_eq_true,hg,hp,hs0,if_false,hcs,bc,hgd,d0,fR,c6,db,eD,hp,hgi1,hgt1,hss,ht5,fe,eJ,ef,bne_self_eq_false,beq_self_eq_true,hd2,hw,htr,hp1,hs3,if_true,hp2,hw2]
         simp only [List.length_append,yaz,yba,Nat.zero_add] at hc3 ⊢
         refine ⟨by omega,?_⟩
         simp (disch:=first|assumption|omega|(simp;done)|(simp;omega)|(simp only [bt,and_true];first|done|omega|(simp;done))) [↓zmk,beq,ybc,ybd,ybe,ag,wk,wk2,wk1,wkM,wkL,am,ybf,hc3]
    ·have hw:jv l p=none:=by unfold jv;rw [hge];dsimp only;rw [if_neg hk2]
     have hr:df l p t=.bad p:=by unfold df;rw [hge];simp [hk1,hk2]
     rw [hr]
     simp only [go_sem,f1,f2,hgi,hgt',hsi,hst,aE,aH,aP,bR,bp,bS,bn,bg,aQ,aZ,a8,aK,hne,ne_eq,hne',hl5,Int.toNat_natCast,bV,bT,i1,Int.reduceLE,eq_self,not_false_eq_true,hg,hp,hs0,if_false,hcs,bc,hgd,d0,fR,c6,db,eD,hp,hgi1,hgt1,hss,ht5,fe,eJ,ef,bne_self_eq_false,beq_self_eq_true,d1,hw]
     refine ⟨by omega,?_⟩
     simp (disch:=first|assumption|omega|(simp;done)|(simp;omega)|(simp only [bt,and_true];first|done|omega|(simp;done))) [↓zmk,beq,ybc,ybd,ybe,ag,wk,wk2,wk1,wkM,wkL,am,ybf,fb hcl,zms,eC,dd_le1,dv]
  ·have hpe:p=l.length:=by omega
   subst hpe
   have hge:l[l.length]?=none:=List.getElem?_eq_none (Nat.le_refl _)
   have hw:jv l l.length=none:=by unfold jv;rw [hge]
   have hr:df l l.length t=.bad l.length:=by unfold df;rw [hge]
   have d0:decide ((l.length:Int)<(l.length:Int))=false:=by simp
   rw [hr]
   simp only [go_sem,f1,f2,hgi,hgt',hsi,hst,aE,aH,aP,bR,bp,bS,bn,bg,aQ,aZ,a8,aK,hne,ne_eq,hne',hl5,Int.toNat_natCast,bV,bT,i1,Int.reduceLE,eq_self,not_false_eq_true,hg,hp,hs0,if_false,hcs,bc,d0,fR,c6,db,eD,hp,hgi1,hgt1,hss,ht5,fe,eJ,ef,bne_self_eq_false,beq_self_eq_true,hw,Nat.le_refl]
   simp (disch:=first|assumption|omega|(simp;done)|(simp;omega)|(simp only [bt,and_true];first|done|omega|(simp;done))) [↓zmk,beq,ybc,ybd,ybe,ag,wk,wk2,wk1,wkM,wkL,am,ybf,fb hcl,zms,eC,dd_le1,dv]
end Go.AL
