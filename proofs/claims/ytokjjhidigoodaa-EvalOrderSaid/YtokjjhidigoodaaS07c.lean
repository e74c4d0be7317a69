/- Contracts and plain laws, a part of the proof; no condition of its own. -/
import Derived.Test.YtokjjhidigoodaaE06
import Derived.Test.YtokjjhidigoodaaLSyn
set_option maxHeartbeats 32000000
open List renaming map_cons → yae, length_cons → yaz, length_nil → yba, take_of_length_le → ybc, drop_append → ybd, take_append → ybe, drop_eq_nil_of_le → ybf
open Go Go.AL Go.Proofs
namespace Go.AL
set_option linter.all false
set_option maxRecDepth 10000
theorem wY:ti Try.prog 113=some ⟨.struct [(0,3,false),(1,3,false),(2,3,false),(3,9,false),(4,9,false),(5,95,false)],7,72,.agg [.int .i64 0,.int .i64 0,.int .i64 0,.str [],.str [],.int .u64 0,.int .u64 0]⟩:=by kernel_rfl
theorem vG:ti Try.prog 73=some ⟨.slice 113,1,24,.slice .nil 1 []⟩:=by kernel_rfl
theorem tp:ti Try.prog 191=some ⟨.struct [(0,114,false),(1,3,false),(2,73,false)],3,56,.agg [.slice .nil 1 [],.int .i64 0,.slice .nil 1 []]⟩:=by kernel_rfl
theorem pG:ti Try.prog 212=some ⟨.struct [(0,3,false),(1,9,false)],2,24,.agg [.int .i64 0,.str []]⟩:=by kernel_rfl
theorem n9:ti Try.prog 209=some ⟨.slice 212,1,24,.slice .nil 1 []⟩:=by kernel_rfl
theorem wq:ti Try.prog 188=some ⟨.int .i64,1,8,.int .i64 0⟩:=by kernel_rfl
attribute [go_sem] wY vG tp pG n9 wq
def jr (n:Nd):AV:=.agg [.int .i64 (n.op:Int),.int .i64 (n.a:Int),.int .i64 (n.b:Int),.str n.name,.str n.attr,.int .u64 ((n.v/2^64:Nat):Int),.int .u64 ((n.v % 2^64:Nat):Int)]
def nds (t:List Nd):List AV:=t.map jr
theorem az {t:List Nd}:(nds t).length=t.length:=by simp [nds]
theorem vR {t:List Nd} {n:Nd}:nds t++[jr n]=nds (t++[n]):=by simp [nds]
theorem jK {n:Nat} {m:Mark} {t:List Nd}:AV.lt n (.slice m 7 (nds t))=∀ id,m=.own id→id<n:=by
 rw [AV.lt]
 refine propext ⟨fun h=>h.1,fun h=>⟨h,fun j hj=>?_⟩⟩
 simp only [nds,List.getElem_map,jr]
 simp [znn,znq,znr,znb,znd]
theorem pd {n:Nat} {m:Mark} {l:List Tok}:AV.lt n (.slice m 3 (bP l))=∀ id,m=.own id→id<n:=by
 rw [AV.lt]
 refine propext ⟨fun h=>h.1,fun h=>⟨h,fun j hj=>?_⟩⟩
 simp only [bP,List.getElem_map,ol]
 simp [znn,znq,znr,znb,znd]
theorem oY:∀ {l l':List Tok},bP l=bP l'→l=l'
 |[],[],_=>rfl
 |[],_::_,h=>by cases h
 |_::_,[],h=>by cases h
 |(a,b,c)::l,(a',b',c')::l',h=>by
  simp only [bP,yae,List.cons.injEq,ol,AV.agg.injEq,AV.int.injEq,AV.str.injEq,true_and,and_true] at h
  obtain ⟨⟨h1,h2,h3⟩,h4⟩:=h
  rw [oY h4]
  congr 1
  simp only [Prod.mk.injEq]
  exact ⟨by omega,h2,by omega⟩
theorem rt:∀ {l l':List Nd},nds l=nds l'→l=l'
 |[],[],_=>rfl
 |[],_::_,h=>by cases h
 |_::_,[],h=>by cases h
 |⟨a1,a2,a3,a4,a5,a6⟩::l,⟨b1,b2,b3,b4,b5,b6⟩::l',h=>by
  simp only [nds,yae,List.cons.injEq,jr,AV.agg.injEq,AV.int.injEq,AV.str.injEq,true_and,and_true] at h
  obtain ⟨⟨h1,h2,h3,h4,h5,h6,h7⟩,h8⟩:=h
  rw [rt h8]
  congr 1
  simp only [Nd.mk.injEq]
  exact ⟨by omega,by omega,by omega,h4,h5,by omega⟩
def ny (v:AV) (Kp:AV→AHeap→Prop) (H:AHeap):Prop:=match v with
 |.iface t v=>Kp (.iface t v) H
 |_=>False
@[congr] theorem wR {v v':AV} {Kp:AV→AHeap→Prop} {H:AHeap} (h:v=v'):ny v Kp H=ny v' Kp H:=by rw [h]
theorem oz {t:TypeId} {v:AV} {Kp:AV→AHeap→Prop} {H:AHeap}:ny (.iface t v) Kp H=Kp (.iface t v) H:=rfl
theorem uz {P:Program} {Ω:Tbl} {ops:Array Oper} {rest:List Oper} {K:Fr→AHeap→Prop} {Kp:Fr→AV→AHeap→Prop} {fr:Fr} {H:AHeap} {d:Option Tmp} {x:Operand} {t:TypeId} {pos:String} {aft:Array Edge} :
 aE P Ω ops (Oper.mk d (.panic x) t pos aft none::rest) K Kp fr H=ny (ev fr x) (Kp fr) H:=(rfl)
/-- the parser in memory -/
def pst (m:Mark) (l:List Tok) (p tb:Nat) (t:List Nd):AObj:=.cells [.slice m 3 (bP l),.int .i64 (p:Int),.slice (.own tb) 7 (nds t)]
def onP (o:Option AObj) (K:Mark→List Tok→Nat→Nat→List Nd→Prop):Prop:=∃ m l p tb t,o=some (pst m l p tb t)∧K m l p tb t
@[congr] theorem zr {o o':Option AObj} {K:Mark→List Tok→Nat→Nat→List Nd→Prop} (h:o=o'):onP o K=onP o' K:=by rw [h]
theorem am {m:Mark} {l:List Tok} {p tb:Nat} {t:List Nd} {K:Mark→List Tok→Nat→Nat→List Nd→Prop}:onP (some (pst m l p tb t)) K=K m l p tb t:=by
 refine propext ⟨fun ⟨m',l',p',tb',t',h,hk⟩=>?_,fun h=>⟨m,l,p,tb,t,rfl,h⟩⟩
 simp only [pst,Option.some.injEq,AObj.cells.injEq,List.cons.injEq,AV.slice.injEq,AV.int.injEq,Mark.own.injEq,true_and,and_true] at h
 obtain ⟨⟨rfl,h1⟩,h2,rfl,h3⟩:=h
 have:=oY h1
 have:=rt h3
 have:p=p':=by omega
 subst_vars
 exact hk
theorem np {m:Mark} {l:List Tok} {p tb:Nat} {t:List Nd} {K:Mark→List Tok→Nat→Nat→List Nd→Prop}:onP (some (.cells [.slice m 3 (bP l),.int .i64 (p:Int),.slice (.own tb) 7 (nds t)])) K=K m l p tb t:=am
def cb:List AV→AHeap→(AEnd→AHeap→Prop)→Prop
 |[.ptr id 0],H,K=>onP (H.get id) fun m l p tb t=>K (.panic (.iface 188 (.int .i64 (p:Int)))) H
 |_,_,_=>False
theorem fh:EntOk Try.prog 78 (Ent.effect cb):=by
 refine EntOk.effect fun args H K h=>?_
 unfold cb at h
 split at h
 rotate_left
 ·exact h.elim
 rename_i id
 obtain ⟨m,l,p,tb,t,hg,hK⟩:=h
 refine ⟨_,_,hK,?_⟩
 clear hK
 refine ACalls.fW ay TblOk.nil Try.func78 [] (Nat.le_refl _) (T:=al []) (h:=fun hcl hlt=>?_)
 clear hlt
 have hcs:=av (cs:=[.slice m 3 (bP l),.int .i64 (p:Int),.slice (.own tb) 7 (nds t)]) hg
 simp only [go_sem,hcs,↓uz,oz]
 simp (disch:=first|assumption|omega|(simp;done)|(simp;omega)|(simp only [bt,and_true];first|done|omega|(simp;done))) [↓zmk,beq,ybc,ybd,ybe,ae,wk,wk2,wk1,wkM,wkL,ah,ybf,hcl]
def aK:List AV→AHeap→(AEnd→AHeap→Prop)→Prop
 |[.ptr id 0,.agg [.int .i64 op,.int .i64 a,.int .i64 b,.str nm,.str att,.int .u64 hi,.int .u64 lo]],H,K=>onP (H.get id) fun m l p tb t =>
   (0≤op∧0≤a∧0≤b∧uN hi lo∧id≠tb∧H.get tb=some (.buf 7 t.length)∧t.length≤100000) ∧
   K (.ret (.int .i64 (t.length:Int))) ((H.set id (pst m l p tb (t++[⟨op.toNat,a.toNat,b.toNat,nm,att,vOf hi.toNat lo.toNat⟩]))).set tb (.buf 7 (t.length+1)))
 |_,_,_=>False
theorem dv {H:AHeap} {id:Nat} {m:Mark} {l:List Tok} {p tb:Nat} {t:List Nd} (hg:H.get id=some (pst m l p tb t)) (hcl:H.Closed) (p':Nat) (t':List Nd):(H.set id (pst m l p' tb t')).Closed:=by
 have h0:=hcl id _ hg 0 (by simp)
 have h2:=hcl id _ hg 2 (by simp)
 simp only [List.getElem_cons_zero,List.getElem_cons_succ,pd,jK] at h0 h2
 refine ag hcl ?_
 simp only [znq,znr,pd,jK,znb,and_true,true_and]
 exact ⟨h0,h2⟩
theorem jo {H:AHeap} {i j:Nat} (h:i≠j) (o c:AObj):(H.set j o).set i c=(H.set i c).set j o:=by
 simp only [AHeap.set]
 congr 1
 funext k
 by_cases h1:k=i
 ·subst h1;simp [h]
 ·simp [h1]
theorem bL {H:AHeap} {i j:Nat} (h:i≠j) (o:AObj):ak (H.set j o) i=ak H i:=by
 unfold ak;rw [AHeap.get_set_ne _ _ h]
theorem eg:EntOk Try.prog 92 (Ent.effect aK):=by
 refine EntOk.effect fun args H K h=>?_
 unfold aK at h
 split at h
 rotate_left
 ·exact h.elim
 rename_i id op a b nm att hi lo
 obtain ⟨m,l,p,tb,t,hg,⟨h1,h2,h3,⟨h4,h5,h6,h7⟩,hne,htb,htl⟩,hK⟩:=h
 refine ⟨_,_,hK,?_⟩
 clear hK
 obtain ⟨op,rfl⟩:=d8 h1
 obtain ⟨a,rfl⟩:=d8 h2
 obtain ⟨b,rfl⟩:=d8 h3
 obtain ⟨hi,rfl⟩:=d8 h4
 obtain ⟨lo,rfl⟩:=d8 h6
 simp only [Int.toNat_natCast]
 refine ACalls.fW ay TblOk.nil Try.func92 [.tmp 4] (Nat.le_refl _) (T:=al [(1,[[],[],[],[],[],[],[5],[4,5],[],[],[4,5]])]) (h:=fun hcl hlt=>?_)
 clear hlt
 have hid:=AHeap.get_lt hg
 have htbl:=AHeap.get_lt htb
 have hcs:=av (cs:=[.slice m 3 (bP l),.int .i64 (p:Int),.slice (.own tb) 7 (nds t)]) hg
 have f1:=bW hid
 have f2:=bW htbl
 have g1:(id=tb)=False:=eq_false hne
 have g2:(tb=id)=False:=eq_false fun e=>hne e.symm
 have e1:nds t++[AV.agg [.int .i64 (op:Int),.int .i64 (a:Int),.int .i64 (b:Int),.str nm,.str att,.int .u64 (hi:Int),.int .u64 (lo:Int)]]=nds (t++[⟨op,a,b,nm,att,vOf hi lo⟩]):=by
  rw [← vR];unfold jr;simp only;rw [nv (by omega),t9 (by omega)]
 have e2:IntKind.i64.wrap (((t.length+1:Nat):Int) - 1)=(t.length:Int):=by rw [wrap_i64]<;>omega
 have hcl1:=dv hg hcl p (t++[⟨op,a,b,nm,att,vOf hi lo⟩])
 have hcl2:((H.set id (pst m l p tb (t++[⟨op,a,b,nm,att,vOf hi lo⟩]))).set tb (.buf 7 (t.length+1))).Closed:=aa hcl1
 have s1:=jo (H:=H) hne
 have s2:=fun o=>(bL (H:=H) hne o).trans hcs
 have s3:∀ o cs,ak ((H.set id (.cells cs)).set tb o) id=some cs:=fun o cs=>by rw [bL hne,dH hid,if_pos rfl]
 simp only [go_sem,hcs,az,f1,f2,g1,g2,htb,aL,if_pos htbl,e1,s1,s2,s3,e2,List.length_append]
 refine ⟨⟨by omega,by omega,by simp [aI,AV.cells,AV.one]⟩,?_⟩
 simp only [pst] at hcl2 ⊢
 simp (disch:=first|assumption|omega|(simp;done)|(simp;omega)|(simp only [bt,and_true];first|done|omega|(simp;done))) [↓zmk,beq,ybc,ybd,ybe,ae,wk,wk2,wk1,wkM,wkL,ah,ybf,hcl2,htbl,jK]
 trace_state
theorem yV {l:List Tok} {p k z:Nat} {x s:List UInt8} (hp:p<l.length) (h:l[p]=(k,x,z)):isS l p s=(k==3&&x==s):=by
 unfold isS;rw [List.getElem?_eq_getElem hp,h]
theorem wK {l:List Tok} {p:Nat} {s:List UInt8} (hp:l.length≤p):isS l p s=false:=by
 unfold isS;rw [List.getElem?_eq_none hp]
theorem kK {l:List Tok} {p k z:Nat} {x:List UInt8} (hp:p<l.length) (h:l[p]=(k,x,z)):(bP l).getD p .junk=.agg [.int .i64 (k:Int),.str x,.int .i64 (z:Int)]:=by
 rw [uu hp,h];rfl
def aJ:List AV→AHeap→(AEnd→AHeap→Prop)→Prop
 |[.ptr id 0,.str s],H,K=>onP (H.get id) fun m l p tb t=>(p≤l.length∧l.length≤100000) ∧
   if isS l p s=true then K (.ret (.bool true)) (H.set id (pst m l (p+1) tb t)) else K (.ret (.bool false)) H
 |_,_,_=>False
theorem eP:EntOk Try.prog 91 (Ent.effect aJ):=by
 refine EntOk.effect fun args H K h=>?_
 unfold aJ at h
 split at h
 rotate_left
 ·exact h.elim
 rename_i id s
 obtain ⟨m,l,p,tb,t,hg,⟨hp,hl⟩,hK⟩:=h
 have hid:=AHeap.get_lt hg
 have hcs:=av (cs:=[.slice m 3 (bP l),.int .i64 (p:Int),.slice (.own tb) 7 (nds t)]) hg
 have e1:IntKind.i64.wrap ((p:Int)+1)=((p+1:Nat):Int):=by rw [wrap_i64]<;>omega
 by_cases hlt0:p<l.length
 ·rcases htk:l[p] with ⟨k,x,z⟩
  have hgd:=kK hlt0 htk
  rw [yV hlt0 htk] at hK
  have d1:((p:Int)==(l.length:Int))=false:=by simp;omega
  by_cases hk:k=3
  ·subst hk
   by_cases hx:x=s
   ·subst hx
    simp only [beq_self_eq_true,Bool.and_self,if_true] at hK
    refine ⟨_,_,hK,?_⟩
    clear hK
    refine ACalls.fW ay TblOk.nil Try.func91 [.tmp 4] (Nat.le_refl _) (T:=al []) (h:=fun hcl hlt=>?_)
    clear hlt
    have hcl1:=dv hg hcl (p+1) t
    simp only [go_sem,hcs,aO,hgd,d1,Int.toNat_natCast,e1,beq_self_eq_true,bne_self_eq_false]
    refine ⟨by omega,rO rfl ⟨by omega,?_⟩⟩
    change ae (H.set id (pst m l (p+1) tb t)) _ _ _
    simp (disch:=first|assumption|omega|(simp;done)|(simp;omega)|(simp only [bt,and_true];first|done|omega|(simp;done))) [↓zmk,beq,ybc,ybd,ybe,ae,wk,wk2,wk1,wkM,wkL,ah,ybf,hcl1]
   ·have d3:(x==s)=false:=by simpa using hx
    rw [d3,Bool.and_false,if_neg (by simp)] at hK
    refine ⟨_,_,hK,?_⟩
    clear hK
    refine ACalls.fW ay TblOk.nil Try.func91 [.tmp 4] (Nat.le_refl _) (T:=al []) (h:=fun hcl hlt=>?_)
    clear hlt
    simp only [go_sem,hcs,aO,hgd,d1,d3,Int.toNat_natCast,e1,beq_self_eq_true,bne_self_eq_false]
    refine ⟨by omega,rO rfl ⟨by omega,?_⟩⟩
    simp (disch:=first|assumption|omega|(simp;done)|(simp;omega)|(simp only [bt,and_true];first|done|omega|(simp;done))) [↓zmk,beq,ybc,ybd,ybe,ae,wk,wk2,wk1,wkM,wkL,ah,ybf,hcl]
  ·have d3:(k==3)=false:=by simpa using hk
   rw [d3,Bool.false_and,if_neg (by simp)] at hK
   refine ⟨_,_,hK,?_⟩
   clear hK
   refine ACalls.fW ay TblOk.nil Try.func91 [.tmp 4] (Nat.le_refl _) (T:=al []) (h:=fun hcl hlt=>?_)
   clear hlt
   have d4:((k:Int) != 3)=true:=by simp;omega
   simp only [go_sem,hcs,aO,hgd,d1,d4,Int.toNat_natCast,e1,beq_self_eq_true,bne_self_eq_false]
   refine ⟨by omega,?_⟩
   simp (disch:=first|assumption|omega|(simp;done)|(simp;omega)|(simp only [bt,and_true];first|done|omega|(simp;done))) [↓zmk,beq,ybc,ybd,ybe,ae,wk,wk2,wk1,wkM,wkL,ah,ybf,hcl]
 ·have hpe:p=l.length:=by omega
  subst hpe
  rw [wK (Nat.le_refl _),if_neg (by simp)] at hK
  refine ⟨_,_,hK,?_⟩
  clear hK
  refine ACalls.fW ay TblOk.nil Try.func91 [.tmp 4] (Nat.le_refl _) (T:=al []) (h:=fun hcl hlt=>?_)
  clear hlt
  simp only [go_sem,hcs,aO,beq_self_eq_true]
  simp (disch:=first|assumption|omega|(simp;done)|(simp;omega)|(simp only [bt,and_true];first|done|omega|(simp;done))) [↓zmk,beq,ybc,ybd,ybe,ae,wk,wk2,wk1,wkM,wkL,ah,ybf,hcl]
def gO (l:List Tok) (p:Nat):Option (List UInt8):=match l[p]? with
 |none=>none
 |some (k,x,_)=>if k=2 then some x else none
def onW (o:Option (List UInt8)) (K1:List UInt8→Prop) (K2:Prop):Prop:=match o with
 |some x=>K1 x
 |none=>K2
@[congr] theorem zt {o o':Option (List UInt8)} {K1:List UInt8→Prop} {K2:Prop} (h:o=o'):onW o K1 K2=onW o' K1 K2:=by rw [h]
theorem dc {x:List UInt8} {K1:List UInt8→Prop} {K2:Prop}:onW (some x) K1 K2=K1 x:=rfl
theorem cV {K1:List UInt8→Prop} {K2:Prop}:onW none K1 K2=K2:=rfl
def dN:List AV→AHeap→(AEnd→AHeap→Prop)→Prop
 |[.ptr id 0,.int .i64 kd],H,K=>onP (H.get id) fun m l p tb t=>(kd=2∧p≤l.length∧l.length≤100000) ∧
   onW (gO l p) (fun x=>K (.ret (.str x)) (H.set id (pst m l (p+1) tb t))) (K (.panic (.iface 188 (.int .i64 (p:Int)))) H)
 |_,_,_=>False
theorem vy:EntOk Try.prog 104 (Ent.effect dN):=by
 refine EntOk.effect fun args H K h=>?_
 unfold dN at h
 split at h
 rotate_left
 ·exact h.elim
 rename_i id kd
 obtain ⟨m,l,p,tb,t,hg,⟨rfl,hp,hl⟩,hK⟩:=h
 have hid:=AHeap.get_lt hg
 have hcs:=av (cs:=[.slice m 3 (bP l),.int .i64 (p:Int),.slice (.own tb) 7 (nds t)]) hg
 have e1:IntKind.i64.wrap ((p:Int)+1)=((p+1:Nat):Int):=by rw [wrap_i64]<;>omega
 have e2:IntKind.i64.wrap (((p+1:Nat):Int) - 1)=(p:Int):=by rw [wrap_i64]<;>omega
 unfold gO at hK
 by_cases hlt0:p<l.length
 ·rcases htk:l[p] with ⟨k,x,z⟩
  have hgd:=kK hlt0 htk
  rw [List.getElem?_eq_getElem hlt0,htk] at hK
  dsimp only at hK
  have d1:((p:Int)==(l.length:Int))=false:=by simp;omega
  by_cases hk:k=2
  ·subst hk
   rw [if_pos rfl,dc] at hK
   refine ⟨_,_,hK,?_⟩
   clear hK
   refine ACalls.fW ay (TblOk.cons fh TblOk.nil) Try.func104 [.tmp 4] (by simp [zlb]) (T:=al []) (h:=fun hcl hlt=>?_)
   clear hlt
   have hcl1:=dv hg hcl (p+1) t
   simp only [go_sem,hcs,aO,hgd,d1,Int.toNat_natCast,e1,e2,dH hid,beq_self_eq_true,bne_self_eq_false]
   refine ⟨by omega,nQ rfl ?_⟩
   simp only [go_sem,hcs,aO,hgd,d1,Int.toNat_natCast,e1,e2,dH hid,beq_self_eq_true,bne_self_eq_false]
   refine ⟨by omega,?_⟩
   change ae (H.set id (pst m l (p+1) tb t)) _ _ _
   simp (disch:=first|assumption|omega|(simp;done)|(simp;omega)|(simp only [bt,and_true];first|done|omega|(simp;done))) [↓zmk,beq,ybc,ybd,ybe,ae,wk,wk2,wk1,wkM,wkL,ah,ybf,hcl1]
  ·have d3:(k==2)=false:=by simpa using hk
   rw [if_neg hk,cV] at hK
   refine ⟨_,_,hK,?_⟩
   clear hK
   refine ACalls.fW ay (TblOk.cons fh TblOk.nil) Try.func104 [.tmp 4] (Nat.le_refl _) (T:=al []) (h:=fun hcl hlt=>?_)
   clear hlt
   have d4:((k:Int) != 2)=true:=by simp;omega
   simp only [go_sem,hcs,aO,hgd,d1,d4,Int.toNat_natCast,e1,cb,hg,am]
   refine ⟨by omega,?_⟩
   simp (disch:=first|assumption|omega|(simp;done)|(simp;omega)|(simp only [bt,and_true];first|done|omega|(simp;done))) [↓zmk,beq,ybc,ybd,ybe,ae,wk,wk2,wk1,wkM,wkL,ah,ybf,hcl]
 ·have hpe:p=l.length:=by omega
  subst hpe
  rw [List.getElem?_eq_none (Nat.le_refl _)] at hK
  dsimp only at hK
  rw [cV] at hK
  refine ⟨_,_,hK,?_⟩
  clear hK
  refine ACalls.fW ay (TblOk.cons fh TblOk.nil) Try.func104 [.tmp 4] (Nat.le_refl _) (T:=al []) (h:=fun hcl hlt=>?_)
  clear hlt
  simp only [go_sem,hcs,aO,beq_self_eq_true,cb,hg,am]
  simp (disch:=first|assumption|omega|(simp;done)|(simp;omega)|(simp only [bt,and_true];first|done|omega|(simp;done))) [↓zmk,beq,ybc,ybd,ybe,ae,wk,wk2,wk1,wkM,wkL,ah,ybf,hcl]
def du (l:List (Nat × List UInt8)):List AV:=l.map fun o=>.agg [.int .i64 (o.1:Int),.str o.2]
theorem dm {l:List (Nat × List UInt8)}:(du l).length=l.length:=by simp [du]
theorem mR:∀ {l l':List (Nat × List UInt8)},du l=du l'→l=l'
 |[],[],_=>rfl
 |[],_::_,h=>by cases h
 |_::_,[],h=>by cases h
 |(a,b)::l,(a',b')::l',h=>by
  simp only [du,yae,List.cons.injEq,AV.agg.injEq,AV.int.injEq,AV.str.injEq,true_and,and_true] at h
  obtain ⟨⟨h1,h2⟩,h4⟩:=h
  rw [mR h4]
  congr 1
  simp only [Prod.mk.injEq]
  exact ⟨by omega,h2⟩
theorem bN {n:Nat} {l:List (Nat × List UInt8)}:AV.lt n (.slice .any 2 (du l)):=dT fun x hx=>by
 simp only [du,List.mem_map] at hx
 obtain ⟨o,_,rfl⟩:=hx
 simp [znn,znq,znr,znb,znd]
theorem wJ:[AV.agg [.int .i64 8,.str [61,61]],.agg [.int .i64 9,.str [33,61]],.agg [.int .i64 10,.str [60]],.agg [.int .i64 11,.str [60,61]],.agg [.int .i64 12,.str [62]],.agg [.int .i64 13,.str [62,61]]]=du opsC:=rfl
theorem xK:[AV.agg [.int .i64 6,.str [43]],.agg [.int .i64 7,.str [45]]]=du opsS:=rfl
def ck:List AV→AHeap→(AV→Prop)→Prop
 |[],_,K=>K (.slice .any 2 (du opsC))
 |_,_,_=>False
theorem og:EntOk Try.prog 99 (Ent.pure ck):=by
 refine EntOk.pure fun args H K h=>?_
 unfold ck at h
 split at h
 rotate_left
 ·exact h.elim
 refine ⟨_,h,?_⟩
 clear h
 refine ACalls.fW ay TblOk.nil Try.func99 [.tmp 0] (Nat.le_refl _) (T:=al []) (h:=fun hcl hlt=>?_)
 clear hlt
 simp only [go_sem,wJ]
 simp (disch:=first|assumption|omega|(simp;done)|(simp;omega)|(simp only [bt,and_true];first|done|omega|(simp;done))) [↓zmk,beq,ybc,ybd,ybe,ae,wk,wk2,wk1,wkM,wkL,ah,ybf,hcl,bN]
def eS:List AV→AHeap→(AV→Prop)→Prop
 |[],_,K=>K (.slice .any 2 (du opsS))
 |_,_,_=>False
theorem wv:EntOk Try.prog 101 (Ent.pure eS):=by
 refine EntOk.pure fun args H K h=>?_
 unfold eS at h
 split at h
 rotate_left
 ·exact h.elim
 refine ⟨_,h,?_⟩
 clear h
 refine ACalls.fW ay TblOk.nil Try.func101 [.tmp 0] (Nat.le_refl _) (T:=al []) (h:=fun hcl hlt=>?_)
 clear hlt
 simp only [go_sem,xK]
 simp (disch:=first|assumption|omega|(simp;done)|(simp;omega)|(simp only [bt,and_true];first|done|omega|(simp;done))) [↓zmk,beq,ybc,ybd,ybe,ae,wk,wk2,wk1,wkM,wkL,ah,ybf,hcl,bN]
def yi (x:List AV) (K:List (Nat × List UInt8)→Prop):Prop:=∃ l,x=du l∧K l
theorem dK {l:List (Nat × List UInt8)} {K:List (Nat × List UInt8)→Prop}:yi (du l) K=K l :=
 propext ⟨fun ⟨l',h,hk⟩=>by rw [mR h];exact hk,fun h=>⟨l,rfl,h⟩⟩
def onN (o:Option Nat) (K1:Nat→Prop) (K2:Prop):Prop:=match o with
 |some x=>K1 x
 |none=>K2
@[congr] theorem zx {o o':Option Nat} {K1:Nat→Prop} {K2:Prop} (h:o=o'):onN o K1 K2=onN o' K1 K2:=by rw [h]
theorem gq {x:Nat} {K1:Nat→Prop} {K2:Prop}:onN (some x) K1 K2=K1 x:=rfl
theorem jj {K1:Nat→Prop} {K2:Prop}:onN none K1 K2=K2:=rfl
def eQ:List AV→AHeap→(AEnd→AHeap→Prop)→Prop
 |[.ptr id 0,.slice _ 2 x],H,K=>onP (H.get id) fun m l p tb t=>yi x fun ops=>(p≤l.length∧l.length≤100000∧ops.length≤100) ∧
   onN (eK l p ops) (fun k=>K (.ret (.int .i64 (k:Int))) (H.set id (pst m l (p+1) tb t))) (K (.ret (.int .i64 0)) H)
 |_,_,_=>False
theorem ng {l:List (Nat × List UInt8)} {k:Nat} (h:k<l.length):(du l).getD k .junk=.agg [.int .i64 (l[k].1:Int),.str l[k].2]:=by simp [du,List.getD_eq_getElem?_getD,h]
theorem pF:EntOk Try.prog 98 (Ent.effect eQ):=by
 refine EntOk.effect fun args H K h=>?_
 unfold eQ at h
 split at h
 rotate_left
 ·exact h.elim
 rename_i id mo x
 obtain ⟨m,l,p,tb,t,hg,ops,rfl,⟨hp,hl,ho⟩,hK⟩:=h
 have hid:=AHeap.get_lt hg
 have f1:=bW hid
 cases hop:eK l p ops with
 |some k =>
  rw [hop,gq] at hK
  refine ⟨_,_,hK,?_⟩
  clear hK
  refine ACalls.fW ay (TblOk.cons eP TblOk.nil) Try.func98 [.tmp 4] (by simp [zlb]) (T:=al []) (h:=fun hcl hlt=>?_)
  have hltm:∀ n',H.nx≤n'→AV.lt n' (.slice .any 2 (du ops)):=fun n' _=>bN
  clear hlt
  have hcl1:=dv hg hcl (p+1) t
  simp only [go_sem,dm]
  refine aF (A:=Nat) (fun i=>[(9,.int .i64 (i:Int)),(8,.int .i64 (ops.length:Int)),(7,.slice .any 2 (du ops)),(0,.ptr id 0)]) (fun _=>H) (fun i=>i≤ops.length∧eK l p (ops.drop i)=some k) (fun i=>ops.length - i) 0 ⟨by omega,hop⟩ ?_ fun i hi=>?_
  ·(simp only [bkq,enterW,bf,ltF,ne_eq,Nat.reduceEqDiff,reduceCtorEq,bN,hid];try simp (disch:=first|assumption|omega|(simp;done)|(simp;omega)|(simp only [bt,and_true];first|done|omega|(simp;done))) [↓zmk,beq,ybc,ybd,ybe,ae,wk,wk2,wk1,wkM,wkL,ah,ybf,byq,biq,aj,hcl,bN,hid];try (repeat' (first|assumption|omega|exact True.intro|refine And.intro ?_ ?_|refine af ?_|refine aa ?_|refine ac ?_ ?_|refine ag ?_ ?_|refine ai ?_|exact AHeap.Le.refl _|refine AHeap.Le.push ?_ _|refine AHeap.Le.del ?_ ?_|(simp only [bt,and_true,true_and,bN,hid];first|done|omega|(simp;done)))))
  obtain ⟨hi,hop'⟩:=hi
  simp only [go_sem]
  refine ar (fun h1=>?_) (fun h1=>?_)
  ·have hi1:i<ops.length:=by simp at h1;omega
   have e5:IntKind.i64.wrap ((i:Int)+1)=((i+1:Nat):Int):=by rw [wrap_i64]<;>omega
   have hgo:=ng hi1
   rw [List.drop_eq_getElem_cons hi1] at hop'
   rcases hok:ops[i] with ⟨ko,so⟩
   rw [hok] at hop' hgo
   unfold eK at hop'
   by_cases hs:isS l p so=true
   ·rw [if_pos hs] at hop'
    cases hop'
    simp only [go_sem,Int.toNat_natCast,dm,hgo,aJ,f1,hg,am,hs,if_true,hp,hl]
    refine ⟨by omega,?_⟩
    simp (disch:=first|assumption|omega|(simp;done)|(simp;omega)|(simp only [bt,and_true];first|done|omega|(simp;done))) [↓zmk,beq,ybc,ybd,ybe,ae,wk,wk2,wk1,wkM,wkL,ah,ybf,hcl1]
   ·rw [if_neg hs] at hop'
    have hs':isS l p so=false:=by simpa using hs
    simp only [go_sem,Int.toNat_natCast,dm,hgo,aJ,f1,hg,am,hs',if_false,hp,hl,e5]
    refine ⟨by omega,i+1,⟨by omega,hop'⟩,by omega,?_⟩
    (simp only [bkq,enterW,bf,ltF,ne_eq,Nat.reduceEqDiff,reduceCtorEq,bN,hid];try simp (disch:=first|assumption|omega|(simp;done)|(simp;omega)|(simp only [bt,and_true];first|done|omega|(simp;done))) [↓zmk,beq,ybc,ybd,ybe,ae,wk,wk2,wk1,wkM,wkL,ah,ybf,byq,biq,aj,hcl,bN,hid];try (repeat' (first|assumption|omega|exact True.intro|refine And.intro ?_ ?_|refine af ?_|refine aa ?_|refine ac ?_ ?_|refine ag ?_ ?_|refine ai ?_|exact AHeap.Le.refl _|refine AHeap.Le.push ?_ _|refine AHeap.Le.del ?_ ?_|(simp only [bt,and_true,true_and,bN,hid];first|done|omega|(simp;done)))))
  ·exfalso
   have hi1:ops.length≤i:=by simp at h1;omega
   rw [ybf hi1] at hop'
   cases hop'
 |none =>
  rw [hop,jj] at hK
  refine ⟨_,_,hK,?_⟩
  clear hK
  refine ACalls.fW ay (TblOk.cons eP TblOk.nil) Try.func98 [.tmp 4] (Nat.le_refl _) (T:=al []) (h:=fun hcl hlt=>?_)
  clear hlt
  simp only [go_sem,dm]
  refine aF (A:=Nat) (fun i=>[(9,.int .i64 (i:Int)),(8,.int .i64 (ops.length:Int)),(7,.slice .any 2 (du ops)),(0,.ptr id 0)]) (fun _=>H) (fun i=>i≤ops.length∧eK l p (ops.drop i)=none) (fun i=>ops.length - i) 0 ⟨by omega,hop⟩ ?_ fun i hi=>?_
  ·(simp only [bkq,enterW,bf,ltF,ne_eq,Nat.reduceEqDiff,reduceCtorEq,bN,hid];try simp (disch:=first|assumption|omega|(simp;done)|(simp;omega)|(simp only [bt,and_true];first|done|omega|(simp;done))) [↓zmk,beq,ybc,ybd,ybe,ae,wk,wk2,wk1,wkM,wkL,ah,ybf,byq,biq,aj,hcl,bN,hid];try (repeat' (first|assumption|omega|exact True.intro|refine And.intro ?_ ?_|refine af ?_|refine aa ?_|refine ac ?_ ?_|refine ag ?_ ?_|refine ai ?_|exact AHeap.Le.refl _|refine AHeap.Le.push ?_ _|refine AHeap.Le.del ?_ ?_|(simp only [bt,and_true,true_and,bN,hid];first|done|omega|(simp;done)))))
  obtain ⟨hi,hop'⟩:=hi
  simp only [go_sem]
  refine ar (fun h1=>?_) (fun h1=>?_)
  ·have hi1:i<ops.length:=by simp at h1;omega
   have e5:IntKind.i64.wrap ((i:Int)+1)=((i+1:Nat):Int):=by rw [wrap_i64]<;>omega
   have hgo:=ng hi1
   rw [List.drop_eq_getElem_cons hi1] at hop'
   rcases hok:ops[i] with ⟨ko,so⟩
   rw [hok] at hop' hgo
   unfold eK at hop'
   by_cases hs:isS l p so=true
   ·rw [if_pos hs] at hop';cases hop'
   ·rw [if_neg hs] at hop'
    have hs':isS l p so=false:=by simpa using hs
    simp only [go_sem,Int.toNat_natCast,dm,hgo,aJ,f1,hg,am,hs',if_false,hp,hl,e5]
    refine ⟨by omega,i+1,⟨by omega,hop'⟩,by omega,?_⟩
    (simp only [bkq,enterW,bf,ltF,ne_eq,Nat.reduceEqDiff,reduceCtorEq,bN,hid];try simp (disch:=first|assumption|omega|(simp;done)|(simp;omega)|(simp only [bt,and_true];first|done|omega|(simp;done))) [↓zmk,beq,ybc,ybd,ybe,ae,wk,wk2,wk1,wkM,wkL,ah,ybf,byq,biq,aj,hcl,bN,hid];try (repeat' (first|assumption|omega|exact True.intro|refine And.intro ?_ ?_|refine af ?_|refine aa ?_|refine ac ?_ ?_|refine ag ?_ ?_|refine ai ?_|exact AHeap.Le.refl _|refine AHeap.Le.push ?_ _|refine AHeap.Le.del ?_ ?_|(simp only [bt,and_true,true_and,bN,hid];first|done|omega|(simp;done)))))
  ·simp only [go_sem]
   simp (disch:=first|assumption|omega|(simp;done)|(simp;omega)|(simp only [bt,and_true];first|done|omega|(simp;done))) [↓zmk,beq,ybc,ybd,ybe,ae,wk,wk2,wk1,wkM,wkL,ah,ybf,hcl]
end Go.AL
open Go Go.AL Go.Proofs
namespace Go.AL
set_option linter.all false
set_option maxRecDepth 10000
def cH (op v:Int):AV:=.agg [.int .i64 op,.int .i64 0,.int .i64 0,.str [],.str [],.int .u64 0,.int .u64 v]
def eY (s:List UInt8):AV:=if s=mv then .tup [cH 2 1,.bool true] else if s=jC then .tup [cH 2 0,.bool true] else .tup [cH 0 0,.bool false]
def jX:List AV→AHeap→(AV→Prop)→Prop
 |[.int .u64 n],_,K=>K (.agg [.int .u64 0,.int .u64 n])
 |_,_,_=>False
theorem jG:EntOk Try.prog 36 (Ent.pure jX):=by
 refine EntOk.pure fun args H K h=>?_
 unfold jX at h
 split at h
 rotate_left
 ·exact h.elim
 rename_i n
 refine ⟨_,h,?_⟩
 clear h
 refine ACalls.fW ay TblOk.nil Try.func36 [.cell 2 95] (Nat.le_refl _) (T:=al []) (h:=fun hcl hlt=>?_)
 clear hlt
 simp only [go_sem]
 simp (disch:=first|assumption|omega|(simp;done)|(simp;omega)|(simp only [bt,and_true];first|done|omega|(simp;done))) [↓zmk,beq,ybc,ybd,ybe,ae,wk,wk2,wk1,wkM,wkL,ah,ybf,hcl]
def cS:List AV→AHeap→(AV→Prop)→Prop
 |[.str s],_,K=>K (eY s)
 |_,_,_=>False
theorem sM:EntOk Try.prog 105 (Ent.pure cS):=by
 refine EntOk.pure fun args H K h=>?_
 unfold cS at h
 split at h
 rotate_left
 ·exact h.elim
 rename_i s
 refine ⟨_,h,?_⟩
 clear h
 unfold eY
 by_cases h1:s=mv
 ·rw [if_pos h1]
  subst h1
  refine ACalls.fW ay (TblOk.cons jG TblOk.nil) Try.func105 [.cell 2 113,.tmp 3] (Nat.le_refl _) (T:=al []) (h:=fun hcl hlt=>?_)
  clear hlt
  have d1:(mv==[116,114,117,101])=true:=by decide
  simp only [go_sem,jX,d1,zkz]
  simp (disch:=first|assumption|omega|(simp;done)|(simp;omega)|(simp only [bt,and_true];first|done|omega|(simp;done))) [↓zmk,beq,ybc,ybd,ybe,ae,wk,wk2,wk1,wkM,wkL,ah,ybf,hcl,cH]
 ·rw [if_neg h1]
  have d1:(s==[116,114,117,101])=false:=by simpa [mv] using h1
  by_cases h2:s=jC
  ·rw [if_pos h2]
   subst h2
   refine ACalls.fW ay (TblOk.cons jG TblOk.nil) Try.func105 [.cell 2 113,.tmp 3] (Nat.le_refl _) (T:=al []) (h:=fun hcl hlt=>?_)
   clear hlt
   have d2:(jC==[102,97,108,115,101])=true:=by decide
   simp only [go_sem,jX,d1,d2,zkz]
   simp (disch:=first|assumption|omega|(simp;done)|(simp;omega)|(simp only [bt,and_true];first|done|omega|(simp;done))) [↓zmk,beq,ybc,ybd,ybe,ae,wk,wk2,wk1,wkM,wkL,ah,ybf,hcl,cH]
  ·rw [if_neg h2]
   have d2:(s==[102,97,108,115,101])=false:=by simpa [jC] using h2
   refine ACalls.fW ay (TblOk.cons jG TblOk.nil) Try.func105 [.cell 2 113,.tmp 3] (Nat.le_refl _) (T:=al []) (h:=fun hcl hlt=>?_)
   clear hlt
   simp only [go_sem,jX,d1,d2,zkz]
   simp (disch:=first|assumption|omega|(simp;done)|(simp;omega)|(simp only [bt,and_true];first|done|omega|(simp;done))) [↓zmk,beq,ybc,ybd,ybe,ae,wk,wk2,wk1,wkM,wkL,ah,ybf,hcl,cH]
def jW (l:List Tok):Prop:=∀ x∈l,x.2.1.length≤1000∧(x.1=1→(lit x.2.1).isSome=true)
def eN (H:AHeap) (id tb:Nat) (l:List Tok) (p:Nat) (t:List Nd):Prop:=id≠tb∧H.get tb=some (.buf 7 t.length)∧t.length≤p∧p≤l.length∧l.length≤1000∧jW l∧Good t
theorem ct {H:AHeap} {id tb p p':Nat} {m:Mark} {l:List Tok} {t t':List Nd} (h:eN H id tb l p t) (hp:p'≤l.length) (ht:t'.length≤p') (hg:Good t'):eN ((H.set id (pst m l p' tb t')).set tb (.buf 7 t'.length)) id tb l p' t':=by
 obtain ⟨h1,h2,h3,h4,h5,h6,h7⟩:=h
 have htb:=AHeap.get_lt h2
 refine ⟨h1,?_,ht,hp,h5,h6,hg⟩
 rw [aL,if_pos rfl,if_pos (by simpa [zlb] using htb)]
theorem jq {H:AHeap} {id tb p p':Nat} {o:AObj} {l:List Tok} {t:List Nd} (h:eN H id tb l p t) (hp:p'≤l.length) (ht:t.length≤p'):eN (H.set id o) id tb l p' t:=by
 obtain ⟨h1,h2,h3,h4,h5,h6,h7⟩:=h
 refine ⟨h1,?_,ht,hp,h5,h6,h7⟩
 rw [AHeap.get_set_ne _ _ (fun e=>h1 e.symm)];exact h2
def lz (l:List Tok) (p:Nat):Nat:=match l[p]? with
 |none=>0
 |some (k,_,_)=>k
def mB (l:List Tok) (p:Nat):Nat:=match l[p]? with
 |none=>0
 |some (_,x,_)=>(lit x).getD 0
def bY:List AV→AHeap→(AEnd→AHeap→Prop)→Prop
 |[.ptr id 0],H,K=>onP (H.get id) fun m l p tb t=>(eN H id tb l p t∧lz l p=1) ∧
   K (.ret (.int .i64 (t.length:Int))) ((H.set id (pst m l (p+1) tb (t++[⟨1,0,0,[],[],mB l p⟩]))).set tb (.buf 7 (t.length+1)))
 |_,_,_=>False
theorem pA:EntOk Try.prog 103 (Ent.effect bY):=by
 refine EntOk.effect fun args H K h=>?_
 unfold bY at h
 split at h
 rotate_left
 ·exact h.elim
 rename_i id
 obtain ⟨m,l,p,tb,t,hg,⟨⟨hne,htb,ht,hp,hl,hgl,hgt⟩,hk⟩,hK⟩:=h
 have hid:=AHeap.get_lt hg
 have htbl:=AHeap.get_lt htb
 have hcs:=av (cs:=[.slice m 3 (bP l),.int .i64 (p:Int),.slice (.own tb) 7 (nds t)]) hg
 have f1:=bW hid
 have f2:=bW htbl
 have g1:(id=tb)=False:=eq_false hne
 have g2:(tb=id)=False:=eq_false fun e=>hne e.symm
 have e1:IntKind.i64.wrap ((p:Int)+1)=((p+1:Nat):Int):=by rw [wrap_i64]<;>omega
 have hlt0:p<l.length:=by
  rcases Nat.lt_or_ge p l.length with h1|h1
  ·exact h1
  ·unfold lz at hk;rw [List.getElem?_eq_none h1] at hk;cases hk
 rcases htk:l[p] with ⟨k,x,z⟩
 have hgd:=kK hlt0 htk
 have hk1:k=1:=by unfold lz at hk;rw [List.getElem?_eq_getElem hlt0,htk] at hk;exact hk
 subst hk1
 have hla:mB l p=(lit x).getD 0:=by unfold mB;rw [List.getElem?_eq_getElem hlt0,htk]
 rw [hla] at hK
 obtain ⟨hxl,hxs⟩:=hgl l[p] (List.getElem_mem hlt0)
 rw [htk] at hxl hxs
 dsimp only at hxl hxs
 obtain ⟨n,hn⟩:=Option.isSome_iff_exists.1 (hxs rfl)
 have hn128:=uw hn
 rw [hn] at hK
 dsimp only [Option.getD_some] at hK
 refine ⟨_,_,hK,?_⟩
 clear hK
 refine ACalls.fW ay (TblOk.cons jV (TblOk.cons fh (TblOk.cons nh (TblOk.cons eg TblOk.nil)))) Try.func103 [.tmp 2] (Nat.le_refl _) (T:=al [(1,[[],[],[],[],[],[],[],[],[],[],[],[3,7,10],[],[],[],[],[3,7,10,11]])]) (h:=fun hcl hlt=>?_)
 clear hlt
 have hxl':x.length≤140737488355328:=by omega
 have hv:fl (n:Int)=.tup [.agg [.int .u64 ((n/2^64:Nat):Int),.int .u64 ((n % 2^64:Nat):Int)],.bool true]:=by
  unfold fl
  rw [if_pos ⟨Int.natCast_nonneg n,Int.lt_of_lt_of_le (Int.ofNat_lt.2 hn128) (by decide)⟩]
  rfl
 have hn1:isN (n:Int):=⟨Int.le_trans (by decide) (Int.natCast_nonneg n),Int.lt_of_lt_of_le (Int.ofNat_lt.2 hn128) (by decide)⟩
 have hvo:vOf (n/2^64) (n % 2^64)=n:=uS n
 have hlo:n/2^64<18446744073709551616:=by omega
 have hlo2:n % 2^64<18446744073709551616:=by omega
 have hx1:(id=H.nx)=False:=eq_false (by omega)
 have s1:=jo (H:=H) hne
 simp only [go_sem,hcs,aO,hgd,Int.toNat_natCast,e1,fy,hxl',ks,hn,hx1,nAV]
 simp only [eD]
 refine ⟨by omega,n,⟨rfl,hn1⟩,?_⟩
 rw [hv]
 have hn0:(0≤n/2^64):=Nat.zero_le _
 generalize hw0:w0 (n:Int)=y0
 generalize hw1:w1 (n:Int)=y1
 generalize hw2:w2 (n:Int)=y2
 have hgi:∀ o,(H.set id o).get id=some o:=fun o=>AHeap.get_set_same _ _ hid
 have hgt:∀ o,(H.set id o).get tb=some (.buf 7 t.length):=fun o=>by rw [AHeap.get_set_ne _ _ (fun e=>hne e.symm)];exact htb
 have hcl1:=dv hg hcl (p+1) (t++[⟨1,0,0,[],[],n⟩])
 have hcl2:((H.set id (pst m l (p+1) tb (t++[⟨1,0,0,[],[],n⟩]))).set tb (.buf 7 (t.length+1))).Closed:=aa hcl1
 simp only [nz,go_sem,hcs,Int.toNat_natCast,e1,hx1,f1,f2,g1,g2,dH hid,aK,hgi,hgt,np,hvo]
 refine ⟨⟨by decide,by decide,by decide,⟨by omega,by omega,by omega,by omega⟩,by omega⟩,?_⟩
 simp (disch:=first|assumption|omega|(simp;done)|(simp;omega)|(simp only [bt,and_true];first|done|omega|(simp;done))) [↓zmk,beq,ybc,ybd,ybe,ae,wk,wk2,wk1,wkM,wkL,ah,ybf,hcl2]
/-! ### The rules -/
def tr (m:Mark) (l:List Tok) (tb id:Nat) (H:AHeap) (K:AEnd→AHeap→Prop) (o:Option PR):Prop:=match o with
 |none=>False
 |some (.ok a p t)=>K (.ret (.int .i64 (a:Int))) ((H.set id (pst m l p tb t)).set tb (.buf 7 t.length))
 |some (.bad p)=>K (.panic (.iface 188 (.int .i64 (p:Int)))) ((H.del id).del tb)
@[congr] theorem yp {m:Mark} {l:List Tok} {tb id:Nat} {H:AHeap} {K:AEnd→AHeap→Prop} {o o':Option PR} (h:o=o'):tr m l tb id H K o=tr m l tb id H K o':=by rw [h]
theorem aD {m:Mark} {l:List Tok} {tb id a p:Nat} {t:List Nd} {H:AHeap} {K:AEnd→AHeap→Prop}:tr m l tb id H K (some (.ok a p t))=K (.ret (.int .i64 (a:Int))) ((H.set id (pst m l p tb t)).set tb (.buf 7 t.length)):=rfl
theorem ax {m:Mark} {l:List Tok} {tb id p:Nat} {H:AHeap} {K:AEnd→AHeap→Prop}:tr m l tb id H K (some (.bad p))=K (.panic (.iface 188 (.int .i64 (p:Int)))) ((H.del id).del tb):=rfl
def aA (rl:Rl) (f:Nat):List AV→AHeap→(AEnd→AHeap→Prop)→Prop
 |[.ptr id 0],H,K=>onP (H.get id) fun m l p tb t=>eN H id tb l p t∧tr m l tb id H K (run l f rl p t)
 |_,_,_=>False
theorem aQ {H:AHeap} {i j:Nat} {x y:AObj}:(((H.set i x).set j y).del i).del j=(H.del i).del j:=by
 simp only [AHeap.set,AHeap.del]
 congr 1
 funext k
 by_cases h1:k=j
 ·simp [h1]
 ·by_cases h2:k=i
  ·simp [h1,h2]
  ·simp [h1,h2]
theorem aC {H:AHeap} {i j:Nat} {x:AObj}:((H.set i x).del i).del j=(H.del i).del j:=by
 simp only [AHeap.set,AHeap.del]
 congr 1
 funext k
 by_cases h1:k=j
 ·simp [h1]
 ·by_cases h2:k=i
  ·simp [h1,h2]
  ·simp [h1,h2]
theorem cU {H:AHeap} {i j:Nat}:((H.del i).del j).Le H:=⟨Nat.le_refl _,fun k x hk=>by
 rw [cX] at hk
 split at hk
 ·cases hk
 ·rw [cX] at hk
  split at hk
  ·cases hk
  ·exact hk⟩
theorem cq {H:AHeap} {i j:Nat} {x y:AObj}:((H.del i).del j).Le ((H.set i x).set j y):=by
 have:=cU (H:=(H.set i x).set j y) (i:=i) (j:=j)
 rwa [aQ] at this
theorem dd_le1 {H:AHeap} {i j:Nat} {x:AObj}:((H.del i).del j).Le (H.set i x):=by
 have:=cU (H:=H.set i x) (i:=i) (j:=j)
 rwa [aC] at this
theorem dl {H:AHeap} {i j:Nat} (h:H.Closed):((H.del i).del j).Closed:=ai (ai h)
theorem c8 {H:AHeap} {id tb p:Nat} {m:Mark} {l:List Tok} {t:List Nd} (hg:H.get id=some (pst m l p tb t)) (h:eN H id tb l p t) (hcl:H.Closed) :
 (∀ X Y,((H.set id X).set tb Y).get id=some X)∧(∀ X Y,((H.set id X).set tb Y).get tb=some Y)∧(∀ X Y Z,((H.set id X).set tb Y).set id Z=(H.set id Z).set tb Y) ∧
   (∀ p' t',((H.set id (pst m l p' tb t')).set tb (.buf 7 t'.length)).Closed)∧(∀ X Y Z,((H.set id X).set tb Y).set tb Z=(H.set id X).set tb Z):=by
 obtain ⟨h1,h2,h3,h4,h5,h6,h7⟩:=h
 have hid:=AHeap.get_lt hg
 have htb:=AHeap.get_lt h2
 refine ⟨fun X Y=>?_,fun X Y=>?_,fun X Y Z=>?_,fun p' t'=>aa (dv hg hcl p' t'),fun X Y Z=>?_⟩
 ·rw [AHeap.get_set_ne _ _ h1];exact AHeap.get_set_same _ _ hid
 ·exact AHeap.get_set_same _ _ (by simpa [zlb] using htb)
 ·rw [jo h1];congr 1;simp only [AHeap.set];congr 1;funext k;by_cases hk:k=id<;>simp [hk]
 ·simp only [AHeap.set];congr 1;funext k;by_cases hk:k=tb<;>simp [hk]
end Go.AL
open Go Go.AL Go.Proofs
namespace Go.AL
set_option linter.all false
set_option maxRecDepth 10000
def dD (f:Nat):=aA .imp f
def j6 (f:Nat):=aA .or f
def gy (f:Nat):=aA .and f
def eA (f:Nat):=aA .not f
def k8 (f:Nat):=aA .cmp f
def gE (f:Nat):=aA .sum f
def gN (f:Nat):=aA .un f
def jb (f:Nat):=aA .atom f
def xR:PR→AEnd
 |.ok a _ _=>.ret (.int .i64 (a:Int))
 |.bad p=>.panic (.iface 188 (.int .i64 (p:Int)))
def HR (m:Mark) (l:List Tok) (tb id:Nat) (H:AHeap):PR→AHeap
 |.ok _ p t=>(H.set id (pst m l p tb t)).set tb (.buf 7 t.length)
 |.bad _=>(H.del id).del tb
theorem bg {a p:Nat} {t:List Nd}:xR (.ok a p t)=.ret (.int .i64 (a:Int)):=rfl
theorem aR {p:Nat}:xR (.bad p)=.panic (.iface 188 (.int .i64 (p:Int))):=rfl
theorem bh {m:Mark} {l:List Tok} {tb id a p:Nat} {t:List Nd} {H:AHeap}:HR m l tb id H (.ok a p t)=(H.set id (pst m l p tb t)).set tb (.buf 7 t.length):=rfl
theorem aS {m:Mark} {l:List Tok} {tb id p:Nat} {H:AHeap}:HR m l tb id H (.bad p)=(H.del id).del tb:=rfl
theorem cv {m:Mark} {l:List Tok} {tb id:Nat} {H:AHeap} {K:AEnd→AHeap→Prop} {r:PR}:tr m l tb id H K (some r)=K (xR r) (HR m l tb id H r):=by cases r<;>rfl
theorem j7 {m:Mark} {l:List Tok} {tb id:Nat} {H:AHeap} {r:PR}:H.nx≤(HR m l tb id H r).nx:=by cases r<;>exact Nat.le_refl _
theorem fu:(opsC.length≤100)=True:=eq_true (by decide)
theorem fg:(opsS.length≤100)=True:=eq_true (by decide)
def opv (l:List Tok) (p:Nat):Nat:=(eK l p opsS).getD 0
def oph (l:List Tok) (p:Nat):Nat:=if (eK l p opsS).isSome then p+1 else p
theorem zH:vOf 0 1=1:=rfl
theorem Aa:uN 0 1=True:=eq_true (by unfold uN;decide)
theorem bc:vOf 0 0=0:=rfl
theorem bd:uN 0 0=True:=eq_true (by unfold uN;decide)
theorem xN {f:Nat} (h_yOr:EntOk Try.prog 90 (Ent.effect (j6 f))) (h_yImp:EntOk Try.prog 77 (Ent.effect (dD f))):EntOk Try.prog 77 (Ent.effect (dD (f+1))):=by
 refine EntOk.effect fun args H K h=>?_
 unfold dD aA at h
 split at h
 rotate_left
 ·exact h.elim
 rename_i id
 obtain ⟨m,l,p,tb,t,hg,hpre,hK⟩:=h
 cases ho:run l (f+1) .imp p t with
 |none=>rw [ho] at hK;exact hK.elim
 |some r =>
 rw [ho,cv] at hK
 refine ⟨_,_,hK,?_⟩
 clear hK
 rw [run] at ho
 simp only [cj] at ho
 have hpre':=hpre
 obtain ⟨hne,htb,ht,hp,hl,hgl,hgt⟩:=hpre
 have hid:=AHeap.get_lt hg
 have htbl:=AHeap.get_lt htb
 have f1:=bW hid
 have f2:=bW htbl
 have hl5:l.length≤100000:=by omega
 have i1:=@Int.natCast_nonneg
 have hne':(id=tb)=False:=eq_false hne
 refine ACalls.fW ay (TblOk.cons h_yOr (TblOk.cons eP (TblOk.cons h_yImp (TblOk.cons eg TblOk.nil)))) Try.func77 [.tmp 2] j7 (T:=al []) (h:=fun hcl hlt=>?_)
 clear hlt
 obtain ⟨hgi,hgt',hsi,hcl2,hst⟩:=c8 hg hpre' hcl
 rcases aG ho with ⟨q,h1,rfl⟩|⟨a,p1,t1,h1,h2⟩
 ·simp only [go_sem,f1,f2,hgi,hgt',hsi,hst,am,ax,aD,bg,aR,bh,aS,aQ,aC,aJ,aK,aA,hne,ne_eq,hne',hl5,Int.toNat_natCast,bc,bd,i1,Int.reduceLE,eq_self,not_false_eq_true,j6,hg,hpre',h1]
  simp (disch:=first|assumption|omega|(simp;done)|(simp;omega)|(simp only [bt,and_true];first|done|omega|(simp;done))) [↓zmk,beq,ybc,ybd,ybe,ae,wk,wk2,wk1,wkM,wkL,ah,ybf,dl hcl,zms,cU,dd_le1,cq]
 clear ho
 obtain ⟨k1,k2,k3,k4,k5,k6⟩:=aZ _ h1 hgt trivial hp
 simp only [Rl.isL,Bool.false_eq_true,if_false] at k4
 have hp1:eN ((H.set id (pst m l p1 tb t1)).set tb (.buf 7 t1.length)) id tb l p1 t1:=ct hpre' k2 (by omega) k5
 cases hs:isS l p1 [45,62] with
 |false =>
  rw [hs,if_neg (by simp)] at h2
  cases h2
  simp only [go_sem,f1,f2,hgi,hgt',hsi,hst,am,ax,aD,bg,aR,bh,aS,aQ,aC,aJ,aK,aA,hne,ne_eq,hne',hl5,Int.toNat_natCast,bc,bd,i1,Int.reduceLE,eq_self,not_false_eq_true,j6,hg,hpre',h1,k2,hs,if_false]
  simp (disch:=first|assumption|omega|(simp;done)|(simp;omega)|(simp only [bt,and_true];first|done|omega|(simp;done))) [↓zmk,beq,ybc,ybd,ybe,ae,wk,wk2,wk1,wkM,wkL,ah,ybf,hcl2]
 |true =>
  rw [hs,if_pos rfl] at h2
  have hlt1:=bR hs
  have hp2:eN ((H.set id (pst m l (p1+1) tb t1)).set tb (.buf 7 t1.length)) id tb l (p1+1) t1:=ct hpre' hlt1 (by omega) k5
  rcases aG h2 with ⟨q,h3,rfl⟩|⟨b,p2,t2,h3,h4⟩
  ·simp only [go_sem,f1,f2,hgi,hgt',hsi,hst,am,ax,aD,bg,aR,bh,aS,aQ,aC,aJ,aK,aA,hne,ne_eq,hne',hl5,Int.toNat_natCast,bc,bd,i1,Int.reduceLE,eq_self,not_false_eq_true,j6,dD,hg,hpre',h1,k2,hs,if_true,hp2,h3]
   simp (disch:=first|assumption|omega|(simp;done)|(simp;omega)|(simp only [bt,and_true];first|done|omega|(simp;done))) [↓zmk,beq,ybc,ybd,ybe,ae,wk,wk2,wk1,wkM,wkL,ah,ybf,dl hcl,zms,cU,dd_le1,cq]
  cases h4
  obtain ⟨k1b,k2b,k3b,k4b,k5b,k6b⟩:=aZ _ h3 k5 trivial hlt1
  simp only [Rl.isL,Bool.false_eq_true,if_false] at k4b
  have ht2:t2.length≤100000:=by omega
  simp only [go_sem,f1,f2,hgi,hgt',hsi,hst,am,ax,aD,bg,aR,bh,aS,aQ,aC,aJ,aK,aA,hne,ne_eq,hne',hl5,Int.toNat_natCast,bc,bd,i1,Int.reduceLE,eq_self,not_false_eq_true,j6,dD,hg,hpre',h1,k2,hs,if_true,hp2,h3,ht2,nd2]
  have hc3:=hcl2 p2 (t2++[⟨16,a,b,[],[],0⟩])
  simp only [List.length_append,yaz,yba,Nat.zero_add] at hc3 ⊢
  simp (disch:=first|assumption|omega|(simp;done)|(simp;omega)|(simp only [bt,and_true];first|done|omega|(simp;done))) [↓zmk,beq,ybc,ybd,ybe,ae,wk,wk2,wk1,wkM,wkL,ah,ybf,hc3]
theorem yL {f:Nat} (h_yAnd:EntOk Try.prog 94 (Ent.effect (gy f))):EntOk Try.prog 90 (Ent.effect (j6 (f+1))):=by
 refine EntOk.effect fun args H K h=>?_
 unfold j6 aA at h
 split at h
 rotate_left
 ·exact h.elim
 rename_i id
 obtain ⟨m,l,p,tb,t,hg,hpre,hK⟩:=h
 cases ho:run l (f+1) .or p t with
 |none=>rw [ho] at hK;exact hK.elim
 |some r =>
 rw [ho,cv] at hK
 refine ⟨_,_,hK,?_⟩
 clear hK
 rw [run] at ho
 simp only [cj] at ho
 have hpre':=hpre
 obtain ⟨hne,htb,ht,hp,hl,hgl,hgt⟩:=hpre
 have hid:=AHeap.get_lt hg
 have htbl:=AHeap.get_lt htb
 have f1:=bW hid
 have f2:=bW htbl
 have hl5:l.length≤100000:=by omega
 have i1:=@Int.natCast_nonneg
 have hne':(id=tb)=False:=eq_false hne
 refine ACalls.fW ay (TblOk.cons h_yAnd (TblOk.cons eP (TblOk.cons eg TblOk.nil))) Try.func90 [.tmp 2] j7 (T:=al []) (h:=fun hcl hlt=>?_)
 clear hlt
 obtain ⟨hgi,hgt',hsi,hcl2,hst⟩:=c8 hg hpre' hcl
 rcases aG ho with ⟨q,h1,rfl⟩|⟨a,p1,t1,h1,h2⟩
 ·simp only [go_sem,f1,f2,hgi,hgt',hsi,hst,am,ax,aD,bg,aR,bh,aS,aQ,aC,aJ,aK,aA,hne,ne_eq,hne',hl5,Int.toNat_natCast,bc,bd,i1,Int.reduceLE,eq_self,not_false_eq_true,gy,hg,hpre',h1]
  simp (disch:=first|assumption|omega|(simp;done)|(simp;omega)|(simp only [bt,and_true];first|done|omega|(simp;done))) [↓zmk,beq,ybc,ybd,ybe,ae,wk,wk2,wk1,wkM,wkL,ah,ybf,dl hcl,zms,cU,dd_le1,cq]
 clear ho
 obtain ⟨k1,k2,k3,k4,k5,k6⟩:=aZ _ h1 hgt trivial hp
 simp only [Rl.isL,Bool.false_eq_true,if_false] at k4
 have hp1:eN ((H.set id (pst m l p1 tb t1)).set tb (.buf 7 t1.length)) id tb l p1 t1:=ct hpre' k2 (by omega) k5
 simp only [go_sem,f1,f2,hgi,hgt',hsi,hst,am,ax,aD,bg,aR,bh,aS,aQ,aC,aJ,aK,aA,hne,ne_eq,hne',hl5,Int.toNat_natCast,bc,bd,i1,Int.reduceLE,eq_self,not_false_eq_true,gy,hg,hpre',h1]
 refine aF (A:=Nat × Nat × Nat × List Nd) (fun x=>[(0,.ptr id 0),(3,.int .i64 (x.2.1:Int))]) (fun x=>(H.set id (pst m l x.2.2.1 tb x.2.2.2)).set tb (.buf 7 x.2.2.2.length))
  (fun x=>x.1≤f∧run l x.1 (.orL x.2.1) x.2.2.1 x.2.2.2=some r∧x.2.2.1≤l.length∧x.2.2.2.length≤x.2.2.1∧Good x.2.2.2∧x.2.1<x.2.2.2.length) (fun x=>x.1) (f,a,p1,t1) ⟨Nat.le_refl _,h2,k2,by dsimp only;omega,k5,k1⟩ ?_ fun x hx=>?_
 ·(simp only [bkq,enterW,bf,ltF,ne_eq,Nat.reduceEqDiff,reduceCtorEq,hcl2,hid];try simp (disch:=first|assumption|omega|(simp;done)|(simp;omega)|(simp only [bt,and_true];first|done|omega|(simp;done))) [↓zmk,beq,ybc,ybd,ybe,ae,wk,wk2,wk1,wkM,wkL,ah,ybf,byq,biq,aj,hcl,hcl2,hid];try (repeat' (first|assumption|omega|exact True.intro|refine And.intro ?_ ?_|refine af ?_|refine aa ?_|refine ac ?_ ?_|refine ag ?_ ?_|refine ai ?_|exact AHeap.Le.refl _|refine AHeap.Le.push ?_ _|refine AHeap.Le.del ?_ ?_|(simp only [bt,and_true,true_and,hcl2,hid];first|done|omega|(simp;done)))))
 obtain ⟨g,a',p',t'⟩:=x
 obtain ⟨x1,x2,x3,x4,x5,x6⟩:=hx
 dsimp only at x1 x2 x3 x4 x5 x6 ⊢
 have ht':t'.length≤100000:=by omega
 have hpx:eN ((H.set id (pst m l p' tb t')).set tb (.buf 7 t'.length)) id tb l p' t':=ct hpre' x3 x4 x5
 cases g with
 |zero=>cases x2
 |succ g =>
 rw [run] at x2
 simp only [cj] at x2
 cases hs:isS l p' [124,124] with
 |false =>
  rw [hs,if_neg (by simp)] at x2
  cases x2
  simp only [go_sem,f1,f2,hgi,hgt',hsi,hst,am,ax,aD,bg,aR,bh,aS,aQ,aC,aJ,aK,aA,hne,ne_eq,hne',hl5,Int.toNat_natCast,bc,bd,i1,Int.reduceLE,eq_self,not_false_eq_true,x3,hs,if_false]
  simp (disch:=first|assumption|omega|(simp;done)|(simp;omega)|(simp only [bt,and_true];first|done|omega|(simp;done))) [↓zmk,beq,ybc,ybd,ybe,ae,wk,wk2,wk1,wkM,wkL,ah,ybf,hcl2]
 |true =>
  rw [hs,if_pos rfl] at x2
  have hlt1:=bR hs
  have hp2:eN ((H.set id (pst m l (p'+1) tb t')).set tb (.buf 7 t'.length)) id tb l (p'+1) t':=ct hpre' hlt1 (by omega) x5
  rcases aG x2 with ⟨q,h3,rfl⟩|⟨b,p2,t2,h3,h4⟩
  ·have h3':=bz (show g≤f by omega) h3
   simp only [go_sem,f1,f2,hgi,hgt',hsi,hst,am,ax,aD,bg,aR,bh,aS,aQ,aC,aJ,aK,aA,hne,ne_eq,hne',hl5,Int.toNat_natCast,bc,bd,i1,Int.reduceLE,eq_self,not_false_eq_true,gy,x3,hs,if_true,hp2,h3']
   simp (disch:=first|assumption|omega|(simp;done)|(simp;omega)|(simp only [bt,and_true];first|done|omega|(simp;done))) [↓zmk,beq,ybc,ybd,ybe,ae,wk,wk2,wk1,wkM,wkL,ah,ybf,dl hcl,zms,cU,dd_le1,cq]
  have h3':=bz (show g≤f by omega) h3
  obtain ⟨k1b,k2b,k3b,k4b,k5b,k6b⟩:=aZ _ h3 x5 trivial hlt1
  simp only [Rl.isL,Bool.false_eq_true,if_false] at k4b
  have ht2:t2.length≤100000:=by omega
  simp only [go_sem,f1,f2,hgi,hgt',hsi,hst,am,ax,aD,bg,aR,bh,aS,aQ,aC,aJ,aK,aA,hne,ne_eq,hne',hl5,Int.toNat_natCast,bc,bd,i1,Int.reduceLE,eq_self,not_false_eq_true,gy,x3,hs,if_true,hp2,h3',ht2]
  have hc3:=hcl2 p2 (t2++[⟨15,a',b,[],[],0⟩])
  refine ⟨(g,t2.length,p2,t2++[⟨15,a',b,[],[],0⟩]),⟨by dsimp only;omega,h4,k2b,by simp;omega,k5b.snoc ⟨(show 1≤15 by decide),(show 15≤16 by decide)⟩ (show (0:Nat)<2^128 by decide) (.inr ⟨by simp only;omega,by simp only;omega⟩),by simp⟩,by dsimp only;omega,?_⟩
  simp only [List.length_append,yaz,yba,Nat.zero_add] at hc3 ⊢
  (simp only [bkq,enterW,bf,ltF,ne_eq,Nat.reduceEqDiff,reduceCtorEq,hc3,hid];try simp (disch:=first|assumption|omega|(simp;done)|(simp;omega)|(simp only [bt,and_true];first|done|omega|(simp;done))) [↓zmk,beq,ybc,ybd,ybe,ae,wk,wk2,wk1,wkM,wkL,ah,ybf,byq,biq,aj,hcl,hc3,hid];try (repeat' (first|assumption|omega|exact True.intro|refine And.intro ?_ ?_|refine af ?_|refine aa ?_|refine ac ?_ ?_|refine ag ?_ ?_|refine ai ?_|exact AHeap.Le.refl _|refine AHeap.Le.push ?_ _|refine AHeap.Le.del ?_ ?_|(simp only [bt,and_true,true_and,hc3,hid];first|done|omega|(simp;done)))))
theorem xt {f:Nat} (h_yNot:EntOk Try.prog 95 (Ent.effect (eA f))):EntOk Try.prog 94 (Ent.effect (gy (f+1))):=by
 refine EntOk.effect fun args H K h=>?_
 unfold gy aA at h
 split at h
 rotate_left
 ·exact h.elim
 rename_i id
 obtain ⟨m,l,p,tb,t,hg,hpre,hK⟩:=h
 cases ho:run l (f+1) .and p t with
 |none=>rw [ho] at hK;exact hK.elim
 |some r =>
 rw [ho,cv] at hK
 refine ⟨_,_,hK,?_⟩
 clear hK
 rw [run] at ho
 simp only [cj] at ho
 have hpre':=hpre
 obtain ⟨hne,htb,ht,hp,hl,hgl,hgt⟩:=hpre
 have hid:=AHeap.get_lt hg
 have htbl:=AHeap.get_lt htb
 have f1:=bW hid
 have f2:=bW htbl
 have hl5:l.length≤100000:=by omega
 have i1:=@Int.natCast_nonneg
 have hne':(id=tb)=False:=eq_false hne
 refine ACalls.fW ay (TblOk.cons h_yNot (TblOk.cons eP (TblOk.cons eg TblOk.nil))) Try.func94 [.tmp 2] j7 (T:=al []) (h:=fun hcl hlt=>?_)
 clear hlt
 obtain ⟨hgi,hgt',hsi,hcl2,hst⟩:=c8 hg hpre' hcl
 rcases aG ho with ⟨q,h1,rfl⟩|⟨a,p1,t1,h1,h2⟩
 ·simp only [go_sem,f1,f2,hgi,hgt',hsi,hst,am,ax,aD,bg,aR,bh,aS,aQ,aC,aJ,aK,aA,hne,ne_eq,hne',hl5,Int.toNat_natCast,bc,bd,i1,Int.reduceLE,eq_self,not_false_eq_true,eA,hg,hpre',h1]
  simp (disch:=first|assumption|omega|(simp;done)|(simp;omega)|(simp only [bt,and_true];first|done|omega|(simp;done))) [↓zmk,beq,ybc,ybd,ybe,ae,wk,wk2,wk1,wkM,wkL,ah,ybf,dl hcl,zms,cU,dd_le1,cq]
 clear ho
 obtain ⟨k1,k2,k3,k4,k5,k6⟩:=aZ _ h1 hgt trivial hp
 simp only [Rl.isL,Bool.false_eq_true,if_false] at k4
 have hp1:eN ((H.set id (pst m l p1 tb t1)).set tb (.buf 7 t1.length)) id tb l p1 t1:=ct hpre' k2 (by omega) k5
 simp only [go_sem,f1,f2,hgi,hgt',hsi,hst,am,ax,aD,bg,aR,bh,aS,aQ,aC,aJ,aK,aA,hne,ne_eq,hne',hl5,Int.toNat_natCast,bc,bd,i1,Int.reduceLE,eq_self,not_false_eq_true,eA,hg,hpre',h1]
 refine aF (A:=Nat × Nat × Nat × List Nd) (fun x=>[(0,.ptr id 0),(3,.int .i64 (x.2.1:Int))]) (fun x=>(H.set id (pst m l x.2.2.1 tb x.2.2.2)).set tb (.buf 7 x.2.2.2.length))
  (fun x=>x.1≤f∧run l x.1 (.andL x.2.1) x.2.2.1 x.2.2.2=some r∧x.2.2.1≤l.length∧x.2.2.2.length≤x.2.2.1∧Good x.2.2.2∧x.2.1<x.2.2.2.length) (fun x=>x.1) (f,a,p1,t1) ⟨Nat.le_refl _,h2,k2,by dsimp only;omega,k5,k1⟩ ?_ fun x hx=>?_
 ·(simp only [bkq,enterW,bf,ltF,ne_eq,Nat.reduceEqDiff,reduceCtorEq,hcl2,hid];try simp (disch:=first|assumption|omega|(simp;done)|(simp;omega)|(simp only [bt,and_true];first|done|omega|(simp;done))) [↓zmk,beq,ybc,ybd,ybe,ae,wk,wk2,wk1,wkM,wkL,ah,ybf,byq,biq,aj,hcl,hcl2,hid];try (repeat' (first|assumption|omega|exact True.intro|refine And.intro ?_ ?_|refine af ?_|refine aa ?_|refine ac ?_ ?_|refine ag ?_ ?_|refine ai ?_|exact AHeap.Le.refl _|refine AHeap.Le.push ?_ _|refine AHeap.Le.del ?_ ?_|(simp only [bt,and_true,true_and,hcl2,hid];first|done|omega|(simp;done)))))
 obtain ⟨g,a',p',t'⟩:=x
 obtain ⟨x1,x2,x3,x4,x5,x6⟩:=hx
 dsimp only at x1 x2 x3 x4 x5 x6 ⊢
 have ht':t'.length≤100000:=by omega
 have hpx:eN ((H.set id (pst m l p' tb t')).set tb (.buf 7 t'.length)) id tb l p' t':=ct hpre' x3 x4 x5
 cases g with
 |zero=>cases x2
 |succ g =>
 rw [run] at x2
 simp only [cj] at x2
 cases hs:isS l p' [38,38] with
 |false =>
  rw [hs,if_neg (by simp)] at x2
  cases x2
  simp only [go_sem,f1,f2,hgi,hgt',hsi,hst,am,ax,aD,bg,aR,bh,aS,aQ,aC,aJ,aK,aA,hne,ne_eq,hne',hl5,Int.toNat_natCast,bc,bd,i1,Int.reduceLE,eq_self,not_false_eq_true,x3,hs,if_false]
  simp (disch:=first|assumption|omega|(simp;done)|(simp;omega)|(simp only [bt,and_true];first|done|omega|(simp;done))) [↓zmk,beq,ybc,ybd,ybe,ae,wk,wk2,wk1,wkM,wkL,ah,ybf,hcl2]
 |true =>
  rw [hs,if_pos rfl] at x2
  have hlt1:=bR hs
  have hp2:eN ((H.set id (pst m l (p'+1) tb t')).set tb (.buf 7 t'.length)) id tb l (p'+1) t':=ct hpre' hlt1 (by omega) x5
  rcases aG x2 with ⟨q,h3,rfl⟩|⟨b,p2,t2,h3,h4⟩
  ·have h3':=bz (show g≤f by omega) h3
   simp only [go_sem,f1,f2,hgi,hgt',hsi,hst,am,ax,aD,bg,aR,bh,aS,aQ,aC,aJ,aK,aA,hne,ne_eq,hne',hl5,Int.toNat_natCast,bc,bd,i1,Int.reduceLE,eq_self,not_false_eq_true,eA,x3,hs,if_true,hp2,h3']
   simp (disch:=first|assumption|omega|(simp;done)|(simp;omega)|(simp only [bt,and_true];first|done|omega|(simp;done))) [↓zmk,beq,ybc,ybd,ybe,ae,wk,wk2,wk1,wkM,wkL,ah,ybf,dl hcl,zms,cU,dd_le1,cq]
  have h3':=bz (show g≤f by omega) h3
  obtain ⟨k1b,k2b,k3b,k4b,k5b,k6b⟩:=aZ _ h3 x5 trivial hlt1
  simp only [Rl.isL,Bool.false_eq_true,if_false] at k4b
  have ht2:t2.length≤100000:=by omega
  simp only [go_sem,f1,f2,hgi,hgt',hsi,hst,am,ax,aD,bg,aR,bh,aS,aQ,aC,aJ,aK,aA,hne,ne_eq,hne',hl5,Int.toNat_natCast,bc,bd,i1,Int.reduceLE,eq_self,not_false_eq_true,eA,x3,hs,if_true,hp2,h3',ht2]
  have hc3:=hcl2 p2 (t2++[⟨14,a',b,[],[],0⟩])
  refine ⟨(g,t2.length,p2,t2++[⟨14,a',b,[],[],0⟩]),⟨by dsimp only;omega,h4,k2b,by simp;omega,k5b.snoc ⟨(show 1≤14 by decide),(show 14≤16 by decide)⟩ (show (0:Nat)<2^128 by decide) (.inr ⟨by simp only;omega,by simp only;omega⟩),by simp⟩,by dsimp only;omega,?_⟩
  simp only [List.length_append,yaz,yba,Nat.zero_add] at hc3 ⊢
  (simp only [bkq,enterW,bf,ltF,ne_eq,Nat.reduceEqDiff,reduceCtorEq,hc3,hid];try simp (disch:=first|assumption|omega|(simp;done)|(simp;omega)|(simp only [bt,and_true];first|done|omega|(simp;done))) [↓zmk,beq,ybc,ybd,ybe,ae,wk,wk2,wk1,wkM,wkL,ah,ybf,byq,biq,aj,hcl,hc3,hid];try (repeat' (first|assumption|omega|exact True.intro|refine And.intro ?_ ?_|refine af ?_|refine aa ?_|refine ac ?_ ?_|refine ag ?_ ?_|refine ai ?_|exact AHeap.Le.refl _|refine AHeap.Le.push ?_ _|refine AHeap.Le.del ?_ ?_|(simp only [bt,and_true,true_and,hc3,hid];first|done|omega|(simp;done)))))
theorem wT {f:Nat} (h_yNot:EntOk Try.prog 95 (Ent.effect (eA f))) (h_yCmp:EntOk Try.prog 96 (Ent.effect (k8 f))):EntOk Try.prog 95 (Ent.effect (eA (f+1))):=by
 refine EntOk.effect fun args H K h=>?_
 unfold eA aA at h
 split at h
 rotate_left
 ·exact h.elim
 rename_i id
 obtain ⟨m,l,p,tb,t,hg,hpre,hK⟩:=h
 cases ho:run l (f+1) .not p t with
 |none=>rw [ho] at hK;exact hK.elim
 |some r =>
 rw [ho,cv] at hK
 refine ⟨_,_,hK,?_⟩
 clear hK
 rw [run] at ho
 simp only [cj] at ho
 have hpre':=hpre
 obtain ⟨hne,htb,ht,hp,hl,hgl,hgt⟩:=hpre
 have hid:=AHeap.get_lt hg
 have htbl:=AHeap.get_lt htb
 have f1:=bW hid
 have f2:=bW htbl
 have hl5:l.length≤100000:=by omega
 have i1:=@Int.natCast_nonneg
 have hne':(id=tb)=False:=eq_false hne
 refine ACalls.fW ay (TblOk.cons eP (TblOk.cons h_yNot (TblOk.cons eg (TblOk.cons h_yCmp TblOk.nil)))) Try.func95 [.tmp 2] j7 (T:=al []) (h:=fun hcl hlt=>?_)
 clear hlt
 obtain ⟨hgi,hgt',hsi,hcl2,hst⟩:=c8 hg hpre' hcl
 cases hs:isS l p [33] with
 |false =>
  rw [hs,if_neg (by simp)] at ho
  simp only [go_sem,f1,f2,hgi,hgt',hsi,hst,am,ax,aD,bg,aR,bh,aS,aQ,aC,aJ,aK,aA,hne,ne_eq,hne',hl5,Int.toNat_natCast,bc,bd,i1,Int.reduceLE,eq_self,not_false_eq_true,k8,hg,hp,hs,if_false,hpre',ho,cv]
  cases r with
  |ok a q u =>
   simp only [go_sem,f1,f2,hgi,hgt',hsi,hst,am,ax,aD,bg,aR,bh,aS,aQ,aC,aJ,aK,aA,hne,ne_eq,hne',hl5,Int.toNat_natCast,bc,bd,i1,Int.reduceLE,eq_self,not_false_eq_true]
   simp (disch:=first|assumption|omega|(simp;done)|(simp;omega)|(simp only [bt,and_true];first|done|omega|(simp;done))) [↓zmk,beq,ybc,ybd,ybe,ae,wk,wk2,wk1,wkM,wkL,ah,ybf,hcl2]
  |bad q =>
   simp only [go_sem,f1,f2,hgi,hgt',hsi,hst,am,ax,aD,bg,aR,bh,aS,aQ,aC,aJ,aK,aA,hne,ne_eq,hne',hl5,Int.toNat_natCast,bc,bd,i1,Int.reduceLE,eq_self,not_false_eq_true]
   simp (disch:=first|assumption|omega|(simp;done)|(simp;omega)|(simp only [bt,and_true];first|done|omega|(simp;done))) [↓zmk,beq,ybc,ybd,ybe,ae,wk,wk2,wk1,wkM,wkL,ah,ybf,dl hcl,zms,cU,dd_le1,cq]
 |true =>
  rw [hs,if_pos rfl] at ho
  have hlt1:=bR hs
  have hgi1:∀ X,(H.set id X).get id=some X:=fun X=>AHeap.get_set_same _ _ hid
  have hp2:eN (H.set id (pst m l (p+1) tb t)) id tb l (p+1) t:=jq hpre' hlt1 (by omega)
  have hss:∀ X Y,(H.set id X).set id Y=H.set id Y:=fun X Y=>by simp only [AHeap.set];congr 1;funext k;by_cases hk:k=id<;>simp [hk]
  rcases aG ho with ⟨q,h3,rfl⟩|⟨b,p2,t2,h3,h4⟩
  ·simp only [go_sem,f1,f2,hgi,hgt',hsi,hst,am,ax,aD,bg,aR,bh,aS,aQ,aC,aJ,aK,aA,hne,ne_eq,hne',hl5,Int.toNat_natCast,bc,bd,i1,Int.reduceLE,eq_self,not_false_eq_true,eA,hg,hp,hs,if_true,hgi1,hss,hp2,h3]
   simp (disch:=first|assumption|omega|(simp;done)|(simp;omega)|(simp only [bt,and_true];first|done|omega|(simp;done))) [↓zmk,beq,ybc,ybd,ybe,ae,wk,wk2,wk1,wkM,wkL,ah,ybf,dl hcl,zms,cU,dd_le1,cq]
  cases h4
  obtain ⟨k1b,k2b,k3b,k4b,k5b,k6b⟩:=aZ _ h3 hgt trivial hlt1
  simp only [Rl.isL,Bool.false_eq_true,if_false] at k4b
  have ht2:t2.length≤100000:=by omega
  simp only [go_sem,f1,f2,hgi,hgt',hsi,hst,am,ax,aD,bg,aR,bh,aS,aQ,aC,aJ,aK,aA,hne,ne_eq,hne',hl5,Int.toNat_natCast,bc,bd,i1,Int.reduceLE,eq_self,not_false_eq_true,eA,hg,hp,hs,if_true,hgi1,hss,hp2,h3,ht2,nd2]
  have hc3:=hcl2 p2 (t2++[⟨5,b,0,[],[],0⟩])
  simp only [List.length_append,yaz,yba,Nat.zero_add] at hc3 ⊢
  simp (disch:=first|assumption|omega|(simp;done)|(simp;omega)|(simp only [bt,and_true];first|done|omega|(simp;done))) [↓zmk,beq,ybc,ybd,ybe,ae,wk,wk2,wk1,wkM,wkL,ah,ybf,hc3]
theorem yZ {f:Nat} (h_yUn:EntOk Try.prog 100 (Ent.effect (gN f))) (h_yAtom:EntOk Try.prog 102 (Ent.effect (jb f))):EntOk Try.prog 100 (Ent.effect (gN (f+1))):=by
 refine EntOk.effect fun args H K h=>?_
 unfold gN aA at h
 split at h
 rotate_left
 ·exact h.elim
 rename_i id
 obtain ⟨m,l,p,tb,t,hg,hpre,hK⟩:=h
 cases ho:run l (f+1) .un p t with
 |none=>rw [ho] at hK;exact hK.elim
 |some r =>
 rw [ho,cv] at hK
 refine ⟨_,_,hK,?_⟩
 clear hK
 rw [run] at ho
 simp only [cj] at ho
 have hpre':=hpre
 obtain ⟨hne,htb,ht,hp,hl,hgl,hgt⟩:=hpre
 have hid:=AHeap.get_lt hg
 have htbl:=AHeap.get_lt htb
 have f1:=bW hid
 have f2:=bW htbl
 have hl5:l.length≤100000:=by omega
 have i1:=@Int.natCast_nonneg
 have hne':(id=tb)=False:=eq_false hne
 refine ACalls.fW ay (TblOk.cons eP (TblOk.cons h_yUn (TblOk.cons eg (TblOk.cons h_yAtom TblOk.nil)))) Try.func100 [.tmp 2] j7 (T:=al []) (h:=fun hcl hlt=>?_)
 clear hlt
 obtain ⟨hgi,hgt',hsi,hcl2,hst⟩:=c8 hg hpre' hcl
 cases hs:isS l p [45] with
 |false =>
  rw [hs,if_neg (by simp)] at ho
  simp only [go_sem,f1,f2,hgi,hgt',hsi,hst,am,ax,aD,bg,aR,bh,aS,aQ,aC,aJ,aK,aA,hne,ne_eq,hne',hl5,Int.toNat_natCast,bc,bd,i1,Int.reduceLE,eq_self,not_false_eq_true,jb,hg,hp,hs,if_false,hpre',ho,cv]
  cases r with
  |ok a q u =>
   simp only [go_sem,f1,f2,hgi,hgt',hsi,hst,am,ax,aD,bg,aR,bh,aS,aQ,aC,aJ,aK,aA,hne,ne_eq,hne',hl5,Int.toNat_natCast,bc,bd,i1,Int.reduceLE,eq_self,not_false_eq_true]
   simp (disch:=first|assumption|omega|(simp;done)|(simp;omega)|(simp only [bt,and_true];first|done|omega|(simp;done))) [↓zmk,beq,ybc,ybd,ybe,ae,wk,wk2,wk1,wkM,wkL,ah,ybf,hcl2]
  |bad q =>
   simp only [go_sem,f1,f2,hgi,hgt',hsi,hst,am,ax,aD,bg,aR,bh,aS,aQ,aC,aJ,aK,aA,hne,ne_eq,hne',hl5,Int.toNat_natCast,bc,bd,i1,Int.reduceLE,eq_self,not_false_eq_true]
   simp (disch:=first|assumption|omega|(simp;done)|(simp;omega)|(simp only [bt,and_true];first|done|omega|(simp;done))) [↓zmk,beq,ybc,ybd,ybe,ae,wk,wk2,wk1,wkM,wkL,ah,ybf,dl hcl,zms,cU,dd_le1,cq]
 |true =>
  rw [hs,if_pos rfl] at ho
  have hlt1:=bR hs
  have hgi1:∀ X,(H.set id X).get id=some X:=fun X=>AHeap.get_set_same _ _ hid
  have hp2:eN (H.set id (pst m l (p+1) tb t)) id tb l (p+1) t:=jq hpre' hlt1 (by omega)
  have hss:∀ X Y,(H.set id X).set id Y=H.set id Y:=fun X Y=>by simp only [AHeap.set];congr 1;funext k;by_cases hk:k=id<;>simp [hk]
  rcases aG ho with ⟨q,h3,rfl⟩|⟨b,p2,t2,h3,h4⟩
  ·simp only [go_sem,f1,f2,hgi,hgt',hsi,hst,am,ax,aD,bg,aR,bh,aS,aQ,aC,aJ,aK,aA,hne,ne_eq,hne',hl5,Int.toNat_natCast,bc,bd,i1,Int.reduceLE,eq_self,not_false_eq_true,gN,hg,hp,hs,if_true,hgi1,hss,hp2,h3]
   simp (disch:=first|assumption|omega|(simp;done)|(simp;omega)|(simp only [bt,and_true];first|done|omega|(simp;done))) [↓zmk,beq,ybc,ybd,ybe,ae,wk,wk2,wk1,wkM,wkL,ah,ybf,dl hcl,zms,cU,dd_le1,cq]
  cases h4
  obtain ⟨k1b,k2b,k3b,k4b,k5b,k6b⟩:=aZ _ h3 hgt trivial hlt1
  simp only [Rl.isL,Bool.false_eq_true,if_false] at k4b
  have ht2:t2.length≤100000:=by omega
  simp only [go_sem,f1,f2,hgi,hgt',hsi,hst,am,ax,aD,bg,aR,bh,aS,aQ,aC,aJ,aK,aA,hne,ne_eq,hne',hl5,Int.toNat_natCast,bc,bd,i1,Int.reduceLE,eq_self,not_false_eq_true,gN,hg,hp,hs,if_true,hgi1,hss,hp2,h3,ht2,nd2]
  have hc3:=hcl2 p2 (t2++[⟨4,b,0,[],[],0⟩])
  simp only [List.length_append,yaz,yba,Nat.zero_add] at hc3 ⊢
  simp (disch:=first|assumption|omega|(simp;done)|(simp;omega)|(simp only [bt,and_true];first|done|omega|(simp;done))) [↓zmk,beq,ybc,ybd,ybe,ae,wk,wk2,wk1,wkM,wkL,ah,ybf,hc3]
theorem xH {f:Nat} (h_ySum:EntOk Try.prog 97 (Ent.effect (gE f))):EntOk Try.prog 96 (Ent.effect (k8 (f+1))):=by
 refine EntOk.effect fun args H K h=>?_
 unfold k8 aA at h
 split at h
 rotate_left
 ·exact h.elim
 rename_i id
 obtain ⟨m,l,p,tb,t,hg,hpre,hK⟩:=h
 cases ho:run l (f+1) .cmp p t with
 |none=>rw [ho] at hK;exact hK.elim
 |some r =>
 rw [ho,cv] at hK
 refine ⟨_,_,hK,?_⟩
 clear hK
 rw [run] at ho
 simp only [cj] at ho
 have hpre':=hpre
 obtain ⟨hne,htb,ht,hp,hl,hgl,hgt⟩:=hpre
 have hid:=AHeap.get_lt hg
 have htbl:=AHeap.get_lt htb
 have f1:=bW hid
 have f2:=bW htbl
 have hl5:l.length≤100000:=by omega
 have i1:=@Int.natCast_nonneg
 have hne':(id=tb)=False:=eq_false hne
 refine ACalls.fW ay (TblOk.cons h_ySum (TblOk.cons og (TblOk.cons pF (TblOk.cons eg TblOk.nil)))) Try.func96 [.tmp 2] j7 (T:=al []) (h:=fun hcl hlt=>?_)
 clear hlt
 obtain ⟨hgi,hgt',hsi,hcl2,hst⟩:=c8 hg hpre' hcl
 rcases aG ho with ⟨q,h1,rfl⟩|⟨a,p1,t1,h1,h2⟩
 ·simp only [go_sem,f1,f2,hgi,hgt',hsi,hst,am,ax,aD,bg,aR,bh,aS,aQ,aC,aJ,aK,aA,hne,ne_eq,hne',hl5,Int.toNat_natCast,bc,bd,i1,Int.reduceLE,eq_self,not_false_eq_true,gE,hg,hpre',h1]
  simp (disch:=first|assumption|omega|(simp;done)|(simp;omega)|(simp only [bt,and_true];first|done|omega|(simp;done))) [↓zmk,beq,ybc,ybd,ybe,ae,wk,wk2,wk1,wkM,wkL,ah,ybf,dl hcl,zms,cU,dd_le1,cq]
 clear ho
 obtain ⟨k1,k2,k3,k4,k5,k6⟩:=aZ _ h1 hgt trivial hp
 simp only [Rl.isL,Bool.false_eq_true,if_false] at k4
 have hp1:eN ((H.set id (pst m l p1 tb t1)).set tb (.buf 7 t1.length)) id tb l p1 t1:=ct hpre' k2 (by omega) k5
 cases hs:eK l p1 opsC with
 |none =>
  rw [hs] at h2
  cases h2
  simp only [go_sem,f1,f2,hgi,hgt',hsi,hst,am,ax,aD,bg,aR,bh,aS,aQ,aC,aJ,aK,aA,hne,ne_eq,hne',hl5,Int.toNat_natCast,bc,bd,i1,Int.reduceLE,eq_self,not_false_eq_true,eQ,ck,eS,dK,fu,fg,gE,hg,hpre',h1,k2,hs,jj]
  refine nQ rfl ?_
  simp only [go_sem,f1,f2,hgi,hgt',hsi,hst,am,ax,aD,bg,aR,bh,aS,aQ,aC,aJ,aK,aA,hne,ne_eq,hne',hl5,Int.toNat_natCast,bc,bd,i1,Int.reduceLE,eq_self,not_false_eq_true]
  simp (disch:=first|assumption|omega|(simp;done)|(simp;omega)|(simp only [bt,and_true];first|done|omega|(simp;done))) [↓zmk,beq,ybc,ybd,ybe,ae,wk,wk2,wk1,wkM,wkL,ah,ybf,hcl2]
 |some op =>
  rw [hs] at h2
  dsimp only at h2
  obtain ⟨hlt1,so,hso⟩:=dk hs
  obtain ⟨o1,o2⟩:=nU hso
  have hop:((op:Int) != 0)=true:=by simp;omega
  have hp2:eN ((H.set id (pst m l (p1+1) tb t1)).set tb (.buf 7 t1.length)) id tb l (p1+1) t1:=ct hpre' hlt1 (by omega) k5
  rcases aG h2 with ⟨q,h3,rfl⟩|⟨b,p2,t2,h3,h4⟩
  ·simp only [go_sem,f1,f2,hgi,hgt',hsi,hst,am,ax,aD,bg,aR,bh,aS,aQ,aC,aJ,aK,aA,hne,ne_eq,hne',hl5,Int.toNat_natCast,bc,bd,i1,Int.reduceLE,eq_self,not_false_eq_true,eQ,ck,eS,dK,fu,fg,gE,hg,hpre',h1,k2,hs,gq,hop,hp2,h3]
   simp (disch:=first|assumption|omega|(simp;done)|(simp;omega)|(simp only [bt,and_true];first|done|omega|(simp;done))) [↓zmk,beq,ybc,ybd,ybe,ae,wk,wk2,wk1,wkM,wkL,ah,ybf,dl hcl,zms,cU,dd_le1,cq]
  cases h4
  obtain ⟨k1b,k2b,k3b,k4b,k5b,k6b⟩:=aZ _ h3 k5 trivial hlt1
  simp only [Rl.isL,Bool.false_eq_true,if_false] at k4b
  have ht2:t2.length≤100000:=by omega
  simp only [go_sem,f1,f2,hgi,hgt',hsi,hst,am,ax,aD,bg,aR,bh,aS,aQ,aC,aJ,aK,aA,hne,ne_eq,hne',hl5,Int.toNat_natCast,bc,bd,i1,Int.reduceLE,eq_self,not_false_eq_true,eQ,ck,eS,dK,fu,fg,gE,hg,hpre',h1,k2,hs,gq,hop,hp2,h3,ht2,nd2]
  have hc3:=hcl2 p2 (t2++[⟨op,a,b,[],[],0⟩])
  simp only [List.length_append,yaz,yba,Nat.zero_add] at hc3 ⊢
  simp (disch:=first|assumption|omega|(simp;done)|(simp;omega)|(simp only [bt,and_true];first|done|omega|(simp;done))) [↓zmk,beq,ybc,ybd,ybe,ae,wk,wk2,wk1,wkM,wkL,ah,ybf,hc3]
theorem xl {f:Nat} (h_yUn:EntOk Try.prog 100 (Ent.effect (gN f))):EntOk Try.prog 97 (Ent.effect (gE (f+1))):=by
 refine EntOk.effect fun args H K h=>?_
 unfold gE aA at h
 split at h
 rotate_left
 ·exact h.elim
 rename_i id
 obtain ⟨m,l,p,tb,t,hg,hpre,hK⟩:=h
 cases ho:run l (f+1) .sum p t with
 |none=>rw [ho] at hK;exact hK.elim
 |some r =>
 rw [ho,cv] at hK
 refine ⟨_,_,hK,?_⟩
 clear hK
 rw [run] at ho
 simp only [cj] at ho
 have hpre':=hpre
 obtain ⟨hne,htb,ht,hp,hl,hgl,hgt⟩:=hpre
 have hid:=AHeap.get_lt hg
 have htbl:=AHeap.get_lt htb
 have f1:=bW hid
 have f2:=bW htbl
 have hl5:l.length≤100000:=by omega
 have i1:=@Int.natCast_nonneg
 have hne':(id=tb)=False:=eq_false hne
 refine ACalls.fW ay (TblOk.cons h_yUn (TblOk.cons wv (TblOk.cons pF (TblOk.cons eg TblOk.nil)))) Try.func97 [.tmp 2] j7 (T:=al []) (h:=fun hcl hlt=>?_)
 clear hlt
 obtain ⟨hgi,hgt',hsi,hcl2,hst⟩:=c8 hg hpre' hcl
 rcases aG ho with ⟨q,h1,rfl⟩|⟨a,p1,t1,h1,h2⟩
 ·simp only [go_sem,f1,f2,hgi,hgt',hsi,hst,am,ax,aD,bg,aR,bh,aS,aQ,aC,aJ,aK,aA,hne,ne_eq,hne',hl5,Int.toNat_natCast,bc,bd,i1,Int.reduceLE,eq_self,not_false_eq_true,gN,hg,hpre',h1]
  simp (disch:=first|assumption|omega|(simp;done)|(simp;omega)|(simp only [bt,and_true];first|done|omega|(simp;done))) [↓zmk,beq,ybc,ybd,ybe,ae,wk,wk2,wk1,wkM,wkL,ah,ybf,dl hcl,zms,cU,dd_le1,cq]
 clear ho
 obtain ⟨k1,k2,k3,k4,k5,k6⟩:=aZ _ h1 hgt trivial hp
 simp only [Rl.isL,Bool.false_eq_true,if_false] at k4
 have hp1:eN ((H.set id (pst m l p1 tb t1)).set tb (.buf 7 t1.length)) id tb l p1 t1:=ct hpre' k2 (by omega) k5
 have hsn:∀ p',eK l p' opsS=none→opv l p'=0∧oph l p'=p':=fun p' e=>by simp [opv,oph,e]
 have hss:∀ p' op,eK l p' opsS=some op→opv l p'=op∧oph l p'=p'+1:=fun p' op e=>by simp [opv,oph,e]
 have hev:∀ p',(eK l p' opsS=none∧opv l p'=0∧oph l p'=p')∨∃ op,eK l p' opsS=some op∧opv l p'=op∧oph l p'=p'+1:=fun p'=>by
  cases hs:eK l p' opsS with
  |none=>exact .inl ⟨rfl,hsn _ hs⟩
  |some op=>exact .inr ⟨op,rfl,hss _ _ hs⟩
 simp only [go_sem,f1,f2,hgi,hgt',hsi,hst,am,ax,aD,bg,aR,bh,aS,aQ,aC,aJ,aK,aA,hne,ne_eq,hne',hl5,Int.toNat_natCast,bc,bd,i1,Int.reduceLE,eq_self,not_false_eq_true,eQ,ck,eS,dK,fu,fg,gN,hg,hpre',h1,k2]
 rcases hev p1 with ⟨hs1,v1,v2⟩|⟨op1,hs1,v1,v2⟩
 all_goals
  simp only [go_sem,f1,f2,hgi,hgt',hsi,hst,am,ax,aD,bg,aR,bh,aS,aQ,aC,aJ,aK,aA,hne,ne_eq,hne',hl5,Int.toNat_natCast,bc,bd,i1,Int.reduceLE,eq_self,not_false_eq_true,eQ,ck,eS,dK,fu,fg,k2,hs1,jj,gq]
  refine aF (A:=Nat × Nat × Nat × List Nd) (fun x=>[(0,.ptr id 0),(3,.int .i64 (x.2.1:Int)),(4,.int .i64 (opv l x.2.2.1:Int))]) (fun x=>(H.set id (pst m l (oph l x.2.2.1) tb x.2.2.2)).set tb (.buf 7 x.2.2.2.length)) (fun x=>x.1≤f∧run l x.1 (.sumL x.2.1) x.2.2.1 x.2.2.2=some r∧x.2.2.1≤l.length∧x.2.2.2.length≤x.2.2.1∧Good x.2.2.2∧x.2.1<x.2.2.2.length) (fun x=>x.1) (f,a,p1,t1) ⟨Nat.le_refl _,h2,k2,by dsimp only;omega,k5,k1⟩ ?_ fun x hx=>?_
  ·dsimp only
   rw [v1,v2]
   (simp only [bkq,enterW,bf,ltF,ne_eq,Nat.reduceEqDiff,reduceCtorEq,hcl2,hid];try simp (disch:=first|assumption|omega|(simp;done)|(simp;omega)|(simp only [bt,and_true];first|done|omega|(simp;done))) [↓zmk,beq,ybc,ybd,ybe,ae,wk,wk2,wk1,wkM,wkL,ah,ybf,byq,biq,aj,hcl,hcl2,hid];try (repeat' (first|assumption|omega|exact True.intro|refine And.intro ?_ ?_|refine af ?_|refine aa ?_|refine ac ?_ ?_|refine ag ?_ ?_|refine ai ?_|exact AHeap.Le.refl _|refine AHeap.Le.push ?_ _|refine AHeap.Le.del ?_ ?_|(simp only [bt,and_true,true_and,hcl2,hid];first|done|omega|(simp;done)))))
  obtain ⟨g,a',p',t'⟩:=x
  obtain ⟨x1,x2,x3,x4,x5,x6⟩:=hx
  dsimp only at x1 x2 x3 x4 x5 x6 ⊢
  have ht':t'.length≤100000:=by omega
  cases g with
  |zero=>cases x2
  |succ g =>
  rw [run] at x2
  simp only [cj] at x2
  rcases hev p' with ⟨hs,u1,u2⟩|⟨op,hs,u1,u2⟩
  ·rw [hs] at x2
   cases x2
   rw [u1,u2]
   simp only [go_sem,f1,f2,hgi,hgt',hsi,hst,am,ax,aD,bg,aR,bh,aS,aQ,aC,aJ,aK,aA,hne,ne_eq,hne',hl5,Int.toNat_natCast,bc,bd,i1,Int.reduceLE,eq_self,not_false_eq_true]
   refine nQ rfl ?_
   simp only [go_sem,f1,f2,hgi,hgt',hsi,hst,am,ax,aD,bg,aR,bh,aS,aQ,aC,aJ,aK,aA,hne,ne_eq,hne',hl5,Int.toNat_natCast,bc,bd,i1,Int.reduceLE,eq_self,not_false_eq_true]
   simp (disch:=first|assumption|omega|(simp;done)|(simp;omega)|(simp only [bt,and_true];first|done|omega|(simp;done))) [↓zmk,beq,ybc,ybd,ybe,ae,wk,wk2,wk1,wkM,wkL,ah,ybf,hcl2]
  ·rw [hs] at x2
   dsimp only at x2
   rw [u1,u2]
   obtain ⟨hlt1,so,hso⟩:=dk hs
   obtain ⟨o1,o2⟩:=kE hso
   have hop:((op:Int) != 0)=true:=by simp;omega
   have hp2:eN ((H.set id (pst m l (p'+1) tb t')).set tb (.buf 7 t'.length)) id tb l (p'+1) t':=ct hpre' hlt1 (by omega) x5
   rcases aG x2 with ⟨q,h3,rfl⟩|⟨b,p2,t2,h3,h4⟩
   ·have h3':=bz (show g≤f by omega) h3
    simp only [go_sem,f1,f2,hgi,hgt',hsi,hst,am,ax,aD,bg,aR,bh,aS,aQ,aC,aJ,aK,aA,hne,ne_eq,hne',hl5,Int.toNat_natCast,bc,bd,i1,Int.reduceLE,eq_self,not_false_eq_true,gN,hop,hp2,h3']
    simp (disch:=first|assumption|omega|(simp;done)|(simp;omega)|(simp only [bt,and_true];first|done|omega|(simp;done))) [↓zmk,beq,ybc,ybd,ybe,ae,wk,wk2,wk1,wkM,wkL,ah,ybf,dl hcl,zms,cU,dd_le1,cq]
   have h3':=bz (show g≤f by omega) h3
   obtain ⟨k1b,k2b,k3b,k4b,k5b,k6b⟩:=aZ _ h3 x5 trivial hlt1
   simp only [Rl.isL,Bool.false_eq_true,if_false] at k4b
   have ht2:t2.length≤100000:=by omega
   have hc3:=hcl2 (oph l p2) (t2++[⟨op,a',b,[],[],0⟩])
   rcases hev p2 with ⟨hs2,w1,w2⟩|⟨op2,hs2,w1,w2⟩
   all_goals
    simp only [go_sem,f1,f2,hgi,hgt',hsi,hst,am,ax,aD,bg,aR,bh,aS,aQ,aC,aJ,aK,aA,hne,ne_eq,hne',hl5,Int.toNat_natCast,bc,bd,i1,Int.reduceLE,eq_self,not_false_eq_true,eQ,ck,eS,dK,fu,fg,gN,hop,hp2,h3',ht2,k2b,hs2,jj,gq]
    refine ⟨(g,t2.length,p2,t2++[⟨op,a',b,[],[],0⟩]),⟨by dsimp only;omega,h4,k2b,by simp;omega,k5b.snoc ⟨(by show 1≤op;omega),o2⟩ (show (0:Nat)<2^128 by decide) (.inr ⟨by simp only;omega,by simp only;omega⟩),by simp⟩,by dsimp only;omega,?_⟩
    dsimp only
    rw [w1,w2]
    rw [w2] at hc3
    simp only [List.length_append,yaz,yba,Nat.zero_add] at hc3 ⊢
    (simp only [bkq,enterW,bf,ltF,ne_eq,Nat.reduceEqDiff,reduceCtorEq,hc3,hid];try simp (disch:=first|assumption|omega|(simp;done)|(simp;omega)|(simp only [bt,and_true];first|done|omega|(simp;done))) [↓zmk,beq,ybc,ybd,ybe,ae,wk,wk2,wk1,wkM,wkL,ah,ybf,byq,biq,aj,hcl,hc3,hid];try (repeat' (first|assumption|omega|exact True.intro|refine And.intro ?_ ?_|refine af ?_|refine aa ?_|refine ac ?_ ?_|refine ag ?_ ?_|refine ai ?_|exact AHeap.Le.refl _|refine AHeap.Le.push ?_ _|refine AHeap.Le.del ?_ ?_|(simp only [bt,and_true,true_and,hc3,hid];first|done|omega|(simp;done)))))
theorem uy {f:Nat} (h_yImp:EntOk Try.prog 77 (Ent.effect (dD f))):EntOk Try.prog 102 (Ent.effect (jb (f+1))):=by
 refine EntOk.effect fun args H K h=>?_
 unfold jb aA at h
 split at h
 rotate_left
 ·exact h.elim
 rename_i id
 obtain ⟨m,l,p,tb,t,hg,hpre,hK⟩:=h
 cases ho:run l (f+1) .atom p t with
 |none=>rw [ho] at hK;exact hK.elim
 |some r =>
 rw [ho,cv] at hK
 refine ⟨_,_,hK,?_⟩
 clear hK
 rw [run] at ho
 simp only [cj] at ho
 have hpre':=hpre
 obtain ⟨hne,htb,ht,hp,hl,hgl,hgt⟩:=hpre
 have hid:=AHeap.get_lt hg
 have htbl:=AHeap.get_lt htb
 have f1:=bW hid
 have f2:=bW htbl
 have hl5:l.length≤100000:=by omega
 have i1:=@Int.natCast_nonneg
 have hne':(id=tb)=False:=eq_false hne
 refine ACalls.fW ay (TblOk.cons eP (TblOk.cons h_yImp (TblOk.cons fh (TblOk.cons pA (TblOk.cons vy (TblOk.cons sM (TblOk.cons eg TblOk.nil))))))) Try.func102 [.tmp 2] j7 (T:=al []) (h:=fun hcl hlt=>?_)
 clear hlt
 obtain ⟨hgi,hgt',hsi,hcl2,hst⟩:=c8 hg hpre' hcl
 have hgi1:∀ X,(H.set id X).get id=some X:=fun X=>AHeap.get_set_same _ _ hid
 have hgt1:∀ X,(H.set id X).get tb=some (.buf 7 t.length):=fun X=>by rw [AHeap.get_set_ne _ _ (fun e=>hne e.symm)];exact htb
 have hss:∀ X Y,(H.set id X).set id Y=H.set id Y:=fun X Y=>by simp only [AHeap.set];congr 1;funext k;by_cases hk:k=id<;>simp [hk]
 have hcs:=av (cs:=[.slice m 3 (bP l),.int .i64 (p:Int),.slice (.own tb) 7 (nds t)]) hg
 have ht5:t.length≤100000:=by omega
 cases hs0:isS l p [40] with
 |true =>
  rw [hs0,if_pos rfl] at ho
  have hlt1:=bR hs0
  have hp2:eN (H.set id (pst m l (p+1) tb t)) id tb l (p+1) t:=jq hpre' hlt1 (by omega)
  rcases aG ho with ⟨q,h3,rfl⟩|⟨a,p1,t1,h3,h4⟩
  ·simp only [go_sem,f1,f2,hgi,hgt',hsi,hst,am,ax,aD,bg,aR,bh,aS,aQ,aC,aJ,aK,aA,hne,ne_eq,hne',hl5,Int.toNat_natCast,bc,bd,i1,Int.reduceLE,eq_self,not_false_eq_true,dD,hg,hp,hs0,if_true,hgi1,hss,hp2,h3]
   simp (disch:=first|assumption|omega|(simp;done)|(simp;omega)|(simp only [bt,and_true];first|done|omega|(simp;done))) [↓zmk,beq,ybc,ybd,ybe,ae,wk,wk2,wk1,wkM,wkL,ah,ybf,dl hcl,zms,cU,dd_le1,cq]
  obtain ⟨k1b,k2b,k3b,k4b,k5b,k6b⟩:=aZ _ h3 hgt trivial hlt1
  simp only [Rl.isL,Bool.false_eq_true,if_false] at k4b
  cases hs2:isS l p1 [41] with
  |true =>
   rw [hs2,if_pos rfl] at h4
   cases h4
   simp only [go_sem,f1,f2,hgi,hgt',hsi,hst,am,ax,aD,bg,aR,bh,aS,aQ,aC,aJ,aK,aA,hne,ne_eq,hne',hl5,Int.toNat_natCast,bc,bd,i1,Int.reduceLE,eq_self,not_false_eq_true,dD,hg,hp,hs0,if_true,hgi1,hss,hp2,h3,k2b,hs2]
   simp (disch:=first|assumption|omega|(simp;done)|(simp;omega)|(simp only [bt,and_true];first|done|omega|(simp;done))) [↓zmk,beq,ybc,ybd,ybe,ae,wk,wk2,wk1,wkM,wkL,ah,ybf,hcl2]
  |false =>
   rw [hs2,if_neg (by simp)] at h4
   cases h4
   simp only [go_sem,f1,f2,hgi,hgt',hsi,hst,am,ax,aD,bg,aR,bh,aS,aQ,aC,aJ,aK,aA,hne,ne_eq,hne',hl5,Int.toNat_natCast,bc,bd,i1,Int.reduceLE,eq_self,not_false_eq_true,dD,cb,hg,hp,hs0,if_true,if_false,hgi1,hss,hp2,h3,k2b,hs2]
   simp (disch:=first|assumption|omega|(simp;done)|(simp;omega)|(simp only [bt,and_true];first|done|omega|(simp;done))) [↓zmk,beq,ybc,ybd,ybe,ae,wk,wk2,wk1,wkM,wkL,ah,ybf,dl hcl,zms,cU,dd_le1,cq]
 |false =>
  rw [hs0,if_neg (by simp)] at ho
  cases ho
  by_cases hlt0:p<l.length
  ·rcases htk:l[p] with ⟨k,x,z⟩
   have hgd:=kK hlt0 htk
   have hge:l[p]?=some (k,x,z):=by rw [List.getElem?_eq_getElem hlt0,htk]
   have d0:decide ((p:Int)<(l.length:Int))=true:=by simp;omega
   by_cases hk1:k=1
   ·subst hk1
    have hka:lz l p=1:=by unfold lz;rw [hge]
    have hr:ce l p t=.ok t.length (p+1) (t++[⟨1,0,0,[],[],mB l p⟩]):=by unfold ce mB;rw [hge];rfl
    have hd1:(((1:Nat):Int)==1)=true:=rfl
    rw [hr]
    have hc3:=hcl2 (p+1) (t++[⟨1,0,0,[],[],mB l p⟩])
    simp only [go_sem,f1,f2,hgi,hgt',hsi,hst,am,ax,aD,bg,aR,bh,aS,aQ,aC,aJ,aK,aA,hne,ne_eq,hne',hl5,Int.toNat_natCast,bc,bd,i1,Int.reduceLE,eq_self,not_false_eq_true,hg,hp,hs0,if_false,hcs,aO,hgd,d0,dN,bY,cb,cS,hp,hgi1,hgt1,hss,ht5,dc,cV,cH,bne_self_eq_false,beq_self_eq_true,hd1,hka,hpre']
    simp only [List.length_append,yaz,yba,Nat.zero_add] at hc3 ⊢
    refine ⟨by omega,?_⟩
    simp (disch:=first|assumption|omega|(simp;done)|(simp;omega)|(simp only [bt,and_true];first|done|omega|(simp;done))) [↓zmk,beq,ybc,ybd,ybe,ae,wk,wk2,wk1,wkM,wkL,ah,ybf,hc3]
   ·have d1:((k:Int)==1)=false:=by simp;omega
    by_cases hk2:k=2
    ·subst hk2
     have hw:gO l p=some x:=by unfold gO;rw [hge];rfl
     have hd2:(((2:Nat):Int)==1)=false:=rfl
     by_cases hx1:x=mv
     ·have hr:ce l p t=.ok t.length (p+1) (t++[⟨2,0,0,[],[],1⟩]):=by unfold ce;rw [hge];simp [hx1]
      have htr:eY x=.tup [cH 2 1,.bool true]:=by unfold eY;rw [if_pos hx1]
      rw [hr]
      have hc3:=hcl2 (p+1) (t++[⟨2,0,0,[],[],1⟩])
      simp only [go_sem,f1,f2,hgi,hgt',hsi,hst,am,ax,aD,bg,aR,bh,aS,aQ,aC,aJ,aK,aA,hne,ne_eq,hne',hl5,Int.toNat_natCast,bc,bd,i1,Int.reduceLE,eq_self,not_false_eq_true,hg,hp,hs0,if_false,hcs,aO,hgd,d0,dN,bY,cb,cS,hp,hgi1,hgt1,hss,ht5,dc,cV,cH,bne_self_eq_false,beq_self_eq_true,hd2,hw,htr,zH,Aa]
      simp only [List.length_append,yaz,yba,Nat.zero_add] at hc3 ⊢
      refine ⟨by omega,?_⟩
      simp (disch:=first|assumption|omega|(simp;done)|(simp;omega)|(simp only [bt,and_true];first|done|omega|(simp;done))) [↓zmk,beq,ybc,ybd,ybe,ae,wk,wk2,wk1,wkM,wkL,ah,ybf,hc3]
     ·by_cases hx2:x=jC
      ·have hr:ce l p t=.ok t.length (p+1) (t++[⟨2,0,0,[],[],0⟩]):=by unfold ce;rw [hge];simp [hx1,hx2];decide
       have htr:eY x=.tup [cH 2 0,.bool true]:=by unfold eY;rw [if_neg hx1,if_pos hx2]
       rw [hr]
       have hc3:=hcl2 (p+1) (t++[⟨2,0,0,[],[],0⟩])
       simp only [go_sem,f1,f2,hgi,hgt',hsi,hst,am,ax,aD,bg,aR,bh,aS,aQ,aC,aJ,aK,aA,hne,ne_eq,hne',hl5,Int.toNat_natCast,bc,bd,i1,Int.reduceLE,eq_self,not_false_eq_true,hg,hp,hs0,if_false,hcs,aO,hgd,d0,dN,bY,cb,cS,hp,hgi1,hgt1,hss,ht5,dc,cV,cH,bne_self_eq_false,beq_self_eq_true,hd2,hw,htr]
       simp only [List.length_append,yaz,yba,Nat.zero_add] at hc3 ⊢
       refine ⟨by omega,?_⟩
       simp (disch:=first|assumption|omega|(simp;done)|(simp;omega)|(simp only [bt,and_true];first|done|omega|(simp;done))) [↓zmk,beq,ybc,ybd,ybe,ae,wk,wk2,wk1,wkM,wkL,ah,ybf,hc3]
      ·have htr:eY x=.tup [cH 0 0,.bool false]:=by unfold eY;rw [if_neg hx1,if_neg hx2]
       have hp1:p+1≤l.length:=by omega
       cases hs3:isS l (p+1) [58,58] with
       |false =>
        have hr:ce l p t=.ok t.length (p+1) (t++[⟨3,0,0,x,[],0⟩]):=by unfold ce;rw [hge];simp [hx1,hx2,hs3]
        rw [hr]
        have hc3:=hcl2 (p+1) (t++[⟨3,0,0,x,[],0⟩])
        simp only [go_sem,f1,f2,hgi,hgt',hsi,hst,am,ax,aD,bg,aR,bh,aS,aQ,aC,aJ,aK,aA,hne,ne_eq,hne',hl5,Int.toNat_natCast,bc,bd,i1,Int.reduceLE,eq_self,not_false_eq_true,hg,hp,hs0,if_false,hcs,aO,hgd,d0,dN,bY,cb,cS,hp,hgi1,hgt1,hss,ht5,dc,cV,cH,bne_self_eq_false,beq_self_eq_true,hd2,hw,htr,hp1,hs3]
        simp only [List.length_append,yaz,yba,Nat.zero_add] at hc3 ⊢
        refine ⟨by omega,?_⟩
        simp (disch:=first|assumption|omega|(simp;done)|(simp;omega)|(simp only [bt,and_true];first|done|omega|(simp;done))) [↓zmk,beq,ybc,ybd,ybe,ae,wk,wk2,wk1,wkM,wkL,ah,ybf,hc3]
       |true =>
        have hlt3:=bR hs3
        have hp2:p+1+1≤l.length:=by omega
        have hp3:p+2=p+1+1:=rfl
        cases hw2:gO l (p+1+1) with
        |none =>
         have hr:ce l p t=.bad (p+1+1):=by
          unfold ce;rw [hge];simp [hx1,hx2,hs3]
          unfold gO at hw2
          cases hge2:l[p+1+1]? with
          |none=>rfl
          |some v =>
           obtain ⟨k2,y,z2⟩:=v
           rw [hge2] at hw2
           dsimp only at hw2 ⊢
           split at hw2
           ·cases hw2
           ·rename_i hk;rw [if_neg hk]
         rw [hr]
         simp only [go_sem,f1,f2,hgi,hgt',hsi,hst,am,ax,aD,bg,aR,bh,aS,aQ,aC,aJ,aK,aA,hne,ne_eq,hne',hl5,Int.toNat_natCast,bc,bd,i1,Int.reduceLE,eq_self,not_false_eq_true,hg,hp,hs0,if_false,hcs,aO,hgd,d0,dN,bY,cb,cS,hp,hgi1,hgt1,hss,ht5,dc,cV,cH,bne_self_eq_false,beq_self_eq_true,hd2,hw,htr,hp1,hs3,if_true,hp2,hw2]
         refine ⟨by omega,?_⟩
         simp (disch:=first|assumption|omega|(simp;done)|(simp;omega)|(simp only [bt,and_true];first|done|omega|(simp;done))) [↓zmk,beq,ybc,ybd,ybe,ae,wk,wk2,wk1,wkM,wkL,ah,ybf,dl hcl,zms,cU,dd_le1,cq]
         exact (dd_le1.push _).push _
        |some y =>
         have hr:ce l p t=.ok t.length (p+1+1+1) (t++[⟨3,0,0,x,y,0⟩]):=by
          unfold ce;rw [hge];simp [hx1,hx2,hs3]
          unfold gO at hw2
          cases hge2:l[p+1+1]? with
          |none=>rw [hge2] at hw2;cases hw2
          |some v =>
           obtain ⟨k2,y2,z2⟩:=v
           rw [hge2] at hw2
           dsimp only at hw2 ⊢
           split at hw2
           ·rename_i hk;cases hw2;rw [if_pos hk]
           ·cases hw2
         rw [hr]
         have hc3:=hcl2 (p+1+1+1) (t++[⟨3,0,0,x,y,0⟩])
         simp only [go_sem,f1,f2,hgi,hgt',hsi,hst,am,ax,aD,bg,aR,bh,aS,aQ,aC,aJ,aK,aA,hne,ne_eq,hne',hl5,Int.toNat_natCast,bc,bd,i1,Int.reduceLE,eq_self,not_false_eq_true,hg,hp,hs0,if_false,hcs,aO,hgd,d0,dN,bY,cb,cS,hp,hgi1,hgt1,hss,ht5,dc,cV,cH,bne_self_eq_false,beq_self_eq_true,hd2,hw,htr,hp1,hs3,if_true,hp2,hw2]
         simp only [List.length_append,yaz,yba,Nat.zero_add] at hc3 ⊢
         refine ⟨by omega,?_⟩
         simp (disch:=first|assumption|omega|(simp;done)|(simp;omega)|(simp only [bt,and_true];first|done|omega|(simp;done))) [↓zmk,beq,ybc,ybd,ybe,ae,wk,wk2,wk1,wkM,wkL,ah,ybf,hc3]
    ·have hw:gO l p=none:=by unfold gO;rw [hge];dsimp only;rw [if_neg hk2]
     have hr:ce l p t=.bad p:=by unfold ce;rw [hge];simp [hk1,hk2]
     rw [hr]
     simp only [go_sem,f1,f2,hgi,hgt',hsi,hst,am,ax,aD,bg,aR,bh,aS,aQ,aC,aJ,aK,aA,hne,ne_eq,hne',hl5,Int.toNat_natCast,bc,bd,i1,Int.reduceLE,eq_self,not_false_eq_true,hg,hp,hs0,if_false,hcs,aO,hgd,d0,dN,bY,cb,cS,hp,hgi1,hgt1,hss,ht5,dc,cV,cH,bne_self_eq_false,beq_self_eq_true,d1,hw]
     refine ⟨by omega,?_⟩
     simp (disch:=first|assumption|omega|(simp;done)|(simp;omega)|(simp only [bt,and_true];first|done|omega|(simp;done))) [↓zmk,beq,ybc,ybd,ybe,ae,wk,wk2,wk1,wkM,wkL,ah,ybf,dl hcl,zms,cU,dd_le1,cq]
  ·have hpe:p=l.length:=by omega
   subst hpe
   have hge:l[l.length]?=none:=List.getElem?_eq_none (Nat.le_refl _)
   have hw:gO l l.length=none:=by unfold gO;rw [hge]
   have hr:ce l l.length t=.bad l.length:=by unfold ce;rw [hge]
   have d0:decide ((l.length:Int)<(l.length:Int))=false:=by simp
   rw [hr]
   simp only [go_sem,f1,f2,hgi,hgt',hsi,hst,am,ax,aD,bg,aR,bh,aS,aQ,aC,aJ,aK,aA,hne,ne_eq,hne',hl5,Int.toNat_natCast,bc,bd,i1,Int.reduceLE,eq_self,not_false_eq_true,hg,hp,hs0,if_false,hcs,aO,d0,dN,bY,cb,cS,hp,hgi1,hgt1,hss,ht5,dc,cV,cH,bne_self_eq_false,beq_self_eq_true,hw,Nat.le_refl]
   simp (disch:=first|assumption|omega|(simp;done)|(simp;omega)|(simp only [bt,and_true];first|done|omega|(simp;done))) [↓zmk,beq,ybc,ybd,ybe,ae,wk,wk2,wk1,wkM,wkL,ah,ybf,dl hcl,zms,cU,dd_le1,cq]
end Go.AL
