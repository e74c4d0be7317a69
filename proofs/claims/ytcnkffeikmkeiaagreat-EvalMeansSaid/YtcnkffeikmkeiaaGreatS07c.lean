/- Contracts and plain laws, a part of the proof; no condition of its own. -/
import Derived.Test.YtcnkffeikmkeiaaGreatE06
import Derived.Test.YtcnkffeikmkeiaaGreatLSyn
set_option maxHeartbeats 32000000
open List renaming map_cons → yae, length_cons → yaz, length_nil → yba, take_of_length_le → ybc, drop_append → ybd, take_append → ybe, drop_eq_nil_of_le → ybf
open Go Go.AL Go.Proofs
namespace Go.AL
set_option linter.all false
set_option maxRecDepth 10000
theorem Cg:ti Tryz.prog 78=some ⟨.struct [(0,3,false),(1,3,false),(2,3,false),(3,9,false),(4,9,false),(5,67,false)],7,72,.agg [.int .i64 0,.int .i64 0,.int .i64 0,.str [],.str [],.int .u64 0,.int .u64 0]⟩:=by kernel_rfl
theorem zo:ti Tryz.prog 33=some ⟨.slice 78,1,24,.slice .nil 1 []⟩:=by kernel_rfl
theorem yB:ti Tryz.prog 219=some ⟨.struct [(0,79,false),(1,3,false),(2,33,false)],3,56,.agg [.slice .nil 1 [],.int .i64 0,.slice .nil 1 []]⟩:=by kernel_rfl
theorem ut:ti Tryz.prog 258=some ⟨.struct [(0,3,false),(1,9,false)],2,24,.agg [.int .i64 0,.str []]⟩:=by kernel_rfl
theorem sr:ti Tryz.prog 255=some ⟨.slice 258,1,24,.slice .nil 1 []⟩:=by kernel_rfl
theorem Bc:ti Tryz.prog 216=some ⟨.int .i64,1,8,.int .i64 0⟩:=by kernel_rfl
attribute [go_sem] Cg zo yB ut sr Bc
def gp (n:Nd):AV:=.agg [.int .i64 (n.op:Int),.int .i64 (n.a:Int),.int .i64 (n.b:Int),.str n.name,.str n.attr,.int .u64 ((n.v/2^64:Nat):Int),.int .u64 ((n.v % 2^64:Nat):Int)]
def nds (t:List Nd):List AV:=t.map gp
theorem ar {t:List Nd}:(nds t).length=t.length:=by simp [nds]
theorem uj {t:List Nd} {n:Nd}:nds t++[gp n]=nds (t++[n]):=by simp [nds]
theorem f9 {n:Nat} {m:Mark} {t:List Nd}:AV.lt n (.slice m 7 (nds t))=∀ id,m=.own id→id<n:=by
 rw [AV.lt]
 refine propext ⟨fun h=>h.1,fun h=>⟨h,fun j hj=>?_⟩⟩
 simp only [nds,List.getElem_map,gp]
 simp [znn,znq,znr,znb,znd]
theorem l4 {n:Nat} {m:Mark} {l:List Tok}:AV.lt n (.slice m 3 (cb l))=∀ id,m=.own id→id<n:=by
 rw [AV.lt]
 refine propext ⟨fun h=>h.1,fun h=>⟨h,fun j hj=>?_⟩⟩
 simp only [cb,List.getElem_map,sy]
 simp [znn,znq,znr,znb,znd]
theorem oS:∀ {l l':List Tok},cb l=cb l'→l=l'
 |[],[],_=>rfl
 |[],_::_,h=>by cases h
 |_::_,[],h=>by cases h
 |(a,b,c)::l,(a',b',c')::l',h=>by
  simp only [cb,yae,List.cons.injEq,sy,AV.agg.injEq,AV.int.injEq,AV.str.injEq,true_and,and_true] at h
  obtain ⟨⟨h1,h2,h3⟩,h4⟩:=h
  rw [oS h4]
  congr 1
  simp only [Prod.mk.injEq]
  exact ⟨by omega,h2,by omega⟩
theorem sk:∀ {l l':List Nd},nds l=nds l'→l=l'
 |[],[],_=>rfl
 |[],_::_,h=>by cases h
 |_::_,[],h=>by cases h
 |⟨a1,a2,a3,a4,a5,a6⟩::l,⟨b1,b2,b3,b4,b5,b6⟩::l',h=>by
  simp only [nds,yae,List.cons.injEq,gp,AV.agg.injEq,AV.int.injEq,AV.str.injEq,true_and,and_true] at h
  obtain ⟨⟨h1,h2,h3,h4,h5,h6,h7⟩,h8⟩:=h
  rw [sk h8]
  congr 1
  simp only [Nd.mk.injEq]
  exact ⟨by omega,by omega,by omega,h4,h5,by omega⟩
def rz (v:AV) (Kp:AV→AHeap→Prop) (H:AHeap):Prop:=match v with
 |.iface t v=>Kp (.iface t v) H
 |_=>False
@[congr] theorem Cc {v v':AV} {Kp:AV→AHeap→Prop} {H:AHeap} (h:v=v'):rz v Kp H=rz v' Kp H:=by rw [h]
theorem st {t:TypeId} {v:AV} {Kp:AV→AHeap→Prop} {H:AHeap}:rz (.iface t v) Kp H=Kp (.iface t v) H:=rfl
theorem Bx {P:Program} {Ω:Tbl} {ops:Array Oper} {rest:List Oper} {K:Fr→AHeap→Prop} {Kp:Fr→AV→AHeap→Prop} {fr:Fr} {H:AHeap} {d:Option Tmp} {x:Operand} {t:TypeId} {pos:String} {aft:Array Edge} :
 aZ P Ω ops (Oper.mk d (.panic x) t pos aft none::rest) K Kp fr H=rz (ev fr x) (Kp fr) H:=(rfl)
/-- the parser in memory -/
def pst (m:Mark) (l:List Tok) (p tb:Nat) (t:List Nd):AObj:=.cells [.slice m 3 (cb l),.int .i64 (p:Int),.slice (.own tb) 7 (nds t)]
def onP (o:Option AObj) (K:Mark→List Tok→Nat→Nat→List Nd→Prop):Prop:=∃ m l p tb t,o=some (pst m l p tb t)∧K m l p tb t
@[congr] theorem EB {o o':Option AObj} {K:Mark→List Tok→Nat→Nat→List Nd→Prop} (h:o=o'):onP o K=onP o' K:=by rw [h]
theorem aM {m:Mark} {l:List Tok} {p tb:Nat} {t:List Nd} {K:Mark→List Tok→Nat→Nat→List Nd→Prop}:onP (some (pst m l p tb t)) K=K m l p tb t:=by
 refine propext ⟨fun ⟨m',l',p',tb',t',h,hk⟩=>?_,fun h=>⟨m,l,p,tb,t,rfl,h⟩⟩
 simp only [pst,Option.some.injEq,AObj.cells.injEq,List.cons.injEq,AV.slice.injEq,AV.int.injEq,Mark.own.injEq,true_and,and_true] at h
 obtain ⟨⟨rfl,h1⟩,h2,rfl,h3⟩:=h
 have:=oS h1
 have:=sk h3
 have:p=p':=by omega
 subst_vars
 exact hk
theorem qC {m:Mark} {l:List Tok} {p tb:Nat} {t:List Nd} {K:Mark→List Tok→Nat→Nat→List Nd→Prop}:onP (some (.cells [.slice m 3 (cb l),.int .i64 (p:Int),.slice (.own tb) 7 (nds t)])) K=K m l p tb t:=aM
def c8:List AV→AHeap→(AEnd→AHeap→Prop)→Prop
 |[.ptr id 0],H,K=>onP (H.get id) fun m l p tb t=>K (.panic (.iface 216 (.int .i64 (p:Int)))) H
 |_,_,_=>False
theorem iy:EntOk Tryz.prog 100 (Ent.effect c8):=by
 refine EntOk.effect fun args H K h=>?_
 unfold c8 at h
 split at h
 rotate_left
 ·exact h.elim
 rename_i id
 obtain ⟨m,l,p,tb,t,hg,hK⟩:=h
 refine ⟨_,_,hK,?_⟩
 clear hK
 refine ACalls.fW aA TblOk.nil Tryz.func100 [] (Nat.le_refl _) (T:=au []) (h:=fun hcl hlt=>?_)
 clear hlt
 have hcs:=aJ (cs:=[.slice m 3 (cb l),.int .i64 (p:Int),.slice (.own tb) 7 (nds t)]) hg
 simp only [go_sem,hcs,↓Bx,st]
 simp (disch:=first|assumption|omega|(simp;done)|(simp;omega)|(simp only [bt,and_true];first|done|omega|(simp;done))) [↓zmk,beq,ybc,ybd,ybe,ae,wk,wk2,wk1,wkM,wkL,al,ybf,hcl]
def bn:List AV→AHeap→(AEnd→AHeap→Prop)→Prop
 |[.ptr id 0,.agg [.int .i64 op,.int .i64 a,.int .i64 b,.str nm,.str att,.int .u64 hi,.int .u64 lo]],H,K=>onP (H.get id) fun m l p tb t =>
   (0≤op∧0≤a∧0≤b∧gU hi lo∧id≠tb∧H.get tb=some (.buf 7 t.length)∧t.length≤100000) ∧
   K (.ret (.int .i64 (t.length:Int))) ((H.set id (pst m l p tb (t++[⟨op.toNat,a.toNat,b.toNat,nm,att,vOf hi.toNat lo.toNat⟩]))).set tb (.buf 7 (t.length+1)))
 |_,_,_=>False
theorem fH {H:AHeap} {id:Nat} {m:Mark} {l:List Tok} {p tb:Nat} {t:List Nd} (hg:H.get id=some (pst m l p tb t)) (hcl:H.Closed) (p':Nat) (t':List Nd):(H.set id (pst m l p' tb t')).Closed:=by
 have h0:=hcl id _ hg 0 (by simp)
 have h2:=hcl id _ hg 2 (by simp)
 simp only [List.getElem_cons_zero,List.getElem_cons_succ,l4,f9] at h0 h2
 refine ah hcl ?_
 simp only [znq,znr,l4,f9,znb,and_true,true_and]
 exact ⟨h0,h2⟩
theorem iw {H:AHeap} {i j:Nat} (h:i≠j) (o c:AObj):(H.set j o).set i c=(H.set i c).set j o:=by
 simp only [AHeap.set]
 congr 1
 funext k
 by_cases h1:k=i
 ·subst h1;simp [h]
 ·simp [h1]
theorem bG {H:AHeap} {i j:Nat} (h:i≠j) (o:AObj):aD (H.set j o) i=aD H i:=by
 unfold aD;rw [AHeap.get_set_ne _ _ h]
theorem gm:EntOk Tryz.prog 132 (Ent.effect bn):=by
 refine EntOk.effect fun args H K h=>?_
 unfold bn at h
 split at h
 rotate_left
 ·exact h.elim
 rename_i id op a b nm att hi lo
 obtain ⟨m,l,p,tb,t,hg,⟨h1,h2,h3,⟨h4,h5,h6,h7⟩,hne,htb,htl⟩,hK⟩:=h
 refine ⟨_,_,hK,?_⟩
 clear hK
 obtain ⟨op,rfl⟩:=bJ h1
 obtain ⟨a,rfl⟩:=bJ h2
 obtain ⟨b,rfl⟩:=bJ h3
 obtain ⟨hi,rfl⟩:=bJ h4
 obtain ⟨lo,rfl⟩:=bJ h6
 simp only [Int.toNat_natCast]
 refine ACalls.fW aA TblOk.nil Tryz.func132 [.tmp 4] (Nat.le_refl _) (T:=au [(1,[[],[],[],[],[],[],[5],[4,5],[],[],[4,5]])]) (h:=fun hcl hlt=>?_)
 clear hlt
 have hid:=AHeap.get_lt hg
 have htbl:=AHeap.get_lt htb
 have hcs:=aJ (cs:=[.slice m 3 (cb l),.int .i64 (p:Int),.slice (.own tb) 7 (nds t)]) hg
 have f1:=bz hid
 have f2:=bz htbl
 have g1:(id=tb)=False:=eq_false hne
 have g2:(tb=id)=False:=eq_false fun e=>hne e.symm
 have e1:nds t++[AV.agg [.int .i64 (op:Int),.int .i64 (a:Int),.int .i64 (b:Int),.str nm,.str att,.int .u64 (hi:Int),.int .u64 (lo:Int)]]=nds (t++[⟨op,a,b,nm,att,vOf hi lo⟩]):=by
  rw [← uj];unfold gp;simp only;rw [pj (by omega),uZ (by omega)]
 have e2:IntKind.i64.wrap (((t.length+1:Nat):Int) - 1)=(t.length:Int):=by rw [wrap_i64]<;>omega
 have hcl1:=fH hg hcl p (t++[⟨op,a,b,nm,att,vOf hi lo⟩])
 have hcl2:((H.set id (pst m l p tb (t++[⟨op,a,b,nm,att,vOf hi lo⟩]))).set tb (.buf 7 (t.length+1))).Closed:=aa hcl1
 have s1:=iw (H:=H) hne
 have s2:=fun o=>(bG (H:=H) hne o).trans hcs
 have s3:∀ o cs,aD ((H.set id (.cells cs)).set tb o) id=some cs:=fun o cs=>by rw [bG hne,cM hid,if_pos rfl]
 simp only [go_sem,hcs,ar,f1,f2,g1,g2,htb,bc,if_pos htbl,e1,s1,s2,s3,e2,List.length_append]
 refine ⟨⟨by omega,by omega,by simp [bb,AV.cells,AV.one]⟩,?_⟩
 simp only [pst] at hcl2 ⊢
 simp (disch:=first|assumption|omega|(simp;done)|(simp;omega)|(simp only [bt,and_true];first|done|omega|(simp;done))) [↓zmk,beq,ybc,ybd,ybe,ae,wk,wk2,wk1,wkM,wkL,al,ybf,hcl2,htbl,f9]
 trace_state
theorem vh {l:List Tok} {p k z:Nat} {x s:List UInt8} (hp:p<l.length) (h:l[p]=(k,x,z)):isS l p s=(k==3&&x==s):=by
 unfold isS;rw [List.getElem?_eq_getElem hp,h]
theorem sj {l:List Tok} {p:Nat} {s:List UInt8} (hp:l.length≤p):isS l p s=false:=by
 unfold isS;rw [List.getElem?_eq_none hp]
theorem ja {l:List Tok} {p k z:Nat} {x:List UInt8} (hp:p<l.length) (h:l[p]=(k,x,z)):(cb l).getD p .junk=.agg [.int .i64 (k:Int),.str x,.int .i64 (z:Int)]:=by
 rw [Ay hp,h];rfl
def bh:List AV→AHeap→(AEnd→AHeap→Prop)→Prop
 |[.ptr id 0,.str s],H,K=>onP (H.get id) fun m l p tb t=>(p≤l.length∧l.length≤100000) ∧
   if isS l p s=true then K (.ret (.bool true)) (H.set id (pst m l (p+1) tb t)) else K (.ret (.bool false)) H
 |_,_,_=>False
theorem ii:EntOk Tryz.prog 131 (Ent.effect bh):=by
 refine EntOk.effect fun args H K h=>?_
 unfold bh at h
 split at h
 rotate_left
 ·exact h.elim
 rename_i id s
 obtain ⟨m,l,p,tb,t,hg,⟨hp,hl⟩,hK⟩:=h
 have hid:=AHeap.get_lt hg
 have hcs:=aJ (cs:=[.slice m 3 (cb l),.int .i64 (p:Int),.slice (.own tb) 7 (nds t)]) hg
 have e1:IntKind.i64.wrap ((p:Int)+1)=((p+1:Nat):Int):=by rw [wrap_i64]<;>omega
 by_cases hlt0:p<l.length
 ·rcases htk:l[p] with ⟨k,x,z⟩
  have hgd:=ja hlt0 htk
  rw [vh hlt0 htk] at hK
  have d1:((p:Int)==(l.length:Int))=false:=by simp;omega
  by_cases hk:k=3
  ·subst hk
   by_cases hx:x=s
   ·subst hx
    simp only [beq_self_eq_true,Bool.and_self,if_true] at hK
    refine ⟨_,_,hK,?_⟩
    clear hK
    refine ACalls.fW aA TblOk.nil Tryz.func131 [.tmp 4] (Nat.le_refl _) (T:=au []) (h:=fun hcl hlt=>?_)
    clear hlt
    have hcl1:=fH hg hcl (p+1) t
    simp only [go_sem,hcs,aE,hgd,d1,Int.toNat_natCast,e1,beq_self_eq_true,bne_self_eq_false]
    refine ⟨by omega,wQ rfl ⟨by omega,?_⟩⟩
    change ae (H.set id (pst m l (p+1) tb t)) _ _ _
    simp (disch:=first|assumption|omega|(simp;done)|(simp;omega)|(simp only [bt,and_true];first|done|omega|(simp;done))) [↓zmk,beq,ybc,ybd,ybe,ae,wk,wk2,wk1,wkM,wkL,al,ybf,hcl1]
   ·have d3:(x==s)=false:=by simpa using hx
    rw [d3,Bool.and_false,if_neg (by simp)] at hK
    refine ⟨_,_,hK,?_⟩
    clear hK
    refine ACalls.fW aA TblOk.nil Tryz.func131 [.tmp 4] (Nat.le_refl _) (T:=au []) (h:=fun hcl hlt=>?_)
    clear hlt
    simp only [go_sem,hcs,aE,hgd,d1,d3,Int.toNat_natCast,e1,beq_self_eq_true,bne_self_eq_false]
    refine ⟨by omega,wQ rfl ⟨by omega,?_⟩⟩
    simp (disch:=first|assumption|omega|(simp;done)|(simp;omega)|(simp only [bt,and_true];first|done|omega|(simp;done))) [↓zmk,beq,ybc,ybd,ybe,ae,wk,wk2,wk1,wkM,wkL,al,ybf,hcl]
  ·have d3:(k==3)=false:=by simpa using hk
   rw [d3,Bool.false_and,if_neg (by simp)] at hK
   refine ⟨_,_,hK,?_⟩
   clear hK
   refine ACalls.fW aA TblOk.nil Tryz.func131 [.tmp 4] (Nat.le_refl _) (T:=au []) (h:=fun hcl hlt=>?_)
   clear hlt
   have d4:((k:Int) != 3)=true:=by simp;omega
   simp only [go_sem,hcs,aE,hgd,d1,d4,Int.toNat_natCast,e1,beq_self_eq_true,bne_self_eq_false]
   refine ⟨by omega,?_⟩
   simp (disch:=first|assumption|omega|(simp;done)|(simp;omega)|(simp only [bt,and_true];first|done|omega|(simp;done))) [↓zmk,beq,ybc,ybd,ybe,ae,wk,wk2,wk1,wkM,wkL,al,ybf,hcl]
 ·have hpe:p=l.length:=by omega
  subst hpe
  rw [sj (Nat.le_refl _),if_neg (by simp)] at hK
  refine ⟨_,_,hK,?_⟩
  clear hK
  refine ACalls.fW aA TblOk.nil Tryz.func131 [.tmp 4] (Nat.le_refl _) (T:=au []) (h:=fun hcl hlt=>?_)
  clear hlt
  simp only [go_sem,hcs,aE,beq_self_eq_true]
  simp (disch:=first|assumption|omega|(simp;done)|(simp;omega)|(simp only [bt,and_true];first|done|omega|(simp;done))) [↓zmk,beq,ybc,ybd,ybe,ae,wk,wk2,wk1,wkM,wkL,al,ybf,hcl]
def gf (l:List Tok) (p:Nat):Option (List UInt8):=match l[p]? with
 |none=>none
 |some (k,x,_)=>if k=2 then some x else none
def onW (o:Option (List UInt8)) (K1:List UInt8→Prop) (K2:Prop):Prop:=match o with
 |some x=>K1 x
 |none=>K2
@[congr] theorem EC {o o':Option (List UInt8)} {K1:List UInt8→Prop} {K2:Prop} (h:o=o'):onW o K1 K2=onW o' K1 K2:=by rw [h]
theorem dO {x:List UInt8} {K1:List UInt8→Prop} {K2:Prop}:onW (some x) K1 K2=K1 x:=rfl
theorem dc {K1:List UInt8→Prop} {K2:Prop}:onW none K1 K2=K2:=rfl
def fO:List AV→AHeap→(AEnd→AHeap→Prop)→Prop
 |[.ptr id 0,.int .i64 kd],H,K=>onP (H.get id) fun m l p tb t=>(kd=2∧p≤l.length∧l.length≤100000) ∧
   onW (gf l p) (fun x=>K (.ret (.str x)) (H.set id (pst m l (p+1) tb t))) (K (.panic (.iface 216 (.int .i64 (p:Int)))) H)
 |_,_,_=>False
theorem BL:EntOk Tryz.prog 164 (Ent.effect fO):=by
 refine EntOk.effect fun args H K h=>?_
 unfold fO at h
 split at h
 rotate_left
 ·exact h.elim
 rename_i id kd
 obtain ⟨m,l,p,tb,t,hg,⟨rfl,hp,hl⟩,hK⟩:=h
 have hid:=AHeap.get_lt hg
 have hcs:=aJ (cs:=[.slice m 3 (cb l),.int .i64 (p:Int),.slice (.own tb) 7 (nds t)]) hg
 have e1:IntKind.i64.wrap ((p:Int)+1)=((p+1:Nat):Int):=by rw [wrap_i64]<;>omega
 have e2:IntKind.i64.wrap (((p+1:Nat):Int) - 1)=(p:Int):=by rw [wrap_i64]<;>omega
 unfold gf at hK
 by_cases hlt0:p<l.length
 ·rcases htk:l[p] with ⟨k,x,z⟩
  have hgd:=ja hlt0 htk
  rw [List.getElem?_eq_getElem hlt0,htk] at hK
  dsimp only at hK
  have d1:((p:Int)==(l.length:Int))=false:=by simp;omega
  by_cases hk:k=2
  ·subst hk
   rw [if_pos rfl,dO] at hK
   refine ⟨_,_,hK,?_⟩
   clear hK
   refine ACalls.fW aA (TblOk.cons iy TblOk.nil) Tryz.func164 [.tmp 4] (by simp [zlb]) (T:=au []) (h:=fun hcl hlt=>?_)
   clear hlt
   have hcl1:=fH hg hcl (p+1) t
   simp only [go_sem,hcs,aE,hgd,d1,Int.toNat_natCast,e1,e2,cM hid,beq_self_eq_true,bne_self_eq_false]
   refine ⟨by omega,sI rfl ?_⟩
   simp only [go_sem,hcs,aE,hgd,d1,Int.toNat_natCast,e1,e2,cM hid,beq_self_eq_true,bne_self_eq_false]
   refine ⟨by omega,?_⟩
   change ae (H.set id (pst m l (p+1) tb t)) _ _ _
   simp (disch:=first|assumption|omega|(simp;done)|(simp;omega)|(simp only [bt,and_true];first|done|omega|(simp;done))) [↓zmk,beq,ybc,ybd,ybe,ae,wk,wk2,wk1,wkM,wkL,al,ybf,hcl1]
  ·have d3:(k==2)=false:=by simpa using hk
   rw [if_neg hk,dc] at hK
   refine ⟨_,_,hK,?_⟩
   clear hK
   refine ACalls.fW aA (TblOk.cons iy TblOk.nil) Tryz.func164 [.tmp 4] (Nat.le_refl _) (T:=au []) (h:=fun hcl hlt=>?_)
   clear hlt
   have d4:((k:Int) != 2)=true:=by simp;omega
   simp only [go_sem,hcs,aE,hgd,d1,d4,Int.toNat_natCast,e1,c8,hg,aM]
   refine ⟨by omega,?_⟩
   simp (disch:=first|assumption|omega|(simp;done)|(simp;omega)|(simp only [bt,and_true];first|done|omega|(simp;done))) [↓zmk,beq,ybc,ybd,ybe,ae,wk,wk2,wk1,wkM,wkL,al,ybf,hcl]
 ·have hpe:p=l.length:=by omega
  subst hpe
  rw [List.getElem?_eq_none (Nat.le_refl _)] at hK
  dsimp only at hK
  rw [dc] at hK
  refine ⟨_,_,hK,?_⟩
  clear hK
  refine ACalls.fW aA (TblOk.cons iy TblOk.nil) Tryz.func164 [.tmp 4] (Nat.le_refl _) (T:=au []) (h:=fun hcl hlt=>?_)
  clear hlt
  simp only [go_sem,hcs,aE,beq_self_eq_true,c8,hg,aM]
  simp (disch:=first|assumption|omega|(simp;done)|(simp;omega)|(simp only [bt,and_true];first|done|omega|(simp;done))) [↓zmk,beq,ybc,ybd,ybe,ae,wk,wk2,wk1,wkM,wkL,al,ybf,hcl]
def fC (l:List (Nat × List UInt8)):List AV:=l.map fun o=>.agg [.int .i64 (o.1:Int),.str o.2]
theorem fj {l:List (Nat × List UInt8)}:(fC l).length=l.length:=by simp [fC]
theorem qU:∀ {l l':List (Nat × List UInt8)},fC l=fC l'→l=l'
 |[],[],_=>rfl
 |[],_::_,h=>by cases h
 |_::_,[],h=>by cases h
 |(a,b)::l,(a',b')::l',h=>by
  simp only [fC,yae,List.cons.injEq,AV.agg.injEq,AV.int.injEq,AV.str.injEq,true_and,and_true] at h
  obtain ⟨⟨h1,h2⟩,h4⟩:=h
  rw [qU h4]
  congr 1
  simp only [Prod.mk.injEq]
  exact ⟨by omega,h2⟩
theorem cP {n:Nat} {l:List (Nat × List UInt8)}:AV.lt n (.slice .any 2 (fC l)):=fl fun x hx=>by
 simp only [fC,List.mem_map] at hx
 obtain ⟨o,_,rfl⟩:=hx
 simp [znn,znq,znr,znb,znd]
theorem BU:[AV.agg [.int .i64 8,.str [61,61]],.agg [.int .i64 9,.str [33,61]],.agg [.int .i64 10,.str [60]],.agg [.int .i64 11,.str [60,61]],.agg [.int .i64 12,.str [62]],.agg [.int .i64 13,.str [62,61]]]=fC opsC:=rfl
theorem BQ:[AV.agg [.int .i64 6,.str [43]],.agg [.int .i64 7,.str [45]]]=fC opsS:=rfl
def dj:List AV→AHeap→(AV→Prop)→Prop
 |[],_,K=>K (.slice .any 2 (fC opsC))
 |_,_,_=>False
theorem rC:EntOk Tryz.prog 155 (Ent.pure dj):=by
 refine EntOk.pure fun args H K h=>?_
 unfold dj at h
 split at h
 rotate_left
 ·exact h.elim
 refine ⟨_,h,?_⟩
 clear h
 refine ACalls.fW aA TblOk.nil Tryz.func155 [.tmp 0] (Nat.le_refl _) (T:=au []) (h:=fun hcl hlt=>?_)
 clear hlt
 simp only [go_sem,BU]
 simp (disch:=first|assumption|omega|(simp;done)|(simp;omega)|(simp only [bt,and_true];first|done|omega|(simp;done))) [↓zmk,beq,ybc,ybd,ybe,ae,wk,wk2,wk1,wkM,wkL,al,ybf,hcl,cP]
def ig:List AV→AHeap→(AV→Prop)→Prop
 |[],_,K=>K (.slice .any 2 (fC opsS))
 |_,_,_=>False
theorem zP:EntOk Tryz.prog 158 (Ent.pure ig):=by
 refine EntOk.pure fun args H K h=>?_
 unfold ig at h
 split at h
 rotate_left
 ·exact h.elim
 refine ⟨_,h,?_⟩
 clear h
 refine ACalls.fW aA TblOk.nil Tryz.func158 [.tmp 0] (Nat.le_refl _) (T:=au []) (h:=fun hcl hlt=>?_)
 clear hlt
 simp only [go_sem,BQ]
 simp (disch:=first|assumption|omega|(simp;done)|(simp;omega)|(simp only [bt,and_true];first|done|omega|(simp;done))) [↓zmk,beq,ybc,ybd,ybe,ae,wk,wk2,wk1,wkM,wkL,al,ybf,hcl,cP]
def Dm (x:List AV) (K:List (Nat × List UInt8)→Prop):Prop:=∃ l,x=fC l∧K l
theorem fE {l:List (Nat × List UInt8)} {K:List (Nat × List UInt8)→Prop}:Dm (fC l) K=K l :=
 propext ⟨fun ⟨l',h,hk⟩=>by rw [qU h];exact hk,fun h=>⟨l,rfl,h⟩⟩
def onN (o:Option Nat) (K1:Nat→Prop) (K2:Prop):Prop:=match o with
 |some x=>K1 x
 |none=>K2
@[congr] theorem Eu {o o':Option Nat} {K1:Nat→Prop} {K2:Prop} (h:o=o'):onN o K1 K2=onN o' K1 K2:=by rw [h]
theorem jB {x:Nat} {K1:Nat→Prop} {K2:Prop}:onN (some x) K1 K2=K1 x:=rfl
theorem lX {K1:Nat→Prop} {K2:Prop}:onN none K1 K2=K2:=rfl
def h9:List AV→AHeap→(AEnd→AHeap→Prop)→Prop
 |[.ptr id 0,.slice _ 2 x],H,K=>onP (H.get id) fun m l p tb t=>Dm x fun ops=>(p≤l.length∧l.length≤100000∧ops.length≤100) ∧
   onN (eC l p ops) (fun k=>K (.ret (.int .i64 (k:Int))) (H.set id (pst m l (p+1) tb t))) (K (.ret (.int .i64 0)) H)
 |_,_,_=>False
theorem qZ {l:List (Nat × List UInt8)} {k:Nat} (h:k<l.length):(fC l).getD k .junk=.agg [.int .i64 (l[k].1:Int),.str l[k].2]:=by simp [fC,List.getD_eq_getElem?_getD,h]
theorem tH:EntOk Tryz.prog 154 (Ent.effect h9):=by
 refine EntOk.effect fun args H K h=>?_
 unfold h9 at h
 split at h
 rotate_left
 ·exact h.elim
 rename_i id mo x
 obtain ⟨m,l,p,tb,t,hg,ops,rfl,⟨hp,hl,ho⟩,hK⟩:=h
 have hid:=AHeap.get_lt hg
 have f1:=bz hid
 cases hop:eC l p ops with
 |some k =>
  rw [hop,jB] at hK
  refine ⟨_,_,hK,?_⟩
  clear hK
  refine ACalls.fW aA (TblOk.cons ii TblOk.nil) Tryz.func154 [.tmp 4] (by simp [zlb]) (T:=au []) (h:=fun hcl hlt=>?_)
  have hltm:∀ n',H.nx≤n'→AV.lt n' (.slice .any 2 (fC ops)):=fun n' _=>cP
  clear hlt
  have hcl1:=fH hg hcl (p+1) t
  simp only [go_sem,fj]
  refine av (A:=Nat) (fun i=>[(9,.int .i64 (i:Int)),(8,.int .i64 (ops.length:Int)),(7,.slice .any 2 (fC ops)),(0,.ptr id 0)]) (fun _=>H) (fun i=>i≤ops.length∧eC l p (ops.drop i)=some k) (fun i=>ops.length - i) 0 ⟨by omega,hop⟩ ?_ fun i hi=>?_
  ·(simp only [bkq,enterW,aS,ltF,ne_eq,Nat.reduceEqDiff,reduceCtorEq,cP,hid];try simp (disch:=first|assumption|omega|(simp;done)|(simp;omega)|(simp only [bt,and_true];first|done|omega|(simp;done))) [↓zmk,beq,ybc,ybd,ybe,ae,wk,wk2,wk1,wkM,wkL,al,ybf,byq,biq,af,hcl,cP,hid];try (repeat' (first|assumption|omega|exact True.intro|refine And.intro ?_ ?_|refine ag ?_|refine aa ?_|refine ac ?_ ?_|refine ah ?_ ?_|refine ai ?_|exact AHeap.Le.refl _|refine AHeap.Le.push ?_ _|refine AHeap.Le.del ?_ ?_|(simp only [bt,and_true,true_and,cP,hid];first|done|omega|(simp;done)))))
  obtain ⟨hi,hop'⟩:=hi
  simp only [go_sem]
  refine aj (fun h1=>?_) (fun h1=>?_)
  ·have hi1:i<ops.length:=by simp at h1;omega
   have e5:IntKind.i64.wrap ((i:Int)+1)=((i+1:Nat):Int):=by rw [wrap_i64]<;>omega
   have hgo:=qZ hi1
   rw [List.drop_eq_getElem_cons hi1] at hop'
   rcases hok:ops[i] with ⟨ko,so⟩
   rw [hok] at hop' hgo
   unfold eC at hop'
   by_cases hs:isS l p so=true
   ·rw [if_pos hs] at hop'
    cases hop'
    simp only [go_sem,Int.toNat_natCast,fj,hgo,bh,f1,hg,aM,hs,if_true,hp,hl]
    refine ⟨by omega,?_⟩
    simp (disch:=first|assumption|omega|(simp;done)|(simp;omega)|(simp only [bt,and_true];first|done|omega|(simp;done))) [↓zmk,beq,ybc,ybd,ybe,ae,wk,wk2,wk1,wkM,wkL,al,ybf,hcl1]
   ·rw [if_neg hs] at hop'
    have hs':isS l p so=false:=by simpa using hs
    simp only [go_sem,Int.toNat_natCast,fj,hgo,bh,f1,hg,aM,hs',if_false,hp,hl,e5]
    refine ⟨by omega,i+1,⟨by omega,hop'⟩,by omega,?_⟩
    (simp only [bkq,enterW,aS,ltF,ne_eq,Nat.reduceEqDiff,reduceCtorEq,cP,hid];try simp (disch:=first|assumption|omega|(simp;done)|(simp;omega)|(simp only [bt,and_true];first|done|omega|(simp;done))) [↓zmk,beq,ybc,ybd,ybe,ae,wk,wk2,wk1,wkM,wkL,al,ybf,byq,biq,af,hcl,cP,hid];try (repeat' (first|assumption|omega|exact True.intro|refine And.intro ?_ ?_|refine ag ?_|refine aa ?_|refine ac ?_ ?_|refine ah ?_ ?_|refine ai ?_|exact AHeap.Le.refl _|refine AHeap.Le.push ?_ _|refine AHeap.Le.del ?_ ?_|(simp only [bt,and_true,true_and,cP,hid];first|done|omega|(simp;done)))))
  ·exfalso
   have hi1:ops.length≤i:=by simp at h1;omega
   rw [ybf hi1] at hop'
   cases hop'
 |none =>
  rw [hop,lX] at hK
  refine ⟨_,_,hK,?_⟩
  clear hK
  refine ACalls.fW aA (TblOk.cons ii TblOk.nil) Tryz.func154 [.tmp 4] (Nat.le_refl _) (T:=au []) (h:=fun hcl hlt=>?_)
  clear hlt
  simp only [go_sem,fj]
  refine av (A:=Nat) (fun i=>[(9,.int .i64 (i:Int)),(8,.int .i64 (ops.length:Int)),(7,.slice .any 2 (fC ops)),(0,.ptr id 0)]) (fun _=>H) (fun i=>i≤ops.length∧eC l p (ops.drop i)=none) (fun i=>ops.length - i) 0 ⟨by omega,hop⟩ ?_ fun i hi=>?_
  ·(simp only [bkq,enterW,aS,ltF,ne_eq,Nat.reduceEqDiff,reduceCtorEq,cP,hid];try simp (disch:=first|assumption|omega|(simp;done)|(simp;omega)|(simp only [bt,and_true];first|done|omega|(simp;done))) [↓zmk,beq,ybc,ybd,ybe,ae,wk,wk2,wk1,wkM,wkL,al,ybf,byq,biq,af,hcl,cP,hid];try (repeat' (first|assumption|omega|exact True.intro|refine And.intro ?_ ?_|refine ag ?_|refine aa ?_|refine ac ?_ ?_|refine ah ?_ ?_|refine ai ?_|exact AHeap.Le.refl _|refine AHeap.Le.push ?_ _|refine AHeap.Le.del ?_ ?_|(simp only [bt,and_true,true_and,cP,hid];first|done|omega|(simp;done)))))
  obtain ⟨hi,hop'⟩:=hi
  simp only [go_sem]
  refine aj (fun h1=>?_) (fun h1=>?_)
  ·have hi1:i<ops.length:=by simp at h1;omega
   have e5:IntKind.i64.wrap ((i:Int)+1)=((i+1:Nat):Int):=by rw [wrap_i64]<;>omega
   have hgo:=qZ hi1
   rw [List.drop_eq_getElem_cons hi1] at hop'
   rcases hok:ops[i] with ⟨ko,so⟩
   rw [hok] at hop' hgo
   unfold eC at hop'
   by_cases hs:isS l p so=true
   ·rw [if_pos hs] at hop';cases hop'
   ·rw [if_neg hs] at hop'
    have hs':isS l p so=false:=by simpa using hs
    simp only [go_sem,Int.toNat_natCast,fj,hgo,bh,f1,hg,aM,hs',if_false,hp,hl,e5]
    refine ⟨by omega,i+1,⟨by omega,hop'⟩,by omega,?_⟩
    (simp only [bkq,enterW,aS,ltF,ne_eq,Nat.reduceEqDiff,reduceCtorEq,cP,hid];try simp (disch:=first|assumption|omega|(simp;done)|(simp;omega)|(simp only [bt,and_true];first|done|omega|(simp;done))) [↓zmk,beq,ybc,ybd,ybe,ae,wk,wk2,wk1,wkM,wkL,al,ybf,byq,biq,af,hcl,cP,hid];try (repeat' (first|assumption|omega|exact True.intro|refine And.intro ?_ ?_|refine ag ?_|refine aa ?_|refine ac ?_ ?_|refine ah ?_ ?_|refine ai ?_|exact AHeap.Le.refl _|refine AHeap.Le.push ?_ _|refine AHeap.Le.del ?_ ?_|(simp only [bt,and_true,true_and,cP,hid];first|done|omega|(simp;done)))))
  ·simp only [go_sem]
   simp (disch:=first|assumption|omega|(simp;done)|(simp;omega)|(simp only [bt,and_true];first|done|omega|(simp;done))) [↓zmk,beq,ybc,ybd,ybe,ae,wk,wk2,wk1,wkM,wkL,al,ybf,hcl]
end Go.AL
open Go Go.AL Go.Proofs
namespace Go.AL
set_option linter.all false
set_option maxRecDepth 10000
def ek (op v:Int):AV:=.agg [.int .i64 op,.int .i64 0,.int .i64 0,.str [],.str [],.int .u64 0,.int .u64 v]
def g9 (s:List UInt8):AV:=if s=nw then .tup [ek 2 1,.bool true] else if s=jv then .tup [ek 2 0,.bool true] else .tup [ek 0 0,.bool false]
def ne:List AV→AHeap→(AV→Prop)→Prop
 |[.int .u64 n],_,K=>K (.agg [.int .u64 0,.int .u64 n])
 |_,_,_=>False
theorem mK:EntOk Tryz.prog 20 (Ent.pure ne):=by
 refine EntOk.pure fun args H K h=>?_
 unfold ne at h
 split at h
 rotate_left
 ·exact h.elim
 rename_i n
 refine ⟨_,h,?_⟩
 clear h
 refine ACalls.fW aA TblOk.nil Tryz.func20 [.cell 2 67] (Nat.le_refl _) (T:=au []) (h:=fun hcl hlt=>?_)
 clear hlt
 simp only [go_sem]
 simp (disch:=first|assumption|omega|(simp;done)|(simp;omega)|(simp only [bt,and_true];first|done|omega|(simp;done))) [↓zmk,beq,ybc,ybd,ybe,ae,wk,wk2,wk1,wkM,wkL,al,ybf,hcl]
def eE:List AV→AHeap→(AV→Prop)→Prop
 |[.str s],_,K=>K (g9 s)
 |_,_,_=>False
theorem xV:EntOk Tryz.prog 165 (Ent.pure eE):=by
 refine EntOk.pure fun args H K h=>?_
 unfold eE at h
 split at h
 rotate_left
 ·exact h.elim
 rename_i s
 refine ⟨_,h,?_⟩
 clear h
 unfold g9
 by_cases h1:s=nw
 ·rw [if_pos h1]
  subst h1
  refine ACalls.fW aA (TblOk.cons mK TblOk.nil) Tryz.func165 [.cell 2 78,.tmp 3] (Nat.le_refl _) (T:=au []) (h:=fun hcl hlt=>?_)
  clear hlt
  have d1:(nw==[116,114,117,101])=true:=by decide
  simp only [go_sem,ne,d1,zkz]
  simp (disch:=first|assumption|omega|(simp;done)|(simp;omega)|(simp only [bt,and_true];first|done|omega|(simp;done))) [↓zmk,beq,ybc,ybd,ybe,ae,wk,wk2,wk1,wkM,wkL,al,ybf,hcl,ek]
 ·rw [if_neg h1]
  have d1:(s==[116,114,117,101])=false:=by simpa [nw] using h1
  by_cases h2:s=jv
  ·rw [if_pos h2]
   subst h2
   refine ACalls.fW aA (TblOk.cons mK TblOk.nil) Tryz.func165 [.cell 2 78,.tmp 3] (Nat.le_refl _) (T:=au []) (h:=fun hcl hlt=>?_)
   clear hlt
   have d2:(jv==[102,97,108,115,101])=true:=by decide
   simp only [go_sem,ne,d1,d2,zkz]
   simp (disch:=first|assumption|omega|(simp;done)|(simp;omega)|(simp only [bt,and_true];first|done|omega|(simp;done))) [↓zmk,beq,ybc,ybd,ybe,ae,wk,wk2,wk1,wkM,wkL,al,ybf,hcl,ek]
  ·rw [if_neg h2]
   have d2:(s==[102,97,108,115,101])=false:=by simpa [jv] using h2
   refine ACalls.fW aA (TblOk.cons mK TblOk.nil) Tryz.func165 [.cell 2 78,.tmp 3] (Nat.le_refl _) (T:=au []) (h:=fun hcl hlt=>?_)
   clear hlt
   simp only [go_sem,ne,d1,d2,zkz]
   simp (disch:=first|assumption|omega|(simp;done)|(simp;omega)|(simp only [bt,and_true];first|done|omega|(simp;done))) [↓zmk,beq,ybc,ybd,ybe,ae,wk,wk2,wk1,wkM,wkL,al,ybf,hcl,ek]
def kM (l:List Tok):Prop:=∀ x∈l,x.2.1.length≤1000∧(x.1=1→(lit x.2.1).isSome=true)
def dB (H:AHeap) (id tb:Nat) (l:List Tok) (p:Nat) (t:List Nd):Prop:=id≠tb∧H.get tb=some (.buf 7 t.length)∧t.length≤p∧p≤l.length∧l.length≤1000∧kM l∧Good t
theorem dt {H:AHeap} {id tb p p':Nat} {m:Mark} {l:List Tok} {t t':List Nd} (h:dB H id tb l p t) (hp:p'≤l.length) (ht:t'.length≤p') (hg:Good t'):dB ((H.set id (pst m l p' tb t')).set tb (.buf 7 t'.length)) id tb l p' t':=by
 obtain ⟨h1,h2,h3,h4,h5,h6,h7⟩:=h
 have htb:=AHeap.get_lt h2
 refine ⟨h1,?_,ht,hp,h5,h6,hg⟩
 rw [bc,if_pos rfl,if_pos (by simpa [zlb] using htb)]
theorem gA {H:AHeap} {id tb p p':Nat} {o:AObj} {l:List Tok} {t:List Nd} (h:dB H id tb l p t) (hp:p'≤l.length) (ht:t.length≤p'):dB (H.set id o) id tb l p' t:=by
 obtain ⟨h1,h2,h3,h4,h5,h6,h7⟩:=h
 refine ⟨h1,?_,ht,hp,h5,h6,h7⟩
 rw [AHeap.get_set_ne _ _ (fun e=>h1 e.symm)];exact h2
def lk (l:List Tok) (p:Nat):Nat:=match l[p]? with
 |none=>0
 |some (k,_,_)=>k
def qn (l:List Tok) (p:Nat):Nat:=match l[p]? with
 |none=>0
 |some (_,x,_)=>(lit x).getD 0
def cY:List AV→AHeap→(AEnd→AHeap→Prop)→Prop
 |[.ptr id 0],H,K=>onP (H.get id) fun m l p tb t=>(dB H id tb l p t∧lk l p=1) ∧
   K (.ret (.int .i64 (t.length:Int))) ((H.set id (pst m l (p+1) tb (t++[⟨1,0,0,[],[],qn l p⟩]))).set tb (.buf 7 (t.length+1)))
 |_,_,_=>False
theorem uF:EntOk Tryz.prog 163 (Ent.effect cY):=by
 refine EntOk.effect fun args H K h=>?_
 unfold cY at h
 split at h
 rotate_left
 ·exact h.elim
 rename_i id
 obtain ⟨m,l,p,tb,t,hg,⟨⟨hne,htb,ht,hp,hl,hgl,hgt⟩,hk⟩,hK⟩:=h
 have hid:=AHeap.get_lt hg
 have htbl:=AHeap.get_lt htb
 have hcs:=aJ (cs:=[.slice m 3 (cb l),.int .i64 (p:Int),.slice (.own tb) 7 (nds t)]) hg
 have f1:=bz hid
 have f2:=bz htbl
 have g1:(id=tb)=False:=eq_false hne
 have g2:(tb=id)=False:=eq_false fun e=>hne e.symm
 have e1:IntKind.i64.wrap ((p:Int)+1)=((p+1:Nat):Int):=by rw [wrap_i64]<;>omega
 have hlt0:p<l.length:=by
  rcases Nat.lt_or_ge p l.length with h1|h1
  ·exact h1
  ·unfold lk at hk;rw [List.getElem?_eq_none h1] at hk;cases hk
 rcases htk:l[p] with ⟨k,x,z⟩
 have hgd:=ja hlt0 htk
 have hk1:k=1:=by unfold lk at hk;rw [List.getElem?_eq_getElem hlt0,htk] at hk;exact hk
 subst hk1
 have hla:qn l p=(lit x).getD 0:=by unfold qn;rw [List.getElem?_eq_getElem hlt0,htk]
 rw [hla] at hK
 obtain ⟨hxl,hxs⟩:=hgl l[p] (List.getElem_mem hlt0)
 rw [htk] at hxl hxs
 dsimp only at hxl hxs
 obtain ⟨n,hn⟩:=Option.isSome_iff_exists.1 (hxs rfl)
 have hn128:=rI hn
 rw [hn] at hK
 dsimp only [Option.getD_some] at hK
 refine ⟨_,_,hK,?_⟩
 clear hK
 refine ACalls.fW aA (TblOk.cons nl (TblOk.cons iy (TblOk.cons qh (TblOk.cons gm TblOk.nil)))) Tryz.func163 [.tmp 2] (Nat.le_refl _) (T:=au [(1,[[],[],[],[],[],[],[],[],[],[],[],[3,7,10],[],[],[],[],[3,7,10,11]])]) (h:=fun hcl hlt=>?_)
 clear hlt
 have hxl':x.length≤140737488355328:=by omega
 have hv:iG (n:Int)=.tup [.agg [.int .u64 ((n/2^64:Nat):Int),.int .u64 ((n % 2^64:Nat):Int)],.bool true]:=by
  unfold iG
  rw [if_pos ⟨Int.natCast_nonneg n,Int.lt_of_lt_of_le (Int.ofNat_lt.2 hn128) (by decide)⟩]
  rfl
 have hn1:isN (n:Int):=⟨Int.le_trans (by decide) (Int.natCast_nonneg n),Int.lt_of_lt_of_le (Int.ofNat_lt.2 hn128) (by decide)⟩
 have hvo:vOf (n/2^64) (n % 2^64)=n:=iz n
 have hlo:n/2^64<18446744073709551616:=by omega
 have hlo2:n % 2^64<18446744073709551616:=by omega
 have hx1:(id=H.nx)=False:=eq_false (by omega)
 have s1:=iw (H:=H) hne
 simp only [go_sem,hcs,aE,hgd,Int.toNat_natCast,e1,i9,hxl',nG,hn,hx1,nAV]
 simp only [gR]
 refine ⟨by omega,n,⟨rfl,hn1⟩,?_⟩
 rw [hv]
 have hn0:(0≤n/2^64):=Nat.zero_le _
 generalize hw0:w0 (n:Int)=y0
 generalize hw1:w1 (n:Int)=y1
 generalize hw2:w2 (n:Int)=y2
 have hgi:∀ o,(H.set id o).get id=some o:=fun o=>AHeap.get_set_same _ _ hid
 have hgt:∀ o,(H.set id o).get tb=some (.buf 7 t.length):=fun o=>by rw [AHeap.get_set_ne _ _ (fun e=>hne e.symm)];exact htb
 have hcl1:=fH hg hcl (p+1) (t++[⟨1,0,0,[],[],n⟩])
 have hcl2:((H.set id (pst m l (p+1) tb (t++[⟨1,0,0,[],[],n⟩]))).set tb (.buf 7 (t.length+1))).Closed:=aa hcl1
 simp only [sS,go_sem,hcs,Int.toNat_natCast,e1,hx1,f1,f2,g1,g2,cM hid,bn,hgi,hgt,qC,hvo]
 refine ⟨⟨by decide,by decide,by decide,⟨by omega,by omega,by omega,by omega⟩,by omega⟩,?_⟩
 simp (disch:=first|assumption|omega|(simp;done)|(simp;omega)|(simp only [bt,and_true];first|done|omega|(simp;done))) [↓zmk,beq,ybc,ybd,ybe,ae,wk,wk2,wk1,wkM,wkL,al,ybf,hcl2]
/-! ### The rules -/
def yL (m:Mark) (l:List Tok) (tb id:Nat) (H:AHeap) (K:AEnd→AHeap→Prop) (o:Option PR):Prop:=match o with
 |none=>False
 |some (.ok a p t)=>K (.ret (.int .i64 (a:Int))) ((H.set id (pst m l p tb t)).set tb (.buf 7 t.length))
 |some (.bad p)=>K (.panic (.iface 216 (.int .i64 (p:Int)))) ((H.del id).del tb)
@[congr] theorem Ek {m:Mark} {l:List Tok} {tb id:Nat} {H:AHeap} {K:AEnd→AHeap→Prop} {o o':Option PR} (h:o=o'):yL m l tb id H K o=yL m l tb id H K o':=by rw [h]
theorem aY {m:Mark} {l:List Tok} {tb id a p:Nat} {t:List Nd} {H:AHeap} {K:AEnd→AHeap→Prop}:yL m l tb id H K (some (.ok a p t))=K (.ret (.int .i64 (a:Int))) ((H.set id (pst m l p tb t)).set tb (.buf 7 t.length)):=rfl
theorem aR {m:Mark} {l:List Tok} {tb id p:Nat} {H:AHeap} {K:AEnd→AHeap→Prop}:yL m l tb id H K (some (.bad p))=K (.panic (.iface 216 (.int .i64 (p:Int)))) ((H.del id).del tb):=rfl
def aT (rl:Rl) (f:Nat):List AV→AHeap→(AEnd→AHeap→Prop)→Prop
 |[.ptr id 0],H,K=>onP (H.get id) fun m l p tb t=>dB H id tb l p t∧yL m l tb id H K (run l f rl p t)
 |_,_,_=>False
theorem bu {H:AHeap} {i j:Nat} {x y:AObj}:(((H.set i x).set j y).del i).del j=(H.del i).del j:=by
 simp only [AHeap.set,AHeap.del]
 congr 1
 funext k
 by_cases h1:k=j
 ·simp [h1]
 ·by_cases h2:k=i
  ·simp [h1,h2]
  ·simp [h1,h2]
theorem aX {H:AHeap} {i j:Nat} {x:AObj}:((H.set i x).del i).del j=(H.del i).del j:=by
 simp only [AHeap.set,AHeap.del]
 congr 1
 funext k
 by_cases h1:k=j
 ·simp [h1]
 ·by_cases h2:k=i
  ·simp [h1,h2]
  ·simp [h1,h2]
theorem eG {H:AHeap} {i j:Nat}:((H.del i).del j).Le H:=⟨Nat.le_refl _,fun k x hk=>by
 rw [eK] at hk
 split at hk
 ·cases hk
 ·rw [eK] at hk
  split at hk
  ·cases hk
  ·exact hk⟩
theorem dp {H:AHeap} {i j:Nat} {x y:AObj}:((H.del i).del j).Le ((H.set i x).set j y):=by
 have:=eG (H:=(H.set i x).set j y) (i:=i) (j:=j)
 rwa [bu] at this
theorem dd_le1 {H:AHeap} {i j:Nat} {x:AObj}:((H.del i).del j).Le (H.set i x):=by
 have:=eG (H:=H.set i x) (i:=i) (j:=j)
 rwa [aX] at this
theorem fw {H:AHeap} {i j:Nat} (h:H.Closed):((H.del i).del j).Closed:=ai (ai h)
theorem eT {H:AHeap} {id tb p:Nat} {m:Mark} {l:List Tok} {t:List Nd} (hg:H.get id=some (pst m l p tb t)) (h:dB H id tb l p t) (hcl:H.Closed) :
 (∀ X Y,((H.set id X).set tb Y).get id=some X)∧(∀ X Y,((H.set id X).set tb Y).get tb=some Y)∧(∀ X Y Z,((H.set id X).set tb Y).set id Z=(H.set id Z).set tb Y) ∧
   (∀ p' t',((H.set id (pst m l p' tb t')).set tb (.buf 7 t'.length)).Closed)∧(∀ X Y Z,((H.set id X).set tb Y).set tb Z=(H.set id X).set tb Z):=by
 obtain ⟨h1,h2,h3,h4,h5,h6,h7⟩:=h
 have hid:=AHeap.get_lt hg
 have htb:=AHeap.get_lt h2
 refine ⟨fun X Y=>?_,fun X Y=>?_,fun X Y Z=>?_,fun p' t'=>aa (fH hg hcl p' t'),fun X Y Z=>?_⟩
 ·rw [AHeap.get_set_ne _ _ h1];exact AHeap.get_set_same _ _ hid
 ·exact AHeap.get_set_same _ _ (by simpa [zlb] using htb)
 ·rw [iw h1];congr 1;simp only [AHeap.set];congr 1;funext k;by_cases hk:k=id<;>simp [hk]
 ·simp only [AHeap.set];congr 1;funext k;by_cases hk:k=tb<;>simp [hk]
end Go.AL
open Go Go.AL Go.Proofs
namespace Go.AL
set_option linter.all false
set_option maxRecDepth 10000
def fL (f:Nat):=aT .imp f
def ng (f:Nat):=aT .or f
def jx (f:Nat):=aT .and f
def gD (f:Nat):=aT .not f
def pp (f:Nat):=aT .cmp f
def jt (f:Nat):=aT .sum f
def jZ (f:Nat):=aT .un f
def mr (f:Nat):=aT .atom f
def xR:PR→AEnd
 |.ok a _ _=>.ret (.int .i64 (a:Int))
 |.bad p=>.panic (.iface 216 (.int .i64 (p:Int)))
def HR (m:Mark) (l:List Tok) (tb id:Nat) (H:AHeap):PR→AHeap
 |.ok _ p t=>(H.set id (pst m l p tb t)).set tb (.buf 7 t.length)
 |.bad _=>(H.del id).del tb
theorem bR {a p:Nat} {t:List Nd}:xR (.ok a p t)=.ret (.int .i64 (a:Int)):=rfl
theorem bv {p:Nat}:xR (.bad p)=.panic (.iface 216 (.int .i64 (p:Int))):=rfl
theorem bP {m:Mark} {l:List Tok} {tb id a p:Nat} {t:List Nd} {H:AHeap}:HR m l tb id H (.ok a p t)=(H.set id (pst m l p tb t)).set tb (.buf 7 t.length):=rfl
theorem bw {m:Mark} {l:List Tok} {tb id p:Nat} {H:AHeap}:HR m l tb id H (.bad p)=(H.del id).del tb:=rfl
theorem dx {m:Mark} {l:List Tok} {tb id:Nat} {H:AHeap} {K:AEnd→AHeap→Prop} {r:PR}:yL m l tb id H K (some r)=K (xR r) (HR m l tb id H r):=by cases r<;>rfl
theorem nt {m:Mark} {l:List Tok} {tb id:Nat} {H:AHeap} {r:PR}:H.nx≤(HR m l tb id H r).nx:=by cases r<;>exact Nat.le_refl _
theorem iJ:(opsC.length≤100)=True:=eq_true (by decide)
theorem iq:(opsS.length≤100)=True:=eq_true (by decide)
def opv (l:List Tok) (p:Nat):Nat:=(eC l p opsS).getD 0
def oph (l:List Tok) (p:Nat):Nat:=if (eC l p opsS).isSome then p+1 else p
theorem Dk:vOf 0 1=1:=rfl
theorem Dl:gU 0 1=True:=eq_true (by unfold gU;decide)
theorem aH:vOf 0 0=0:=rfl
theorem aI:gU 0 0=True:=eq_true (by unfold gU;decide)
theorem CO {f:Nat} (h_yOr:EntOk Tryz.prog 130 (Ent.effect (ng f))) (h_yImp:EntOk Tryz.prog 99 (Ent.effect (fL f))):EntOk Tryz.prog 99 (Ent.effect (fL (f+1))):=by
 refine EntOk.effect fun args H K h=>?_
 unfold fL aT at h
 split at h
 rotate_left
 ·exact h.elim
 rename_i id
 obtain ⟨m,l,p,tb,t,hg,hpre,hK⟩:=h
 cases ho:run l (f+1) .imp p t with
 |none=>rw [ho] at hK;exact hK.elim
 |some r =>
 rw [ho,dx] at hK
 refine ⟨_,_,hK,?_⟩
 clear hK
 rw [run] at ho
 simp only [cA] at ho
 have hpre':=hpre
 obtain ⟨hne,htb,ht,hp,hl,hgl,hgt⟩:=hpre
 have hid:=AHeap.get_lt hg
 have htbl:=AHeap.get_lt htb
 have f1:=bz hid
 have f2:=bz htbl
 have hl5:l.length≤100000:=by omega
 have i1:=@Int.natCast_nonneg
 have hne':(id=tb)=False:=eq_false hne
 refine ACalls.fW aA (TblOk.cons h_yOr (TblOk.cons ii (TblOk.cons h_yImp (TblOk.cons gm TblOk.nil)))) Tryz.func99 [.tmp 2] nt (T:=au []) (h:=fun hcl hlt=>?_)
 clear hlt
 obtain ⟨hgi,hgt',hsi,hcl2,hst⟩:=eT hg hpre' hcl
 rcases aL ho with ⟨q,h1,rfl⟩|⟨a,p1,t1,h1,h2⟩
 ·simp only [go_sem,f1,f2,hgi,hgt',hsi,hst,aM,aR,aY,bR,bv,bP,bw,bu,aX,bh,bn,aT,hne,ne_eq,hne',hl5,Int.toNat_natCast,aH,aI,i1,Int.reduceLE,eq_self,not_false_eq_true,ng,hg,hpre',h1]
  simp (disch:=first|assumption|omega|(simp;done)|(simp;omega)|(simp only [bt,and_true];first|done|omega|(simp;done))) [↓zmk,beq,ybc,ybd,ybe,ae,wk,wk2,wk1,wkM,wkL,al,ybf,fw hcl,zms,eG,dd_le1,dp]
 clear ho
 obtain ⟨k1,k2,k3,k4,k5,k6⟩:=aQ _ h1 hgt trivial hp
 simp only [Rl.isL,Bool.false_eq_true,if_false] at k4
 have hp1:dB ((H.set id (pst m l p1 tb t1)).set tb (.buf 7 t1.length)) id tb l p1 t1:=dt hpre' k2 (by omega) k5
 cases hs:isS l p1 [45,62] with
 |false =>
  rw [hs,if_neg (by simp)] at h2
  cases h2
  simp only [go_sem,f1,f2,hgi,hgt',hsi,hst,aM,aR,aY,bR,bv,bP,bw,bu,aX,bh,bn,aT,hne,ne_eq,hne',hl5,Int.toNat_natCast,aH,aI,i1,Int.reduceLE,eq_self,not_false_eq_true,ng,hg,hpre',h1,k2,hs,if_false]
  simp (disch:=first|assumption|omega|(simp;done)|(simp;omega)|(simp only [bt,and_true];first|done|omega|(simp;done))) [↓zmk,beq,ybc,ybd,ybe,ae,wk,wk2,wk1,wkM,wkL,al,ybf,hcl2]
 |true =>
  rw [hs,if_pos rfl] at h2
  have hlt1:=ce hs
  have hp2:dB ((H.set id (pst m l (p1+1) tb t1)).set tb (.buf 7 t1.length)) id tb l (p1+1) t1:=dt hpre' hlt1 (by omega) k5
  rcases aL h2 with ⟨q,h3,rfl⟩|⟨b,p2,t2,h3,h4⟩
  ·simp only [go_sem,f1,f2,hgi,hgt',hsi,hst,aM,aR,aY,bR,bv,bP,bw,bu,aX,bh,bn,aT,hne,ne_eq,hne',hl5,Int.toNat_natCast,aH,aI,i1,Int.reduceLE,eq_self,not_false_eq_true,ng,fL,hg,hpre',h1,k2,hs,if_true,hp2,h3]
   simp (disch:=first|assumption|omega|(simp;done)|(simp;omega)|(simp only [bt,and_true];first|done|omega|(simp;done))) [↓zmk,beq,ybc,ybd,ybe,ae,wk,wk2,wk1,wkM,wkL,al,ybf,fw hcl,zms,eG,dd_le1,dp]
  cases h4
  obtain ⟨k1b,k2b,k3b,k4b,k5b,k6b⟩:=aQ _ h3 k5 trivial hlt1
  simp only [Rl.isL,Bool.false_eq_true,if_false] at k4b
  have ht2:t2.length≤100000:=by omega
  simp only [go_sem,f1,f2,hgi,hgt',hsi,hst,aM,aR,aY,bR,bv,bP,bw,bu,aX,bh,bn,aT,hne,ne_eq,hne',hl5,Int.toNat_natCast,aH,aI,i1,Int.reduceLE,eq_self,not_false_eq_true,ng,fL,hg,hpre',h1,k2,hs,if_true,hp2,h3,ht2,nd2]
  have hc3:=hcl2 p2 (t2++[⟨16,a,b,[],[],0⟩])
  simp only [List.length_append,yaz,yba,Nat.zero_add] at hc3 ⊢
  simp (disch:=first|assumption|omega|(simp;done)|(simp;omega)|(simp only [bt,and_true];first|done|omega|(simp;done))) [↓zmk,beq,ybc,ybd,ybe,ae,wk,wk2,wk1,wkM,wkL,al,ybf,hc3]
theorem El {f:Nat} (h_yAnd:EntOk Tryz.prog 146 (Ent.effect (jx f))):EntOk Tryz.prog 130 (Ent.effect (ng (f+1))):=by
 refine EntOk.effect fun args H K h=>?_
 unfold ng aT at h
 split at h
 rotate_left
 ·exact h.elim
 rename_i id
 obtain ⟨m,l,p,tb,t,hg,hpre,hK⟩:=h
 cases ho:run l (f+1) .or p t with
 |none=>rw [ho] at hK;exact hK.elim
 |some r =>
 rw [ho,dx] at hK
 refine ⟨_,_,hK,?_⟩
 clear hK
 rw [run] at ho
 simp only [cA] at ho
 have hpre':=hpre
 obtain ⟨hne,htb,ht,hp,hl,hgl,hgt⟩:=hpre
 have hid:=AHeap.get_lt hg
 have htbl:=AHeap.get_lt htb
 have f1:=bz hid
 have f2:=bz htbl
 have hl5:l.length≤100000:=by omega
 have i1:=@Int.natCast_nonneg
 have hne':(id=tb)=False:=eq_false hne
 refine ACalls.fW aA (TblOk.cons h_yAnd (TblOk.cons ii (TblOk.cons gm TblOk.nil))) Tryz.func130 [.tmp 2] nt (T:=au []) (h:=fun hcl hlt=>?_)
 clear hlt
 obtain ⟨hgi,hgt',hsi,hcl2,hst⟩:=eT hg hpre' hcl
 rcases aL ho with ⟨q,h1,rfl⟩|⟨a,p1,t1,h1,h2⟩
 ·simp only [go_sem,f1,f2,hgi,hgt',hsi,hst,aM,aR,aY,bR,bv,bP,bw,bu,aX,bh,bn,aT,hne,ne_eq,hne',hl5,Int.toNat_natCast,aH,aI,i1,Int.reduceLE,eq_self,not_false_eq_true,jx,hg,hpre',h1]
  simp (disch:=first|assumption|omega|(simp;done)|(simp;omega)|(simp only [bt,and_true];first|done|omega|(simp;done))) [↓zmk,beq,ybc,ybd,ybe,ae,wk,wk2,wk1,wkM,wkL,al,ybf,fw hcl,zms,eG,dd_le1,dp]
 clear ho
 obtain ⟨k1,k2,k3,k4,k5,k6⟩:=aQ _ h1 hgt trivial hp
 simp only [Rl.isL,Bool.false_eq_true,if_false] at k4
 have hp1:dB ((H.set id (pst m l p1 tb t1)).set tb (.buf 7 t1.length)) id tb l p1 t1:=dt hpre' k2 (by omega) k5
 simp only [go_sem,f1,f2,hgi,hgt',hsi,hst,aM,aR,aY,bR,bv,bP,bw,bu,aX,bh,bn,aT,hne,ne_eq,hne',hl5,Int.toNat_natCast,aH,aI,i1,Int.reduceLE,eq_self,not_false_eq_true,jx,hg,hpre',h1]
 refine av (A:=Nat × Nat × Nat × List Nd) (fun x=>[(0,.ptr id 0),(3,.int .i64 (x.2.1:Int))]) (fun x=>(H.set id (pst m l x.2.2.1 tb x.2.2.2)).set tb (.buf 7 x.2.2.2.length))
  (fun x=>x.1≤f∧run l x.1 (.orL x.2.1) x.2.2.1 x.2.2.2=some r∧x.2.2.1≤l.length∧x.2.2.2.length≤x.2.2.1∧Good x.2.2.2∧x.2.1<x.2.2.2.length) (fun x=>x.1) (f,a,p1,t1) ⟨Nat.le_refl _,h2,k2,by dsimp only;omega,k5,k1⟩ ?_ fun x hx=>?_
 ·(simp only [bkq,enterW,aS,ltF,ne_eq,Nat.reduceEqDiff,reduceCtorEq,hcl2,hid];try simp (disch:=first|assumption|omega|(simp;done)|(simp;omega)|(simp only [bt,and_true];first|done|omega|(simp;done))) [↓zmk,beq,ybc,ybd,ybe,ae,wk,wk2,wk1,wkM,wkL,al,ybf,byq,biq,af,hcl,hcl2,hid];try (repeat' (first|assumption|omega|exact True.intro|refine And.intro ?_ ?_|refine ag ?_|refine aa ?_|refine ac ?_ ?_|refine ah ?_ ?_|refine ai ?_|exact AHeap.Le.refl _|refine AHeap.Le.push ?_ _|refine AHeap.Le.del ?_ ?_|(simp only [bt,and_true,true_and,hcl2,hid];first|done|omega|(simp;done)))))
 obtain ⟨g,a',p',t'⟩:=x
 obtain ⟨x1,x2,x3,x4,x5,x6⟩:=hx
 dsimp only at x1 x2 x3 x4 x5 x6 ⊢
 have ht':t'.length≤100000:=by omega
 have hpx:dB ((H.set id (pst m l p' tb t')).set tb (.buf 7 t'.length)) id tb l p' t':=dt hpre' x3 x4 x5
 cases g with
 |zero=>cases x2
 |succ g =>
 rw [run] at x2
 simp only [cA] at x2
 cases hs:isS l p' [124,124] with
 |false =>
  rw [hs,if_neg (by simp)] at x2
  cases x2
  simp only [go_sem,f1,f2,hgi,hgt',hsi,hst,aM,aR,aY,bR,bv,bP,bw,bu,aX,bh,bn,aT,hne,ne_eq,hne',hl5,Int.toNat_natCast,aH,aI,i1,Int.reduceLE,eq_self,not_false_eq_true,x3,hs,if_false]
  simp (disch:=first|assumption|omega|(simp;done)|(simp;omega)|(simp only [bt,and_true];first|done|omega|(simp;done))) [↓zmk,beq,ybc,ybd,ybe,ae,wk,wk2,wk1,wkM,wkL,al,ybf,hcl2]
 |true =>
  rw [hs,if_pos rfl] at x2
  have hlt1:=ce hs
  have hp2:dB ((H.set id (pst m l (p'+1) tb t')).set tb (.buf 7 t'.length)) id tb l (p'+1) t':=dt hpre' hlt1 (by omega) x5
  rcases aL x2 with ⟨q,h3,rfl⟩|⟨b,p2,t2,h3,h4⟩
  ·have h3':=bO (show g≤f by omega) h3
   simp only [go_sem,f1,f2,hgi,hgt',hsi,hst,aM,aR,aY,bR,bv,bP,bw,bu,aX,bh,bn,aT,hne,ne_eq,hne',hl5,Int.toNat_natCast,aH,aI,i1,Int.reduceLE,eq_self,not_false_eq_true,jx,x3,hs,if_true,hp2,h3']
   simp (disch:=first|assumption|omega|(simp;done)|(simp;omega)|(simp only [bt,and_true];first|done|omega|(simp;done))) [↓zmk,beq,ybc,ybd,ybe,ae,wk,wk2,wk1,wkM,wkL,al,ybf,fw hcl,zms,eG,dd_le1,dp]
  have h3':=bO (show g≤f by omega) h3
  obtain ⟨k1b,k2b,k3b,k4b,k5b,k6b⟩:=aQ _ h3 x5 trivial hlt1
  simp only [Rl.isL,Bool.false_eq_true,if_false] at k4b
  have ht2:t2.length≤100000:=by omega
  simp only [go_sem,f1,f2,hgi,hgt',hsi,hst,aM,aR,aY,bR,bv,bP,bw,bu,aX,bh,bn,aT,hne,ne_eq,hne',hl5,Int.toNat_natCast,aH,aI,i1,Int.reduceLE,eq_self,not_false_eq_true,jx,x3,hs,if_true,hp2,h3',ht2]
  have hc3:=hcl2 p2 (t2++[⟨15,a',b,[],[],0⟩])
  refine ⟨(g,t2.length,p2,t2++[⟨15,a',b,[],[],0⟩]),⟨by dsimp only;omega,h4,k2b,by simp;omega,k5b.snoc ⟨(show 1≤15 by decide),(show 15≤16 by decide)⟩ (show (0:Nat)<2^128 by decide) (.inr ⟨by simp only;omega,by simp only;omega⟩),by simp⟩,by dsimp only;omega,?_⟩
  simp only [List.length_append,yaz,yba,Nat.zero_add] at hc3 ⊢
  (simp only [bkq,enterW,aS,ltF,ne_eq,Nat.reduceEqDiff,reduceCtorEq,hc3,hid];try simp (disch:=first|assumption|omega|(simp;done)|(simp;omega)|(simp only [bt,and_true];first|done|omega|(simp;done))) [↓zmk,beq,ybc,ybd,ybe,ae,wk,wk2,wk1,wkM,wkL,al,ybf,byq,biq,af,hcl,hc3,hid];try (repeat' (first|assumption|omega|exact True.intro|refine And.intro ?_ ?_|refine ag ?_|refine aa ?_|refine ac ?_ ?_|refine ah ?_ ?_|refine ai ?_|exact AHeap.Le.refl _|refine AHeap.Le.push ?_ _|refine AHeap.Le.del ?_ ?_|(simp only [bt,and_true,true_and,hc3,hid];first|done|omega|(simp;done)))))
theorem CD {f:Nat} (h_yNot:EntOk Tryz.prog 149 (Ent.effect (gD f))):EntOk Tryz.prog 146 (Ent.effect (jx (f+1))):=by
 refine EntOk.effect fun args H K h=>?_
 unfold jx aT at h
 split at h
 rotate_left
 ·exact h.elim
 rename_i id
 obtain ⟨m,l,p,tb,t,hg,hpre,hK⟩:=h
 cases ho:run l (f+1) .and p t with
 |none=>rw [ho] at hK;exact hK.elim
 |some r =>
 rw [ho,dx] at hK
 refine ⟨_,_,hK,?_⟩
 clear hK
 rw [run] at ho
 simp only [cA] at ho
 have hpre':=hpre
 obtain ⟨hne,htb,ht,hp,hl,hgl,hgt⟩:=hpre
 have hid:=AHeap.get_lt hg
 have htbl:=AHeap.get_lt htb
 have f1:=bz hid
 have f2:=bz htbl
 have hl5:l.length≤100000:=by omega
 have i1:=@Int.natCast_nonneg
 have hne':(id=tb)=False:=eq_false hne
 refine ACalls.fW aA (TblOk.cons h_yNot (TblOk.cons ii (TblOk.cons gm TblOk.nil))) Tryz.func146 [.tmp 2] nt (T:=au []) (h:=fun hcl hlt=>?_)
 clear hlt
 obtain ⟨hgi,hgt',hsi,hcl2,hst⟩:=eT hg hpre' hcl
 rcases aL ho with ⟨q,h1,rfl⟩|⟨a,p1,t1,h1,h2⟩
 ·simp only [go_sem,f1,f2,hgi,hgt',hsi,hst,aM,aR,aY,bR,bv,bP,bw,bu,aX,bh,bn,aT,hne,ne_eq,hne',hl5,Int.toNat_natCast,aH,aI,i1,Int.reduceLE,eq_self,not_false_eq_true,gD,hg,hpre',h1]
  simp (disch:=first|assumption|omega|(simp;done)|(simp;omega)|(simp only [bt,and_true];first|done|omega|(simp;done))) [↓zmk,beq,ybc,ybd,ybe,ae,wk,wk2,wk1,wkM,wkL,al,ybf,fw hcl,zms,eG,dd_le1,dp]
 clear ho
 obtain ⟨k1,k2,k3,k4,k5,k6⟩:=aQ _ h1 hgt trivial hp
 simp only [Rl.isL,Bool.false_eq_true,if_false] at k4
 have hp1:dB ((H.set id (pst m l p1 tb t1)).set tb (.buf 7 t1.length)) id tb l p1 t1:=dt hpre' k2 (by omega) k5
 simp only [go_sem,f1,f2,hgi,hgt',hsi,hst,aM,aR,aY,bR,bv,bP,bw,bu,aX,bh,bn,aT,hne,ne_eq,hne',hl5,Int.toNat_natCast,aH,aI,i1,Int.reduceLE,eq_self,not_false_eq_true,gD,hg,hpre',h1]
 refine av (A:=Nat × Nat × Nat × List Nd) (fun x=>[(0,.ptr id 0),(3,.int .i64 (x.2.1:Int))]) (fun x=>(H.set id (pst m l x.2.2.1 tb x.2.2.2)).set tb (.buf 7 x.2.2.2.length))
  (fun x=>x.1≤f∧run l x.1 (.andL x.2.1) x.2.2.1 x.2.2.2=some r∧x.2.2.1≤l.length∧x.2.2.2.length≤x.2.2.1∧Good x.2.2.2∧x.2.1<x.2.2.2.length) (fun x=>x.1) (f,a,p1,t1) ⟨Nat.le_refl _,h2,k2,by dsimp only;omega,k5,k1⟩ ?_ fun x hx=>?_
 ·(simp only [bkq,enterW,aS,ltF,ne_eq,Nat.reduceEqDiff,reduceCtorEq,hcl2,hid];try simp (disch:=first|assumption|omega|(simp;done)|(simp;omega)|(simp only [bt,and_true];first|done|omega|(simp;done))) [↓zmk,beq,ybc,ybd,ybe,ae,wk,wk2,wk1,wkM,wkL,al,ybf,byq,biq,af,hcl,hcl2,hid];try (repeat' (first|assumption|omega|exact True.intro|refine And.intro ?_ ?_|refine ag ?_|refine aa ?_|refine ac ?_ ?_|refine ah ?_ ?_|refine ai ?_|exact AHeap.Le.refl _|refine AHeap.Le.push ?_ _|refine AHeap.Le.del ?_ ?_|(simp only [bt,and_true,true_and,hcl2,hid];first|done|omega|(simp;done)))))
 obtain ⟨g,a',p',t'⟩:=x
 obtain ⟨x1,x2,x3,x4,x5,x6⟩:=hx
 dsimp only at x1 x2 x3 x4 x5 x6 ⊢
 have ht':t'.length≤100000:=by omega
 have hpx:dB ((H.set id (pst m l p' tb t')).set tb (.buf 7 t'.length)) id tb l p' t':=dt hpre' x3 x4 x5
 cases g with
 |zero=>cases x2
 |succ g =>
 rw [run] at x2
 simp only [cA] at x2
 cases hs:isS l p' [38,38] with
 |false =>
  rw [hs,if_neg (by simp)] at x2
  cases x2
  simp only [go_sem,f1,f2,hgi,hgt',hsi,hst,aM,aR,aY,bR,bv,bP,bw,bu,aX,bh,bn,aT,hne,ne_eq,hne',hl5,Int.toNat_natCast,aH,aI,i1,Int.reduceLE,eq_self,not_false_eq_true,x3,hs,if_false]
  simp (disch:=first|assumption|omega|(simp;done)|(simp;omega)|(simp only [bt,and_true];first|done|omega|(simp;done))) [↓zmk,beq,ybc,ybd,ybe,ae,wk,wk2,wk1,wkM,wkL,al,ybf,hcl2]
 |true =>
  rw [hs,if_pos rfl] at x2
  have hlt1:=ce hs
  have hp2:dB ((H.set id (pst m l (p'+1) tb t')).set tb (.buf 7 t'.length)) id tb l (p'+1) t':=dt hpre' hlt1 (by omega) x5
  rcases aL x2 with ⟨q,h3,rfl⟩|⟨b,p2,t2,h3,h4⟩
  ·have h3':=bO (show g≤f by omega) h3
   simp only [go_sem,f1,f2,hgi,hgt',hsi,hst,aM,aR,aY,bR,bv,bP,bw,bu,aX,bh,bn,aT,hne,ne_eq,hne',hl5,Int.toNat_natCast,aH,aI,i1,Int.reduceLE,eq_self,not_false_eq_true,gD,x3,hs,if_true,hp2,h3']
   simp (disch:=first|assumption|omega|(simp;done)|(simp;omega)|(simp only [bt,and_true];first|done|omega|(simp;done))) [↓zmk,beq,ybc,ybd,ybe,ae,wk,wk2,wk1,wkM,wkL,al,ybf,fw hcl,zms,eG,dd_le1,dp]
  have h3':=bO (show g≤f by omega) h3
  obtain ⟨k1b,k2b,k3b,k4b,k5b,k6b⟩:=aQ _ h3 x5 trivial hlt1
  simp only [Rl.isL,Bool.false_eq_true,if_false] at k4b
  have ht2:t2.length≤100000:=by omega
  simp only [go_sem,f1,f2,hgi,hgt',hsi,hst,aM,aR,aY,bR,bv,bP,bw,bu,aX,bh,bn,aT,hne,ne_eq,hne',hl5,Int.toNat_natCast,aH,aI,i1,Int.reduceLE,eq_self,not_false_eq_true,gD,x3,hs,if_true,hp2,h3',ht2]
  have hc3:=hcl2 p2 (t2++[⟨14,a',b,[],[],0⟩])
  refine ⟨(g,t2.length,p2,t2++[⟨14,a',b,[],[],0⟩]),⟨by dsimp only;omega,h4,k2b,by simp;omega,k5b.snoc ⟨(show 1≤14 by decide),(show 14≤16 by decide)⟩ (show (0:Nat)<2^128 by decide) (.inr ⟨by simp only;omega,by simp only;omega⟩),by simp⟩,by dsimp only;omega,?_⟩
  simp only [List.length_append,yaz,yba,Nat.zero_add] at hc3 ⊢
  (simp only [bkq,enterW,aS,ltF,ne_eq,Nat.reduceEqDiff,reduceCtorEq,hc3,hid];try simp (disch:=first|assumption|omega|(simp;done)|(simp;omega)|(simp only [bt,and_true];first|done|omega|(simp;done))) [↓zmk,beq,ybc,ybd,ybe,ae,wk,wk2,wk1,wkM,wkL,al,ybf,byq,biq,af,hcl,hc3,hid];try (repeat' (first|assumption|omega|exact True.intro|refine And.intro ?_ ?_|refine ag ?_|refine aa ?_|refine ac ?_ ?_|refine ah ?_ ?_|refine ai ?_|exact AHeap.Le.refl _|refine AHeap.Le.push ?_ _|refine AHeap.Le.del ?_ ?_|(simp only [bt,and_true,true_and,hc3,hid];first|done|omega|(simp;done)))))
theorem Co {f:Nat} (h_yNot:EntOk Tryz.prog 149 (Ent.effect (gD f))) (h_yCmp:EntOk Tryz.prog 151 (Ent.effect (pp f))):EntOk Tryz.prog 149 (Ent.effect (gD (f+1))):=by
 refine EntOk.effect fun args H K h=>?_
 unfold gD aT at h
 split at h
 rotate_left
 ·exact h.elim
 rename_i id
 obtain ⟨m,l,p,tb,t,hg,hpre,hK⟩:=h
 cases ho:run l (f+1) .not p t with
 |none=>rw [ho] at hK;exact hK.elim
 |some r =>
 rw [ho,dx] at hK
 refine ⟨_,_,hK,?_⟩
 clear hK
 rw [run] at ho
 simp only [cA] at ho
 have hpre':=hpre
 obtain ⟨hne,htb,ht,hp,hl,hgl,hgt⟩:=hpre
 have hid:=AHeap.get_lt hg
 have htbl:=AHeap.get_lt htb
 have f1:=bz hid
 have f2:=bz htbl
 have hl5:l.length≤100000:=by omega
 have i1:=@Int.natCast_nonneg
 have hne':(id=tb)=False:=eq_false hne
 refine ACalls.fW aA (TblOk.cons ii (TblOk.cons h_yNot (TblOk.cons gm (TblOk.cons h_yCmp TblOk.nil)))) Tryz.func149 [.tmp 2] nt (T:=au []) (h:=fun hcl hlt=>?_)
 clear hlt
 obtain ⟨hgi,hgt',hsi,hcl2,hst⟩:=eT hg hpre' hcl
 cases hs:isS l p [33] with
 |false =>
  rw [hs,if_neg (by simp)] at ho
  simp only [go_sem,f1,f2,hgi,hgt',hsi,hst,aM,aR,aY,bR,bv,bP,bw,bu,aX,bh,bn,aT,hne,ne_eq,hne',hl5,Int.toNat_natCast,aH,aI,i1,Int.reduceLE,eq_self,not_false_eq_true,pp,hg,hp,hs,if_false,hpre',ho,dx]
  cases r with
  |ok a q u =>
   simp only [go_sem,f1,f2,hgi,hgt',hsi,hst,aM,aR,aY,bR,bv,bP,bw,bu,aX,bh,bn,aT,hne,ne_eq,hne',hl5,Int.toNat_natCast,aH,aI,i1,Int.reduceLE,eq_self,not_false_eq_true]
   simp (disch:=first|assumption|omega|(simp;done)|(simp;omega)|(simp only [bt,and_true];first|done|omega|(simp;done))) [↓zmk,beq,ybc,ybd,ybe,ae,wk,wk2,wk1,wkM,wkL,al,ybf,hcl2]
  |bad q =>
   simp only [go_sem,f1,f2,hgi,hgt',hsi,hst,aM,aR,aY,bR,bv,bP,bw,bu,aX,bh,bn,aT,hne,ne_eq,hne',hl5,Int.toNat_natCast,aH,aI,i1,Int.reduceLE,eq_self,not_false_eq_true]
   simp (disch:=first|assumption|omega|(simp;done)|(simp;omega)|(simp only [bt,and_true];first|done|omega|(simp;done))) [↓zmk,beq,ybc,ybd,ybe,ae,wk,wk2,wk1,wkM,wkL,al,ybf,fw hcl,zms,eG,dd_le1,dp]
 |true =>
  rw [hs,if_pos rfl] at ho
  have hlt1:=ce hs
  have hgi1:∀ X,(H.set id X).get id=some X:=fun X=>AHeap.get_set_same _ _ hid
  have hp2:dB (H.set id (pst m l (p+1) tb t)) id tb l (p+1) t:=gA hpre' hlt1 (by omega)
  have hss:∀ X Y,(H.set id X).set id Y=H.set id Y:=fun X Y=>by simp only [AHeap.set];congr 1;funext k;by_cases hk:k=id<;>simp [hk]
  rcases aL ho with ⟨q,h3,rfl⟩|⟨b,p2,t2,h3,h4⟩
  ·simp only [go_sem,f1,f2,hgi,hgt',hsi,hst,aM,aR,aY,bR,bv,bP,bw,bu,aX,bh,bn,aT,hne,ne_eq,hne',hl5,Int.toNat_natCast,aH,aI,i1,Int.reduceLE,eq_self,not_false_eq_true,gD,hg,hp,hs,if_true,hgi1,hss,hp2,h3]
   simp (disch:=first|assumption|omega|(simp;done)|(simp;omega)|(simp only [bt,and_true];first|done|omega|(simp;done))) [↓zmk,beq,ybc,ybd,ybe,ae,wk,wk2,wk1,wkM,wkL,al,ybf,fw hcl,zms,eG,dd_le1,dp]
  cases h4
  obtain ⟨k1b,k2b,k3b,k4b,k5b,k6b⟩:=aQ _ h3 hgt trivial hlt1
  simp only [Rl.isL,Bool.false_eq_true,if_false] at k4b
  have ht2:t2.length≤100000:=by omega
  simp only [go_sem,f1,f2,hgi,hgt',hsi,hst,aM,aR,aY,bR,bv,bP,bw,bu,aX,bh,bn,aT,hne,ne_eq,hne',hl5,Int.toNat_natCast,aH,aI,i1,Int.reduceLE,eq_self,not_false_eq_true,gD,hg,hp,hs,if_true,hgi1,hss,hp2,h3,ht2,nd2]
  have hc3:=hcl2 p2 (t2++[⟨5,b,0,[],[],0⟩])
  simp only [List.length_append,yaz,yba,Nat.zero_add] at hc3 ⊢
  simp (disch:=first|assumption|omega|(simp;done)|(simp;omega)|(simp only [bt,and_true];first|done|omega|(simp;done))) [↓zmk,beq,ybc,ybd,ybe,ae,wk,wk2,wk1,wkM,wkL,al,ybf,hc3]
theorem DV {f:Nat} (h_yUn:EntOk Tryz.prog 157 (Ent.effect (jZ f))) (h_yAtom:EntOk Tryz.prog 160 (Ent.effect (mr f))):EntOk Tryz.prog 157 (Ent.effect (jZ (f+1))):=by
 refine EntOk.effect fun args H K h=>?_
 unfold jZ aT at h
 split at h
 rotate_left
 ·exact h.elim
 rename_i id
 obtain ⟨m,l,p,tb,t,hg,hpre,hK⟩:=h
 cases ho:run l (f+1) .un p t with
 |none=>rw [ho] at hK;exact hK.elim
 |some r =>
 rw [ho,dx] at hK
 refine ⟨_,_,hK,?_⟩
 clear hK
 rw [run] at ho
 simp only [cA] at ho
 have hpre':=hpre
 obtain ⟨hne,htb,ht,hp,hl,hgl,hgt⟩:=hpre
 have hid:=AHeap.get_lt hg
 have htbl:=AHeap.get_lt htb
 have f1:=bz hid
 have f2:=bz htbl
 have hl5:l.length≤100000:=by omega
 have i1:=@Int.natCast_nonneg
 have hne':(id=tb)=False:=eq_false hne
 refine ACalls.fW aA (TblOk.cons ii (TblOk.cons h_yUn (TblOk.cons gm (TblOk.cons h_yAtom TblOk.nil)))) Tryz.func157 [.tmp 2] nt (T:=au []) (h:=fun hcl hlt=>?_)
 clear hlt
 obtain ⟨hgi,hgt',hsi,hcl2,hst⟩:=eT hg hpre' hcl
 cases hs:isS l p [45] with
 |false =>
  rw [hs,if_neg (by simp)] at ho
  simp only [go_sem,f1,f2,hgi,hgt',hsi,hst,aM,aR,aY,bR,bv,bP,bw,bu,aX,bh,bn,aT,hne,ne_eq,hne',hl5,Int.toNat_natCast,aH,aI,i1,Int.reduceLE,eq_self,not_false_eq_true,mr,hg,hp,hs,if_false,hpre',ho,dx]
  cases r with
  |ok a q u =>
   simp only [go_sem,f1,f2,hgi,hgt',hsi,hst,aM,aR,aY,bR,bv,bP,bw,bu,aX,bh,bn,aT,hne,ne_eq,hne',hl5,Int.toNat_natCast,aH,aI,i1,Int.reduceLE,eq_self,not_false_eq_true]
   simp (disch:=first|assumption|omega|(simp;done)|(simp;omega)|(simp only [bt,and_true];first|done|omega|(simp;done))) [↓zmk,beq,ybc,ybd,ybe,ae,wk,wk2,wk1,wkM,wkL,al,ybf,hcl2]
  |bad q =>
   simp only [go_sem,f1,f2,hgi,hgt',hsi,hst,aM,aR,aY,bR,bv,bP,bw,bu,aX,bh,bn,aT,hne,ne_eq,hne',hl5,Int.toNat_natCast,aH,aI,i1,Int.reduceLE,eq_self,not_false_eq_true]
   simp (disch:=first|assumption|omega|(simp;done)|(simp;omega)|(simp only [bt,and_true];first|done|omega|(simp;done))) [↓zmk,beq,ybc,ybd,ybe,ae,wk,wk2,wk1,wkM,wkL,al,ybf,fw hcl,zms,eG,dd_le1,dp]
 |true =>
  rw [hs,if_pos rfl] at ho
  have hlt1:=ce hs
  have hgi1:∀ X,(H.set id X).get id=some X:=fun X=>AHeap.get_set_same _ _ hid
  have hp2:dB (H.set id (pst m l (p+1) tb t)) id tb l (p+1) t:=gA hpre' hlt1 (by omega)
  have hss:∀ X Y,(H.set id X).set id Y=H.set id Y:=fun X Y=>by simp only [AHeap.set];congr 1;funext k;by_cases hk:k=id<;>simp [hk]
  rcases aL ho with ⟨q,h3,rfl⟩|⟨b,p2,t2,h3,h4⟩
  ·simp only [go_sem,f1,f2,hgi,hgt',hsi,hst,aM,aR,aY,bR,bv,bP,bw,bu,aX,bh,bn,aT,hne,ne_eq,hne',hl5,Int.toNat_natCast,aH,aI,i1,Int.reduceLE,eq_self,not_false_eq_true,jZ,hg,hp,hs,if_true,hgi1,hss,hp2,h3]
   simp (disch:=first|assumption|omega|(simp;done)|(simp;omega)|(simp only [bt,and_true];first|done|omega|(simp;done))) [↓zmk,beq,ybc,ybd,ybe,ae,wk,wk2,wk1,wkM,wkL,al,ybf,fw hcl,zms,eG,dd_le1,dp]
  cases h4
  obtain ⟨k1b,k2b,k3b,k4b,k5b,k6b⟩:=aQ _ h3 hgt trivial hlt1
  simp only [Rl.isL,Bool.false_eq_true,if_false] at k4b
  have ht2:t2.length≤100000:=by omega
  simp only [go_sem,f1,f2,hgi,hgt',hsi,hst,aM,aR,aY,bR,bv,bP,bw,bu,aX,bh,bn,aT,hne,ne_eq,hne',hl5,Int.toNat_natCast,aH,aI,i1,Int.reduceLE,eq_self,not_false_eq_true,jZ,hg,hp,hs,if_true,hgi1,hss,hp2,h3,ht2,nd2]
  have hc3:=hcl2 p2 (t2++[⟨4,b,0,[],[],0⟩])
  simp only [List.length_append,yaz,yba,Nat.zero_add] at hc3 ⊢
  simp (disch:=first|assumption|omega|(simp;done)|(simp;omega)|(simp only [bt,and_true];first|done|omega|(simp;done))) [↓zmk,beq,ybc,ybd,ybe,ae,wk,wk2,wk1,wkM,wkL,al,ybf,hc3]
theorem Cu {f:Nat} (h_ySum:EntOk Tryz.prog 153 (Ent.effect (jt f))):EntOk Tryz.prog 151 (Ent.effect (pp (f+1))):=by
 refine EntOk.effect fun args H K h=>?_
 unfold pp aT at h
 split at h
 rotate_left
 ·exact h.elim
 rename_i id
 obtain ⟨m,l,p,tb,t,hg,hpre,hK⟩:=h
 cases ho:run l (f+1) .cmp p t with
 |none=>rw [ho] at hK;exact hK.elim
 |some r =>
 rw [ho,dx] at hK
 refine ⟨_,_,hK,?_⟩
 clear hK
 rw [run] at ho
 simp only [cA] at ho
 have hpre':=hpre
 obtain ⟨hne,htb,ht,hp,hl,hgl,hgt⟩:=hpre
 have hid:=AHeap.get_lt hg
 have htbl:=AHeap.get_lt htb
 have f1:=bz hid
 have f2:=bz htbl
 have hl5:l.length≤100000:=by omega
 have i1:=@Int.natCast_nonneg
 have hne':(id=tb)=False:=eq_false hne
 refine ACalls.fW aA (TblOk.cons h_ySum (TblOk.cons rC (TblOk.cons tH (TblOk.cons gm TblOk.nil)))) Tryz.func151 [.tmp 2] nt (T:=au []) (h:=fun hcl hlt=>?_)
 clear hlt
 obtain ⟨hgi,hgt',hsi,hcl2,hst⟩:=eT hg hpre' hcl
 rcases aL ho with ⟨q,h1,rfl⟩|⟨a,p1,t1,h1,h2⟩
 ·simp only [go_sem,f1,f2,hgi,hgt',hsi,hst,aM,aR,aY,bR,bv,bP,bw,bu,aX,bh,bn,aT,hne,ne_eq,hne',hl5,Int.toNat_natCast,aH,aI,i1,Int.reduceLE,eq_self,not_false_eq_true,jt,hg,hpre',h1]
  simp (disch:=first|assumption|omega|(simp;done)|(simp;omega)|(simp only [bt,and_true];first|done|omega|(simp;done))) [↓zmk,beq,ybc,ybd,ybe,ae,wk,wk2,wk1,wkM,wkL,al,ybf,fw hcl,zms,eG,dd_le1,dp]
 clear ho
 obtain ⟨k1,k2,k3,k4,k5,k6⟩:=aQ _ h1 hgt trivial hp
 simp only [Rl.isL,Bool.false_eq_true,if_false] at k4
 have hp1:dB ((H.set id (pst m l p1 tb t1)).set tb (.buf 7 t1.length)) id tb l p1 t1:=dt hpre' k2 (by omega) k5
 cases hs:eC l p1 opsC with
 |none =>
  rw [hs] at h2
  cases h2
  simp only [go_sem,f1,f2,hgi,hgt',hsi,hst,aM,aR,aY,bR,bv,bP,bw,bu,aX,bh,bn,aT,hne,ne_eq,hne',hl5,Int.toNat_natCast,aH,aI,i1,Int.reduceLE,eq_self,not_false_eq_true,h9,dj,ig,fE,iJ,iq,jt,hg,hpre',h1,k2,hs,lX]
  refine sI rfl ?_
  simp only [go_sem,f1,f2,hgi,hgt',hsi,hst,aM,aR,aY,bR,bv,bP,bw,bu,aX,bh,bn,aT,hne,ne_eq,hne',hl5,Int.toNat_natCast,aH,aI,i1,Int.reduceLE,eq_self,not_false_eq_true]
  simp (disch:=first|assumption|omega|(simp;done)|(simp;omega)|(simp only [bt,and_true];first|done|omega|(simp;done))) [↓zmk,beq,ybc,ybd,ybe,ae,wk,wk2,wk1,wkM,wkL,al,ybf,hcl2]
 |some op =>
  rw [hs] at h2
  dsimp only at h2
  obtain ⟨hlt1,so,hso⟩:=eN hs
  obtain ⟨o1,o2⟩:=sc hso
  have hop:((op:Int) != 0)=true:=by simp;omega
  have hp2:dB ((H.set id (pst m l (p1+1) tb t1)).set tb (.buf 7 t1.length)) id tb l (p1+1) t1:=dt hpre' hlt1 (by omega) k5
  rcases aL h2 with ⟨q,h3,rfl⟩|⟨b,p2,t2,h3,h4⟩
  ·simp only [go_sem,f1,f2,hgi,hgt',hsi,hst,aM,aR,aY,bR,bv,bP,bw,bu,aX,bh,bn,aT,hne,ne_eq,hne',hl5,Int.toNat_natCast,aH,aI,i1,Int.reduceLE,eq_self,not_false_eq_true,h9,dj,ig,fE,iJ,iq,jt,hg,hpre',h1,k2,hs,jB,hop,hp2,h3]
   simp (disch:=first|assumption|omega|(simp;done)|(simp;omega)|(simp only [bt,and_true];first|done|omega|(simp;done))) [↓zmk,beq,ybc,ybd,ybe,ae,wk,wk2,wk1,wkM,wkL,al,ybf,fw hcl,zms,eG,dd_le1,dp]
  cases h4
  obtain ⟨k1b,k2b,k3b,k4b,k5b,k6b⟩:=aQ _ h3 k5 trivial hlt1
  simp only [Rl.isL,Bool.false_eq_true,if_false] at k4b
  have ht2:t2.length≤100000:=by omega
  simp only [go_sem,f1,f2,hgi,hgt',hsi,hst,aM,aR,aY,bR,bv,bP,bw,bu,aX,bh,bn,aT,hne,ne_eq,hne',hl5,Int.toNat_natCast,aH,aI,i1,Int.reduceLE,eq_self,not_false_eq_true,h9,dj,ig,fE,iJ,iq,jt,hg,hpre',h1,k2,hs,jB,hop,hp2,h3,ht2,nd2]
  have hc3:=hcl2 p2 (t2++[⟨op,a,b,[],[],0⟩])
  simp only [List.length_append,yaz,yba,Nat.zero_add] at hc3 ⊢
  simp (disch:=first|assumption|omega|(simp;done)|(simp;omega)|(simp only [bt,and_true];first|done|omega|(simp;done))) [↓zmk,beq,ybc,ybd,ybe,ae,wk,wk2,wk1,wkM,wkL,al,ybf,hc3]
theorem Cy {f:Nat} (h_yUn:EntOk Tryz.prog 157 (Ent.effect (jZ f))):EntOk Tryz.prog 153 (Ent.effect (jt (f+1))):=by
 refine EntOk.effect fun args H K h=>?_
 unfold jt aT at h
 split at h
 rotate_left
 ·exact h.elim
 rename_i id
 obtain ⟨m,l,p,tb,t,hg,hpre,hK⟩:=h
 cases ho:run l (f+1) .sum p t with
 |none=>rw [ho] at hK;exact hK.elim
 |some r =>
 rw [ho,dx] at hK
 refine ⟨_,_,hK,?_⟩
 clear hK
 rw [run] at ho
 simp only [cA] at ho
 have hpre':=hpre
 obtain ⟨hne,htb,ht,hp,hl,hgl,hgt⟩:=hpre
 have hid:=AHeap.get_lt hg
 have htbl:=AHeap.get_lt htb
 have f1:=bz hid
 have f2:=bz htbl
 have hl5:l.length≤100000:=by omega
 have i1:=@Int.natCast_nonneg
 have hne':(id=tb)=False:=eq_false hne
 refine ACalls.fW aA (TblOk.cons h_yUn (TblOk.cons zP (TblOk.cons tH (TblOk.cons gm TblOk.nil)))) Tryz.func153 [.tmp 2] nt (T:=au []) (h:=fun hcl hlt=>?_)
 clear hlt
 obtain ⟨hgi,hgt',hsi,hcl2,hst⟩:=eT hg hpre' hcl
 rcases aL ho with ⟨q,h1,rfl⟩|⟨a,p1,t1,h1,h2⟩
 ·simp only [go_sem,f1,f2,hgi,hgt',hsi,hst,aM,aR,aY,bR,bv,bP,bw,bu,aX,bh,bn,aT,hne,ne_eq,hne',hl5,Int.toNat_natCast,aH,aI,i1,Int.reduceLE,eq_self,not_false_eq_true,jZ,hg,hpre',h1]
  simp (disch:=first|assumption|omega|(simp;done)|(simp;omega)|(simp only [bt,and_true];first|done|omega|(simp;done))) [↓zmk,beq,ybc,ybd,ybe,ae,wk,wk2,wk1,wkM,wkL,al,ybf,fw hcl,zms,eG,dd_le1,dp]
 clear ho
 obtain ⟨k1,k2,k3,k4,k5,k6⟩:=aQ _ h1 hgt trivial hp
 simp only [Rl.isL,Bool.false_eq_true,if_false] at k4
 have hp1:dB ((H.set id (pst m l p1 tb t1)).set tb (.buf 7 t1.length)) id tb l p1 t1:=dt hpre' k2 (by omega) k5
 have hsn:∀ p',eC l p' opsS=none→opv l p'=0∧oph l p'=p':=fun p' e=>by simp [opv,oph,e]
 have hss:∀ p' op,eC l p' opsS=some op→opv l p'=op∧oph l p'=p'+1:=fun p' op e=>by simp [opv,oph,e]
 have hev:∀ p',(eC l p' opsS=none∧opv l p'=0∧oph l p'=p')∨∃ op,eC l p' opsS=some op∧opv l p'=op∧oph l p'=p'+1:=fun p'=>by
  cases hs:eC l p' opsS with
  |none=>exact .inl ⟨rfl,hsn _ hs⟩
  |some op=>exact .inr ⟨op,rfl,hss _ _ hs⟩
 simp only [go_sem,f1,f2,hgi,hgt',hsi,hst,aM,aR,aY,bR,bv,bP,bw,bu,aX,bh,bn,aT,hne,ne_eq,hne',hl5,Int.toNat_natCast,aH,aI,i1,Int.reduceLE,eq_self,not_false_eq_true,h9,dj,ig,fE,iJ,iq,jZ,hg,hpre',h1,k2]
 rcases hev p1 with ⟨hs1,v1,v2⟩|⟨op1,hs1,v1,v2⟩
 all_goals
  simp only [go_sem,f1,f2,hgi,hgt',hsi,hst,aM,aR,aY,bR,bv,bP,bw,bu,aX,bh,bn,aT,hne,ne_eq,hne',hl5,Int.toNat_natCast,aH,aI,i1,Int.reduceLE,eq_self,not_false_eq_true,h9,dj,ig,fE,iJ,iq,k2,hs1,lX,jB]
  refine av (A:=Nat × Nat × Nat × List Nd) (fun x=>[(0,.ptr id 0),(3,.int .i64 (x.2.1:Int)),(4,.int .i64 (opv l x.2.2.1:Int))]) (fun x=>(H.set id (pst m l (oph l x.2.2.1) tb x.2.2.2)).set tb (.buf 7 x.2.2.2.length)) (fun x=>x.1≤f∧run l x.1 (.sumL x.2.1) x.2.2.1 x.2.2.2=some r∧x.2.2.1≤l.length∧x.2.2.2.length≤x.2.2.1∧Good x.2.2.2∧x.2.1<x.2.2.2.length) (fun x=>x.1) (f,a,p1,t1) ⟨Nat.le_refl _,h2,k2,by dsimp only;omega,k5,k1⟩ ?_ fun x hx=>?_
  ·dsimp only
   rw [v1,v2]
   (simp only [bkq,enterW,aS,ltF,ne_eq,Nat.reduceEqDiff,reduceCtorEq,hcl2,hid];try simp (disch:=first|assumption|omega|(simp;done)|(simp;omega)|(simp only [bt,and_true];first|done|omega|(simp;done))) [↓zmk,beq,ybc,ybd,ybe,ae,wk,wk2,wk1,wkM,wkL,al,ybf,byq,biq,af,hcl,hcl2,hid];try (repeat' (first|assumption|omega|exact True.intro|refine And.intro ?_ ?_|refine ag ?_|refine aa ?_|refine ac ?_ ?_|refine ah ?_ ?_|refine ai ?_|exact AHeap.Le.refl _|refine AHeap.Le.push ?_ _|refine AHeap.Le.del ?_ ?_|(simp only [bt,and_true,true_and,hcl2,hid];first|done|omega|(simp;done)))))
  obtain ⟨g,a',p',t'⟩:=x
  obtain ⟨x1,x2,x3,x4,x5,x6⟩:=hx
  dsimp only at x1 x2 x3 x4 x5 x6 ⊢
  have ht':t'.length≤100000:=by omega
  cases g with
  |zero=>cases x2
  |succ g =>
  rw [run] at x2
  simp only [cA] at x2
  rcases hev p' with ⟨hs,u1,u2⟩|⟨op,hs,u1,u2⟩
  ·rw [hs] at x2
   cases x2
   rw [u1,u2]
   simp only [go_sem,f1,f2,hgi,hgt',hsi,hst,aM,aR,aY,bR,bv,bP,bw,bu,aX,bh,bn,aT,hne,ne_eq,hne',hl5,Int.toNat_natCast,aH,aI,i1,Int.reduceLE,eq_self,not_false_eq_true]
   refine sI rfl ?_
   simp only [go_sem,f1,f2,hgi,hgt',hsi,hst,aM,aR,aY,bR,bv,bP,bw,bu,aX,bh,bn,aT,hne,ne_eq,hne',hl5,Int.toNat_natCast,aH,aI,i1,Int.reduceLE,eq_self,not_false_eq_true]
   simp (disch:=first|assumption|omega|(simp;done)|(simp;omega)|(simp only [bt,and_true];first|done|omega|(simp;done))) [↓zmk,beq,ybc,ybd,ybe,ae,wk,wk2,wk1,wkM,wkL,al,ybf,hcl2]
  ·rw [hs] at x2
   dsimp only at x2
   rw [u1,u2]
   obtain ⟨hlt1,so,hso⟩:=eN hs
   obtain ⟨o1,o2⟩:=l6 hso
   have hop:((op:Int) != 0)=true:=by simp;omega
   have hp2:dB ((H.set id (pst m l (p'+1) tb t')).set tb (.buf 7 t'.length)) id tb l (p'+1) t':=dt hpre' hlt1 (by omega) x5
   rcases aL x2 with ⟨q,h3,rfl⟩|⟨b,p2,t2,h3,h4⟩
   ·have h3':=bO (show g≤f by omega) h3
    simp only [go_sem,f1,f2,hgi,hgt',hsi,hst,aM,aR,aY,bR,bv,bP,bw,bu,aX,bh,bn,aT,hne,ne_eq,hne',hl5,Int.toNat_natCast,aH,aI,i1,Int.reduceLE,eq_self,not_false_eq_true,jZ,hop,hp2,h3']
    simp (disch:=first|assumption|omega|(simp;done)|(simp;omega)|(simp only [bt,and_true];first|done|omega|(simp;done))) [↓zmk,beq,ybc,ybd,ybe,ae,wk,wk2,wk1,wkM,wkL,al,ybf,fw hcl,zms,eG,dd_le1,dp]
   have h3':=bO (show g≤f by omega) h3
   obtain ⟨k1b,k2b,k3b,k4b,k5b,k6b⟩:=aQ _ h3 x5 trivial hlt1
   simp only [Rl.isL,Bool.false_eq_true,if_false] at k4b
   have ht2:t2.length≤100000:=by omega
   have hc3:=hcl2 (oph l p2) (t2++[⟨op,a',b,[],[],0⟩])
   rcases hev p2 with ⟨hs2,w1,w2⟩|⟨op2,hs2,w1,w2⟩
   all_goals
    simp only [go_sem,f1,f2,hgi,hgt',hsi,hst,aM,aR,aY,bR,bv,bP,bw,bu,aX,bh,bn,aT,hne,ne_eq,hne',hl5,Int.toNat_natCast,aH,aI,i1,Int.reduceLE,eq_self,not_false_eq_true,h9,dj,ig,fE,iJ,iq,jZ,hop,hp2,h3',ht2,k2b,hs2,lX,jB]
    refine ⟨(g,t2.length,p2,t2++[⟨op,a',b,[],[],0⟩]),⟨by dsimp only;omega,h4,k2b,by simp;omega,k5b.snoc ⟨(by show 1≤op;omega),o2⟩ (show (0:Nat)<2^128 by decide) (.inr ⟨by simp only;omega,by simp only;omega⟩),by simp⟩,by dsimp only;omega,?_⟩
    dsimp only
    rw [w1,w2]
    rw [w2] at hc3
    simp only [List.length_append,yaz,yba,Nat.zero_add] at hc3 ⊢
    (simp only [bkq,enterW,aS,ltF,ne_eq,Nat.reduceEqDiff,reduceCtorEq,hc3,hid];try simp (disch:=first|assumption|omega|(simp;done)|(simp;omega)|(simp only [bt,and_true];first|done|omega|(simp;done))) [↓zmk,beq,ybc,ybd,ybe,ae,wk,wk2,wk1,wkM,wkL,al,ybf,byq,biq,af,hcl,hc3,hid];try (repeat' (first|assumption|omega|exact True.intro|refine And.intro ?_ ?_|refine ag ?_|refine aa ?_|refine ac ?_ ?_|refine ah ?_ ?_|refine ai ?_|exact AHeap.Le.refl _|refine AHeap.Le.push ?_ _|refine AHeap.Le.del ?_ ?_|(simp only [bt,and_true,true_and,hc3,hid];first|done|omega|(simp;done)))))
theorem Bb {f:Nat} (h_yImp:EntOk Tryz.prog 99 (Ent.effect (fL f))):EntOk Tryz.prog 160 (Ent.effect (mr (f+1))):=by
 refine EntOk.effect fun args H K h=>?_
 unfold mr aT at h
 split at h
 rotate_left
 ·exact h.elim
 rename_i id
 obtain ⟨m,l,p,tb,t,hg,hpre,hK⟩:=h
 cases ho:run l (f+1) .atom p t with
 |none=>rw [ho] at hK;exact hK.elim
 |some r =>
 rw [ho,dx] at hK
 refine ⟨_,_,hK,?_⟩
 clear hK
 rw [run] at ho
 simp only [cA] at ho
 have hpre':=hpre
 obtain ⟨hne,htb,ht,hp,hl,hgl,hgt⟩:=hpre
 have hid:=AHeap.get_lt hg
 have htbl:=AHeap.get_lt htb
 have f1:=bz hid
 have f2:=bz htbl
 have hl5:l.length≤100000:=by omega
 have i1:=@Int.natCast_nonneg
 have hne':(id=tb)=False:=eq_false hne
 refine ACalls.fW aA (TblOk.cons ii (TblOk.cons h_yImp (TblOk.cons iy (TblOk.cons uF (TblOk.cons BL (TblOk.cons xV (TblOk.cons gm TblOk.nil))))))) Tryz.func160 [.tmp 2] nt (T:=au []) (h:=fun hcl hlt=>?_)
 clear hlt
 obtain ⟨hgi,hgt',hsi,hcl2,hst⟩:=eT hg hpre' hcl
 have hgi1:∀ X,(H.set id X).get id=some X:=fun X=>AHeap.get_set_same _ _ hid
 have hgt1:∀ X,(H.set id X).get tb=some (.buf 7 t.length):=fun X=>by rw [AHeap.get_set_ne _ _ (fun e=>hne e.symm)];exact htb
 have hss:∀ X Y,(H.set id X).set id Y=H.set id Y:=fun X Y=>by simp only [AHeap.set];congr 1;funext k;by_cases hk:k=id<;>simp [hk]
 have hcs:=aJ (cs:=[.slice m 3 (cb l),.int .i64 (p:Int),.slice (.own tb) 7 (nds t)]) hg
 have ht5:t.length≤100000:=by omega
 cases hs0:isS l p [40] with
 |true =>
  rw [hs0,if_pos rfl] at ho
  have hlt1:=ce hs0
  have hp2:dB (H.set id (pst m l (p+1) tb t)) id tb l (p+1) t:=gA hpre' hlt1 (by omega)
  rcases aL ho with ⟨q,h3,rfl⟩|⟨a,p1,t1,h3,h4⟩
  ·simp only [go_sem,f1,f2,hgi,hgt',hsi,hst,aM,aR,aY,bR,bv,bP,bw,bu,aX,bh,bn,aT,hne,ne_eq,hne',hl5,Int.toNat_natCast,aH,aI,i1,Int.reduceLE,eq_self,not_false_eq_true,fL,hg,hp,hs0,if_true,hgi1,hss,hp2,h3]
   simp (disch:=first|assumption|omega|(simp;done)|(simp;omega)|(simp only [bt,and_true];first|done|omega|(simp;done))) [↓zmk,beq,ybc,ybd,ybe,ae,wk,wk2,wk1,wkM,wkL,al,ybf,fw hcl,zms,eG,dd_le1,dp]
  obtain ⟨k1b,k2b,k3b,k4b,k5b,k6b⟩:=aQ _ h3 hgt trivial hlt1
  simp only [Rl.isL,Bool.false_eq_true,if_false] at k4b
  cases hs2:isS l p1 [41] with
  |true =>
   rw [hs2,if_pos rfl] at h4
   cases h4
   simp only [go_sem,f1,f2,hgi,hgt',hsi,hst,aM,aR,aY,bR,bv,bP,bw,bu,aX,bh,bn,aT,hne,ne_eq,hne',hl5,Int.toNat_natCast,aH,aI,i1,Int.reduceLE,eq_self,not_false_eq_true,fL,hg,hp,hs0,if_true,hgi1,hss,hp2,h3,k2b,hs2]
   simp (disch:=first|assumption|omega|(simp;done)|(simp;omega)|(simp only [bt,and_true];first|done|omega|(simp;done))) [↓zmk,beq,ybc,ybd,ybe,ae,wk,wk2,wk1,wkM,wkL,al,ybf,hcl2]
  |false =>
   rw [hs2,if_neg (by simp)] at h4
   cases h4
   simp only [go_sem,f1,f2,hgi,hgt',hsi,hst,aM,aR,aY,bR,bv,bP,bw,bu,aX,bh,bn,aT,hne,ne_eq,hne',hl5,Int.toNat_natCast,aH,aI,i1,Int.reduceLE,eq_self,not_false_eq_true,fL,c8,hg,hp,hs0,if_true,if_false,hgi1,hss,hp2,h3,k2b,hs2]
   simp (disch:=first|assumption|omega|(simp;done)|(simp;omega)|(simp only [bt,and_true];first|done|omega|(simp;done))) [↓zmk,beq,ybc,ybd,ybe,ae,wk,wk2,wk1,wkM,wkL,al,ybf,fw hcl,zms,eG,dd_le1,dp]
 |false =>
  rw [hs0,if_neg (by simp)] at ho
  cases ho
  by_cases hlt0:p<l.length
  ·rcases htk:l[p] with ⟨k,x,z⟩
   have hgd:=ja hlt0 htk
   have hge:l[p]?=some (k,x,z):=by rw [List.getElem?_eq_getElem hlt0,htk]
   have d0:decide ((p:Int)<(l.length:Int))=true:=by simp;omega
   by_cases hk1:k=1
   ·subst hk1
    have hka:lk l p=1:=by unfold lk;rw [hge]
    have hr:bY l p t=.ok t.length (p+1) (t++[⟨1,0,0,[],[],qn l p⟩]):=by unfold bY qn;rw [hge];rfl
    have hd1:(((1:Nat):Int)==1)=true:=rfl
    rw [hr]
    have hc3:=hcl2 (p+1) (t++[⟨1,0,0,[],[],qn l p⟩])
    simp only [go_sem,f1,f2,hgi,hgt',hsi,hst,aM,aR,aY,bR,bv,bP,bw,bu,aX,bh,bn,aT,hne,ne_eq,hne',hl5,Int.toNat_natCast,aH,aI,i1,Int.reduceLE,eq_self,not_false_eq_true,hg,hp,hs0,if_false,hcs,aE,hgd,d0,fO,cY,c8,eE,hp,hgi1,hgt1,hss,ht5,dO,dc,ek,bne_self_eq_false,beq_self_eq_true,hd1,hka,hpre']
    simp only [List.length_append,yaz,yba,Nat.zero_add] at hc3 ⊢
    refine ⟨by omega,?_⟩
    simp (disch:=first|assumption|omega|(simp;done)|(simp;omega)|(simp only [bt,and_true];first|done|omega|(simp;done))) [↓zmk,beq,ybc,ybd,ybe,ae,wk,wk2,wk1,wkM,wkL,al,ybf,hc3]
   ·have d1:((k:Int)==1)=false:=by simp;omega
    by_cases hk2:k=2
    ·subst hk2
     have hw:gf l p=some x:=by unfold gf;rw [hge];rfl
     have hd2:(((2:Nat):Int)==1)=false:=rfl
     by_cases hx1:x=nw
     ·have hr:bY l p t=.ok t.length (p+1) (t++[⟨2,0,0,[],[],1⟩]):=by unfold bY;rw [hge];simp [hx1]
      have htr:g9 x=.tup [ek 2 1,.bool true]:=by unfold g9;rw [if_pos hx1]
      rw [hr]
      have hc3:=hcl2 (p+1) (t++[⟨2,0,0,[],[],1⟩])
      simp only [go_sem,f1,f2,hgi,hgt',hsi,hst,aM,aR,aY,bR,bv,bP,bw,bu,aX,bh,bn,aT,hne,ne_eq,hne',hl5,Int.toNat_natCast,aH,aI,i1,Int.reduceLE,eq_self,not_false_eq_true,hg,hp,hs0,if_false,hcs,aE,hgd,d0,fO,cY,c8,eE,hp,hgi1,hgt1,hss,ht5,dO,dc,ek,bne_self_eq_false,beq_self_eq_true,hd2,hw,htr,Dk,Dl]
      simp only [List.length_append,yaz,yba,Nat.zero_add] at hc3 ⊢
      refine ⟨by omega,?_⟩
      simp (disch:=first|assumption|omega|(simp;done)|(simp;omega)|(simp only [bt,and_true];first|done|omega|(simp;done))) [↓zmk,beq,ybc,ybd,ybe,ae,wk,wk2,wk1,wkM,wkL,al,ybf,hc3]
     ·by_cases hx2:x=jv
      ·have hr:bY l p t=.ok t.length (p+1) (t++[⟨2,0,0,[],[],0⟩]):=by unfold bY;rw [hge];simp [hx1,hx2];decide
       have htr:g9 x=.tup [ek 2 0,.bool true]:=by unfold g9;rw [if_neg hx1,if_pos hx2]
       rw [hr]
       have hc3:=hcl2 (p+1) (t++[⟨2,0,0,[],[],0⟩])
       simp only [go_sem,f1,f2,hgi,hgt',hsi,hst,aM,aR,aY,bR,bv,bP,bw,bu,aX,bh,bn,aT,hne,ne_eq,hne',hl5,Int.toNat_natCast,aH,aI,i1,Int.reduceLE,eq_self,not_false_eq_true,hg,hp,hs0,if_false,hcs,aE,hgd,d0,fO,cY,c8,eE,hp,hgi1,hgt1,hss,ht5,dO,dc,ek,bne_self_eq_false,beq_self_eq_true,hd2,hw,htr]
       simp only [List.length_append,yaz,yba,Nat.zero_add] at hc3 ⊢
       refine ⟨by omega,?_⟩
       simp (disch:=first|assumption|omega|(simp;done)|(simp;omega)|(simp only [bt,and_true];first|done|omega|(simp;done))) [↓zmk,beq,ybc,ybd,ybe,ae,wk,wk2,wk1,wkM,wkL,al,ybf,hc3]
      ·have htr:g9 x=.tup [ek 0 0,.bool false]:=by unfold g9;rw [if_neg hx1,if_neg hx2]
       have hp1:p+1≤l.length:=by omega
       cases hs3:isS l (p+1) [58,58] with
       |false =>
        have hr:bY l p t=.ok t.length (p+1) (t++[⟨3,0,0,x,[],0⟩]):=by unfold bY;rw [hge];simp [hx1,hx2,hs3]
        rw [hr]
        have hc3:=hcl2 (p+1) (t++[⟨3,0,0,x,[],0⟩])
        simp only [go_sem,f1,f2,hgi,hgt',hsi,hst,aM,aR,aY,bR,bv,bP,bw,bu,aX,bh,bn,aT,hne,ne_eq,hne',hl5,Int.toNat_natCast,aH,aI,i1,Int.reduceLE,eq_self,not_false_eq_true,hg,hp,hs0,if_false,hcs,aE,hgd,d0,fO,cY,c8,eE,hp,hgi1,hgt1,hss,ht5,dO,dc,ek,bne_self_eq_false,beq_self_eq_true,hd2,hw,htr,hp1,hs3]
        simp only [List.length_append,yaz,yba,Nat.zero_add] at hc3 ⊢
        refine ⟨by omega,?_⟩
        simp (disch:=first|assumption|omega|(simp;done)|(simp;omega)|(simp only [bt,and_true];first|done|omega|(simp;done))) [↓zmk,beq,ybc,ybd,ybe,ae,wk,wk2,wk1,wkM,wkL,al,ybf,hc3]
       |true =>
        have hlt3:=ce hs3
        have hp2:p+1+1≤l.length:=by omega
        have hp3:p+2=p+1+1:=rfl
        cases hw2:gf l (p+1+1) with
        |none =>
         have hr:bY l p t=.bad (p+1+1):=by
          unfold bY;rw [hge];simp [hx1,hx2,hs3]
          unfold gf at hw2
          cases hge2:l[p+1+1]? with
          |none=>rfl
          |some v =>
           obtain ⟨k2,y,z2⟩:=v
           rw [hge2] at hw2
           dsimp only at hw2 ⊢
           split at hw2
           ·cases hw2
           ·rename_i hk;rw [if_neg hk]
         rw [hr]
         simp only [go_sem,f1,f2,hgi,hgt',hsi,hst,aM,aR,aY,bR,bv,bP,bw,bu,aX,bh,bn,aT,hne,ne_eq,hne',hl5,Int.toNat_natCast,aH,aI,i1,Int.reduceLE,eq_self,not_false_eq_true,hg,hp,hs0,if_false,hcs,aE,hgd,d0,fO,cY,c8,eE,hp,hgi1,hgt1,hss,ht5,dO,dc,ek,bne_self_eq_false,beq_self_eq_true,hd2,hw,htr,hp1,hs3,if_true,hp2,hw2]
         refine ⟨by omega,?_⟩
         simp (disch:=first|assumption|omega|(simp;done)|(simp;omega)|(simp only [bt,and_true];first|done|omega|(simp;done))) [↓zmk,beq,ybc,ybd,ybe,ae,wk,wk2,wk1,wkM,wkL,al,ybf,fw hcl,zms,eG,dd_le1,dp]
         exact (dd_le1.push _).push _
        |some y =>
         have hr:bY l p t=.ok t.length (p+1+1+1) (t++[⟨3,0,0,x,y,0⟩]):=by
          unfold bY;rw [hge];simp [hx1,hx2,hs3]
          unfold gf at hw2
          cases hge2:l[p+1+1]? with
          |none=>rw [hge2] at hw2;cases hw2
          |some v =>
           obtain ⟨k2,y2,z2⟩:=v
           rw [hge2] at hw2
           dsimp only at hw2 ⊢
           split at hw2
           ·rename_i hk;cases hw2;rw [if_pos hk]
           ·cases hw2
         rw [hr]
         have hc3:=hcl2 (p+1+1+1) (t++[⟨3,0,0,x,y,0⟩])
         simp only [go_sem,f1,f2,hgi,hgt',hsi,hst,aM,aR,aY,bR,bv,bP,bw,bu,aX,bh,bn,aT,hne,ne_eq,hne',hl5,Int.toNat_natCast,aH,aI,i1,Int.reduceLE,eq_self,not_false_eq_true,hg,hp,hs0,if_false,hcs,aE,hgd,d0,fO,cY,c8,eE,hp,hgi1,hgt1,hss,ht5,dO,dc,ek,bne_self_eq_false,beq_self_eq_true,hd2,hw,htr,hp1,hs3,if_true,hp2,hw2]
         simp only [List.length_append,yaz,yba,Nat.zero_add] at hc3 ⊢
         refine ⟨by omega,?_⟩
         simp (disch:=first|assumption|omega|(simp;done)|(simp;omega)|(simp only [bt,and_true];first|done|omega|(simp;done))) [↓zmk,beq,ybc,ybd,ybe,ae,wk,wk2,wk1,wkM,wkL,al,ybf,hc3]
    ·have hw:gf l p=none:=by unfold gf;rw [hge];dsimp only;rw [if_neg hk2]
     have hr:bY l p t=.bad p:=by unfold bY;rw [hge];simp [hk1,hk2]
     rw [hr]
     simp only [go_sem,f1,f2,hgi,hgt',hsi,hst,aM,aR,aY,bR,bv,bP,bw,bu,aX,bh,bn,aT,hne,ne_eq,hne',hl5,Int.toNat_natCast,aH,aI,i1,Int.reduceLE,eq_self,not_false_eq_true,hg,hp,hs0,if_false,hcs,aE,hgd,d0,fO,cY,c8,eE,hp,hgi1,hgt1,hss,ht5,dO,dc,ek,bne_self_eq_false,beq_self_eq_true,d1,hw]
     refine ⟨by omega,?_⟩
     simp (disch:=first|assumption|omega|(simp;done)|(simp;omega)|(simp only [bt,and_true];first|done|omega|(simp;done))) [↓zmk,beq,ybc,ybd,ybe,ae,wk,wk2,wk1,wkM,wkL,al,ybf,fw hcl,zms,eG,dd_le1,dp]
  ·have hpe:p=l.length:=by omega
   subst hpe
   have hge:l[l.length]?=none:=List.getElem?_eq_none (Nat.le_refl _)
   have hw:gf l l.length=none:=by unfold gf;rw [hge]
   have hr:bY l l.length t=.bad l.length:=by unfold bY;rw [hge]
   have d0:decide ((l.length:Int)<(l.length:Int))=false:=by simp
   rw [hr]
   simp only [go_sem,f1,f2,hgi,hgt',hsi,hst,aM,aR,aY,bR,bv,bP,bw,bu,aX,bh,bn,aT,hne,ne_eq,hne',hl5,Int.toNat_natCast,aH,aI,i1,Int.reduceLE,eq_self,not_false_eq_true,hg,hp,hs0,if_false,hcs,aE,d0,fO,cY,c8,eE,hp,hgi1,hgt1,hss,ht5,dO,dc,ek,bne_self_eq_false,beq_self_eq_true,hw,Nat.le_refl]
   simp (disch:=first|assumption|omega|(simp;done)|(simp;omega)|(simp only [bt,and_true];first|done|omega|(simp;done))) [↓zmk,beq,ybc,ybd,ybe,ae,wk,wk2,wk1,wkM,wkL,al,ybf,fw hcl,zms,eG,dd_le1,dp]
end Go.AL
