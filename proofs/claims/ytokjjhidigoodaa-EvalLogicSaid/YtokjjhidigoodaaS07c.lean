/- Contracts and plain laws, a part of the proof; no condition of its own. -/
import Derived.Test.YtokjjhidigoodaaE06
import Derived.Test.YtokjjhidigoodaaLSyn
set_option maxHeartbeats 32000000
open List renaming map_cons → yae, length_cons → yaz, length_nil → yba, take_of_length_le → ybc, drop_append → ybd, take_append → ybe, drop_eq_nil_of_le → ybf
open Go Go.AL Go.Proofs
namespace Go.AL
set_option linter.all false
set_option maxRecDepth 10000
theorem zN:ti Try.prog 113=some ⟨.struct [(0,3,false),(1,3,false),(2,3,false),(3,9,false),(4,9,false),(5,95,false)],7,72,.agg [.int .i64 0,.int .i64 0,.int .i64 0,.str [],.str [],.int .u64 0,.int .u64 0]⟩:=by kernel_rfl
theorem wO:ti Try.prog 73=some ⟨.slice 113,1,24,.slice .nil 1 []⟩:=by kernel_rfl
theorem uL:ti Try.prog 191=some ⟨.struct [(0,114,false),(1,3,false),(2,73,false)],3,56,.agg [.slice .nil 1 [],.int .i64 0,.slice .nil 1 []]⟩:=by kernel_rfl
theorem qP:ti Try.prog 212=some ⟨.struct [(0,3,false),(1,9,false)],2,24,.agg [.int .i64 0,.str []]⟩:=by kernel_rfl
theorem oM:ti Try.prog 209=some ⟨.slice 212,1,24,.slice .nil 1 []⟩:=by kernel_rfl
theorem wx:ti Try.prog 188=some ⟨.int .i64,1,8,.int .i64 0⟩:=by kernel_rfl
attribute [go_sem] zN wO uL qP oM wx
def kD (n:Nd):AV:=.agg [.int .i64 (n.op:Int),.int .i64 (n.a:Int),.int .i64 (n.b:Int),.str n.name,.str n.attr,.int .u64 ((n.v/2^64:Nat):Int),.int .u64 ((n.v % 2^64:Nat):Int)]
def nds (t:List Nd):List AV:=t.map kD
theorem aC {t:List Nd}:(nds t).length=t.length:=by simp [nds]
theorem vW {t:List Nd} {n:Nd}:nds t++[kD n]=nds (t++[n]):=by simp [nds]
theorem kw {n:Nat} {m:Mark} {t:List Nd}:AV.lt n (.slice m 7 (nds t))=∀ id,m=.own id→id<n:=by
 rw [AV.lt]
 refine propext ⟨fun h=>h.1,fun h=>⟨h,fun j hj=>?_⟩⟩
 simp only [nds,List.getElem_map,kD]
 simp [znn,znq,znr,znb,znd]
theorem rf {n:Nat} {m:Mark} {l:List Tok}:AV.lt n (.slice m 3 (cm l))=∀ id,m=.own id→id<n:=by
 rw [AV.lt]
 refine propext ⟨fun h=>h.1,fun h=>⟨h,fun j hj=>?_⟩⟩
 simp only [cm,List.getElem_map,pE]
 simp [znn,znq,znr,znb,znd]
theorem qq:∀ {l l':List Tok},cm l=cm l'→l=l'
 |[],[],_=>rfl
 |[],_::_,h=>by cases h
 |_::_,[],h=>by cases h
 |(a,b,c)::l,(a',b',c')::l',h=>by
  simp only [cm,yae,List.cons.injEq,pE,AV.agg.injEq,AV.int.injEq,AV.str.injEq,true_and,and_true] at h
  obtain ⟨⟨h1,h2,h3⟩,h4⟩:=h
  rw [qq h4]
  congr 1
  simp only [Prod.mk.injEq]
  exact ⟨by omega,h2,by omega⟩
theorem tX:∀ {l l':List Nd},nds l=nds l'→l=l'
 |[],[],_=>rfl
 |[],_::_,h=>by cases h
 |_::_,[],h=>by cases h
 |⟨a1,a2,a3,a4,a5,a6⟩::l,⟨b1,b2,b3,b4,b5,b6⟩::l',h=>by
  simp only [nds,yae,List.cons.injEq,kD,AV.agg.injEq,AV.int.injEq,AV.str.injEq,true_and,and_true] at h
  obtain ⟨⟨h1,h2,h3,h4,h5,h6,h7⟩,h8⟩:=h
  rw [tX h8]
  congr 1
  simp only [Nd.mk.injEq]
  exact ⟨by omega,by omega,by omega,h4,h5,by omega⟩
def o9 (v:AV) (Kp:AV→AHeap→Prop) (H:AHeap):Prop:=match v with
 |.iface t v=>Kp (.iface t v) H
 |_=>False
@[congr] theorem yR {v v':AV} {Kp:AV→AHeap→Prop} {H:AHeap} (h:v=v'):o9 v Kp H=o9 v' Kp H:=by rw [h]
theorem pm {t:TypeId} {v:AV} {Kp:AV→AHeap→Prop} {H:AHeap}:o9 (.iface t v) Kp H=Kp (.iface t v) H:=rfl
theorem xg {P:Program} {Ω:Tbl} {ops:Array Oper} {rest:List Oper} {K:Fr→AHeap→Prop} {Kp:Fr→AV→AHeap→Prop} {fr:Fr} {H:AHeap} {d:Option Tmp} {x:Operand} {t:TypeId} {pos:String} {aft:Array Edge} :
 aI P Ω ops (Oper.mk d (.panic x) t pos aft none::rest) K Kp fr H=o9 (ev fr x) (Kp fr) H:=(rfl)
/-- the parser in memory -/
def pst (m:Mark) (l:List Tok) (p tb:Nat) (t:List Nd):AObj:=.cells [.slice m 3 (cm l),.int .i64 (p:Int),.slice (.own tb) 7 (nds t)]
def onP (o:Option AObj) (K:Mark→List Tok→Nat→Nat→List Nd→Prop):Prop:=∃ m l p tb t,o=some (pst m l p tb t)∧K m l p tb t
@[congr] theorem BI {o o':Option AObj} {K:Mark→List Tok→Nat→Nat→List Nd→Prop} (h:o=o'):onP o K=onP o' K:=by rw [h]
theorem ar {m:Mark} {l:List Tok} {p tb:Nat} {t:List Nd} {K:Mark→List Tok→Nat→Nat→List Nd→Prop}:onP (some (pst m l p tb t)) K=K m l p tb t:=by
 refine propext ⟨fun ⟨m',l',p',tb',t',h,hk⟩=>?_,fun h=>⟨m,l,p,tb,t,rfl,h⟩⟩
 simp only [pst,Option.some.injEq,AObj.cells.injEq,List.cons.injEq,AV.slice.injEq,AV.int.injEq,Mark.own.injEq,true_and,and_true] at h
 obtain ⟨⟨rfl,h1⟩,h2,rfl,h3⟩:=h
 have:=qq h1
 have:=tX h3
 have:p=p':=by omega
 subst_vars
 exact hk
theorem nV {m:Mark} {l:List Tok} {p tb:Nat} {t:List Nd} {K:Mark→List Tok→Nat→Nat→List Nd→Prop}:onP (some (.cells [.slice m 3 (cm l),.int .i64 (p:Int),.slice (.own tb) 7 (nds t)])) K=K m l p tb t:=ar
def cz:List AV→AHeap→(AEnd→AHeap→Prop)→Prop
 |[.ptr id 0],H,K=>onP (H.get id) fun m l p tb t=>K (.panic (.iface 188 (.int .i64 (p:Int)))) H
 |_,_,_=>False
theorem gf:EntOk Try.prog 78 (Ent.effect cz):=by
 refine EntOk.effect fun args H K h=>?_
 unfold cz at h
 split at h
 rotate_left
 ·exact h.elim
 rename_i id
 obtain ⟨m,l,p,tb,t,hg,hK⟩:=h
 refine ⟨_,_,hK,?_⟩
 clear hK
 refine ACalls.fW ay TblOk.nil Try.func78 [] (Nat.le_refl _) (T:=ap []) (h:=fun hcl hlt=>?_)
 clear hlt
 have hcs:=ax (cs:=[.slice m 3 (cm l),.int .i64 (p:Int),.slice (.own tb) 7 (nds t)]) hg
 simp only [go_sem,hcs,↓xg,pm]
 simp (disch:=first|assumption|omega|(simp;done)|(simp;omega)|(simp only [bt,and_true];first|done|omega|(simp;done))) [↓zmk,beq,ybc,ybd,ybe,ae,wk,wk2,wk1,wkM,wkL,ai,ybf,hcl]
def aQ:List AV→AHeap→(AEnd→AHeap→Prop)→Prop
 |[.ptr id 0,.agg [.int .i64 op,.int .i64 a,.int .i64 b,.str nm,.str att,.int .u64 hi,.int .u64 lo]],H,K=>onP (H.get id) fun m l p tb t =>
   (0≤op∧0≤a∧0≤b∧xX hi lo∧id≠tb∧H.get tb=some (.buf 7 t.length)∧t.length≤100000) ∧
   K (.ret (.int .i64 (t.length:Int))) ((H.set id (pst m l p tb (t++[⟨op.toNat,a.toNat,b.toNat,nm,att,vOf hi.toNat lo.toNat⟩]))).set tb (.buf 7 (t.length+1)))
 |_,_,_=>False
theorem ew {H:AHeap} {id:Nat} {m:Mark} {l:List Tok} {p tb:Nat} {t:List Nd} (hg:H.get id=some (pst m l p tb t)) (hcl:H.Closed) (p':Nat) (t':List Nd):(H.set id (pst m l p' tb t')).Closed:=by
 have h0:=hcl id _ hg 0 (by simp)
 have h2:=hcl id _ hg 2 (by simp)
 simp only [List.getElem_cons_zero,List.getElem_cons_succ,rf,kw] at h0 h2
 refine ag hcl ?_
 simp only [znq,znr,rf,kw,znb,and_true,true_and]
 exact ⟨h0,h2⟩
theorem ki {H:AHeap} {i j:Nat} (h:i≠j) (o c:AObj):(H.set j o).set i c=(H.set i c).set j o:=by
 simp only [AHeap.set]
 congr 1
 funext k
 by_cases h1:k=i
 ·subst h1;simp [h]
 ·simp [h1]
theorem ce {H:AHeap} {i j:Nat} (h:i≠j) (o:AObj):am (H.set j o) i=am H i:=by
 unfold am;rw [AHeap.get_set_ne _ _ h]
theorem eW:EntOk Try.prog 92 (Ent.effect aQ):=by
 refine EntOk.effect fun args H K h=>?_
 unfold aQ at h
 split at h
 rotate_left
 ·exact h.elim
 rename_i id op a b nm att hi lo
 obtain ⟨m,l,p,tb,t,hg,⟨h1,h2,h3,⟨h4,h5,h6,h7⟩,hne,htb,htl⟩,hK⟩:=h
 refine ⟨_,_,hK,?_⟩
 clear hK
 obtain ⟨op,rfl⟩:=eK h1
 obtain ⟨a,rfl⟩:=eK h2
 obtain ⟨b,rfl⟩:=eK h3
 obtain ⟨hi,rfl⟩:=eK h4
 obtain ⟨lo,rfl⟩:=eK h6
 simp only [Int.toNat_natCast]
 refine ACalls.fW ay TblOk.nil Try.func92 [.tmp 4] (Nat.le_refl _) (T:=ap [(1,[[],[],[],[],[],[],[5],[4,5],[],[],[4,5]])]) (h:=fun hcl hlt=>?_)
 clear hlt
 have hid:=AHeap.get_lt hg
 have htbl:=AHeap.get_lt htb
 have hcs:=ax (cs:=[.slice m 3 (cm l),.int .i64 (p:Int),.slice (.own tb) 7 (nds t)]) hg
 have f1:=cj hid
 have f2:=cj htbl
 have g1:(id=tb)=False:=eq_false hne
 have g2:(tb=id)=False:=eq_false fun e=>hne e.symm
 have e1:nds t++[AV.agg [.int .i64 (op:Int),.int .i64 (a:Int),.int .i64 (b:Int),.str nm,.str att,.int .u64 (hi:Int),.int .u64 (lo:Int)]]=nds (t++[⟨op,a,b,nm,att,vOf hi lo⟩]):=by
  rw [← vW];unfold kD;simp only;rw [px (by omega),wl (by omega)]
 have e2:IntKind.i64.wrap (((t.length+1:Nat):Int) - 1)=(t.length:Int):=by rw [wrap_i64]<;>omega
 have hcl1:=ew hg hcl p (t++[⟨op,a,b,nm,att,vOf hi lo⟩])
 have hcl2:((H.set id (pst m l p tb (t++[⟨op,a,b,nm,att,vOf hi lo⟩]))).set tb (.buf 7 (t.length+1))).Closed:=aa hcl1
 have s1:=ki (H:=H) hne
 have s2:=fun o=>(ce (H:=H) hne o).trans hcs
 have s3:∀ o cs,am ((H.set id (.cells cs)).set tb o) id=some cs:=fun o cs=>by rw [ce hne,dx hid,if_pos rfl]
 simp only [go_sem,hcs,aC,f1,f2,g1,g2,htb,aR,if_pos htbl,e1,s1,s2,s3,e2,List.length_append]
 refine ⟨⟨by omega,by omega,by simp [aM,AV.cells,AV.one]⟩,?_⟩
 simp only [pst] at hcl2 ⊢
 simp (disch:=first|assumption|omega|(simp;done)|(simp;omega)|(simp only [bt,and_true];first|done|omega|(simp;done))) [↓zmk,beq,ybc,ybd,ybe,ae,wk,wk2,wk1,wkM,wkL,ai,ybf,hcl2,htbl,kw]
 trace_state
theorem AO {l:List Tok} {p k z:Nat} {x s:List UInt8} (hp:p<l.length) (h:l[p]=(k,x,z)):isS l p s=(k==3&&x==s):=by
 unfold isS;rw [List.getElem?_eq_getElem hp,h]
theorem zK {l:List Tok} {p:Nat} {s:List UInt8} (hp:l.length≤p):isS l p s=false:=by
 unfold isS;rw [List.getElem?_eq_none hp]
theorem lw {l:List Tok} {p k z:Nat} {x:List UInt8} (hp:p<l.length) (h:l[p]=(k,x,z)):(cm l).getD p .junk=.agg [.int .i64 (k:Int),.str x,.int .i64 (z:Int)]:=by
 rw [yc hp,h];rfl
def aN:List AV→AHeap→(AEnd→AHeap→Prop)→Prop
 |[.ptr id 0,.str s],H,K=>onP (H.get id) fun m l p tb t=>(p≤l.length∧l.length≤100000) ∧
   if isS l p s=true then K (.ret (.bool true)) (H.set id (pst m l (p+1) tb t)) else K (.ret (.bool false)) H
 |_,_,_=>False
theorem fq:EntOk Try.prog 91 (Ent.effect aN):=by
 refine EntOk.effect fun args H K h=>?_
 unfold aN at h
 split at h
 rotate_left
 ·exact h.elim
 rename_i id s
 obtain ⟨m,l,p,tb,t,hg,⟨hp,hl⟩,hK⟩:=h
 have hid:=AHeap.get_lt hg
 have hcs:=ax (cs:=[.slice m 3 (cm l),.int .i64 (p:Int),.slice (.own tb) 7 (nds t)]) hg
 have e1:IntKind.i64.wrap ((p:Int)+1)=((p+1:Nat):Int):=by rw [wrap_i64]<;>omega
 by_cases hlt0:p<l.length
 ·rcases htk:l[p] with ⟨k,x,z⟩
  have hgd:=lw hlt0 htk
  rw [AO hlt0 htk] at hK
  have d1:((p:Int)==(l.length:Int))=false:=by simp;omega
  by_cases hk:k=3
  ·subst hk
   by_cases hx:x=s
   ·subst hx
    simp only [beq_self_eq_true,Bool.and_self,if_true] at hK
    refine ⟨_,_,hK,?_⟩
    clear hK
    refine ACalls.fW ay TblOk.nil Try.func91 [.tmp 4] (Nat.le_refl _) (T:=ap []) (h:=fun hcl hlt=>?_)
    clear hlt
    have hcl1:=ew hg hcl (p+1) t
    simp only [go_sem,hcs,aS,hgd,d1,Int.toNat_natCast,e1,beq_self_eq_true,bne_self_eq_false]
    refine ⟨by omega,tG rfl ⟨by omega,?_⟩⟩
    change ae (H.set id (pst m l (p+1) tb t)) _ _ _
    simp (disch:=first|assumption|omega|(simp;done)|(simp;omega)|(simp only [bt,and_true];first|done|omega|(simp;done))) [↓zmk,beq,ybc,ybd,ybe,ae,wk,wk2,wk1,wkM,wkL,ai,ybf,hcl1]
   ·have d3:(x==s)=false:=by simpa using hx
    rw [d3,Bool.and_false,if_neg (by simp)] at hK
    refine ⟨_,_,hK,?_⟩
    clear hK
    refine ACalls.fW ay TblOk.nil Try.func91 [.tmp 4] (Nat.le_refl _) (T:=ap []) (h:=fun hcl hlt=>?_)
    clear hlt
    simp only [go_sem,hcs,aS,hgd,d1,d3,Int.toNat_natCast,e1,beq_self_eq_true,bne_self_eq_false]
    refine ⟨by omega,tG rfl ⟨by omega,?_⟩⟩
    simp (disch:=first|assumption|omega|(simp;done)|(simp;omega)|(simp only [bt,and_true];first|done|omega|(simp;done))) [↓zmk,beq,ybc,ybd,ybe,ae,wk,wk2,wk1,wkM,wkL,ai,ybf,hcl]
  ·have d3:(k==3)=false:=by simpa using hk
   rw [d3,Bool.false_and,if_neg (by simp)] at hK
   refine ⟨_,_,hK,?_⟩
   clear hK
   refine ACalls.fW ay TblOk.nil Try.func91 [.tmp 4] (Nat.le_refl _) (T:=ap []) (h:=fun hcl hlt=>?_)
   clear hlt
   have d4:((k:Int) != 3)=true:=by simp;omega
   simp only [go_sem,hcs,aS,hgd,d1,d4,Int.toNat_natCast,e1,beq_self_eq_true,bne_self_eq_false]
   refine ⟨by omega,?_⟩
   simp (disch:=first|assumption|omega|(simp;done)|(simp;omega)|(simp only [bt,and_true];first|done|omega|(simp;done))) [↓zmk,beq,ybc,ybd,ybe,ae,wk,wk2,wk1,wkM,wkL,ai,ybf,hcl]
 ·have hpe:p=l.length:=by omega
  subst hpe
  rw [zK (Nat.le_refl _),if_neg (by simp)] at hK
  refine ⟨_,_,hK,?_⟩
  clear hK
  refine ACalls.fW ay TblOk.nil Try.func91 [.tmp 4] (Nat.le_refl _) (T:=ap []) (h:=fun hcl hlt=>?_)
  clear hlt
  simp only [go_sem,hcs,aS,beq_self_eq_true]
  simp (disch:=first|assumption|omega|(simp;done)|(simp;omega)|(simp only [bt,and_true];first|done|omega|(simp;done))) [↓zmk,beq,ybc,ybd,ybe,ae,wk,wk2,wk1,wkM,wkL,ai,ybf,hcl]
def hG (l:List Tok) (p:Nat):Option (List UInt8):=match l[p]? with
 |none=>none
 |some (k,x,_)=>if k=2 then some x else none
def onW (o:Option (List UInt8)) (K1:List UInt8→Prop) (K2:Prop):Prop:=match o with
 |some x=>K1 x
 |none=>K2
@[congr] theorem BP {o o':Option (List UInt8)} {K1:List UInt8→Prop} {K2:Prop} (h:o=o'):onW o K1 K2=onW o' K1 K2:=by rw [h]
theorem dZ {x:List UInt8} {K1:List UInt8→Prop} {K2:Prop}:onW (some x) K1 K2=K1 x:=rfl
theorem dq {K1:List UInt8→Prop} {K2:Prop}:onW none K1 K2=K2:=rfl
def eG:List AV→AHeap→(AEnd→AHeap→Prop)→Prop
 |[.ptr id 0,.int .i64 kd],H,K=>onP (H.get id) fun m l p tb t=>(kd=2∧p≤l.length∧l.length≤100000) ∧
   onW (hG l p) (fun x=>K (.ret (.str x)) (H.set id (pst m l (p+1) tb t))) (K (.panic (.iface 188 (.int .i64 (p:Int)))) H)
 |_,_,_=>False
theorem v5:EntOk Try.prog 104 (Ent.effect eG):=by
 refine EntOk.effect fun args H K h=>?_
 unfold eG at h
 split at h
 rotate_left
 ·exact h.elim
 rename_i id kd
 obtain ⟨m,l,p,tb,t,hg,⟨rfl,hp,hl⟩,hK⟩:=h
 have hid:=AHeap.get_lt hg
 have hcs:=ax (cs:=[.slice m 3 (cm l),.int .i64 (p:Int),.slice (.own tb) 7 (nds t)]) hg
 have e1:IntKind.i64.wrap ((p:Int)+1)=((p+1:Nat):Int):=by rw [wrap_i64]<;>omega
 have e2:IntKind.i64.wrap (((p+1:Nat):Int) - 1)=(p:Int):=by rw [wrap_i64]<;>omega
 unfold hG at hK
 by_cases hlt0:p<l.length
 ·rcases htk:l[p] with ⟨k,x,z⟩
  have hgd:=lw hlt0 htk
  rw [List.getElem?_eq_getElem hlt0,htk] at hK
  dsimp only at hK
  have d1:((p:Int)==(l.length:Int))=false:=by simp;omega
  by_cases hk:k=2
  ·subst hk
   rw [if_pos rfl,dZ] at hK
   refine ⟨_,_,hK,?_⟩
   clear hK
   refine ACalls.fW ay (TblOk.cons gf TblOk.nil) Try.func104 [.tmp 4] (by simp [zlb]) (T:=ap []) (h:=fun hcl hlt=>?_)
   clear hlt
   have hcl1:=ew hg hcl (p+1) t
   simp only [go_sem,hcs,aS,hgd,d1,Int.toNat_natCast,e1,e2,dx hid,beq_self_eq_true,bne_self_eq_false]
   refine ⟨by omega,p8 rfl ?_⟩
   simp only [go_sem,hcs,aS,hgd,d1,Int.toNat_natCast,e1,e2,dx hid,beq_self_eq_true,bne_self_eq_false]
   refine ⟨by omega,?_⟩
   change ae (H.set id (pst m l (p+1) tb t)) _ _ _
   simp (disch:=first|assumption|omega|(simp;done)|(simp;omega)|(simp only [bt,and_true];first|done|omega|(simp;done))) [↓zmk,beq,ybc,ybd,ybe,ae,wk,wk2,wk1,wkM,wkL,ai,ybf,hcl1]
  ·have d3:(k==2)=false:=by simpa using hk
   rw [if_neg hk,dq] at hK
   refine ⟨_,_,hK,?_⟩
   clear hK
   refine ACalls.fW ay (TblOk.cons gf TblOk.nil) Try.func104 [.tmp 4] (Nat.le_refl _) (T:=ap []) (h:=fun hcl hlt=>?_)
   clear hlt
   have d4:((k:Int) != 2)=true:=by simp;omega
   simp only [go_sem,hcs,aS,hgd,d1,d4,Int.toNat_natCast,e1,cz,hg,ar]
   refine ⟨by omega,?_⟩
   simp (disch:=first|assumption|omega|(simp;done)|(simp;omega)|(simp only [bt,and_true];first|done|omega|(simp;done))) [↓zmk,beq,ybc,ybd,ybe,ae,wk,wk2,wk1,wkM,wkL,ai,ybf,hcl]
 ·have hpe:p=l.length:=by omega
  subst hpe
  rw [List.getElem?_eq_none (Nat.le_refl _)] at hK
  dsimp only at hK
  rw [dq] at hK
  refine ⟨_,_,hK,?_⟩
  clear hK
  refine ACalls.fW ay (TblOk.cons gf TblOk.nil) Try.func104 [.tmp 4] (Nat.le_refl _) (T:=ap []) (h:=fun hcl hlt=>?_)
  clear hlt
  simp only [go_sem,hcs,aS,beq_self_eq_true,cz,hg,ar]
  simp (disch:=first|assumption|omega|(simp;done)|(simp;omega)|(simp only [bt,and_true];first|done|omega|(simp;done))) [↓zmk,beq,ybc,ybd,ybe,ae,wk,wk2,wk1,wkM,wkL,ai,ybf,hcl]
def ef (l:List (Nat × List UInt8)):List AV:=l.map fun o=>.agg [.int .i64 (o.1:Int),.str o.2]
theorem dW {l:List (Nat × List UInt8)}:(ef l).length=l.length:=by simp [ef]
theorem nQ:∀ {l l':List (Nat × List UInt8)},ef l=ef l'→l=l'
 |[],[],_=>rfl
 |[],_::_,h=>by cases h
 |_::_,[],h=>by cases h
 |(a,b)::l,(a',b')::l',h=>by
  simp only [ef,yae,List.cons.injEq,AV.agg.injEq,AV.int.injEq,AV.str.injEq,true_and,and_true] at h
  obtain ⟨⟨h1,h2⟩,h4⟩:=h
  rw [nQ h4]
  congr 1
  simp only [Prod.mk.injEq]
  exact ⟨by omega,h2⟩
theorem ck {n:Nat} {l:List (Nat × List UInt8)}:AV.lt n (.slice .any 2 (ef l)):=eM fun x hx=>by
 simp only [ef,List.mem_map] at hx
 obtain ⟨o,_,rfl⟩:=hx
 simp [znn,znq,znr,znb,znd]
theorem zP:[AV.agg [.int .i64 8,.str [61,61]],.agg [.int .i64 9,.str [33,61]],.agg [.int .i64 10,.str [60]],.agg [.int .i64 11,.str [60,61]],.agg [.int .i64 12,.str [62]],.agg [.int .i64 13,.str [62,61]]]=ef opsC:=rfl
theorem yW:[AV.agg [.int .i64 6,.str [43]],.agg [.int .i64 7,.str [45]]]=ef opsS:=rfl
def cH:List AV→AHeap→(AV→Prop)→Prop
 |[],_,K=>K (.slice .any 2 (ef opsC))
 |_,_,_=>False
theorem pi:EntOk Try.prog 99 (Ent.pure cH):=by
 refine EntOk.pure fun args H K h=>?_
 unfold cH at h
 split at h
 rotate_left
 ·exact h.elim
 refine ⟨_,h,?_⟩
 clear h
 refine ACalls.fW ay TblOk.nil Try.func99 [.tmp 0] (Nat.le_refl _) (T:=ap []) (h:=fun hcl hlt=>?_)
 clear hlt
 simp only [go_sem,zP]
 simp (disch:=first|assumption|omega|(simp;done)|(simp;omega)|(simp only [bt,and_true];first|done|omega|(simp;done))) [↓zmk,beq,ybc,ybd,ybe,ae,wk,wk2,wk1,wkM,wkL,ai,ybf,hcl,ck]
def fI:List AV→AHeap→(AV→Prop)→Prop
 |[],_,K=>K (.slice .any 2 (ef opsS))
 |_,_,_=>False
theorem xH:EntOk Try.prog 101 (Ent.pure fI):=by
 refine EntOk.pure fun args H K h=>?_
 unfold fI at h
 split at h
 rotate_left
 ·exact h.elim
 refine ⟨_,h,?_⟩
 clear h
 refine ACalls.fW ay TblOk.nil Try.func101 [.tmp 0] (Nat.le_refl _) (T:=ap []) (h:=fun hcl hlt=>?_)
 clear hlt
 simp only [go_sem,yW]
 simp (disch:=first|assumption|omega|(simp;done)|(simp;omega)|(simp only [bt,and_true];first|done|omega|(simp;done))) [↓zmk,beq,ybc,ybd,ybe,ae,wk,wk2,wk1,wkM,wkL,ai,ybf,hcl,ck]
def z8 (x:List AV) (K:List (Nat × List UInt8)→Prop):Prop:=∃ l,x=ef l∧K l
theorem eA {l:List (Nat × List UInt8)} {K:List (Nat × List UInt8)→Prop}:z8 (ef l) K=K l :=
 propext ⟨fun ⟨l',h,hk⟩=>by rw [nQ h];exact hk,fun h=>⟨l,rfl,h⟩⟩
def onN (o:Option Nat) (K1:Nat→Prop) (K2:Prop):Prop:=match o with
 |some x=>K1 x
 |none=>K2
@[congr] theorem BL {o o':Option Nat} {K1:Nat→Prop} {K2:Prop} (h:o=o'):onN o K1 K2=onN o' K1 K2:=by rw [h]
theorem im {x:Nat} {K1:Nat→Prop} {K2:Prop}:onN (some x) K1 K2=K1 x:=rfl
theorem ju {K1:Nat→Prop} {K2:Prop}:onN none K1 K2=K2:=rfl
def fB:List AV→AHeap→(AEnd→AHeap→Prop)→Prop
 |[.ptr id 0,.slice _ 2 x],H,K=>onP (H.get id) fun m l p tb t=>z8 x fun ops=>(p≤l.length∧l.length≤100000∧ops.length≤100) ∧
   onN (cE l p ops) (fun k=>K (.ret (.int .i64 (k:Int))) (H.set id (pst m l (p+1) tb t))) (K (.ret (.int .i64 0)) H)
 |_,_,_=>False
theorem oD {l:List (Nat × List UInt8)} {k:Nat} (h:k<l.length):(ef l).getD k .junk=.agg [.int .i64 (l[k].1:Int),.str l[k].2]:=by simp [ef,List.getD_eq_getElem?_getD,h]
theorem qc:EntOk Try.prog 98 (Ent.effect fB):=by
 refine EntOk.effect fun args H K h=>?_
 unfold fB at h
 split at h
 rotate_left
 ·exact h.elim
 rename_i id mo x
 obtain ⟨m,l,p,tb,t,hg,ops,rfl,⟨hp,hl,ho⟩,hK⟩:=h
 have hid:=AHeap.get_lt hg
 have f1:=cj hid
 cases hop:cE l p ops with
 |some k =>
  rw [hop,im] at hK
  refine ⟨_,_,hK,?_⟩
  clear hK
  refine ACalls.fW ay (TblOk.cons fq TblOk.nil) Try.func98 [.tmp 4] (by simp [zlb]) (T:=ap []) (h:=fun hcl hlt=>?_)
  have hltm:∀ n',H.nx≤n'→AV.lt n' (.slice .any 2 (ef ops)):=fun n' _=>ck
  clear hlt
  have hcl1:=ew hg hcl (p+1) t
  simp only [go_sem,dW]
  refine aJ (A:=Nat) (fun i=>[(9,.int .i64 (i:Int)),(8,.int .i64 (ops.length:Int)),(7,.slice .any 2 (ef ops)),(0,.ptr id 0)]) (fun _=>H) (fun i=>i≤ops.length∧cE l p (ops.drop i)=some k) (fun i=>ops.length - i) 0 ⟨by omega,hop⟩ ?_ fun i hi=>?_
  ·(simp only [bkq,enterW,bn,ltF,ne_eq,Nat.reduceEqDiff,reduceCtorEq,ck,hid];try simp (disch:=first|assumption|omega|(simp;done)|(simp;omega)|(simp only [bt,and_true];first|done|omega|(simp;done))) [↓zmk,beq,ybc,ybd,ybe,ae,wk,wk2,wk1,wkM,wkL,ai,ybf,byq,biq,ak,hcl,ck,hid];try (repeat' (first|assumption|omega|exact True.intro|refine And.intro ?_ ?_|refine af ?_|refine aa ?_|refine ac ?_ ?_|refine ag ?_ ?_|refine ah ?_|exact AHeap.Le.refl _|refine AHeap.Le.push ?_ _|refine AHeap.Le.del ?_ ?_|(simp only [bt,and_true,true_and,ck,hid];first|done|omega|(simp;done)))))
  obtain ⟨hi,hop'⟩:=hi
  simp only [go_sem]
  refine al (fun h1=>?_) (fun h1=>?_)
  ·have hi1:i<ops.length:=by simp at h1;omega
   have e5:IntKind.i64.wrap ((i:Int)+1)=((i+1:Nat):Int):=by rw [wrap_i64]<;>omega
   have hgo:=oD hi1
   rw [List.drop_eq_getElem_cons hi1] at hop'
   rcases hok:ops[i] with ⟨ko,so⟩
   rw [hok] at hop' hgo
   unfold cE at hop'
   by_cases hs:isS l p so=true
   ·rw [if_pos hs] at hop'
    cases hop'
    simp only [go_sem,Int.toNat_natCast,dW,hgo,aN,f1,hg,ar,hs,if_true,hp,hl]
    refine ⟨by omega,?_⟩
    simp (disch:=first|assumption|omega|(simp;done)|(simp;omega)|(simp only [bt,and_true];first|done|omega|(simp;done))) [↓zmk,beq,ybc,ybd,ybe,ae,wk,wk2,wk1,wkM,wkL,ai,ybf,hcl1]
   ·rw [if_neg hs] at hop'
    have hs':isS l p so=false:=by simpa using hs
    simp only [go_sem,Int.toNat_natCast,dW,hgo,aN,f1,hg,ar,hs',if_false,hp,hl,e5]
    refine ⟨by omega,i+1,⟨by omega,hop'⟩,by omega,?_⟩
    (simp only [bkq,enterW,bn,ltF,ne_eq,Nat.reduceEqDiff,reduceCtorEq,ck,hid];try simp (disch:=first|assumption|omega|(simp;done)|(simp;omega)|(simp only [bt,and_true];first|done|omega|(simp;done))) [↓zmk,beq,ybc,ybd,ybe,ae,wk,wk2,wk1,wkM,wkL,ai,ybf,byq,biq,ak,hcl,ck,hid];try (repeat' (first|assumption|omega|exact True.intro|refine And.intro ?_ ?_|refine af ?_|refine aa ?_|refine ac ?_ ?_|refine ag ?_ ?_|refine ah ?_|exact AHeap.Le.refl _|refine AHeap.Le.push ?_ _|refine AHeap.Le.del ?_ ?_|(simp only [bt,and_true,true_and,ck,hid];first|done|omega|(simp;done)))))
  ·exfalso
   have hi1:ops.length≤i:=by simp at h1;omega
   rw [ybf hi1] at hop'
   cases hop'
 |none =>
  rw [hop,ju] at hK
  refine ⟨_,_,hK,?_⟩
  clear hK
  refine ACalls.fW ay (TblOk.cons fq TblOk.nil) Try.func98 [.tmp 4] (Nat.le_refl _) (T:=ap []) (h:=fun hcl hlt=>?_)
  clear hlt
  simp only [go_sem,dW]
  refine aJ (A:=Nat) (fun i=>[(9,.int .i64 (i:Int)),(8,.int .i64 (ops.length:Int)),(7,.slice .any 2 (ef ops)),(0,.ptr id 0)]) (fun _=>H) (fun i=>i≤ops.length∧cE l p (ops.drop i)=none) (fun i=>ops.length - i) 0 ⟨by omega,hop⟩ ?_ fun i hi=>?_
  ·(simp only [bkq,enterW,bn,ltF,ne_eq,Nat.reduceEqDiff,reduceCtorEq,ck,hid];try simp (disch:=first|assumption|omega|(simp;done)|(simp;omega)|(simp only [bt,and_true];first|done|omega|(simp;done))) [↓zmk,beq,ybc,ybd,ybe,ae,wk,wk2,wk1,wkM,wkL,ai,ybf,byq,biq,ak,hcl,ck,hid];try (repeat' (first|assumption|omega|exact True.intro|refine And.intro ?_ ?_|refine af ?_|refine aa ?_|refine ac ?_ ?_|refine ag ?_ ?_|refine ah ?_|exact AHeap.Le.refl _|refine AHeap.Le.push ?_ _|refine AHeap.Le.del ?_ ?_|(simp only [bt,and_true,true_and,ck,hid];first|done|omega|(simp;done)))))
  obtain ⟨hi,hop'⟩:=hi
  simp only [go_sem]
  refine al (fun h1=>?_) (fun h1=>?_)
  ·have hi1:i<ops.length:=by simp at h1;omega
   have e5:IntKind.i64.wrap ((i:Int)+1)=((i+1:Nat):Int):=by rw [wrap_i64]<;>omega
   have hgo:=oD hi1
   rw [List.drop_eq_getElem_cons hi1] at hop'
   rcases hok:ops[i] with ⟨ko,so⟩
   rw [hok] at hop' hgo
   unfold cE at hop'
   by_cases hs:isS l p so=true
   ·rw [if_pos hs] at hop';cases hop'
   ·rw [if_neg hs] at hop'
    have hs':isS l p so=false:=by simpa using hs
    simp only [go_sem,Int.toNat_natCast,dW,hgo,aN,f1,hg,ar,hs',if_false,hp,hl,e5]
    refine ⟨by omega,i+1,⟨by omega,hop'⟩,by omega,?_⟩
    (simp only [bkq,enterW,bn,ltF,ne_eq,Nat.reduceEqDiff,reduceCtorEq,ck,hid];try simp (disch:=first|assumption|omega|(simp;done)|(simp;omega)|(simp only [bt,and_true];first|done|omega|(simp;done))) [↓zmk,beq,ybc,ybd,ybe,ae,wk,wk2,wk1,wkM,wkL,ai,ybf,byq,biq,ak,hcl,ck,hid];try (repeat' (first|assumption|omega|exact True.intro|refine And.intro ?_ ?_|refine af ?_|refine aa ?_|refine ac ?_ ?_|refine ag ?_ ?_|refine ah ?_|exact AHeap.Le.refl _|refine AHeap.Le.push ?_ _|refine AHeap.Le.del ?_ ?_|(simp only [bt,and_true,true_and,ck,hid];first|done|omega|(simp;done)))))
  ·simp only [go_sem]
   simp (disch:=first|assumption|omega|(simp;done)|(simp;omega)|(simp only [bt,and_true];first|done|omega|(simp;done))) [↓zmk,beq,ybc,ybd,ybe,ae,wk,wk2,wk1,wkM,wkL,ai,ybf,hcl]
end Go.AL
open Go Go.AL Go.Proofs
namespace Go.AL
set_option linter.all false
set_option maxRecDepth 10000
def c5 (op v:Int):AV:=.agg [.int .i64 op,.int .i64 0,.int .i64 0,.str [],.str [],.int .u64 0,.int .u64 v]
def fD (s:List UInt8):AV:=if s=fR then .tup [c5 2 1,.bool true] else if s=ei then .tup [c5 2 0,.bool true] else .tup [c5 0 0,.bool false]
def kG:List AV→AHeap→(AV→Prop)→Prop
 |[.int .u64 n],_,K=>K (.agg [.int .u64 0,.int .u64 n])
 |_,_,_=>False
theorem kb:EntOk Try.prog 36 (Ent.pure kG):=by
 refine EntOk.pure fun args H K h=>?_
 unfold kG at h
 split at h
 rotate_left
 ·exact h.elim
 rename_i n
 refine ⟨_,h,?_⟩
 clear h
 refine ACalls.fW ay TblOk.nil Try.func36 [.cell 2 95] (Nat.le_refl _) (T:=ap []) (h:=fun hcl hlt=>?_)
 clear hlt
 simp only [go_sem]
 simp (disch:=first|assumption|omega|(simp;done)|(simp;omega)|(simp only [bt,and_true];first|done|omega|(simp;done))) [↓zmk,beq,ybc,ybd,ybe,ae,wk,wk2,wk1,wkM,wkL,ai,ybf,hcl]
def dm:List AV→AHeap→(AV→Prop)→Prop
 |[.str s],_,K=>K (fD s)
 |_,_,_=>False
theorem vS:EntOk Try.prog 105 (Ent.pure dm):=by
 refine EntOk.pure fun args H K h=>?_
 unfold dm at h
 split at h
 rotate_left
 ·exact h.elim
 rename_i s
 refine ⟨_,h,?_⟩
 clear h
 unfold fD
 by_cases h1:s=fR
 ·rw [if_pos h1]
  subst h1
  refine ACalls.fW ay (TblOk.cons kb TblOk.nil) Try.func105 [.cell 2 113,.tmp 3] (Nat.le_refl _) (T:=ap []) (h:=fun hcl hlt=>?_)
  clear hlt
  have d1:(fR==[116,114,117,101])=true:=by decide
  simp only [go_sem,kG,d1,zkz]
  simp (disch:=first|assumption|omega|(simp;done)|(simp;omega)|(simp only [bt,and_true];first|done|omega|(simp;done))) [↓zmk,beq,ybc,ybd,ybe,ae,wk,wk2,wk1,wkM,wkL,ai,ybf,hcl,c5]
 ·rw [if_neg h1]
  have d1:(s==[116,114,117,101])=false:=by simpa [fR] using h1
  by_cases h2:s=ei
  ·rw [if_pos h2]
   subst h2
   refine ACalls.fW ay (TblOk.cons kb TblOk.nil) Try.func105 [.cell 2 113,.tmp 3] (Nat.le_refl _) (T:=ap []) (h:=fun hcl hlt=>?_)
   clear hlt
   have d2:(ei==[102,97,108,115,101])=true:=by decide
   simp only [go_sem,kG,d1,d2,zkz]
   simp (disch:=first|assumption|omega|(simp;done)|(simp;omega)|(simp only [bt,and_true];first|done|omega|(simp;done))) [↓zmk,beq,ybc,ybd,ybe,ae,wk,wk2,wk1,wkM,wkL,ai,ybf,hcl,c5]
  ·rw [if_neg h2]
   have d2:(s==[102,97,108,115,101])=false:=by simpa [ei] using h2
   refine ACalls.fW ay (TblOk.cons kb TblOk.nil) Try.func105 [.cell 2 113,.tmp 3] (Nat.le_refl _) (T:=ap []) (h:=fun hcl hlt=>?_)
   clear hlt
   simp only [go_sem,kG,d1,d2,zkz]
   simp (disch:=first|assumption|omega|(simp;done)|(simp;omega)|(simp only [bt,and_true];first|done|omega|(simp;done))) [↓zmk,beq,ybc,ybd,ybe,ae,wk,wk2,wk1,wkM,wkL,ai,ybf,hcl,c5]
def k7 (l:List Tok):Prop:=∀ x∈l,x.2.1.length≤1000∧(x.1=1→(lit x.2.1).isSome=true)
def fm (H:AHeap) (id tb:Nat) (l:List Tok) (p:Nat) (t:List Nd):Prop:=id≠tb∧H.get tb=some (.buf 7 t.length)∧t.length≤p∧p≤l.length∧l.length≤1000∧k7 l∧Good t
theorem cP {H:AHeap} {id tb p p':Nat} {m:Mark} {l:List Tok} {t t':List Nd} (h:fm H id tb l p t) (hp:p'≤l.length) (ht:t'.length≤p') (hg:Good t'):fm ((H.set id (pst m l p' tb t')).set tb (.buf 7 t'.length)) id tb l p' t':=by
 obtain ⟨h1,h2,h3,h4,h5,h6,h7⟩:=h
 have htb:=AHeap.get_lt h2
 refine ⟨h1,?_,ht,hp,h5,h6,hg⟩
 rw [aR,if_pos rfl,if_pos (by simpa [zlb] using htb)]
theorem km {H:AHeap} {id tb p p':Nat} {o:AObj} {l:List Tok} {t:List Nd} (h:fm H id tb l p t) (hp:p'≤l.length) (ht:t.length≤p'):fm (H.set id o) id tb l p' t:=by
 obtain ⟨h1,h2,h3,h4,h5,h6,h7⟩:=h
 refine ⟨h1,?_,ht,hp,h5,h6,h7⟩
 rw [AHeap.get_set_ne _ _ (fun e=>h1 e.symm)];exact h2
def mT (l:List Tok) (p:Nat):Nat:=match l[p]? with
 |none=>0
 |some (k,_,_)=>k
def nM (l:List Tok) (p:Nat):Nat:=match l[p]? with
 |none=>0
 |some (_,x,_)=>(lit x).getD 0
def cu:List AV→AHeap→(AEnd→AHeap→Prop)→Prop
 |[.ptr id 0],H,K=>onP (H.get id) fun m l p tb t=>(fm H id tb l p t∧mT l p=1) ∧
   K (.ret (.int .i64 (t.length:Int))) ((H.set id (pst m l (p+1) tb (t++[⟨1,0,0,[],[],nM l p⟩]))).set tb (.buf 7 (t.length+1)))
 |_,_,_=>False
theorem qj:EntOk Try.prog 103 (Ent.effect cu):=by
 refine EntOk.effect fun args H K h=>?_
 unfold cu at h
 split at h
 rotate_left
 ·exact h.elim
 rename_i id
 obtain ⟨m,l,p,tb,t,hg,⟨⟨hne,htb,ht,hp,hl,hgl,hgt⟩,hk⟩,hK⟩:=h
 have hid:=AHeap.get_lt hg
 have htbl:=AHeap.get_lt htb
 have hcs:=ax (cs:=[.slice m 3 (cm l),.int .i64 (p:Int),.slice (.own tb) 7 (nds t)]) hg
 have f1:=cj hid
 have f2:=cj htbl
 have g1:(id=tb)=False:=eq_false hne
 have g2:(tb=id)=False:=eq_false fun e=>hne e.symm
 have e1:IntKind.i64.wrap ((p:Int)+1)=((p+1:Nat):Int):=by rw [wrap_i64]<;>omega
 have hlt0:p<l.length:=by
  rcases Nat.lt_or_ge p l.length with h1|h1
  ·exact h1
  ·unfold mT at hk;rw [List.getElem?_eq_none h1] at hk;cases hk
 rcases htk:l[p] with ⟨k,x,z⟩
 have hgd:=lw hlt0 htk
 have hk1:k=1:=by unfold mT at hk;rw [List.getElem?_eq_getElem hlt0,htk] at hk;exact hk
 subst hk1
 have hla:nM l p=(lit x).getD 0:=by unfold nM;rw [List.getElem?_eq_getElem hlt0,htk]
 rw [hla] at hK
 obtain ⟨hxl,hxs⟩:=hgl l[p] (List.getElem_mem hlt0)
 rw [htk] at hxl hxs
 dsimp only at hxl hxs
 obtain ⟨n,hn⟩:=Option.isSome_iff_exists.1 (hxs rfl)
 have hn128:=wT hn
 rw [hn] at hK
 dsimp only [Option.getD_some] at hK
 refine ⟨_,_,hK,?_⟩
 clear hK
 refine ACalls.fW ay (TblOk.cons kL (TblOk.cons gf (TblOk.cons nZ (TblOk.cons eW TblOk.nil)))) Try.func103 [.tmp 2] (Nat.le_refl _) (T:=ap [(1,[[],[],[],[],[],[],[],[],[],[],[],[3,7,10],[],[],[],[],[3,7,10,11]])]) (h:=fun hcl hlt=>?_)
 clear hlt
 have hxl':x.length≤140737488355328:=by omega
 have hv:fY (n:Int)=.tup [.agg [.int .u64 ((n/2^64:Nat):Int),.int .u64 ((n % 2^64:Nat):Int)],.bool true]:=by
  unfold fY
  rw [if_pos ⟨Int.natCast_nonneg n,Int.lt_of_lt_of_le (Int.ofNat_lt.2 hn128) (by decide)⟩]
  rfl
 have hn1:isN (n:Int):=⟨Int.le_trans (by decide) (Int.natCast_nonneg n),Int.lt_of_lt_of_le (Int.ofNat_lt.2 hn128) (by decide)⟩
 have hvo:vOf (n/2^64) (n % 2^64)=n:=xD n
 have hlo:n/2^64<18446744073709551616:=by omega
 have hlo2:n % 2^64<18446744073709551616:=by omega
 have hx1:(id=H.nx)=False:=eq_false (by omega)
 have s1:=ki (H:=H) hne
 simp only [go_sem,hcs,aS,hgd,Int.toNat_natCast,e1,gF,hxl',ln,hn,hx1,nAV]
 simp only [fl]
 refine ⟨by omega,n,⟨rfl,hn1⟩,?_⟩
 rw [hv]
 have hn0:(0≤n/2^64):=Nat.zero_le _
 generalize hw0:w0 (n:Int)=y0
 generalize hw1:w1 (n:Int)=y1
 generalize hw2:w2 (n:Int)=y2
 have hgi:∀ o,(H.set id o).get id=some o:=fun o=>AHeap.get_set_same _ _ hid
 have hgt:∀ o,(H.set id o).get tb=some (.buf 7 t.length):=fun o=>by rw [AHeap.get_set_ne _ _ (fun e=>hne e.symm)];exact htb
 have hcl1:=ew hg hcl (p+1) (t++[⟨1,0,0,[],[],n⟩])
 have hcl2:((H.set id (pst m l (p+1) tb (t++[⟨1,0,0,[],[],n⟩]))).set tb (.buf 7 (t.length+1))).Closed:=aa hcl1
 simp only [oR,go_sem,hcs,Int.toNat_natCast,e1,hx1,f1,f2,g1,g2,dx hid,aQ,hgi,hgt,nV,hvo]
 refine ⟨⟨by decide,by decide,by decide,⟨by omega,by omega,by omega,by omega⟩,by omega⟩,?_⟩
 simp (disch:=first|assumption|omega|(simp;done)|(simp;omega)|(simp only [bt,and_true];first|done|omega|(simp;done))) [↓zmk,beq,ybc,ybd,ybe,ae,wk,wk2,wk1,wkM,wkL,ai,ybf,hcl2]
/-! ### The rules -/
def uK (m:Mark) (l:List Tok) (tb id:Nat) (H:AHeap) (K:AEnd→AHeap→Prop) (o:Option PR):Prop:=match o with
 |none=>False
 |some (.ok a p t)=>K (.ret (.int .i64 (a:Int))) ((H.set id (pst m l p tb t)).set tb (.buf 7 t.length))
 |some (.bad p)=>K (.panic (.iface 188 (.int .i64 (p:Int)))) ((H.del id).del tb)
@[congr] theorem Bl {m:Mark} {l:List Tok} {tb id:Nat} {H:AHeap} {K:AEnd→AHeap→Prop} {o o':Option PR} (h:o=o'):uK m l tb id H K o=uK m l tb id H K o':=by rw [h]
theorem aH {m:Mark} {l:List Tok} {tb id a p:Nat} {t:List Nd} {H:AHeap} {K:AEnd→AHeap→Prop}:uK m l tb id H K (some (.ok a p t))=K (.ret (.int .i64 (a:Int))) ((H.set id (pst m l p tb t)).set tb (.buf 7 t.length)):=rfl
theorem aB {m:Mark} {l:List Tok} {tb id p:Nat} {H:AHeap} {K:AEnd→AHeap→Prop}:uK m l tb id H K (some (.bad p))=K (.panic (.iface 188 (.int .i64 (p:Int)))) ((H.del id).del tb):=rfl
def aD (rl:Rl) (f:Nat):List AV→AHeap→(AEnd→AHeap→Prop)→Prop
 |[.ptr id 0],H,K=>onP (H.get id) fun m l p tb t=>fm H id tb l p t∧uK m l tb id H K (run l f rl p t)
 |_,_,_=>False
theorem aV {H:AHeap} {i j:Nat} {x y:AObj}:(((H.set i x).set j y).del i).del j=(H.del i).del j:=by
 simp only [AHeap.set,AHeap.del]
 congr 1
 funext k
 by_cases h1:k=j
 ·simp [h1]
 ·by_cases h2:k=i
  ·simp [h1,h2]
  ·simp [h1,h2]
theorem aG {H:AHeap} {i j:Nat} {x:AObj}:((H.set i x).del i).del j=(H.del i).del j:=by
 simp only [AHeap.set,AHeap.del]
 congr 1
 funext k
 by_cases h1:k=j
 ·simp [h1]
 ·by_cases h2:k=i
  ·simp [h1,h2]
  ·simp [h1,h2]
theorem dn {H:AHeap} {i j:Nat}:((H.del i).del j).Le H:=⟨Nat.le_refl _,fun k x hk=>by
 rw [dr] at hk
 split at hk
 ·cases hk
 ·rw [dr] at hk
  split at hk
  ·cases hk
  ·exact hk⟩
theorem cM {H:AHeap} {i j:Nat} {x y:AObj}:((H.del i).del j).Le ((H.set i x).set j y):=by
 have:=dn (H:=(H.set i x).set j y) (i:=i) (j:=j)
 rwa [aV] at this
theorem dd_le1 {H:AHeap} {i j:Nat} {x:AObj}:((H.del i).del j).Le (H.set i x):=by
 have:=dn (H:=H.set i x) (i:=i) (j:=j)
 rwa [aG] at this
theorem dT {H:AHeap} {i j:Nat} (h:H.Closed):((H.del i).del j).Closed:=ah (ah h)
theorem dH {H:AHeap} {id tb p:Nat} {m:Mark} {l:List Tok} {t:List Nd} (hg:H.get id=some (pst m l p tb t)) (h:fm H id tb l p t) (hcl:H.Closed) :
 (∀ X Y,((H.set id X).set tb Y).get id=some X)∧(∀ X Y,((H.set id X).set tb Y).get tb=some Y)∧(∀ X Y Z,((H.set id X).set tb Y).set id Z=(H.set id Z).set tb Y) ∧
   (∀ p' t',((H.set id (pst m l p' tb t')).set tb (.buf 7 t'.length)).Closed)∧(∀ X Y Z,((H.set id X).set tb Y).set tb Z=(H.set id X).set tb Z):=by
 obtain ⟨h1,h2,h3,h4,h5,h6,h7⟩:=h
 have hid:=AHeap.get_lt hg
 have htb:=AHeap.get_lt h2
 refine ⟨fun X Y=>?_,fun X Y=>?_,fun X Y Z=>?_,fun p' t'=>aa (ew hg hcl p' t'),fun X Y Z=>?_⟩
 ·rw [AHeap.get_set_ne _ _ h1];exact AHeap.get_set_same _ _ hid
 ·exact AHeap.get_set_same _ _ (by simpa [zlb] using htb)
 ·rw [ki h1];congr 1;simp only [AHeap.set];congr 1;funext k;by_cases hk:k=id<;>simp [hk]
 ·simp only [AHeap.set];congr 1;funext k;by_cases hk:k=tb<;>simp [hk]
end Go.AL
open Go Go.AL Go.Proofs
namespace Go.AL
set_option linter.all false
set_option maxRecDepth 10000
def eC (f:Nat):=aD .imp f
def k8 (f:Nat):=aD .or f
def hJ (f:Nat):=aD .and f
def fg (f:Nat):=aD .not f
def mg (f:Nat):=aD .cmp f
def hZ (f:Nat):=aD .sum f
def ik (f:Nat):=aD .un f
def jZ (f:Nat):=aD .atom f
def xR:PR→AEnd
 |.ok a _ _=>.ret (.int .i64 (a:Int))
 |.bad p=>.panic (.iface 188 (.int .i64 (p:Int)))
def HR (m:Mark) (l:List Tok) (tb id:Nat) (H:AHeap):PR→AHeap
 |.ok _ p t=>(H.set id (pst m l p tb t)).set tb (.buf 7 t.length)
 |.bad _=>(H.del id).del tb
theorem bv {a p:Nat} {t:List Nd}:xR (.ok a p t)=.ret (.int .i64 (a:Int)):=rfl
theorem aX {p:Nat}:xR (.bad p)=.panic (.iface 188 (.int .i64 (p:Int))):=rfl
theorem bu {m:Mark} {l:List Tok} {tb id a p:Nat} {t:List Nd} {H:AHeap}:HR m l tb id H (.ok a p t)=(H.set id (pst m l p tb t)).set tb (.buf 7 t.length):=rfl
theorem aY {m:Mark} {l:List Tok} {tb id p:Nat} {H:AHeap}:HR m l tb id H (.bad p)=(H.del id).del tb:=rfl
theorem cR {m:Mark} {l:List Tok} {tb id:Nat} {H:AHeap} {K:AEnd→AHeap→Prop} {r:PR}:uK m l tb id H K (some r)=K (xR r) (HR m l tb id H r):=by cases r<;>rfl
theorem kU {m:Mark} {l:List Tok} {tb id:Nat} {H:AHeap} {r:PR}:H.nx≤(HR m l tb id H r).nx:=by cases r<;>exact Nat.le_refl _
theorem fX:(opsC.length≤100)=True:=eq_true (by decide)
theorem fT:(opsS.length≤100)=True:=eq_true (by decide)
def opv (l:List Tok) (p:Nat):Nat:=(cE l p opsS).getD 0
def oph (l:List Tok) (p:Nat):Nat:=if (cE l p opsS).isSome then p+1 else p
theorem Cv:vOf 0 1=1:=rfl
theorem BZ:xX 0 1=True:=eq_true (by unfold xX;decide)
theorem bq:vOf 0 0=0:=rfl
theorem br:xX 0 0=True:=eq_true (by unfold xX;decide)
theorem y7 {f:Nat} (h_yOr:EntOk Try.prog 90 (Ent.effect (k8 f))) (h_yImp:EntOk Try.prog 77 (Ent.effect (eC f))):EntOk Try.prog 77 (Ent.effect (eC (f+1))):=by
 refine EntOk.effect fun args H K h=>?_
 unfold eC aD at h
 split at h
 rotate_left
 ·exact h.elim
 rename_i id
 obtain ⟨m,l,p,tb,t,hg,hpre,hK⟩:=h
 cases ho:run l (f+1) .imp p t with
 |none=>rw [ho] at hK;exact hK.elim
 |some r =>
 rw [ho,cR] at hK
 refine ⟨_,_,hK,?_⟩
 clear hK
 rw [run] at ho
 simp only [aO] at ho
 have hpre':=hpre
 obtain ⟨hne,htb,ht,hp,hl,hgl,hgt⟩:=hpre
 have hid:=AHeap.get_lt hg
 have htbl:=AHeap.get_lt htb
 have f1:=cj hid
 have f2:=cj htbl
 have hl5:l.length≤100000:=by omega
 have i1:=@Int.natCast_nonneg
 have hne':(id=tb)=False:=eq_false hne
 refine ACalls.fW ay (TblOk.cons h_yOr (TblOk.cons fq (TblOk.cons h_yImp (TblOk.cons eW TblOk.nil)))) Try.func77 [.tmp 2] kU (T:=ap []) (h:=fun hcl hlt=>?_)
 clear hlt
 obtain ⟨hgi,hgt',hsi,hcl2,hst⟩:=dH hg hpre' hcl
 rcases aF ho with ⟨q,h1,rfl⟩|⟨a,p1,t1,h1,h2⟩
 ·simp only [go_sem,f1,f2,hgi,hgt',hsi,hst,ar,aB,aH,bv,aX,bu,aY,aV,aG,aN,aQ,aD,hne,ne_eq,hne',hl5,Int.toNat_natCast,bq,br,i1,Int.reduceLE,eq_self,not_false_eq_true,k8,hg,hpre',h1]
  simp (disch:=first|assumption|omega|(simp;done)|(simp;omega)|(simp only [bt,and_true];first|done|omega|(simp;done))) [↓zmk,beq,ybc,ybd,ybe,ae,wk,wk2,wk1,wkM,wkL,ai,ybf,dT hcl,zms,dn,dd_le1,cM]
 clear ho
 obtain ⟨k1,k2,k3,k4,k5,k6⟩:=aP _ h1 hgt trivial hp
 simp only [Rl.isL,Bool.false_eq_true,if_false] at k4
 have hp1:fm ((H.set id (pst m l p1 tb t1)).set tb (.buf 7 t1.length)) id tb l p1 t1:=cP hpre' k2 (by omega) k5
 cases hs:isS l p1 [45,62] with
 |false =>
  rw [hs,if_neg (by simp)] at h2
  cases h2
  simp only [go_sem,f1,f2,hgi,hgt',hsi,hst,ar,aB,aH,bv,aX,bu,aY,aV,aG,aN,aQ,aD,hne,ne_eq,hne',hl5,Int.toNat_natCast,bq,br,i1,Int.reduceLE,eq_self,not_false_eq_true,k8,hg,hpre',h1,k2,hs,if_false]
  simp (disch:=first|assumption|omega|(simp;done)|(simp;omega)|(simp only [bt,and_true];first|done|omega|(simp;done))) [↓zmk,beq,ybc,ybd,ybe,ae,wk,wk2,wk1,wkM,wkL,ai,ybf,hcl2]
 |true =>
  rw [hs,if_pos rfl] at h2
  have hlt1:=bw hs
  have hp2:fm ((H.set id (pst m l (p1+1) tb t1)).set tb (.buf 7 t1.length)) id tb l (p1+1) t1:=cP hpre' hlt1 (by omega) k5
  rcases aF h2 with ⟨q,h3,rfl⟩|⟨b,p2,t2,h3,h4⟩
  ·simp only [go_sem,f1,f2,hgi,hgt',hsi,hst,ar,aB,aH,bv,aX,bu,aY,aV,aG,aN,aQ,aD,hne,ne_eq,hne',hl5,Int.toNat_natCast,bq,br,i1,Int.reduceLE,eq_self,not_false_eq_true,k8,eC,hg,hpre',h1,k2,hs,if_true,hp2,h3]
   simp (disch:=first|assumption|omega|(simp;done)|(simp;omega)|(simp only [bt,and_true];first|done|omega|(simp;done))) [↓zmk,beq,ybc,ybd,ybe,ae,wk,wk2,wk1,wkM,wkL,ai,ybf,dT hcl,zms,dn,dd_le1,cM]
  cases h4
  obtain ⟨k1b,k2b,k3b,k4b,k5b,k6b⟩:=aP _ h3 k5 trivial hlt1
  simp only [Rl.isL,Bool.false_eq_true,if_false] at k4b
  have ht2:t2.length≤100000:=by omega
  simp only [go_sem,f1,f2,hgi,hgt',hsi,hst,ar,aB,aH,bv,aX,bu,aY,aV,aG,aN,aQ,aD,hne,ne_eq,hne',hl5,Int.toNat_natCast,bq,br,i1,Int.reduceLE,eq_self,not_false_eq_true,k8,eC,hg,hpre',h1,k2,hs,if_true,hp2,h3,ht2,nd2]
  have hc3:=hcl2 p2 (t2++[⟨16,a,b,[],[],0⟩])
  simp only [List.length_append,yaz,yba,Nat.zero_add] at hc3 ⊢
  simp (disch:=first|assumption|omega|(simp;done)|(simp;omega)|(simp only [bt,and_true];first|done|omega|(simp;done))) [↓zmk,beq,ybc,ybd,ybe,ae,wk,wk2,wk1,wkM,wkL,ai,ybf,hc3]
theorem Bp {f:Nat} (h_yAnd:EntOk Try.prog 94 (Ent.effect (hJ f))):EntOk Try.prog 90 (Ent.effect (k8 (f+1))):=by
 refine EntOk.effect fun args H K h=>?_
 unfold k8 aD at h
 split at h
 rotate_left
 ·exact h.elim
 rename_i id
 obtain ⟨m,l,p,tb,t,hg,hpre,hK⟩:=h
 cases ho:run l (f+1) .or p t with
 |none=>rw [ho] at hK;exact hK.elim
 |some r =>
 rw [ho,cR] at hK
 refine ⟨_,_,hK,?_⟩
 clear hK
 rw [run] at ho
 simp only [aO] at ho
 have hpre':=hpre
 obtain ⟨hne,htb,ht,hp,hl,hgl,hgt⟩:=hpre
 have hid:=AHeap.get_lt hg
 have htbl:=AHeap.get_lt htb
 have f1:=cj hid
 have f2:=cj htbl
 have hl5:l.length≤100000:=by omega
 have i1:=@Int.natCast_nonneg
 have hne':(id=tb)=False:=eq_false hne
 refine ACalls.fW ay (TblOk.cons h_yAnd (TblOk.cons fq (TblOk.cons eW TblOk.nil))) Try.func90 [.tmp 2] kU (T:=ap []) (h:=fun hcl hlt=>?_)
 clear hlt
 obtain ⟨hgi,hgt',hsi,hcl2,hst⟩:=dH hg hpre' hcl
 rcases aF ho with ⟨q,h1,rfl⟩|⟨a,p1,t1,h1,h2⟩
 ·simp only [go_sem,f1,f2,hgi,hgt',hsi,hst,ar,aB,aH,bv,aX,bu,aY,aV,aG,aN,aQ,aD,hne,ne_eq,hne',hl5,Int.toNat_natCast,bq,br,i1,Int.reduceLE,eq_self,not_false_eq_true,hJ,hg,hpre',h1]
  simp (disch:=first|assumption|omega|(simp;done)|(simp;omega)|(simp only [bt,and_true];first|done|omega|(simp;done))) [↓zmk,beq,ybc,ybd,ybe,ae,wk,wk2,wk1,wkM,wkL,ai,ybf,dT hcl,zms,dn,dd_le1,cM]
 clear ho
 obtain ⟨k1,k2,k3,k4,k5,k6⟩:=aP _ h1 hgt trivial hp
 simp only [Rl.isL,Bool.false_eq_true,if_false] at k4
 have hp1:fm ((H.set id (pst m l p1 tb t1)).set tb (.buf 7 t1.length)) id tb l p1 t1:=cP hpre' k2 (by omega) k5
 simp only [go_sem,f1,f2,hgi,hgt',hsi,hst,ar,aB,aH,bv,aX,bu,aY,aV,aG,aN,aQ,aD,hne,ne_eq,hne',hl5,Int.toNat_natCast,bq,br,i1,Int.reduceLE,eq_self,not_false_eq_true,hJ,hg,hpre',h1]
 refine aJ (A:=Nat × Nat × Nat × List Nd) (fun x=>[(0,.ptr id 0),(3,.int .i64 (x.2.1:Int))]) (fun x=>(H.set id (pst m l x.2.2.1 tb x.2.2.2)).set tb (.buf 7 x.2.2.2.length))
  (fun x=>x.1≤f∧run l x.1 (.orL x.2.1) x.2.2.1 x.2.2.2=some r∧x.2.2.1≤l.length∧x.2.2.2.length≤x.2.2.1∧Good x.2.2.2∧x.2.1<x.2.2.2.length) (fun x=>x.1) (f,a,p1,t1) ⟨Nat.le_refl _,h2,k2,by dsimp only;omega,k5,k1⟩ ?_ fun x hx=>?_
 ·(simp only [bkq,enterW,bn,ltF,ne_eq,Nat.reduceEqDiff,reduceCtorEq,hcl2,hid];try simp (disch:=first|assumption|omega|(simp;done)|(simp;omega)|(simp only [bt,and_true];first|done|omega|(simp;done))) [↓zmk,beq,ybc,ybd,ybe,ae,wk,wk2,wk1,wkM,wkL,ai,ybf,byq,biq,ak,hcl,hcl2,hid];try (repeat' (first|assumption|omega|exact True.intro|refine And.intro ?_ ?_|refine af ?_|refine aa ?_|refine ac ?_ ?_|refine ag ?_ ?_|refine ah ?_|exact AHeap.Le.refl _|refine AHeap.Le.push ?_ _|refine AHeap.Le.del ?_ ?_|(simp only [bt,and_true,true_and,hcl2,hid];first|done|omega|(simp;done)))))
 obtain ⟨g,a',p',t'⟩:=x
 obtain ⟨x1,x2,x3,x4,x5,x6⟩:=hx
 dsimp only at x1 x2 x3 x4 x5 x6 ⊢
 have ht':t'.length≤100000:=by omega
 have hpx:fm ((H.set id (pst m l p' tb t')).set tb (.buf 7 t'.length)) id tb l p' t':=cP hpre' x3 x4 x5
 cases g with
 |zero=>cases x2
 |succ g =>
 rw [run] at x2
 simp only [aO] at x2
 cases hs:isS l p' [124,124] with
 |false =>
  rw [hs,if_neg (by simp)] at x2
  cases x2
  simp only [go_sem,f1,f2,hgi,hgt',hsi,hst,ar,aB,aH,bv,aX,bu,aY,aV,aG,aN,aQ,aD,hne,ne_eq,hne',hl5,Int.toNat_natCast,bq,br,i1,Int.reduceLE,eq_self,not_false_eq_true,x3,hs,if_false]
  simp (disch:=first|assumption|omega|(simp;done)|(simp;omega)|(simp only [bt,and_true];first|done|omega|(simp;done))) [↓zmk,beq,ybc,ybd,ybe,ae,wk,wk2,wk1,wkM,wkL,ai,ybf,hcl2]
 |true =>
  rw [hs,if_pos rfl] at x2
  have hlt1:=bw hs
  have hp2:fm ((H.set id (pst m l (p'+1) tb t')).set tb (.buf 7 t'.length)) id tb l (p'+1) t':=cP hpre' hlt1 (by omega) x5
  rcases aF x2 with ⟨q,h3,rfl⟩|⟨b,p2,t2,h3,h4⟩
  ·have h3':=bG (show g≤f by omega) h3
   simp only [go_sem,f1,f2,hgi,hgt',hsi,hst,ar,aB,aH,bv,aX,bu,aY,aV,aG,aN,aQ,aD,hne,ne_eq,hne',hl5,Int.toNat_natCast,bq,br,i1,Int.reduceLE,eq_self,not_false_eq_true,hJ,x3,hs,if_true,hp2,h3']
   simp (disch:=first|assumption|omega|(simp;done)|(simp;omega)|(simp only [bt,and_true];first|done|omega|(simp;done))) [↓zmk,beq,ybc,ybd,ybe,ae,wk,wk2,wk1,wkM,wkL,ai,ybf,dT hcl,zms,dn,dd_le1,cM]
  have h3':=bG (show g≤f by omega) h3
  obtain ⟨k1b,k2b,k3b,k4b,k5b,k6b⟩:=aP _ h3 x5 trivial hlt1
  simp only [Rl.isL,Bool.false_eq_true,if_false] at k4b
  have ht2:t2.length≤100000:=by omega
  simp only [go_sem,f1,f2,hgi,hgt',hsi,hst,ar,aB,aH,bv,aX,bu,aY,aV,aG,aN,aQ,aD,hne,ne_eq,hne',hl5,Int.toNat_natCast,bq,br,i1,Int.reduceLE,eq_self,not_false_eq_true,hJ,x3,hs,if_true,hp2,h3',ht2]
  have hc3:=hcl2 p2 (t2++[⟨15,a',b,[],[],0⟩])
  refine ⟨(g,t2.length,p2,t2++[⟨15,a',b,[],[],0⟩]),⟨by dsimp only;omega,h4,k2b,by simp;omega,k5b.snoc ⟨(show 1≤15 by decide),(show 15≤16 by decide)⟩ (show (0:Nat)<2^128 by decide) (.inr ⟨by simp only;omega,by simp only;omega⟩),by simp⟩,by dsimp only;omega,?_⟩
  simp only [List.length_append,yaz,yba,Nat.zero_add] at hc3 ⊢
  (simp only [bkq,enterW,bn,ltF,ne_eq,Nat.reduceEqDiff,reduceCtorEq,hc3,hid];try simp (disch:=first|assumption|omega|(simp;done)|(simp;omega)|(simp only [bt,and_true];first|done|omega|(simp;done))) [↓zmk,beq,ybc,ybd,ybe,ae,wk,wk2,wk1,wkM,wkL,ai,ybf,byq,biq,ak,hcl,hc3,hid];try (repeat' (first|assumption|omega|exact True.intro|refine And.intro ?_ ?_|refine af ?_|refine aa ?_|refine ac ?_ ?_|refine ag ?_ ?_|refine ah ?_|exact AHeap.Le.refl _|refine AHeap.Le.push ?_ _|refine AHeap.Le.del ?_ ?_|(simp only [bt,and_true,true_and,hc3,hid];first|done|omega|(simp;done)))))
theorem zo {f:Nat} (h_yNot:EntOk Try.prog 95 (Ent.effect (fg f))):EntOk Try.prog 94 (Ent.effect (hJ (f+1))):=by
 refine EntOk.effect fun args H K h=>?_
 unfold hJ aD at h
 split at h
 rotate_left
 ·exact h.elim
 rename_i id
 obtain ⟨m,l,p,tb,t,hg,hpre,hK⟩:=h
 cases ho:run l (f+1) .and p t with
 |none=>rw [ho] at hK;exact hK.elim
 |some r =>
 rw [ho,cR] at hK
 refine ⟨_,_,hK,?_⟩
 clear hK
 rw [run] at ho
 simp only [aO] at ho
 have hpre':=hpre
 obtain ⟨hne,htb,ht,hp,hl,hgl,hgt⟩:=hpre
 have hid:=AHeap.get_lt hg
 have htbl:=AHeap.get_lt htb
 have f1:=cj hid
 have f2:=cj htbl
 have hl5:l.length≤100000:=by omega
 have i1:=@Int.natCast_nonneg
 have hne':(id=tb)=False:=eq_false hne
 refine ACalls.fW ay (TblOk.cons h_yNot (TblOk.cons fq (TblOk.cons eW TblOk.nil))) Try.func94 [.tmp 2] kU (T:=ap []) (h:=fun hcl hlt=>?_)
 clear hlt
 obtain ⟨hgi,hgt',hsi,hcl2,hst⟩:=dH hg hpre' hcl
 rcases aF ho with ⟨q,h1,rfl⟩|⟨a,p1,t1,h1,h2⟩
 ·simp only [go_sem,f1,f2,hgi,hgt',hsi,hst,ar,aB,aH,bv,aX,bu,aY,aV,aG,aN,aQ,aD,hne,ne_eq,hne',hl5,Int.toNat_natCast,bq,br,i1,Int.reduceLE,eq_self,not_false_eq_true,fg,hg,hpre',h1]
  simp (disch:=first|assumption|omega|(simp;done)|(simp;omega)|(simp only [bt,and_true];first|done|omega|(simp;done))) [↓zmk,beq,ybc,ybd,ybe,ae,wk,wk2,wk1,wkM,wkL,ai,ybf,dT hcl,zms,dn,dd_le1,cM]
 clear ho
 obtain ⟨k1,k2,k3,k4,k5,k6⟩:=aP _ h1 hgt trivial hp
 simp only [Rl.isL,Bool.false_eq_true,if_false] at k4
 have hp1:fm ((H.set id (pst m l p1 tb t1)).set tb (.buf 7 t1.length)) id tb l p1 t1:=cP hpre' k2 (by omega) k5
 simp only [go_sem,f1,f2,hgi,hgt',hsi,hst,ar,aB,aH,bv,aX,bu,aY,aV,aG,aN,aQ,aD,hne,ne_eq,hne',hl5,Int.toNat_natCast,bq,br,i1,Int.reduceLE,eq_self,not_false_eq_true,fg,hg,hpre',h1]
 refine aJ (A:=Nat × Nat × Nat × List Nd) (fun x=>[(0,.ptr id 0),(3,.int .i64 (x.2.1:Int))]) (fun x=>(H.set id (pst m l x.2.2.1 tb x.2.2.2)).set tb (.buf 7 x.2.2.2.length))
  (fun x=>x.1≤f∧run l x.1 (.andL x.2.1) x.2.2.1 x.2.2.2=some r∧x.2.2.1≤l.length∧x.2.2.2.length≤x.2.2.1∧Good x.2.2.2∧x.2.1<x.2.2.2.length) (fun x=>x.1) (f,a,p1,t1) ⟨Nat.le_refl _,h2,k2,by dsimp only;omega,k5,k1⟩ ?_ fun x hx=>?_
 ·(simp only [bkq,enterW,bn,ltF,ne_eq,Nat.reduceEqDiff,reduceCtorEq,hcl2,hid];try simp (disch:=first|assumption|omega|(simp;done)|(simp;omega)|(simp only [bt,and_true];first|done|omega|(simp;done))) [↓zmk,beq,ybc,ybd,ybe,ae,wk,wk2,wk1,wkM,wkL,ai,ybf,byq,biq,ak,hcl,hcl2,hid];try (repeat' (first|assumption|omega|exact True.intro|refine And.intro ?_ ?_|refine af ?_|refine aa ?_|refine ac ?_ ?_|refine ag ?_ ?_|refine ah ?_|exact AHeap.Le.refl _|refine AHeap.Le.push ?_ _|refine AHeap.Le.del ?_ ?_|(simp only [bt,and_true,true_and,hcl2,hid];first|done|omega|(simp;done)))))
 obtain ⟨g,a',p',t'⟩:=x
 obtain ⟨x1,x2,x3,x4,x5,x6⟩:=hx
 dsimp only at x1 x2 x3 x4 x5 x6 ⊢
 have ht':t'.length≤100000:=by omega
 have hpx:fm ((H.set id (pst m l p' tb t')).set tb (.buf 7 t'.length)) id tb l p' t':=cP hpre' x3 x4 x5
 cases g with
 |zero=>cases x2
 |succ g =>
 rw [run] at x2
 simp only [aO] at x2
 cases hs:isS l p' [38,38] with
 |false =>
  rw [hs,if_neg (by simp)] at x2
  cases x2
  simp only [go_sem,f1,f2,hgi,hgt',hsi,hst,ar,aB,aH,bv,aX,bu,aY,aV,aG,aN,aQ,aD,hne,ne_eq,hne',hl5,Int.toNat_natCast,bq,br,i1,Int.reduceLE,eq_self,not_false_eq_true,x3,hs,if_false]
  simp (disch:=first|assumption|omega|(simp;done)|(simp;omega)|(simp only [bt,and_true];first|done|omega|(simp;done))) [↓zmk,beq,ybc,ybd,ybe,ae,wk,wk2,wk1,wkM,wkL,ai,ybf,hcl2]
 |true =>
  rw [hs,if_pos rfl] at x2
  have hlt1:=bw hs
  have hp2:fm ((H.set id (pst m l (p'+1) tb t')).set tb (.buf 7 t'.length)) id tb l (p'+1) t':=cP hpre' hlt1 (by omega) x5
  rcases aF x2 with ⟨q,h3,rfl⟩|⟨b,p2,t2,h3,h4⟩
  ·have h3':=bG (show g≤f by omega) h3
   simp only [go_sem,f1,f2,hgi,hgt',hsi,hst,ar,aB,aH,bv,aX,bu,aY,aV,aG,aN,aQ,aD,hne,ne_eq,hne',hl5,Int.toNat_natCast,bq,br,i1,Int.reduceLE,eq_self,not_false_eq_true,fg,x3,hs,if_true,hp2,h3']
   simp (disch:=first|assumption|omega|(simp;done)|(simp;omega)|(simp only [bt,and_true];first|done|omega|(simp;done))) [↓zmk,beq,ybc,ybd,ybe,ae,wk,wk2,wk1,wkM,wkL,ai,ybf,dT hcl,zms,dn,dd_le1,cM]
  have h3':=bG (show g≤f by omega) h3
  obtain ⟨k1b,k2b,k3b,k4b,k5b,k6b⟩:=aP _ h3 x5 trivial hlt1
  simp only [Rl.isL,Bool.false_eq_true,if_false] at k4b
  have ht2:t2.length≤100000:=by omega
  simp only [go_sem,f1,f2,hgi,hgt',hsi,hst,ar,aB,aH,bv,aX,bu,aY,aV,aG,aN,aQ,aD,hne,ne_eq,hne',hl5,Int.toNat_natCast,bq,br,i1,Int.reduceLE,eq_self,not_false_eq_true,fg,x3,hs,if_true,hp2,h3',ht2]
  have hc3:=hcl2 p2 (t2++[⟨14,a',b,[],[],0⟩])
  refine ⟨(g,t2.length,p2,t2++[⟨14,a',b,[],[],0⟩]),⟨by dsimp only;omega,h4,k2b,by simp;omega,k5b.snoc ⟨(show 1≤14 by decide),(show 14≤16 by decide)⟩ (show (0:Nat)<2^128 by decide) (.inr ⟨by simp only;omega,by simp only;omega⟩),by simp⟩,by dsimp only;omega,?_⟩
  simp only [List.length_append,yaz,yba,Nat.zero_add] at hc3 ⊢
  (simp only [bkq,enterW,bn,ltF,ne_eq,Nat.reduceEqDiff,reduceCtorEq,hc3,hid];try simp (disch:=first|assumption|omega|(simp;done)|(simp;omega)|(simp only [bt,and_true];first|done|omega|(simp;done))) [↓zmk,beq,ybc,ybd,ybe,ae,wk,wk2,wk1,wkM,wkL,ai,ybf,byq,biq,ak,hcl,hc3,hid];try (repeat' (first|assumption|omega|exact True.intro|refine And.intro ?_ ?_|refine af ?_|refine aa ?_|refine ac ?_ ?_|refine ag ?_ ?_|refine ah ?_|exact AHeap.Le.refl _|refine AHeap.Le.push ?_ _|refine AHeap.Le.del ?_ ?_|(simp only [bt,and_true,true_and,hc3,hid];first|done|omega|(simp;done)))))
theorem zO {f:Nat} (h_yNot:EntOk Try.prog 95 (Ent.effect (fg f))) (h_yCmp:EntOk Try.prog 96 (Ent.effect (mg f))):EntOk Try.prog 95 (Ent.effect (fg (f+1))):=by
 refine EntOk.effect fun args H K h=>?_
 unfold fg aD at h
 split at h
 rotate_left
 ·exact h.elim
 rename_i id
 obtain ⟨m,l,p,tb,t,hg,hpre,hK⟩:=h
 cases ho:run l (f+1) .not p t with
 |none=>rw [ho] at hK;exact hK.elim
 |some r =>
 rw [ho,cR] at hK
 refine ⟨_,_,hK,?_⟩
 clear hK
 rw [run] at ho
 simp only [aO] at ho
 have hpre':=hpre
 obtain ⟨hne,htb,ht,hp,hl,hgl,hgt⟩:=hpre
 have hid:=AHeap.get_lt hg
 have htbl:=AHeap.get_lt htb
 have f1:=cj hid
 have f2:=cj htbl
 have hl5:l.length≤100000:=by omega
 have i1:=@Int.natCast_nonneg
 have hne':(id=tb)=False:=eq_false hne
 refine ACalls.fW ay (TblOk.cons fq (TblOk.cons h_yNot (TblOk.cons eW (TblOk.cons h_yCmp TblOk.nil)))) Try.func95 [.tmp 2] kU (T:=ap []) (h:=fun hcl hlt=>?_)
 clear hlt
 obtain ⟨hgi,hgt',hsi,hcl2,hst⟩:=dH hg hpre' hcl
 cases hs:isS l p [33] with
 |false =>
  rw [hs,if_neg (by simp)] at ho
  simp only [go_sem,f1,f2,hgi,hgt',hsi,hst,ar,aB,aH,bv,aX,bu,aY,aV,aG,aN,aQ,aD,hne,ne_eq,hne',hl5,Int.toNat_natCast,bq,br,i1,Int.reduceLE,eq_self,not_false_eq_true,mg,hg,hp,hs,if_false,hpre',ho,cR]
  cases r with
  |ok a q u =>
   simp only [go_sem,f1,f2,hgi,hgt',hsi,hst,ar,aB,aH,bv,aX,bu,aY,aV,aG,aN,aQ,aD,hne,ne_eq,hne',hl5,Int.toNat_natCast,bq,br,i1,Int.reduceLE,eq_self,not_false_eq_true]
   simp (disch:=first|assumption|omega|(simp;done)|(simp;omega)|(simp only [bt,and_true];first|done|omega|(simp;done))) [↓zmk,beq,ybc,ybd,ybe,ae,wk,wk2,wk1,wkM,wkL,ai,ybf,hcl2]
  |bad q =>
   simp only [go_sem,f1,f2,hgi,hgt',hsi,hst,ar,aB,aH,bv,aX,bu,aY,aV,aG,aN,aQ,aD,hne,ne_eq,hne',hl5,Int.toNat_natCast,bq,br,i1,Int.reduceLE,eq_self,not_false_eq_true]
   simp (disch:=first|assumption|omega|(simp;done)|(simp;omega)|(simp only [bt,and_true];first|done|omega|(simp;done))) [↓zmk,beq,ybc,ybd,ybe,ae,wk,wk2,wk1,wkM,wkL,ai,ybf,dT hcl,zms,dn,dd_le1,cM]
 |true =>
  rw [hs,if_pos rfl] at ho
  have hlt1:=bw hs
  have hgi1:∀ X,(H.set id X).get id=some X:=fun X=>AHeap.get_set_same _ _ hid
  have hp2:fm (H.set id (pst m l (p+1) tb t)) id tb l (p+1) t:=km hpre' hlt1 (by omega)
  have hss:∀ X Y,(H.set id X).set id Y=H.set id Y:=fun X Y=>by simp only [AHeap.set];congr 1;funext k;by_cases hk:k=id<;>simp [hk]
  rcases aF ho with ⟨q,h3,rfl⟩|⟨b,p2,t2,h3,h4⟩
  ·simp only [go_sem,f1,f2,hgi,hgt',hsi,hst,ar,aB,aH,bv,aX,bu,aY,aV,aG,aN,aQ,aD,hne,ne_eq,hne',hl5,Int.toNat_natCast,bq,br,i1,Int.reduceLE,eq_self,not_false_eq_true,fg,hg,hp,hs,if_true,hgi1,hss,hp2,h3]
   simp (disch:=first|assumption|omega|(simp;done)|(simp;omega)|(simp only [bt,and_true];first|done|omega|(simp;done))) [↓zmk,beq,ybc,ybd,ybe,ae,wk,wk2,wk1,wkM,wkL,ai,ybf,dT hcl,zms,dn,dd_le1,cM]
  cases h4
  obtain ⟨k1b,k2b,k3b,k4b,k5b,k6b⟩:=aP _ h3 hgt trivial hlt1
  simp only [Rl.isL,Bool.false_eq_true,if_false] at k4b
  have ht2:t2.length≤100000:=by omega
  simp only [go_sem,f1,f2,hgi,hgt',hsi,hst,ar,aB,aH,bv,aX,bu,aY,aV,aG,aN,aQ,aD,hne,ne_eq,hne',hl5,Int.toNat_natCast,bq,br,i1,Int.reduceLE,eq_self,not_false_eq_true,fg,hg,hp,hs,if_true,hgi1,hss,hp2,h3,ht2,nd2]
  have hc3:=hcl2 p2 (t2++[⟨5,b,0,[],[],0⟩])
  simp only [List.length_append,yaz,yba,Nat.zero_add] at hc3 ⊢
  simp (disch:=first|assumption|omega|(simp;done)|(simp;omega)|(simp only [bt,and_true];first|done|omega|(simp;done))) [↓zmk,beq,ybc,ybd,ybe,ae,wk,wk2,wk1,wkM,wkL,ai,ybf,hc3]
theorem AN {f:Nat} (h_yUn:EntOk Try.prog 100 (Ent.effect (ik f))) (h_yAtom:EntOk Try.prog 102 (Ent.effect (jZ f))):EntOk Try.prog 100 (Ent.effect (ik (f+1))):=by
 refine EntOk.effect fun args H K h=>?_
 unfold ik aD at h
 split at h
 rotate_left
 ·exact h.elim
 rename_i id
 obtain ⟨m,l,p,tb,t,hg,hpre,hK⟩:=h
 cases ho:run l (f+1) .un p t with
 |none=>rw [ho] at hK;exact hK.elim
 |some r =>
 rw [ho,cR] at hK
 refine ⟨_,_,hK,?_⟩
 clear hK
 rw [run] at ho
 simp only [aO] at ho
 have hpre':=hpre
 obtain ⟨hne,htb,ht,hp,hl,hgl,hgt⟩:=hpre
 have hid:=AHeap.get_lt hg
 have htbl:=AHeap.get_lt htb
 have f1:=cj hid
 have f2:=cj htbl
 have hl5:l.length≤100000:=by omega
 have i1:=@Int.natCast_nonneg
 have hne':(id=tb)=False:=eq_false hne
 refine ACalls.fW ay (TblOk.cons fq (TblOk.cons h_yUn (TblOk.cons eW (TblOk.cons h_yAtom TblOk.nil)))) Try.func100 [.tmp 2] kU (T:=ap []) (h:=fun hcl hlt=>?_)
 clear hlt
 obtain ⟨hgi,hgt',hsi,hcl2,hst⟩:=dH hg hpre' hcl
 cases hs:isS l p [45] with
 |false =>
  rw [hs,if_neg (by simp)] at ho
  simp only [go_sem,f1,f2,hgi,hgt',hsi,hst,ar,aB,aH,bv,aX,bu,aY,aV,aG,aN,aQ,aD,hne,ne_eq,hne',hl5,Int.toNat_natCast,bq,br,i1,Int.reduceLE,eq_self,not_false_eq_true,jZ,hg,hp,hs,if_false,hpre',ho,cR]
  cases r with
  |ok a q u =>
   simp only [go_sem,f1,f2,hgi,hgt',hsi,hst,ar,aB,aH,bv,aX,bu,aY,aV,aG,aN,aQ,aD,hne,ne_eq,hne',hl5,Int.toNat_natCast,bq,br,i1,Int.reduceLE,eq_self,not_false_eq_true]
   simp (disch:=first|assumption|omega|(simp;done)|(simp;omega)|(simp only [bt,and_true];first|done|omega|(simp;done))) [↓zmk,beq,ybc,ybd,ybe,ae,wk,wk2,wk1,wkM,wkL,ai,ybf,hcl2]
  |bad q =>
   simp only [go_sem,f1,f2,hgi,hgt',hsi,hst,ar,aB,aH,bv,aX,bu,aY,aV,aG,aN,aQ,aD,hne,ne_eq,hne',hl5,Int.toNat_natCast,bq,br,i1,Int.reduceLE,eq_self,not_false_eq_true]
   simp (disch:=first|assumption|omega|(simp;done)|(simp;omega)|(simp only [bt,and_true];first|done|omega|(simp;done))) [↓zmk,beq,ybc,ybd,ybe,ae,wk,wk2,wk1,wkM,wkL,ai,ybf,dT hcl,zms,dn,dd_le1,cM]
 |true =>
  rw [hs,if_pos rfl] at ho
  have hlt1:=bw hs
  have hgi1:∀ X,(H.set id X).get id=some X:=fun X=>AHeap.get_set_same _ _ hid
  have hp2:fm (H.set id (pst m l (p+1) tb t)) id tb l (p+1) t:=km hpre' hlt1 (by omega)
  have hss:∀ X Y,(H.set id X).set id Y=H.set id Y:=fun X Y=>by simp only [AHeap.set];congr 1;funext k;by_cases hk:k=id<;>simp [hk]
  rcases aF ho with ⟨q,h3,rfl⟩|⟨b,p2,t2,h3,h4⟩
  ·simp only [go_sem,f1,f2,hgi,hgt',hsi,hst,ar,aB,aH,bv,aX,bu,aY,aV,aG,aN,aQ,aD,hne,ne_eq,hne',hl5,Int.toNat_natCast,bq,br,i1,Int.reduceLE,eq_self,not_false_eq_true,ik,hg,hp,hs,if_true,hgi1,hss,hp2,h3]
   simp (disch:=first|assumption|omega|(simp;done)|(simp;omega)|(simp only [bt,and_true];first|done|omega|(simp;done))) [↓zmk,beq,ybc,ybd,ybe,ae,wk,wk2,wk1,wkM,wkL,ai,ybf,dT hcl,zms,dn,dd_le1,cM]
  cases h4
  obtain ⟨k1b,k2b,k3b,k4b,k5b,k6b⟩:=aP _ h3 hgt trivial hlt1
  simp only [Rl.isL,Bool.false_eq_true,if_false] at k4b
  have ht2:t2.length≤100000:=by omega
  simp only [go_sem,f1,f2,hgi,hgt',hsi,hst,ar,aB,aH,bv,aX,bu,aY,aV,aG,aN,aQ,aD,hne,ne_eq,hne',hl5,Int.toNat_natCast,bq,br,i1,Int.reduceLE,eq_self,not_false_eq_true,ik,hg,hp,hs,if_true,hgi1,hss,hp2,h3,ht2,nd2]
  have hc3:=hcl2 p2 (t2++[⟨4,b,0,[],[],0⟩])
  simp only [List.length_append,yaz,yba,Nat.zero_add] at hc3 ⊢
  simp (disch:=first|assumption|omega|(simp;done)|(simp;omega)|(simp only [bt,and_true];first|done|omega|(simp;done))) [↓zmk,beq,ybc,ybd,ybe,ae,wk,wk2,wk1,wkM,wkL,ai,ybf,hc3]
theorem yP {f:Nat} (h_ySum:EntOk Try.prog 97 (Ent.effect (hZ f))):EntOk Try.prog 96 (Ent.effect (mg (f+1))):=by
 refine EntOk.effect fun args H K h=>?_
 unfold mg aD at h
 split at h
 rotate_left
 ·exact h.elim
 rename_i id
 obtain ⟨m,l,p,tb,t,hg,hpre,hK⟩:=h
 cases ho:run l (f+1) .cmp p t with
 |none=>rw [ho] at hK;exact hK.elim
 |some r =>
 rw [ho,cR] at hK
 refine ⟨_,_,hK,?_⟩
 clear hK
 rw [run] at ho
 simp only [aO] at ho
 have hpre':=hpre
 obtain ⟨hne,htb,ht,hp,hl,hgl,hgt⟩:=hpre
 have hid:=AHeap.get_lt hg
 have htbl:=AHeap.get_lt htb
 have f1:=cj hid
 have f2:=cj htbl
 have hl5:l.length≤100000:=by omega
 have i1:=@Int.natCast_nonneg
 have hne':(id=tb)=False:=eq_false hne
 refine ACalls.fW ay (TblOk.cons h_ySum (TblOk.cons pi (TblOk.cons qc (TblOk.cons eW TblOk.nil)))) Try.func96 [.tmp 2] kU (T:=ap []) (h:=fun hcl hlt=>?_)
 clear hlt
 obtain ⟨hgi,hgt',hsi,hcl2,hst⟩:=dH hg hpre' hcl
 rcases aF ho with ⟨q,h1,rfl⟩|⟨a,p1,t1,h1,h2⟩
 ·simp only [go_sem,f1,f2,hgi,hgt',hsi,hst,ar,aB,aH,bv,aX,bu,aY,aV,aG,aN,aQ,aD,hne,ne_eq,hne',hl5,Int.toNat_natCast,bq,br,i1,Int.reduceLE,eq_self,not_false_eq_true,hZ,hg,hpre',h1]
  simp (disch:=first|assumption|omega|(simp;done)|(simp;omega)|(simp only [bt,and_true];first|done|omega|(simp;done))) [↓zmk,beq,ybc,ybd,ybe,ae,wk,wk2,wk1,wkM,wkL,ai,ybf,dT hcl,zms,dn,dd_le1,cM]
 clear ho
 obtain ⟨k1,k2,k3,k4,k5,k6⟩:=aP _ h1 hgt trivial hp
 simp only [Rl.isL,Bool.false_eq_true,if_false] at k4
 have hp1:fm ((H.set id (pst m l p1 tb t1)).set tb (.buf 7 t1.length)) id tb l p1 t1:=cP hpre' k2 (by omega) k5
 cases hs:cE l p1 opsC with
 |none =>
  rw [hs] at h2
  cases h2
  simp only [go_sem,f1,f2,hgi,hgt',hsi,hst,ar,aB,aH,bv,aX,bu,aY,aV,aG,aN,aQ,aD,hne,ne_eq,hne',hl5,Int.toNat_natCast,bq,br,i1,Int.reduceLE,eq_self,not_false_eq_true,fB,cH,fI,eA,fX,fT,hZ,hg,hpre',h1,k2,hs,ju]
  refine p8 rfl ?_
  simp only [go_sem,f1,f2,hgi,hgt',hsi,hst,ar,aB,aH,bv,aX,bu,aY,aV,aG,aN,aQ,aD,hne,ne_eq,hne',hl5,Int.toNat_natCast,bq,br,i1,Int.reduceLE,eq_self,not_false_eq_true]
  simp (disch:=first|assumption|omega|(simp;done)|(simp;omega)|(simp only [bt,and_true];first|done|omega|(simp;done))) [↓zmk,beq,ybc,ybd,ybe,ae,wk,wk2,wk1,wkM,wkL,ai,ybf,hcl2]
 |some op =>
  rw [hs] at h2
  dsimp only at h2
  obtain ⟨hlt1,so,hso⟩:=dc hs
  obtain ⟨o1,o2⟩:=pp hso
  have hop:((op:Int) != 0)=true:=by simp;omega
  have hp2:fm ((H.set id (pst m l (p1+1) tb t1)).set tb (.buf 7 t1.length)) id tb l (p1+1) t1:=cP hpre' hlt1 (by omega) k5
  rcases aF h2 with ⟨q,h3,rfl⟩|⟨b,p2,t2,h3,h4⟩
  ·simp only [go_sem,f1,f2,hgi,hgt',hsi,hst,ar,aB,aH,bv,aX,bu,aY,aV,aG,aN,aQ,aD,hne,ne_eq,hne',hl5,Int.toNat_natCast,bq,br,i1,Int.reduceLE,eq_self,not_false_eq_true,fB,cH,fI,eA,fX,fT,hZ,hg,hpre',h1,k2,hs,im,hop,hp2,h3]
   simp (disch:=first|assumption|omega|(simp;done)|(simp;omega)|(simp only [bt,and_true];first|done|omega|(simp;done))) [↓zmk,beq,ybc,ybd,ybe,ae,wk,wk2,wk1,wkM,wkL,ai,ybf,dT hcl,zms,dn,dd_le1,cM]
  cases h4
  obtain ⟨k1b,k2b,k3b,k4b,k5b,k6b⟩:=aP _ h3 k5 trivial hlt1
  simp only [Rl.isL,Bool.false_eq_true,if_false] at k4b
  have ht2:t2.length≤100000:=by omega
  simp only [go_sem,f1,f2,hgi,hgt',hsi,hst,ar,aB,aH,bv,aX,bu,aY,aV,aG,aN,aQ,aD,hne,ne_eq,hne',hl5,Int.toNat_natCast,bq,br,i1,Int.reduceLE,eq_self,not_false_eq_true,fB,cH,fI,eA,fX,fT,hZ,hg,hpre',h1,k2,hs,im,hop,hp2,h3,ht2,nd2]
  have hc3:=hcl2 p2 (t2++[⟨op,a,b,[],[],0⟩])
  simp only [List.length_append,yaz,yba,Nat.zero_add] at hc3 ⊢
  simp (disch:=first|assumption|omega|(simp;done)|(simp;omega)|(simp only [bt,and_true];first|done|omega|(simp;done))) [↓zmk,beq,ybc,ybd,ybe,ae,wk,wk2,wk1,wkM,wkL,ai,ybf,hc3]
theorem yU {f:Nat} (h_yUn:EntOk Try.prog 100 (Ent.effect (ik f))):EntOk Try.prog 97 (Ent.effect (hZ (f+1))):=by
 refine EntOk.effect fun args H K h=>?_
 unfold hZ aD at h
 split at h
 rotate_left
 ·exact h.elim
 rename_i id
 obtain ⟨m,l,p,tb,t,hg,hpre,hK⟩:=h
 cases ho:run l (f+1) .sum p t with
 |none=>rw [ho] at hK;exact hK.elim
 |some r =>
 rw [ho,cR] at hK
 refine ⟨_,_,hK,?_⟩
 clear hK
 rw [run] at ho
 simp only [aO] at ho
 have hpre':=hpre
 obtain ⟨hne,htb,ht,hp,hl,hgl,hgt⟩:=hpre
 have hid:=AHeap.get_lt hg
 have htbl:=AHeap.get_lt htb
 have f1:=cj hid
 have f2:=cj htbl
 have hl5:l.length≤100000:=by omega
 have i1:=@Int.natCast_nonneg
 have hne':(id=tb)=False:=eq_false hne
 refine ACalls.fW ay (TblOk.cons h_yUn (TblOk.cons xH (TblOk.cons qc (TblOk.cons eW TblOk.nil)))) Try.func97 [.tmp 2] kU (T:=ap []) (h:=fun hcl hlt=>?_)
 clear hlt
 obtain ⟨hgi,hgt',hsi,hcl2,hst⟩:=dH hg hpre' hcl
 rcases aF ho with ⟨q,h1,rfl⟩|⟨a,p1,t1,h1,h2⟩
 ·simp only [go_sem,f1,f2,hgi,hgt',hsi,hst,ar,aB,aH,bv,aX,bu,aY,aV,aG,aN,aQ,aD,hne,ne_eq,hne',hl5,Int.toNat_natCast,bq,br,i1,Int.reduceLE,eq_self,not_false_eq_true,ik,hg,hpre',h1]
  simp (disch:=first|assumption|omega|(simp;done)|(simp;omega)|(simp only [bt,and_true];first|done|omega|(simp;done))) [↓zmk,beq,ybc,ybd,ybe,ae,wk,wk2,wk1,wkM,wkL,ai,ybf,dT hcl,zms,dn,dd_le1,cM]
 clear ho
 obtain ⟨k1,k2,k3,k4,k5,k6⟩:=aP _ h1 hgt trivial hp
 simp only [Rl.isL,Bool.false_eq_true,if_false] at k4
 have hp1:fm ((H.set id (pst m l p1 tb t1)).set tb (.buf 7 t1.length)) id tb l p1 t1:=cP hpre' k2 (by omega) k5
 have hsn:∀ p',cE l p' opsS=none→opv l p'=0∧oph l p'=p':=fun p' e=>by simp [opv,oph,e]
 have hss:∀ p' op,cE l p' opsS=some op→opv l p'=op∧oph l p'=p'+1:=fun p' op e=>by simp [opv,oph,e]
 have hev:∀ p',(cE l p' opsS=none∧opv l p'=0∧oph l p'=p')∨∃ op,cE l p' opsS=some op∧opv l p'=op∧oph l p'=p'+1:=fun p'=>by
  cases hs:cE l p' opsS with
  |none=>exact .inl ⟨rfl,hsn _ hs⟩
  |some op=>exact .inr ⟨op,rfl,hss _ _ hs⟩
 simp only [go_sem,f1,f2,hgi,hgt',hsi,hst,ar,aB,aH,bv,aX,bu,aY,aV,aG,aN,aQ,aD,hne,ne_eq,hne',hl5,Int.toNat_natCast,bq,br,i1,Int.reduceLE,eq_self,not_false_eq_true,fB,cH,fI,eA,fX,fT,ik,hg,hpre',h1,k2]
 rcases hev p1 with ⟨hs1,v1,v2⟩|⟨op1,hs1,v1,v2⟩
 all_goals
  simp only [go_sem,f1,f2,hgi,hgt',hsi,hst,ar,aB,aH,bv,aX,bu,aY,aV,aG,aN,aQ,aD,hne,ne_eq,hne',hl5,Int.toNat_natCast,bq,br,i1,Int.reduceLE,eq_self,not_false_eq_true,fB,cH,fI,eA,fX,fT,k2,hs1,ju,im]
  refine aJ (A:=Nat × Nat × Nat × List Nd) (fun x=>[(0,.ptr id 0),(3,.int .i64 (x.2.1:Int)),(4,.int .i64 (opv l x.2.2.1:Int))]) (fun x=>(H.set id (pst m l (oph l x.2.2.1) tb x.2.2.2)).set tb (.buf 7 x.2.2.2.length)) (fun x=>x.1≤f∧run l x.1 (.sumL x.2.1) x.2.2.1 x.2.2.2=some r∧x.2.2.1≤l.length∧x.2.2.2.length≤x.2.2.1∧Good x.2.2.2∧x.2.1<x.2.2.2.length) (fun x=>x.1) (f,a,p1,t1) ⟨Nat.le_refl _,h2,k2,by dsimp only;omega,k5,k1⟩ ?_ fun x hx=>?_
  ·dsimp only
   rw [v1,v2]
   (simp only [bkq,enterW,bn,ltF,ne_eq,Nat.reduceEqDiff,reduceCtorEq,hcl2,hid];try simp (disch:=first|assumption|omega|(simp;done)|(simp;omega)|(simp only [bt,and_true];first|done|omega|(simp;done))) [↓zmk,beq,ybc,ybd,ybe,ae,wk,wk2,wk1,wkM,wkL,ai,ybf,byq,biq,ak,hcl,hcl2,hid];try (repeat' (first|assumption|omega|exact True.intro|refine And.intro ?_ ?_|refine af ?_|refine aa ?_|refine ac ?_ ?_|refine ag ?_ ?_|refine ah ?_|exact AHeap.Le.refl _|refine AHeap.Le.push ?_ _|refine AHeap.Le.del ?_ ?_|(simp only [bt,and_true,true_and,hcl2,hid];first|done|omega|(simp;done)))))
  obtain ⟨g,a',p',t'⟩:=x
  obtain ⟨x1,x2,x3,x4,x5,x6⟩:=hx
  dsimp only at x1 x2 x3 x4 x5 x6 ⊢
  have ht':t'.length≤100000:=by omega
  cases g with
  |zero=>cases x2
  |succ g =>
  rw [run] at x2
  simp only [aO] at x2
  rcases hev p' with ⟨hs,u1,u2⟩|⟨op,hs,u1,u2⟩
  ·rw [hs] at x2
   cases x2
   rw [u1,u2]
   simp only [go_sem,f1,f2,hgi,hgt',hsi,hst,ar,aB,aH,bv,aX,bu,aY,aV,aG,aN,aQ,aD,hne,ne_eq,hne',hl5,Int.toNat_natCast,bq,br,i1,Int.reduceLE,eq_self,not_false_eq_true]
   refine p8 rfl ?_
   simp only [go_sem,f1,f2,hgi,hgt',hsi,hst,ar,aB,aH,bv,aX,bu,aY,aV,aG,aN,aQ,aD,hne,ne_eq,hne',hl5,Int.toNat_natCast,bq,br,i1,Int.reduceLE,eq_self,not_false_eq_true]
   simp (disch:=first|assumption|omega|(simp;done)|(simp;omega)|(simp only [bt,and_true];first|done|omega|(simp;done))) [↓zmk,beq,ybc,ybd,ybe,ae,wk,wk2,wk1,wkM,wkL,ai,ybf,hcl2]
  ·rw [hs] at x2
   dsimp only at x2
   rw [u1,u2]
   obtain ⟨hlt1,so,hso⟩:=dc hs
   obtain ⟨o1,o2⟩:=jA hso
   have hop:((op:Int) != 0)=true:=by simp;omega
   have hp2:fm ((H.set id (pst m l (p'+1) tb t')).set tb (.buf 7 t'.length)) id tb l (p'+1) t':=cP hpre' hlt1 (by omega) x5
   rcases aF x2 with ⟨q,h3,rfl⟩|⟨b,p2,t2,h3,h4⟩
   ·have h3':=bG (show g≤f by omega) h3
    simp only [go_sem,f1,f2,hgi,hgt',hsi,hst,ar,aB,aH,bv,aX,bu,aY,aV,aG,aN,aQ,aD,hne,ne_eq,hne',hl5,Int.toNat_natCast,bq,br,i1,Int.reduceLE,eq_self,not_false_eq_true,ik,hop,hp2,h3']
    simp (disch:=first|assumption|omega|(simp;done)|(simp;omega)|(simp only [bt,and_true];first|done|omega|(simp;done))) [↓zmk,beq,ybc,ybd,ybe,ae,wk,wk2,wk1,wkM,wkL,ai,ybf,dT hcl,zms,dn,dd_le1,cM]
   have h3':=bG (show g≤f by omega) h3
   obtain ⟨k1b,k2b,k3b,k4b,k5b,k6b⟩:=aP _ h3 x5 trivial hlt1
   simp only [Rl.isL,Bool.false_eq_true,if_false] at k4b
   have ht2:t2.length≤100000:=by omega
   have hc3:=hcl2 (oph l p2) (t2++[⟨op,a',b,[],[],0⟩])
   rcases hev p2 with ⟨hs2,w1,w2⟩|⟨op2,hs2,w1,w2⟩
   all_goals
    simp only [go_sem,f1,f2,hgi,hgt',hsi,hst,ar,aB,aH,bv,aX,bu,aY,aV,aG,aN,aQ,aD,hne,ne_eq,hne',hl5,Int.toNat_natCast,bq,br,i1,Int.reduceLE,eq_self,not_false_eq_true,fB,cH,fI,eA,fX,fT,ik,hop,hp2,h3',ht2,k2b,hs2,ju,im]
    refine ⟨(g,t2.length,p2,t2++[⟨op,a',b,[],[],0⟩]),⟨by dsimp only;omega,h4,k2b,by simp;omega,k5b.snoc ⟨(by show 1≤op;omega),o2⟩ (show (0:Nat)<2^128 by decide) (.inr ⟨by simp only;omega,by simp only;omega⟩),by simp⟩,by dsimp only;omega,?_⟩
    dsimp only
    rw [w1,w2]
    rw [w2] at hc3
    simp only [List.length_append,yaz,yba,Nat.zero_add] at hc3 ⊢
    (simp only [bkq,enterW,bn,ltF,ne_eq,Nat.reduceEqDiff,reduceCtorEq,hc3,hid];try simp (disch:=first|assumption|omega|(simp;done)|(simp;omega)|(simp only [bt,and_true];first|done|omega|(simp;done))) [↓zmk,beq,ybc,ybd,ybe,ae,wk,wk2,wk1,wkM,wkL,ai,ybf,byq,biq,ak,hcl,hc3,hid];try (repeat' (first|assumption|omega|exact True.intro|refine And.intro ?_ ?_|refine af ?_|refine aa ?_|refine ac ?_ ?_|refine ag ?_ ?_|refine ah ?_|exact AHeap.Le.refl _|refine AHeap.Le.push ?_ _|refine AHeap.Le.del ?_ ?_|(simp only [bt,and_true,true_and,hc3,hid];first|done|omega|(simp;done)))))
theorem wh {f:Nat} (h_yImp:EntOk Try.prog 77 (Ent.effect (eC f))):EntOk Try.prog 102 (Ent.effect (jZ (f+1))):=by
 refine EntOk.effect fun args H K h=>?_
 unfold jZ aD at h
 split at h
 rotate_left
 ·exact h.elim
 rename_i id
 obtain ⟨m,l,p,tb,t,hg,hpre,hK⟩:=h
 cases ho:run l (f+1) .atom p t with
 |none=>rw [ho] at hK;exact hK.elim
 |some r =>
 rw [ho,cR] at hK
 refine ⟨_,_,hK,?_⟩
 clear hK
 rw [run] at ho
 simp only [aO] at ho
 have hpre':=hpre
 obtain ⟨hne,htb,ht,hp,hl,hgl,hgt⟩:=hpre
 have hid:=AHeap.get_lt hg
 have htbl:=AHeap.get_lt htb
 have f1:=cj hid
 have f2:=cj htbl
 have hl5:l.length≤100000:=by omega
 have i1:=@Int.natCast_nonneg
 have hne':(id=tb)=False:=eq_false hne
 refine ACalls.fW ay (TblOk.cons fq (TblOk.cons h_yImp (TblOk.cons gf (TblOk.cons qj (TblOk.cons v5 (TblOk.cons vS (TblOk.cons eW TblOk.nil))))))) Try.func102 [.tmp 2] kU (T:=ap []) (h:=fun hcl hlt=>?_)
 clear hlt
 obtain ⟨hgi,hgt',hsi,hcl2,hst⟩:=dH hg hpre' hcl
 have hgi1:∀ X,(H.set id X).get id=some X:=fun X=>AHeap.get_set_same _ _ hid
 have hgt1:∀ X,(H.set id X).get tb=some (.buf 7 t.length):=fun X=>by rw [AHeap.get_set_ne _ _ (fun e=>hne e.symm)];exact htb
 have hss:∀ X Y,(H.set id X).set id Y=H.set id Y:=fun X Y=>by simp only [AHeap.set];congr 1;funext k;by_cases hk:k=id<;>simp [hk]
 have hcs:=ax (cs:=[.slice m 3 (cm l),.int .i64 (p:Int),.slice (.own tb) 7 (nds t)]) hg
 have ht5:t.length≤100000:=by omega
 cases hs0:isS l p [40] with
 |true =>
  rw [hs0,if_pos rfl] at ho
  have hlt1:=bw hs0
  have hp2:fm (H.set id (pst m l (p+1) tb t)) id tb l (p+1) t:=km hpre' hlt1 (by omega)
  rcases aF ho with ⟨q,h3,rfl⟩|⟨a,p1,t1,h3,h4⟩
  ·simp only [go_sem,f1,f2,hgi,hgt',hsi,hst,ar,aB,aH,bv,aX,bu,aY,aV,aG,aN,aQ,aD,hne,ne_eq,hne',hl5,Int.toNat_natCast,bq,br,i1,Int.reduceLE,eq_self,not_false_eq_true,eC,hg,hp,hs0,if_true,hgi1,hss,hp2,h3]
   simp (disch:=first|assumption|omega|(simp;done)|(simp;omega)|(simp only [bt,and_true];first|done|omega|(simp;done))) [↓zmk,beq,ybc,ybd,ybe,ae,wk,wk2,wk1,wkM,wkL,ai,ybf,dT hcl,zms,dn,dd_le1,cM]
  obtain ⟨k1b,k2b,k3b,k4b,k5b,k6b⟩:=aP _ h3 hgt trivial hlt1
  simp only [Rl.isL,Bool.false_eq_true,if_false] at k4b
  cases hs2:isS l p1 [41] with
  |true =>
   rw [hs2,if_pos rfl] at h4
   cases h4
   simp only [go_sem,f1,f2,hgi,hgt',hsi,hst,ar,aB,aH,bv,aX,bu,aY,aV,aG,aN,aQ,aD,hne,ne_eq,hne',hl5,Int.toNat_natCast,bq,br,i1,Int.reduceLE,eq_self,not_false_eq_true,eC,hg,hp,hs0,if_true,hgi1,hss,hp2,h3,k2b,hs2]
   simp (disch:=first|assumption|omega|(simp;done)|(simp;omega)|(simp only [bt,and_true];first|done|omega|(simp;done))) [↓zmk,beq,ybc,ybd,ybe,ae,wk,wk2,wk1,wkM,wkL,ai,ybf,hcl2]
  |false =>
   rw [hs2,if_neg (by simp)] at h4
   cases h4
   simp only [go_sem,f1,f2,hgi,hgt',hsi,hst,ar,aB,aH,bv,aX,bu,aY,aV,aG,aN,aQ,aD,hne,ne_eq,hne',hl5,Int.toNat_natCast,bq,br,i1,Int.reduceLE,eq_self,not_false_eq_true,eC,cz,hg,hp,hs0,if_true,if_false,hgi1,hss,hp2,h3,k2b,hs2]
   simp (disch:=first|assumption|omega|(simp;done)|(simp;omega)|(simp only [bt,and_true];first|done|omega|(simp;done))) [↓zmk,beq,ybc,ybd,ybe,ae,wk,wk2,wk1,wkM,wkL,ai,ybf,dT hcl,zms,dn,dd_le1,cM]
 |false =>
  rw [hs0,if_neg (by simp)] at ho
  cases ho
  by_cases hlt0:p<l.length
  ·rcases htk:l[p] with ⟨k,x,z⟩
   have hgd:=lw hlt0 htk
   have hge:l[p]?=some (k,x,z):=by rw [List.getElem?_eq_getElem hlt0,htk]
   have d0:decide ((p:Int)<(l.length:Int))=true:=by simp;omega
   by_cases hk1:k=1
   ·subst hk1
    have hka:mT l p=1:=by unfold mT;rw [hge]
    have hr:bA l p t=.ok t.length (p+1) (t++[⟨1,0,0,[],[],nM l p⟩]):=by unfold bA nM;rw [hge];rfl
    have hd1:(((1:Nat):Int)==1)=true:=rfl
    rw [hr]
    have hc3:=hcl2 (p+1) (t++[⟨1,0,0,[],[],nM l p⟩])
    simp only [go_sem,f1,f2,hgi,hgt',hsi,hst,ar,aB,aH,bv,aX,bu,aY,aV,aG,aN,aQ,aD,hne,ne_eq,hne',hl5,Int.toNat_natCast,bq,br,i1,Int.reduceLE,eq_self,not_false_eq_true,hg,hp,hs0,if_false,hcs,aS,hgd,d0,eG,cu,cz,dm,hp,hgi1,hgt1,hss,ht5,dZ,dq,c5,bne_self_eq_false,beq_self_eq_true,hd1,hka,hpre']
    simp only [List.length_append,yaz,yba,Nat.zero_add] at hc3 ⊢
    refine ⟨by omega,?_⟩
    simp (disch:=first|assumption|omega|(simp;done)|(simp;omega)|(simp only [bt,and_true];first|done|omega|(simp;done))) [↓zmk,beq,ybc,ybd,ybe,ae,wk,wk2,wk1,wkM,wkL,ai,ybf,hc3]
   ·have d1:((k:Int)==1)=false:=by simp;omega
    by_cases hk2:k=2
    ·subst hk2
     have hw:hG l p=some x:=by unfold hG;rw [hge];rfl
     have hd2:(((2:Nat):Int)==1)=false:=rfl
     by_cases hx1:x=fR
     ·have hr:bA l p t=.ok t.length (p+1) (t++[⟨2,0,0,[],[],1⟩]):=by unfold bA;rw [hge];simp [hx1]
      have htr:fD x=.tup [c5 2 1,.bool true]:=by unfold fD;rw [if_pos hx1]
      rw [hr]
      have hc3:=hcl2 (p+1) (t++[⟨2,0,0,[],[],1⟩])
      simp only [go_sem,f1,f2,hgi,hgt',hsi,hst,ar,aB,aH,bv,aX,bu,aY,aV,aG,aN,aQ,aD,hne,ne_eq,hne',hl5,Int.toNat_natCast,bq,br,i1,Int.reduceLE,eq_self,not_false_eq_true,hg,hp,hs0,if_false,hcs,aS,hgd,d0,eG,cu,cz,dm,hp,hgi1,hgt1,hss,ht5,dZ,dq,c5,bne_self_eq_false,beq_self_eq_true,hd2,hw,htr,Cv,BZ]
      simp only [List.length_append,yaz,yba,Nat.zero_add] at hc3 ⊢
      refine ⟨by omega,?_⟩
      simp (disch:=first|assumption|omega|(simp;done)|(simp;omega)|(simp only [bt,and_true];first|done|omega|(simp;done))) [↓zmk,beq,ybc,ybd,ybe,ae,wk,wk2,wk1,wkM,wkL,ai,ybf,hc3]
     ·by_cases hx2:x=ei
      ·have hr:bA l p t=.ok t.length (p+1) (t++[⟨2,0,0,[],[],0⟩]):=by unfold bA;rw [hge];simp [hx1,hx2];decide
       have htr:fD x=.tup [c5 2 0,.bool true]:=by unfold fD;rw [if_neg hx1,if_pos hx2]
       rw [hr]
       have hc3:=hcl2 (p+1) (t++[⟨2,0,0,[],[],0⟩])
       simp only [go_sem,f1,f2,hgi,hgt',hsi,hst,ar,aB,aH,bv,aX,bu,aY,aV,aG,aN,aQ,aD,hne,ne_eq,hne',hl5,Int.toNat_natCast,bq,br,i1,Int.reduceLE,eq_self,not_false_eq_true,hg,hp,hs0,if_false,hcs,aS,hgd,d0,eG,cu,cz,dm,hp,hgi1,hgt1,hss,ht5,dZ,dq,c5,bne_self_eq_false,beq_self_eq_true,hd2,hw,htr]
       simp only [List.length_append,yaz,yba,Nat.zero_add] at hc3 ⊢
       refine ⟨by omega,?_⟩
       simp (disch:=first|assumption|omega|(simp;done)|(simp;omega)|(simp only [bt,and_true];first|done|omega|(simp;done))) [↓zmk,beq,ybc,ybd,ybe,ae,wk,wk2,wk1,wkM,wkL,ai,ybf,hc3]
      ·have htr:fD x=.tup [c5 0 0,.bool false]:=by unfold fD;rw [if_neg hx1,if_neg hx2]
       have hp1:p+1≤l.length:=by omega
       cases hs3:isS l (p+1) [58,58] with
       |false =>
        have hr:bA l p t=.ok t.length (p+1) (t++[⟨3,0,0,x,[],0⟩]):=by unfold bA;rw [hge];simp [hx1,hx2,hs3]
        rw [hr]
        have hc3:=hcl2 (p+1) (t++[⟨3,0,0,x,[],0⟩])
        simp only [go_sem,f1,f2,hgi,hgt',hsi,hst,ar,aB,aH,bv,aX,bu,aY,aV,aG,aN,aQ,aD,hne,ne_eq,hne',hl5,Int.toNat_natCast,bq,br,i1,Int.reduceLE,eq_self,not_false_eq_true,hg,hp,hs0,if_false,hcs,aS,hgd,d0,eG,cu,cz,dm,hp,hgi1,hgt1,hss,ht5,dZ,dq,c5,bne_self_eq_false,beq_self_eq_true,hd2,hw,htr,hp1,hs3]
        simp only [List.length_append,yaz,yba,Nat.zero_add] at hc3 ⊢
        refine ⟨by omega,?_⟩
        simp (disch:=first|assumption|omega|(simp;done)|(simp;omega)|(simp only [bt,and_true];first|done|omega|(simp;done))) [↓zmk,beq,ybc,ybd,ybe,ae,wk,wk2,wk1,wkM,wkL,ai,ybf,hc3]
       |true =>
        have hlt3:=bw hs3
        have hp2:p+1+1≤l.length:=by omega
        have hp3:p+2=p+1+1:=rfl
        cases hw2:hG l (p+1+1) with
        |none =>
         have hr:bA l p t=.bad (p+1+1):=by
          unfold bA;rw [hge];simp [hx1,hx2,hs3]
          unfold hG at hw2
          cases hge2:l[p+1+1]? with
          |none=>rfl
          |some v =>
           obtain ⟨k2,y,z2⟩:=v
           rw [hge2] at hw2
           dsimp only at hw2 ⊢
           split at hw2
           ·cases hw2
           ·rename_i hk;rw [if_neg hk]
         rw [hr]
         simp only [go_sem,f1,f2,hgi,hgt',hsi,hst,ar,aB,aH,bv,aX,bu,aY,aV,aG,aN,aQ,aD,hne,ne_eq,hne',hl5,Int.toNat_natCast,bq,br,i1,Int.reduceLE,eq_self,not_false_eq_true,hg,hp,hs0,if_false,hcs,aS,hgd,d0,eG,cu,cz,dm,hp,hgi1,hgt1,hss,ht5,dZ,dq,c5,bne_self_eq_false,beq_self_eq_true,hd2,hw,htr,hp1,hs3,if_true,hp2,hw2]
         refine ⟨by omega,?_⟩
         simp (disch:=first|assumption|omega|(simp;done)|(simp;omega)|(simp only [bt,and_true];first|done|omega|(simp;done))) [↓zmk,beq,ybc,ybd,ybe,ae,wk,wk2,wk1,wkM,wkL,ai,ybf,dT hcl,zms,dn,dd_le1,cM]
         exact (dd_le1.push _).push _
        |some y =>
         have hr:bA l p t=.ok t.length (p+1+1+1) (t++[⟨3,0,0,x,y,0⟩]):=by
          unfold bA;rw [hge];simp [hx1,hx2,hs3]
          unfold hG at hw2
          cases hge2:l[p+1+1]? with
          |none=>rw [hge2] at hw2;cases hw2
          |some v =>
           obtain ⟨k2,y2,z2⟩:=v
           rw [hge2] at hw2
           dsimp only at hw2 ⊢
           split at hw2
           ·rename_i hk;cases hw2;rw [if_pos hk]
           ·cases hw2
         rw [hr]
         have hc3:=hcl2 (p+1+1+1) (t++[⟨3,0,0,x,y,0⟩])
         simp only [go_sem,f1,f2,hgi,hgt',hsi,hst,ar,aB,aH,bv,aX,bu,aY,aV,aG,aN,aQ,aD,hne,ne_eq,hne',hl5,Int.toNat_natCast,bq,br,i1,Int.reduceLE,eq_self,not_false_eq_true,hg,hp,hs0,if_false,hcs,aS,hgd,d0,eG,cu,cz,dm,hp,hgi1,hgt1,hss,ht5,dZ,dq,c5,bne_self_eq_false,beq_self_eq_true,hd2,hw,htr,hp1,hs3,if_true,hp2,hw2]
         simp only [List.length_append,yaz,yba,Nat.zero_add] at hc3 ⊢
         refine ⟨by omega,?_⟩
         simp (disch:=first|assumption|omega|(simp;done)|(simp;omega)|(simp only [bt,and_true];first|done|omega|(simp;done))) [↓zmk,beq,ybc,ybd,ybe,ae,wk,wk2,wk1,wkM,wkL,ai,ybf,hc3]
    ·have hw:hG l p=none:=by unfold hG;rw [hge];dsimp only;rw [if_neg hk2]
     have hr:bA l p t=.bad p:=by unfold bA;rw [hge];simp [hk1,hk2]
     rw [hr]
     simp only [go_sem,f1,f2,hgi,hgt',hsi,hst,ar,aB,aH,bv,aX,bu,aY,aV,aG,aN,aQ,aD,hne,ne_eq,hne',hl5,Int.toNat_natCast,bq,br,i1,Int.reduceLE,eq_self,not_false_eq_true,hg,hp,hs0,if_false,hcs,aS,hgd,d0,eG,cu,cz,dm,hp,hgi1,hgt1,hss,ht5,dZ,dq,c5,bne_self_eq_false,beq_self_eq_true,d1,hw]
     refine ⟨by omega,?_⟩
     simp (disch:=first|assumption|omega|(simp;done)|(simp;omega)|(simp only [bt,and_true];first|done|omega|(simp;done))) [↓zmk,beq,ybc,ybd,ybe,ae,wk,wk2,wk1,wkM,wkL,ai,ybf,dT hcl,zms,dn,dd_le1,cM]
  ·have hpe:p=l.length:=by omega
   subst hpe
   have hge:l[l.length]?=none:=List.getElem?_eq_none (Nat.le_refl _)
   have hw:hG l l.length=none:=by unfold hG;rw [hge]
   have hr:bA l l.length t=.bad l.length:=by unfold bA;rw [hge]
   have d0:decide ((l.length:Int)<(l.length:Int))=false:=by simp
   rw [hr]
   simp only [go_sem,f1,f2,hgi,hgt',hsi,hst,ar,aB,aH,bv,aX,bu,aY,aV,aG,aN,aQ,aD,hne,ne_eq,hne',hl5,Int.toNat_natCast,bq,br,i1,Int.reduceLE,eq_self,not_false_eq_true,hg,hp,hs0,if_false,hcs,aS,d0,eG,cu,cz,dm,hp,hgi1,hgt1,hss,ht5,dZ,dq,c5,bne_self_eq_false,beq_self_eq_true,hw,Nat.le_refl]
   simp (disch:=first|assumption|omega|(simp;done)|(simp;omega)|(simp only [bt,and_true];first|done|omega|(simp;done))) [↓zmk,beq,ybc,ybd,ybe,ae,wk,wk2,wk1,wkM,wkL,ai,ybf,dT hcl,zms,dn,dd_le1,cM]
end Go.AL
