/- Contracts and plain laws, a part of the proof; no condition of its own. -/
import Derived.Test.YtokjjhidigoodaaGreatE06
import Derived.Test.YtokjjhidigoodaaGreatLSyn
set_option maxHeartbeats 32000000
open List renaming map_cons → yae, length_cons → yaz, length_nil → yba, take_of_length_le → ybc, drop_append → ybd, take_append → ybe, drop_eq_nil_of_le → ybf
open Go Go.AL Go.Proofs
namespace Go.AL
set_option linter.all false
set_option maxRecDepth 10000
theorem HX:ti Tryz.prog 180=some ⟨.struct [(0,3,false),(1,3,false),(2,3,false),(3,9,false),(4,9,false),(5,48,false)],7,72,.agg [.int .i64 0,.int .i64 0,.int .i64 0,.str [],.str [],.int .u64 0,.int .u64 0]⟩:=by kernel_rfl
theorem Gr:ti Tryz.prog 92=some ⟨.slice 180,1,24,.slice .nil 1 []⟩:=by kernel_rfl
theorem EX:ti Tryz.prog 441=some ⟨.struct [(0,181,false),(1,3,false),(2,92,false)],3,56,.agg [.slice .nil 1 [],.int .i64 0,.slice .nil 1 []]⟩:=by kernel_rfl
theorem zI:ti Tryz.prog 524=some ⟨.struct [(0,3,false),(1,9,false)],2,24,.agg [.int .i64 0,.str []]⟩:=by kernel_rfl
theorem xX:ti Tryz.prog 521=some ⟨.slice 524,1,24,.slice .nil 1 []⟩:=by kernel_rfl
theorem Fs:ti Tryz.prog 438=some ⟨.int .i64,1,8,.int .i64 0⟩:=by kernel_rfl
attribute [go_sem] HX Gr EX zI xX Fs
def jD (n:Nd):AV:=.agg [.int .i64 (n.op:Int),.int .i64 (n.a:Int),.int .i64 (n.b:Int),.str n.name,.str n.attr,.int .u64 ((n.v/2^64:Nat):Int),.int .u64 ((n.v % 2^64:Nat):Int)]
def nds (t:List Nd):List AV:=t.map jD
theorem aF {t:List Nd}:(nds t).length=t.length:=by simp [nds]
theorem y5 {t:List Nd} {n:Nd}:nds t++[jD n]=nds (t++[n]):=by simp [nds]
theorem jx {n:Nat} {m:Mark} {t:List Nd}:AV.lt n (.slice m 7 (nds t))=∀ id,m=.own id→id<n:=by
 rw [AV.lt]
 refine propext ⟨fun h=>h.1,fun h=>⟨h,fun j hj=>?_⟩⟩
 simp only [nds,List.getElem_map,jD]
 simp [znn,znq,znr,znb,znd]
theorem pP {n:Nat} {m:Mark} {l:List Tok}:AV.lt n (.slice m 3 (cU l))=∀ id,m=.own id→id<n:=by
 rw [AV.lt]
 refine propext ⟨fun h=>h.1,fun h=>⟨h,fun j hj=>?_⟩⟩
 simp only [cU,List.getElem_map,xM]
 simp [znn,znq,znr,znb,znd]
theorem tu:∀ {l l':List Tok},cU l=cU l'→l=l'
 |[],[],_=>rfl
 |[],_::_,h=>by cases h
 |_::_,[],h=>by cases h
 |(a,b,c)::l,(a',b',c')::l',h=>by
  simp only [cU,yae,List.cons.injEq,xM,AV.agg.injEq,AV.int.injEq,AV.str.injEq,true_and,and_true] at h
  obtain ⟨⟨h1,h2,h3⟩,h4⟩:=h
  rw [tu h4]
  congr 1
  simp only [Prod.mk.injEq]
  exact ⟨by omega,h2,by omega⟩
theorem xC:∀ {l l':List Nd},nds l=nds l'→l=l'
 |[],[],_=>rfl
 |[],_::_,h=>by cases h
 |_::_,[],h=>by cases h
 |⟨a1,a2,a3,a4,a5,a6⟩::l,⟨b1,b2,b3,b4,b5,b6⟩::l',h=>by
  simp only [nds,yae,List.cons.injEq,jD,AV.agg.injEq,AV.int.injEq,AV.str.injEq,true_and,and_true] at h
  obtain ⟨⟨h1,h2,h3,h4,h5,h6,h7⟩,h8⟩:=h
  rw [xC h8]
  congr 1
  simp only [Nd.mk.injEq]
  exact ⟨by omega,by omega,by omega,h4,h5,by omega⟩
def xA (v:AV) (Kp:AV→AHeap→Prop) (H:AHeap):Prop:=match v with
 |.iface t v=>Kp (.iface t v) H
 |_=>False
@[congr] theorem IR {v v':AV} {Kp:AV→AHeap→Prop} {H:AHeap} (h:v=v'):xA v Kp H=xA v' Kp H:=by rw [h]
theorem xJ {t:TypeId} {v:AV} {Kp:AV→AHeap→Prop} {H:AHeap}:xA (.iface t v) Kp H=Kp (.iface t v) H:=rfl
theorem Gm {P:Program} {Ω:Tbl} {ops:Array Oper} {rest:List Oper} {K:Fr→AHeap→Prop} {Kp:Fr→AV→AHeap→Prop} {fr:Fr} {H:AHeap} {d:Option Tmp} {x:Operand} {t:TypeId} {pos:String} {aft:Array Edge} :
 bB P Ω ops (Oper.mk d (.panic x) t pos aft none::rest) K Kp fr H=xA (ev fr x) (Kp fr) H:=(rfl)
/-- the parser in memory -/
def pst (m:Mark) (l:List Tok) (p tb:Nat) (t:List Nd):AObj:=.cells [.slice m 3 (cU l),.int .i64 (p:Int),.slice (.own tb) 7 (nds t)]
def onP (o:Option AObj) (K:Mark→List Tok→Nat→Nat→List Nd→Prop):Prop:=∃ m l p tb t,o=some (pst m l p tb t)∧K m l p tb t
@[congr] theorem K6 {o o':Option AObj} {K:Mark→List Tok→Nat→Nat→List Nd→Prop} (h:o=o'):onP o K=onP o' K:=by rw [h]
theorem aU {m:Mark} {l:List Tok} {p tb:Nat} {t:List Nd} {K:Mark→List Tok→Nat→Nat→List Nd→Prop}:onP (some (pst m l p tb t)) K=K m l p tb t:=by
 refine propext ⟨fun ⟨m',l',p',tb',t',h,hk⟩=>?_,fun h=>⟨m,l,p,tb,t,rfl,h⟩⟩
 simp only [pst,Option.some.injEq,AObj.cells.injEq,List.cons.injEq,AV.slice.injEq,AV.int.injEq,Mark.own.injEq,true_and,and_true] at h
 obtain ⟨⟨rfl,h1⟩,h2,rfl,h3⟩:=h
 have:=tu h1
 have:=xC h3
 have:p=p':=by omega
 subst_vars
 exact hk
theorem wb {m:Mark} {l:List Tok} {p tb:Nat} {t:List Nd} {K:Mark→List Tok→Nat→Nat→List Nd→Prop}:onP (some (.cells [.slice m 3 (cU l),.int .i64 (p:Int),.slice (.own tb) 7 (nds t)])) K=K m l p tb t:=aU
def eV:List AV→AHeap→(AEnd→AHeap→Prop)→Prop
 |[.ptr id 0],H,K=>onP (H.get id) fun m l p tb t=>K (.panic (.iface 438 (.int .i64 (p:Int)))) H
 |_,_,_=>False
theorem lE:EntOk Tryz.prog 399 (Ent.effect eV):=by
 refine EntOk.effect fun args H K h=>?_
 unfold eV at h
 split at h
 rotate_left
 ·exact h.elim
 rename_i id
 obtain ⟨m,l,p,tb,t,hg,hK⟩:=h
 refine ⟨_,_,hK,?_⟩
 clear hK
 refine ACalls.fW aB TblOk.nil Tryz.func399 [] (Nat.le_refl _) (T:=aA []) (h:=fun hcl hlt=>?_)
 clear hlt
 have hcs:=av (cs:=[.slice m 3 (cU l),.int .i64 (p:Int),.slice (.own tb) 7 (nds t)]) hg
 simp only [go_sem,hcs,↓Gm,xJ]
 exact Z0
def bN:List AV→AHeap→(AEnd→AHeap→Prop)→Prop
 |[.ptr id 0,.agg [.int .i64 op,.int .i64 a,.int .i64 b,.str nm,.str att,.int .u64 hi,.int .u64 lo]],H,K=>onP (H.get id) fun m l p tb t =>
   (0≤op∧0≤a∧0≤b∧kq hi lo∧id≠tb∧H.get tb=some (.buf 7 t.length)∧t.length≤100000) ∧
   K (.ret (.int .i64 (t.length:Int))) ((H.set id (pst m l p tb (t++[⟨op.toNat,a.toNat,b.toNat,nm,att,vOf hi.toNat lo.toNat⟩]))).set tb (.buf 7 (t.length+1)))
 |_,_,_=>False
theorem iP {H:AHeap} {id:Nat} {m:Mark} {l:List Tok} {p tb:Nat} {t:List Nd} (hg:H.get id=some (pst m l p tb t)) (hcl:H.Closed) (p':Nat) (t':List Nd):(H.set id (pst m l p' tb t')).Closed:=by
 have h0:=hcl id _ hg 0 (by simp)
 have h2:=hcl id _ hg 2 (by simp)
 simp only [List.getElem_cons_zero,List.getElem_cons_succ,pP,jx] at h0 h2
 refine ai hcl ?_
 simp only [znq,znr,pP,jx,znb,and_true,true_and]
 exact ⟨h0,h2⟩
theorem lv {H:AHeap} {i j:Nat} (h:i≠j) (o c:AObj):(H.set j o).set i c=(H.set i c).set j o:=by
 simp only [AHeap.set]
 congr 1
 funext k
 by_cases h1:k=i
 ·subst h1;simp [h]
 ·simp [h1]
theorem cx {H:AHeap} {i j:Nat} (h:i≠j) (o:AObj):aL (H.set j o) i=aL H i:=by
 unfold aL;rw [AHeap.get_set_ne _ _ h]
theorem jH:EntOk Tryz.prog 462 (Ent.effect bN):=by
 refine EntOk.effect fun args H K h=>?_
 unfold bN at h
 split at h
 rotate_left
 ·exact h.elim
 rename_i id op a b nm att hi lo
 obtain ⟨m,l,p,tb,t,hg,⟨h1,h2,h3,⟨h4,h5,h6,h7⟩,hne,htb,htl⟩,hK⟩:=h
 refine ⟨_,_,hK,?_⟩
 clear hK
 obtain ⟨op,rfl⟩:=cf h1
 obtain ⟨a,rfl⟩:=cf h2
 obtain ⟨b,rfl⟩:=cf h3
 obtain ⟨hi,rfl⟩:=cf h4
 obtain ⟨lo,rfl⟩:=cf h6
 simp only [Int.toNat_natCast]
 refine ACalls.fW aB TblOk.nil Tryz.func462 [.tmp 4] (Nat.le_refl _) (T:=aA [(1,[[],[],[],[],[],[],[5],[4,5],[],[],[4,5]])]) (h:=fun hcl hlt=>?_)
 clear hlt
 have hid:=AHeap.get_lt hg
 have htbl:=AHeap.get_lt htb
 have hcs:=av (cs:=[.slice m 3 (cU l),.int .i64 (p:Int),.slice (.own tb) 7 (nds t)]) hg
 have f1:=cm hid
 have f2:=cm htbl
 have g1:(id=tb)=False:=eq_false hne
 have g2:(tb=id)=False:=eq_false fun e=>hne e.symm
 have e1:nds t++[AV.agg [.int .i64 (op:Int),.int .i64 (a:Int),.int .i64 (b:Int),.str nm,.str att,.int .u64 (hi:Int),.int .u64 (lo:Int)]]=nds (t++[⟨op,a,b,nm,att,vOf hi lo⟩]):=by
  rw [← y5];unfold jD;simp only;rw [qT (by omega),wX (by omega)]
 have e2:IntKind.i64.wrap (((t.length+1:Nat):Int) - 1)=(t.length:Int):=by rw [wrap_i64]<;>omega
 have hcl1:=iP hg hcl p (t++[⟨op,a,b,nm,att,vOf hi lo⟩])
 have hcl2:((H.set id (pst m l p tb (t++[⟨op,a,b,nm,att,vOf hi lo⟩]))).set tb (.buf 7 (t.length+1))).Closed:=aa hcl1
 have s1:=lv (H:=H) hne
 have s2:=fun o=>(cx (H:=H) hne o).trans hcs
 have s3:∀ o cs,aL ((H.set id (.cells cs)).set tb o) id=some cs:=fun o cs=>by rw [cx hne,ex hid,if_pos rfl]
 simp only [go_sem,hcs,aF,f1,f2,g1,g2,htb,az,if_pos htbl,e1,s1,s2,s3,e2,List.length_append]
 refine ⟨⟨by omega,by omega,by simp [bI,AV.cells,AV.one]⟩,?_⟩
 simp only [pst] at hcl2 ⊢
 simp (disch:=first|exact Zd|omega) [↓zmk,beq,ybc,ybd,ybe,ag,wk,wk2,wk1,wkM,wkL,au,ybf,hcl2,htbl,jx]
 trace_state
theorem A0 {l:List Tok} {p k z:Nat} {x s:List UInt8} (hp:p<l.length) (h:l[p]=(k,x,z)):isS l p s=(k==3&&x==s):=by
 unfold isS;rw [List.getElem?_eq_getElem hp,h]
theorem yk {l:List Tok} {p:Nat} {s:List UInt8} (hp:l.length≤p):isS l p s=false:=by
 unfold isS;rw [List.getElem?_eq_none hp]
theorem lY {l:List Tok} {p k z:Nat} {x:List UInt8} (hp:p<l.length) (h:l[p]=(k,x,z)):(cU l).getD p .junk=.agg [.int .i64 (k:Int),.str x,.int .i64 (z:Int)]:=by
 rw [Hj hp,h];rfl
def bJ:List AV→AHeap→(AEnd→AHeap→Prop)→Prop
 |[.ptr id 0,.str s],H,K=>onP (H.get id) fun m l p tb t=>(p≤l.length∧l.length≤100000) ∧
   if isS l p s=true then K (.ret (.bool true)) (H.set id (pst m l (p+1) tb t)) else K (.ret (.bool false)) H
 |_,_,_=>False
theorem kG:EntOk Tryz.prog 461 (Ent.effect bJ):=by
 refine EntOk.effect fun args H K h=>?_
 unfold bJ at h
 split at h
 rotate_left
 ·exact h.elim
 rename_i id s
 obtain ⟨m,l,p,tb,t,hg,⟨hp,hl⟩,hK⟩:=h
 have hid:=AHeap.get_lt hg
 have hcs:=av (cs:=[.slice m 3 (cU l),.int .i64 (p:Int),.slice (.own tb) 7 (nds t)]) hg
 have e1:IntKind.i64.wrap ((p:Int)+1)=((p+1:Nat):Int):=by rw [wrap_i64]<;>omega
 by_cases hlt0:p<l.length
 ·rcases htk:l[p] with ⟨k,x,z⟩
  have hgd:=lY hlt0 htk
  rw [A0 hlt0 htk] at hK
  have d1:((p:Int)==(l.length:Int))=false:=by simp;omega
  by_cases hk:k=3
  ·subst hk
   by_cases hx:x=s
   ·subst hx
    simp only [beq_self_eq_true,Bool.and_self,if_true] at hK
    refine ⟨_,_,hK,?_⟩
    clear hK
    refine ACalls.fW aB TblOk.nil Tryz.func461 [.tmp 4] (Nat.le_refl _) (T:=aA []) (h:=fun hcl hlt=>?_)
    clear hlt
    have hcl1:=iP hg hcl (p+1) t
    simp only [go_sem,hcs,aO,hgd,d1,Int.toNat_natCast,e1,beq_self_eq_true,bne_self_eq_false]
    refine ⟨by omega,CE rfl ⟨by omega,?_⟩⟩
    change ag (H.set id (pst m l (p+1) tb t)) _ _ _
    exact Z25
   ·have d3:(x==s)=false:=by simpa using hx
    rw [d3,Bool.and_false,if_neg (by simp)] at hK
    refine ⟨_,_,hK,?_⟩
    clear hK
    refine ACalls.fW aB TblOk.nil Tryz.func461 [.tmp 4] (Nat.le_refl _) (T:=aA []) (h:=fun hcl hlt=>?_)
    clear hlt
    simp only [go_sem,hcs,aO,hgd,d1,d3,Int.toNat_natCast,e1,beq_self_eq_true,bne_self_eq_false]
    refine ⟨by omega,CE rfl ⟨by omega,?_⟩⟩
    exact Z0
  ·have d3:(k==3)=false:=by simpa using hk
   rw [d3,Bool.false_and,if_neg (by simp)] at hK
   refine ⟨_,_,hK,?_⟩
   clear hK
   refine ACalls.fW aB TblOk.nil Tryz.func461 [.tmp 4] (Nat.le_refl _) (T:=aA []) (h:=fun hcl hlt=>?_)
   clear hlt
   have d4:((k:Int) != 3)=true:=by simp;omega
   simp only [go_sem,hcs,aO,hgd,d1,d4,Int.toNat_natCast,e1,beq_self_eq_true,bne_self_eq_false]
   refine ⟨by omega,?_⟩
   exact Z0
 ·have hpe:p=l.length:=by omega
  subst hpe
  rw [yk (Nat.le_refl _),if_neg (by simp)] at hK
  refine ⟨_,_,hK,?_⟩
  clear hK
  refine ACalls.fW aB TblOk.nil Tryz.func461 [.tmp 4] (Nat.le_refl _) (T:=aA []) (h:=fun hcl hlt=>?_)
  clear hlt
  simp only [go_sem,hcs,aO,beq_self_eq_true]
  exact Z0
def jA (l:List Tok) (p:Nat):Option (List UInt8):=match l[p]? with
 |none=>none
 |some (k,x,_)=>if k=2 then some x else none
def onW (o:Option (List UInt8)) (K1:List UInt8→Prop) (K2:Prop):Prop:=match o with
 |some x=>K1 x
 |none=>K2
@[congr] theorem La {o o':Option (List UInt8)} {K1:List UInt8→Prop} {K2:Prop} (h:o=o'):onW o K1 K2=onW o' K1 K2:=by rw [h]
theorem fV {x:List UInt8} {K1:List UInt8→Prop} {K2:Prop}:onW (some x) K1 K2=K1 x:=rfl
theorem fb {K1:List UInt8→Prop} {K2:Prop}:onW none K1 K2=K2:=rfl
def ja:List AV→AHeap→(AEnd→AHeap→Prop)→Prop
 |[.ptr id 0,.int .i64 kd],H,K=>onP (H.get id) fun m l p tb t=>(kd=2∧p≤l.length∧l.length≤100000) ∧
   onW (jA l p) (fun x=>K (.ret (.str x)) (H.set id (pst m l (p+1) tb t))) (K (.panic (.iface 438 (.int .i64 (p:Int)))) H)
 |_,_,_=>False
theorem GG:EntOk Tryz.prog 510 (Ent.effect ja):=by
 refine EntOk.effect fun args H K h=>?_
 unfold ja at h
 split at h
 rotate_left
 ·exact h.elim
 rename_i id kd
 obtain ⟨m,l,p,tb,t,hg,⟨rfl,hp,hl⟩,hK⟩:=h
 have hid:=AHeap.get_lt hg
 have hcs:=av (cs:=[.slice m 3 (cU l),.int .i64 (p:Int),.slice (.own tb) 7 (nds t)]) hg
 have e1:IntKind.i64.wrap ((p:Int)+1)=((p+1:Nat):Int):=by rw [wrap_i64]<;>omega
 have e2:IntKind.i64.wrap (((p+1:Nat):Int) - 1)=(p:Int):=by rw [wrap_i64]<;>omega
 unfold jA at hK
 by_cases hlt0:p<l.length
 ·rcases htk:l[p] with ⟨k,x,z⟩
  have hgd:=lY hlt0 htk
  rw [List.getElem?_eq_getElem hlt0,htk] at hK
  dsimp only at hK
  have d1:((p:Int)==(l.length:Int))=false:=by simp;omega
  by_cases hk:k=2
  ·subst hk
   rw [if_pos rfl,fV] at hK
   refine ⟨_,_,hK,?_⟩
   clear hK
   refine ACalls.fW aB (TblOk.cons lE TblOk.nil) Tryz.func510 [.tmp 4] (by simp [zlb]) (T:=aA []) (h:=fun hcl hlt=>?_)
   clear hlt
   have hcl1:=iP hg hcl (p+1) t
   simp only [go_sem,hcs,aO,hgd,d1,Int.toNat_natCast,e1,e2,ex hid,beq_self_eq_true,bne_self_eq_false]
   refine ⟨by omega,xb rfl ?_⟩
   simp only [go_sem,hcs,aO,hgd,d1,Int.toNat_natCast,e1,e2,ex hid,beq_self_eq_true,bne_self_eq_false]
   refine ⟨by omega,?_⟩
   change ag (H.set id (pst m l (p+1) tb t)) _ _ _
   exact Z25
  ·have d3:(k==2)=false:=by simpa using hk
   rw [if_neg hk,fb] at hK
   refine ⟨_,_,hK,?_⟩
   clear hK
   refine ACalls.fW aB (TblOk.cons lE TblOk.nil) Tryz.func510 [.tmp 4] (Nat.le_refl _) (T:=aA []) (h:=fun hcl hlt=>?_)
   clear hlt
   have d4:((k:Int) != 2)=true:=by simp;omega
   simp only [go_sem,hcs,aO,hgd,d1,d4,Int.toNat_natCast,e1,eV,hg,aU]
   refine ⟨by omega,?_⟩
   exact Z0
 ·have hpe:p=l.length:=by omega
  subst hpe
  rw [List.getElem?_eq_none (Nat.le_refl _)] at hK
  dsimp only at hK
  rw [fb] at hK
  refine ⟨_,_,hK,?_⟩
  clear hK
  refine ACalls.fW aB (TblOk.cons lE TblOk.nil) Tryz.func510 [.tmp 4] (Nat.le_refl _) (T:=aA []) (h:=fun hcl hlt=>?_)
  clear hlt
  simp only [go_sem,hcs,aO,beq_self_eq_true,eV,hg,aU]
  exact Z0
def iH (l:List (Nat × List UInt8)):List AV:=l.map fun o=>.agg [.int .i64 (o.1:Int),.str o.2]
theorem iy {l:List (Nat × List UInt8)}:(iH l).length=l.length:=by simp [iH]
theorem wJ:∀ {l l':List (Nat × List UInt8)},iH l=iH l'→l=l'
 |[],[],_=>rfl
 |[],_::_,h=>by cases h
 |_::_,[],h=>by cases h
 |(a,b)::l,(a',b')::l',h=>by
  simp only [iH,yae,List.cons.injEq,AV.agg.injEq,AV.int.injEq,AV.str.injEq,true_and,and_true] at h
  obtain ⟨⟨h1,h2⟩,h4⟩:=h
  rw [wJ h4]
  congr 1
  simp only [Prod.mk.injEq]
  exact ⟨by omega,h2⟩
theorem eB {n:Nat} {l:List (Nat × List UInt8)}:AV.lt n (.slice .any 2 (iH l)):=iw fun x hx=>by
 simp only [iH,List.mem_map] at hx
 obtain ⟨o,_,rfl⟩:=hx
 simp [znn,znq,znr,znb,znd]
theorem Jr:[AV.agg [.int .i64 8,.str [61,61]],.agg [.int .i64 9,.str [33,61]],.agg [.int .i64 10,.str [60]],.agg [.int .i64 11,.str [60,61]],.agg [.int .i64 12,.str [62]],.agg [.int .i64 13,.str [62,61]]]=iH opsC:=rfl
theorem Jf:[AV.agg [.int .i64 6,.str [43]],.agg [.int .i64 7,.str [45]]]=iH opsS:=rfl
def fm:List AV→AHeap→(AV→Prop)→Prop
 |[],_,K=>K (.slice .any 2 (iH opsC))
 |_,_,_=>False
theorem xp:EntOk Tryz.prog 502 (Ent.pure fm):=by
 refine EntOk.pure fun args H K h=>?_
 unfold fm at h
 split at h
 rotate_left
 ·exact h.elim
 refine ⟨_,h,?_⟩
 clear h
 refine ACalls.fW aB TblOk.nil Tryz.func502 [.tmp 0] (Nat.le_refl _) (T:=aA []) (h:=fun hcl hlt=>?_)
 clear hlt
 simp only [go_sem,Jr]
 exact Z26
def kB:List AV→AHeap→(AV→Prop)→Prop
 |[],_,K=>K (.slice .any 2 (iH opsS))
 |_,_,_=>False
theorem Gd:EntOk Tryz.prog 505 (Ent.pure kB):=by
 refine EntOk.pure fun args H K h=>?_
 unfold kB at h
 split at h
 rotate_left
 ·exact h.elim
 refine ⟨_,h,?_⟩
 clear h
 refine ACalls.fW aB TblOk.nil Tryz.func505 [.tmp 0] (Nat.le_refl _) (T:=aA []) (h:=fun hcl hlt=>?_)
 clear hlt
 simp only [go_sem,Jf]
 exact Z26
def JT (x:List AV) (K:List (Nat × List UInt8)→Prop):Prop:=∃ l,x=iH l∧K l
theorem iV {l:List (Nat × List UInt8)} {K:List (Nat × List UInt8)→Prop}:JT (iH l) K=K l :=
 propext ⟨fun ⟨l',h,hk⟩=>by rw [wJ h];exact hk,fun h=>⟨l,rfl,h⟩⟩
def onN (o:Option Nat) (K1:Nat→Prop) (K2:Prop):Prop:=match o with
 |some x=>K1 x
 |none=>K2
@[congr] theorem K3 {o o':Option Nat} {K1:Nat→Prop} {K2:Prop} (h:o=o'):onN o K1 K2=onN o' K1 K2:=by rw [h]
theorem nh {x:Nat} {K1:Nat→Prop} {K2:Prop}:onN (some x) K1 K2=K1 x:=rfl
theorem qi {K1:Nat→Prop} {K2:Prop}:onN none K1 K2=K2:=rfl
def kx:List AV→AHeap→(AEnd→AHeap→Prop)→Prop
 |[.ptr id 0,.slice _ 2 x],H,K=>onP (H.get id) fun m l p tb t=>JT x fun ops=>(p≤l.length∧l.length≤100000∧ops.length≤100) ∧
   onN (gB l p ops) (fun k=>K (.ret (.int .i64 (k:Int))) (H.set id (pst m l (p+1) tb t))) (K (.ret (.int .i64 0)) H)
 |_,_,_=>False
theorem wE {l:List (Nat × List UInt8)} {k:Nat} (h:k<l.length):(iH l).getD k .junk=.agg [.int .i64 (l[k].1:Int),.str l[k].2]:=by simp [iH,List.getD_eq_getElem?_getD,h]
theorem zR:EntOk Tryz.prog 501 (Ent.effect kx):=by
 refine EntOk.effect fun args H K h=>?_
 unfold kx at h
 split at h
 rotate_left
 ·exact h.elim
 rename_i id mo x
 obtain ⟨m,l,p,tb,t,hg,ops,rfl,⟨hp,hl,ho⟩,hK⟩:=h
 have hid:=AHeap.get_lt hg
 have f1:=cm hid
 cases hop:gB l p ops with
 |some k =>
  rw [hop,nh] at hK
  refine ⟨_,_,hK,?_⟩
  clear hK
  refine ACalls.fW aB (TblOk.cons kG TblOk.nil) Tryz.func501 [.tmp 4] (by simp [zlb]) (T:=aA []) (h:=fun hcl hlt=>?_)
  have hltm:∀ n',H.nx≤n'→AV.lt n' (.slice .any 2 (iH ops)):=fun n' _=>eB
  clear hlt
  have hcl1:=iP hg hcl (p+1) t
  simp only [go_sem,iy]
  refine ay (A:=Nat) (fun i=>[(9,.int .i64 (i:Int)),(8,.int .i64 (ops.length:Int)),(7,.slice .any 2 (iH ops)),(0,.ptr id 0)]) (fun _=>H) (fun i=>i≤ops.length∧gB l p (ops.drop i)=some k) (fun i=>ops.length - i) 0 ⟨by omega,hop⟩ ?_ fun i hi=>?_
  ·exact Z27
  obtain ⟨hi,hop'⟩:=hi
  simp only [go_sem]
  refine aq (fun h1=>?_) (fun h1=>?_)
  ·have hi1:i<ops.length:=by simp at h1;omega
   have e5:IntKind.i64.wrap ((i:Int)+1)=((i+1:Nat):Int):=by rw [wrap_i64]<;>omega
   have hgo:=wE hi1
   rw [List.drop_eq_getElem_cons hi1] at hop'
   rcases hok:ops[i] with ⟨ko,so⟩
   rw [hok] at hop' hgo
   unfold gB at hop'
   by_cases hs:isS l p so=true
   ·rw [if_pos hs] at hop'
    cases hop'
    simp only [go_sem,Int.toNat_natCast,iy,hgo,bJ,f1,hg,aU,hs,if_true,hp,hl]
    refine ⟨by omega,?_⟩
    exact Z25
   ·rw [if_neg hs] at hop'
    have hs':isS l p so=false:=by simpa using hs
    simp only [go_sem,Int.toNat_natCast,iy,hgo,bJ,f1,hg,aU,hs',if_false,hp,hl,e5]
    refine ⟨by omega,i+1,⟨by omega,hop'⟩,by omega,?_⟩
    exact Z27
  ·exfalso
   have hi1:ops.length≤i:=by simp at h1;omega
   rw [ybf hi1] at hop'
   cases hop'
 |none =>
  rw [hop,qi] at hK
  refine ⟨_,_,hK,?_⟩
  clear hK
  refine ACalls.fW aB (TblOk.cons kG TblOk.nil) Tryz.func501 [.tmp 4] (Nat.le_refl _) (T:=aA []) (h:=fun hcl hlt=>?_)
  clear hlt
  simp only [go_sem,iy]
  refine ay (A:=Nat) (fun i=>[(9,.int .i64 (i:Int)),(8,.int .i64 (ops.length:Int)),(7,.slice .any 2 (iH ops)),(0,.ptr id 0)]) (fun _=>H) (fun i=>i≤ops.length∧gB l p (ops.drop i)=none) (fun i=>ops.length - i) 0 ⟨by omega,hop⟩ ?_ fun i hi=>?_
  ·exact Z27
  obtain ⟨hi,hop'⟩:=hi
  simp only [go_sem]
  refine aq (fun h1=>?_) (fun h1=>?_)
  ·have hi1:i<ops.length:=by simp at h1;omega
   have e5:IntKind.i64.wrap ((i:Int)+1)=((i+1:Nat):Int):=by rw [wrap_i64]<;>omega
   have hgo:=wE hi1
   rw [List.drop_eq_getElem_cons hi1] at hop'
   rcases hok:ops[i] with ⟨ko,so⟩
   rw [hok] at hop' hgo
   unfold gB at hop'
   by_cases hs:isS l p so=true
   ·rw [if_pos hs] at hop';cases hop'
   ·rw [if_neg hs] at hop'
    have hs':isS l p so=false:=by simpa using hs
    simp only [go_sem,Int.toNat_natCast,iy,hgo,bJ,f1,hg,aU,hs',if_false,hp,hl,e5]
    refine ⟨by omega,i+1,⟨by omega,hop'⟩,by omega,?_⟩
    exact Z27
  ·simp only [go_sem]
   exact Z0
end Go.AL
open Go Go.AL Go.Proofs
namespace Go.AL
set_option linter.all false
set_option maxRecDepth 10000
def ge (op v:Int):AV:=.agg [.int .i64 op,.int .i64 0,.int .i64 0,.str [],.str [],.int .u64 0,.int .u64 v]
def kJ (s:List UInt8):AV:=if s=rT then .tup [ge 2 1,.bool true] else if s=mH then .tup [ge 2 0,.bool true] else .tup [ge 0 0,.bool false]
def rD:List AV→AHeap→(AV→Prop)→Prop
 |[.int .u64 n],_,K=>K (.agg [.int .u64 0,.int .u64 n])
 |_,_,_=>False
theorem qY:EntOk Tryz.prog 122 (Ent.pure rD):=by
 refine EntOk.pure fun args H K h=>?_
 unfold rD at h
 split at h
 rotate_left
 ·exact h.elim
 rename_i n
 refine ⟨_,h,?_⟩
 clear h
 refine ACalls.fW aB TblOk.nil Tryz.func122 [.cell 2 48] (Nat.le_refl _) (T:=aA []) (h:=fun hcl hlt=>?_)
 clear hlt
 simp only [go_sem]
 exact Z0
def gL:List AV→AHeap→(AV→Prop)→Prop
 |[.str s],_,K=>K (kJ s)
 |_,_,_=>False
theorem Ew:EntOk Tryz.prog 511 (Ent.pure gL):=by
 refine EntOk.pure fun args H K h=>?_
 unfold gL at h
 split at h
 rotate_left
 ·exact h.elim
 rename_i s
 refine ⟨_,h,?_⟩
 clear h
 unfold kJ
 by_cases h1:s=rT
 ·rw [if_pos h1]
  subst h1
  refine ACalls.fW aB (TblOk.cons qY TblOk.nil) Tryz.func511 [.cell 2 180,.tmp 3] (Nat.le_refl _) (T:=aA []) (h:=fun hcl hlt=>?_)
  clear hlt
  have d1:(rT==[116,114,117,101])=true:=by decide
  simp only [go_sem,rD,d1,zkz]
  exact Z28
 ·rw [if_neg h1]
  have d1:(s==[116,114,117,101])=false:=by simpa [rT] using h1
  by_cases h2:s=mH
  ·rw [if_pos h2]
   subst h2
   refine ACalls.fW aB (TblOk.cons qY TblOk.nil) Tryz.func511 [.cell 2 180,.tmp 3] (Nat.le_refl _) (T:=aA []) (h:=fun hcl hlt=>?_)
   clear hlt
   have d2:(mH==[102,97,108,115,101])=true:=by decide
   simp only [go_sem,rD,d1,d2,zkz]
   exact Z28
  ·rw [if_neg h2]
   have d2:(s==[102,97,108,115,101])=false:=by simpa [mH] using h2
   refine ACalls.fW aB (TblOk.cons qY TblOk.nil) Tryz.func511 [.cell 2 180,.tmp 3] (Nat.le_refl _) (T:=aA []) (h:=fun hcl hlt=>?_)
   clear hlt
   simp only [go_sem,rD,d1,d2,zkz]
   exact Z28
def oq (l:List Tok):Prop:=∀ x∈l,x.2.1.length≤1000∧(x.1=1→(lit x.2.1).isSome=true)
def fJ (H:AHeap) (id tb:Nat) (l:List Tok) (p:Nat) (t:List Nd):Prop:=id≠tb∧H.get tb=some (.buf 7 t.length)∧t.length≤p∧p≤l.length∧l.length≤1000∧oq l∧Good t
theorem fE {H:AHeap} {id tb p p':Nat} {m:Mark} {l:List Tok} {t t':List Nd} (h:fJ H id tb l p t) (hp:p'≤l.length) (ht:t'.length≤p') (hg:Good t'):fJ ((H.set id (pst m l p' tb t')).set tb (.buf 7 t'.length)) id tb l p' t':=by
 obtain ⟨h1,h2,h3,h4,h5,h6,h7⟩:=h
 have htb:=AHeap.get_lt h2
 refine ⟨h1,?_,ht,hp,h5,h6,hg⟩
 rw [az,if_pos rfl,if_pos (by simpa [zlb] using htb)]
theorem jO {H:AHeap} {id tb p p':Nat} {o:AObj} {l:List Tok} {t:List Nd} (h:fJ H id tb l p t) (hp:p'≤l.length) (ht:t.length≤p'):fJ (H.set id o) id tb l p' t:=by
 obtain ⟨h1,h2,h3,h4,h5,h6,h7⟩:=h
 refine ⟨h1,?_,ht,hp,h5,h6,h7⟩
 rw [AHeap.get_set_ne _ _ (fun e=>h1 e.symm)];exact h2
def oZ (l:List Tok) (p:Nat):Nat:=match l[p]? with
 |none=>0
 |some (k,_,_)=>k
def v5 (l:List Tok) (p:Nat):Nat:=match l[p]? with
 |none=>0
 |some (_,x,_)=>(lit x).getD 0
def eS:List AV→AHeap→(AEnd→AHeap→Prop)→Prop
 |[.ptr id 0],H,K=>onP (H.get id) fun m l p tb t=>(fJ H id tb l p t∧oZ l p=1) ∧
   K (.ret (.int .i64 (t.length:Int))) ((H.set id (pst m l (p+1) tb (t++[⟨1,0,0,[],[],v5 l p⟩]))).set tb (.buf 7 (t.length+1)))
 |_,_,_=>False
theorem zj:EntOk Tryz.prog 509 (Ent.effect eS):=by
 refine EntOk.effect fun args H K h=>?_
 unfold eS at h
 split at h
 rotate_left
 ·exact h.elim
 rename_i id
 obtain ⟨m,l,p,tb,t,hg,⟨⟨hne,htb,ht,hp,hl,hgl,hgt⟩,hk⟩,hK⟩:=h
 have hid:=AHeap.get_lt hg
 have htbl:=AHeap.get_lt htb
 have hcs:=av (cs:=[.slice m 3 (cU l),.int .i64 (p:Int),.slice (.own tb) 7 (nds t)]) hg
 have f1:=cm hid
 have f2:=cm htbl
 have g1:(id=tb)=False:=eq_false hne
 have g2:(tb=id)=False:=eq_false fun e=>hne e.symm
 have e1:IntKind.i64.wrap ((p:Int)+1)=((p+1:Nat):Int):=by rw [wrap_i64]<;>omega
 have hlt0:p<l.length:=by
  rcases Nat.lt_or_ge p l.length with h1|h1
  ·exact h1
  ·unfold oZ at hk;rw [List.getElem?_eq_none h1] at hk;cases hk
 rcases htk:l[p] with ⟨k,x,z⟩
 have hgd:=lY hlt0 htk
 have hk1:k=1:=by unfold oZ at hk;rw [List.getElem?_eq_getElem hlt0,htk] at hk;exact hk
 subst hk1
 have hla:v5 l p=(lit x).getD 0:=by unfold v5;rw [List.getElem?_eq_getElem hlt0,htk]
 rw [hla] at hK
 obtain ⟨hxl,hxs⟩:=hgl l[p] (List.getElem_mem hlt0)
 rw [htk] at hxl hxs
 dsimp only at hxl hxs
 obtain ⟨n,hn⟩:=Option.isSome_iff_exists.1 (hxs rfl)
 have hn128:=yd hn
 rw [hn] at hK
 dsimp only [Option.getD_some] at hK
 refine ⟨_,_,hK,?_⟩
 clear hK
 refine ACalls.fW aB (TblOk.cons rA (TblOk.cons lE (TblOk.cons vL (TblOk.cons jH TblOk.nil)))) Tryz.func509 [.tmp 2] (Nat.le_refl _) (T:=aA [(1,[[],[],[],[],[],[],[],[],[],[],[],[3,7,10],[],[],[],[],[3,7,10,11]])]) (h:=fun hcl hlt=>?_)
 clear hlt
 have hxl':x.length≤140737488355328:=by omega
 have hv:lC (n:Int)=.tup [.agg [.int .u64 ((n/2^64:Nat):Int),.int .u64 ((n % 2^64:Nat):Int)],.bool true]:=by
  unfold lC
  rw [if_pos ⟨Int.natCast_nonneg n,Int.lt_of_lt_of_le (Int.ofNat_lt.2 hn128) (by decide)⟩]
  rfl
 have hn1:isN (n:Int):=⟨Int.le_trans (by decide) (Int.natCast_nonneg n),Int.lt_of_lt_of_le (Int.ofNat_lt.2 hn128) (by decide)⟩
 have hvo:vOf (n/2^64) (n % 2^64)=n:=lu n
 have hlo:n/2^64<18446744073709551616:=by omega
 have hlo2:n % 2^64<18446744073709551616:=by omega
 have hx1:(id=H.nx)=False:=eq_false (by omega)
 have s1:=lv (H:=H) hne
 simp only [go_sem,hcs,aO,hgd,Int.toNat_natCast,e1,mc,hxl',sj,hn,hx1,nAV]
 simp only [j9]
 refine ⟨by omega,n,⟨rfl,hn1⟩,?_⟩
 rw [hv]
 have hn0:(0≤n/2^64):=Nat.zero_le _
 generalize hw0:w0 (n:Int)=y0
 generalize hw1:w1 (n:Int)=y1
 generalize hw2:w2 (n:Int)=y2
 have hgi:∀ o,(H.set id o).get id=some o:=fun o=>AHeap.get_set_same _ _ hid
 have hgt:∀ o,(H.set id o).get tb=some (.buf 7 t.length):=fun o=>by rw [AHeap.get_set_ne _ _ (fun e=>hne e.symm)];exact htb
 have hcl1:=iP hg hcl (p+1) (t++[⟨1,0,0,[],[],n⟩])
 have hcl2:((H.set id (pst m l (p+1) tb (t++[⟨1,0,0,[],[],n⟩]))).set tb (.buf 7 (t.length+1))).Closed:=aa hcl1
 simp only [bv,go_sem,hcs,Int.toNat_natCast,e1,hx1,f1,f2,g1,g2,ex hid,bN,hgi,hgt,wb,hvo]
 refine ⟨⟨by decide,by decide,by decide,⟨by omega,by omega,by omega,by omega⟩,by omega⟩,?_⟩
 exact Z23
/-! ### The rules -/
def C3 (m:Mark) (l:List Tok) (tb id:Nat) (H:AHeap) (K:AEnd→AHeap→Prop) (o:Option PR):Prop:=match o with
 |none=>False
 |some (.ok a p t)=>K (.ret (.int .i64 (a:Int))) ((H.set id (pst m l p tb t)).set tb (.buf 7 t.length))
 |some (.bad p)=>K (.panic (.iface 438 (.int .i64 (p:Int)))) ((H.del id).del tb)
@[congr] theorem J9 {m:Mark} {l:List Tok} {tb id:Nat} {H:AHeap} {K:AEnd→AHeap→Prop} {o o':Option PR} (h:o=o'):C3 m l tb id H K o=C3 m l tb id H K o':=by rw [h]
theorem bA {m:Mark} {l:List Tok} {tb id a p:Nat} {t:List Nd} {H:AHeap} {K:AEnd→AHeap→Prop}:C3 m l tb id H K (some (.ok a p t))=K (.ret (.int .i64 (a:Int))) ((H.set id (pst m l p tb t)).set tb (.buf 7 t.length)):=rfl
theorem bb {m:Mark} {l:List Tok} {tb id p:Nat} {H:AHeap} {K:AEnd→AHeap→Prop}:C3 m l tb id H K (some (.bad p))=K (.panic (.iface 438 (.int .i64 (p:Int)))) ((H.del id).del tb):=rfl
def bp (rl:Rl) (f:Nat):List AV→AHeap→(AEnd→AHeap→Prop)→Prop
 |[.ptr id 0],H,K=>onP (H.get id) fun m l p tb t=>fJ H id tb l p t∧C3 m l tb id H K (run l f rl p t)
 |_,_,_=>False
theorem bR {H:AHeap} {i j:Nat} {x y:AObj}:(((H.set i x).set j y).del i).del j=(H.del i).del j:=by
 simp only [AHeap.set,AHeap.del]
 congr 1
 funext k
 by_cases h1:k=j
 ·simp [h1]
 ·by_cases h2:k=i
  ·simp [h1,h2]
  ·simp [h1,h2]
theorem bz {H:AHeap} {i j:Nat} {x:AObj}:((H.set i x).del i).del j=(H.del i).del j:=by
 simp only [AHeap.set,AHeap.del]
 congr 1
 funext k
 by_cases h1:k=j
 ·simp [h1]
 ·by_cases h2:k=i
  ·simp [h1,h2]
  ·simp [h1,h2]
theorem gJ {H:AHeap} {i j:Nat}:((H.del i).del j).Le H:=⟨Nat.le_refl _,fun k x hk=>by
 rw [gO] at hk
 split at hk
 ·cases hk
 ·rw [gO] at hk
  split at hk
  ·cases hk
  ·exact hk⟩
theorem fw {H:AHeap} {i j:Nat} {x y:AObj}:((H.del i).del j).Le ((H.set i x).set j y):=by
 have:=gJ (H:=(H.set i x).set j y) (i:=i) (j:=j)
 rwa [bR] at this
theorem dd_le1 {H:AHeap} {i j:Nat} {x:AObj}:((H.del i).del j).Le (H.set i x):=by
 have:=gJ (H:=H.set i x) (i:=i) (j:=j)
 rwa [bz] at this
theorem ip {H:AHeap} {i j:Nat} (h:H.Closed):((H.del i).del j).Closed:=aj (aj h)
theorem g8 {H:AHeap} {id tb p:Nat} {m:Mark} {l:List Tok} {t:List Nd} (hg:H.get id=some (pst m l p tb t)) (h:fJ H id tb l p t) (hcl:H.Closed) :
 (∀ X Y,((H.set id X).set tb Y).get id=some X)∧(∀ X Y,((H.set id X).set tb Y).get tb=some Y)∧(∀ X Y Z,((H.set id X).set tb Y).set id Z=(H.set id Z).set tb Y) ∧
   (∀ p' t',((H.set id (pst m l p' tb t')).set tb (.buf 7 t'.length)).Closed)∧(∀ X Y Z,((H.set id X).set tb Y).set tb Z=(H.set id X).set tb Z):=by
 obtain ⟨h1,h2,h3,h4,h5,h6,h7⟩:=h
 have hid:=AHeap.get_lt hg
 have htb:=AHeap.get_lt h2
 refine ⟨fun X Y=>?_,fun X Y=>?_,fun X Y Z=>?_,fun p' t'=>aa (iP hg hcl p' t'),fun X Y Z=>?_⟩
 ·rw [AHeap.get_set_ne _ _ h1];exact AHeap.get_set_same _ _ hid
 ·exact AHeap.get_set_same _ _ (by simpa [zlb] using htb)
 ·rw [lv h1];congr 1;simp only [AHeap.set];congr 1;funext k;by_cases hk:k=id<;>simp [hk]
 ·simp only [AHeap.set];congr 1;funext k;by_cases hk:k=tb<;>simp [hk]
end Go.AL
open Go Go.AL Go.Proofs
namespace Go.AL
set_option linter.all false
set_option maxRecDepth 10000
def iW (f:Nat):=bp .imp f
def rY (f:Nat):=bp .or f
def m9 (f:Nat):=bp .and f
def jX (f:Nat):=bp .not f
def tt (f:Nat):=bp .cmp f
def mB (f:Nat):=bp .sum f
def nr (f:Nat):=bp .un f
def pB (f:Nat):=bp .atom f
def xR:PR→AEnd
 |.ok a _ _=>.ret (.int .i64 (a:Int))
 |.bad p=>.panic (.iface 438 (.int .i64 (p:Int)))
def HR (m:Mark) (l:List Tok) (tb id:Nat) (H:AHeap):PR→AHeap
 |.ok _ p t=>(H.set id (pst m l p tb t)).set tb (.buf 7 t.length)
 |.bad _=>(H.del id).del tb
theorem cD {a p:Nat} {t:List Nd}:xR (.ok a p t)=.ret (.int .i64 (a:Int)):=rfl
theorem bY {p:Nat}:xR (.bad p)=.panic (.iface 438 (.int .i64 (p:Int))):=rfl
theorem cF {m:Mark} {l:List Tok} {tb id a p:Nat} {t:List Nd} {H:AHeap}:HR m l tb id H (.ok a p t)=(H.set id (pst m l p tb t)).set tb (.buf 7 t.length):=rfl
theorem bW {m:Mark} {l:List Tok} {tb id p:Nat} {H:AHeap}:HR m l tb id H (.bad p)=(H.del id).del tb:=rfl
theorem fG {m:Mark} {l:List Tok} {tb id:Nat} {H:AHeap} {K:AEnd→AHeap→Prop} {r:PR}:C3 m l tb id H K (some r)=K (xR r) (HR m l tb id H r):=by cases r<;>rfl
theorem rE {m:Mark} {l:List Tok} {tb id:Nat} {H:AHeap} {r:PR}:H.nx≤(HR m l tb id H r).nx:=by cases r<;>exact Nat.le_refl _
theorem k9:(opsC.length≤100)=True:=eq_true (by decide)
theorem lF:(opsS.length≤100)=True:=eq_true (by decide)
def opv (l:List Tok) (p:Nat):Nat:=(gB l p opsS).getD 0
def oph (l:List Tok) (p:Nat):Nat:=if (gB l p opsS).isSome then p+1 else p
theorem JO:vOf 0 1=1:=rfl
theorem JX:kq 0 1=True:=eq_true (by unfold kq;decide)
theorem aQ:vOf 0 0=0:=rfl
theorem aR:kq 0 0=True:=eq_true (by unfold kq;decide)
theorem HY {f:Nat} (h_yOr:EntOk Tryz.prog 460 (Ent.effect (rY f))) (h_yImp:EntOk Tryz.prog 398 (Ent.effect (iW f))):EntOk Tryz.prog 398 (Ent.effect (iW (f+1))):=by
 refine EntOk.effect fun args H K h=>?_
 unfold iW bp at h
 split at h
 rotate_left
 ·exact h.elim
 rename_i id
 obtain ⟨m,l,p,tb,t,hg,hpre,hK⟩:=h
 cases ho:run l (f+1) .imp p t with
 |none=>rw [ho] at hK;exact hK.elim
 |some r =>
 rw [ho,fG] at hK
 refine ⟨_,_,hK,?_⟩
 clear hK
 rw [run] at ho
 simp only [dJ] at ho
 have hpre':=hpre
 obtain ⟨hne,htb,ht,hp,hl,hgl,hgt⟩:=hpre
 have hid:=AHeap.get_lt hg
 have htbl:=AHeap.get_lt htb
 have f1:=cm hid
 have f2:=cm htbl
 have hl5:l.length≤100000:=by omega
 have i1:=@Int.natCast_nonneg
 have hne':(id=tb)=False:=eq_false hne
 refine ACalls.fW aB (TblOk.cons h_yOr (TblOk.cons kG (TblOk.cons h_yImp (TblOk.cons jH TblOk.nil)))) Tryz.func398 [.tmp 2] rE (T:=aA []) (h:=fun hcl hlt=>?_)
 clear hlt
 obtain ⟨hgi,hgt',hsi,hcl2,hst⟩:=g8 hg hpre' hcl
 rcases aT ho with ⟨q,h1,rfl⟩|⟨a,p1,t1,h1,h2⟩
 ·simp only [go_sem,f1,f2,hgi,hgt',hsi,hst,aU,bb,bA,cD,bY,cF,bW,bR,bz,bJ,bN,bp,hne,ne_eq,hne',hl5,Int.toNat_natCast,aQ,aR,i1,Int.reduceLE,eq_self,not_false_eq_true,rY,hg,hpre',h1]
  exact Z29
 clear ho
 obtain ⟨k1,k2,k3,k4,k5,k6⟩:=aX _ h1 hgt trivial hp
 simp only [Rl.isL,Bool.false_eq_true,if_false] at k4
 have hp1:fJ ((H.set id (pst m l p1 tb t1)).set tb (.buf 7 t1.length)) id tb l p1 t1:=fE hpre' k2 (by omega) k5
 cases hs:isS l p1 [45,62] with
 |false =>
  rw [hs,if_neg (by simp)] at h2
  cases h2
  simp only [go_sem,f1,f2,hgi,hgt',hsi,hst,aU,bb,bA,cD,bY,cF,bW,bR,bz,bJ,bN,bp,hne,ne_eq,hne',hl5,Int.toNat_natCast,aQ,aR,i1,Int.reduceLE,eq_self,not_false_eq_true,rY,hg,hpre',h1,k2,hs,if_false]
  exact Z23
 |true =>
  rw [hs,if_pos rfl] at h2
  have hlt1:=cX hs
  have hp2:fJ ((H.set id (pst m l (p1+1) tb t1)).set tb (.buf 7 t1.length)) id tb l (p1+1) t1:=fE hpre' hlt1 (by omega) k5
  rcases aT h2 with ⟨q,h3,rfl⟩|⟨b,p2,t2,h3,h4⟩
  ·simp only [go_sem,f1,f2,hgi,hgt',hsi,hst,aU,bb,bA,cD,bY,cF,bW,bR,bz,bJ,bN,bp,hne,ne_eq,hne',hl5,Int.toNat_natCast,aQ,aR,i1,Int.reduceLE,eq_self,not_false_eq_true,rY,iW,hg,hpre',h1,k2,hs,if_true,hp2,h3]
   exact Z29
  cases h4
  obtain ⟨k1b,k2b,k3b,k4b,k5b,k6b⟩:=aX _ h3 k5 trivial hlt1
  simp only [Rl.isL,Bool.false_eq_true,if_false] at k4b
  have ht2:t2.length≤100000:=by omega
  simp only [go_sem,f1,f2,hgi,hgt',hsi,hst,aU,bb,bA,cD,bY,cF,bW,bR,bz,bJ,bN,bp,hne,ne_eq,hne',hl5,Int.toNat_natCast,aQ,aR,i1,Int.reduceLE,eq_self,not_false_eq_true,rY,iW,hg,hpre',h1,k2,hs,if_true,hp2,h3,ht2,nd2]
  have hc3:=hcl2 p2 (t2++[⟨16,a,b,[],[],0⟩])
  simp only [List.length_append,yaz,yba,Nat.zero_add] at hc3 ⊢
  exact Z30
theorem KA {f:Nat} (h_yAnd:EntOk Tryz.prog 482 (Ent.effect (m9 f))):EntOk Tryz.prog 460 (Ent.effect (rY (f+1))):=by
 refine EntOk.effect fun args H K h=>?_
 unfold rY bp at h
 split at h
 rotate_left
 ·exact h.elim
 rename_i id
 obtain ⟨m,l,p,tb,t,hg,hpre,hK⟩:=h
 cases ho:run l (f+1) .or p t with
 |none=>rw [ho] at hK;exact hK.elim
 |some r =>
 rw [ho,fG] at hK
 refine ⟨_,_,hK,?_⟩
 clear hK
 rw [run] at ho
 simp only [dJ] at ho
 have hpre':=hpre
 obtain ⟨hne,htb,ht,hp,hl,hgl,hgt⟩:=hpre
 have hid:=AHeap.get_lt hg
 have htbl:=AHeap.get_lt htb
 have f1:=cm hid
 have f2:=cm htbl
 have hl5:l.length≤100000:=by omega
 have i1:=@Int.natCast_nonneg
 have hne':(id=tb)=False:=eq_false hne
 refine ACalls.fW aB (TblOk.cons h_yAnd (TblOk.cons kG (TblOk.cons jH TblOk.nil))) Tryz.func460 [.tmp 2] rE (T:=aA []) (h:=fun hcl hlt=>?_)
 clear hlt
 obtain ⟨hgi,hgt',hsi,hcl2,hst⟩:=g8 hg hpre' hcl
 rcases aT ho with ⟨q,h1,rfl⟩|⟨a,p1,t1,h1,h2⟩
 ·simp only [go_sem,f1,f2,hgi,hgt',hsi,hst,aU,bb,bA,cD,bY,cF,bW,bR,bz,bJ,bN,bp,hne,ne_eq,hne',hl5,Int.toNat_natCast,aQ,aR,i1,Int.reduceLE,eq_self,not_false_eq_true,m9,hg,hpre',h1]
  exact Z29
 clear ho
 obtain ⟨k1,k2,k3,k4,k5,k6⟩:=aX _ h1 hgt trivial hp
 simp only [Rl.isL,Bool.false_eq_true,if_false] at k4
 have hp1:fJ ((H.set id (pst m l p1 tb t1)).set tb (.buf 7 t1.length)) id tb l p1 t1:=fE hpre' k2 (by omega) k5
 simp only [go_sem,f1,f2,hgi,hgt',hsi,hst,aU,bb,bA,cD,bY,cF,bW,bR,bz,bJ,bN,bp,hne,ne_eq,hne',hl5,Int.toNat_natCast,aQ,aR,i1,Int.reduceLE,eq_self,not_false_eq_true,m9,hg,hpre',h1]
 refine ay (A:=Nat × Nat × Nat × List Nd) (fun x=>[(0,.ptr id 0),(3,.int .i64 (x.2.1:Int))]) (fun x=>(H.set id (pst m l x.2.2.1 tb x.2.2.2)).set tb (.buf 7 x.2.2.2.length))
  (fun x=>x.1≤f∧run l x.1 (.orL x.2.1) x.2.2.1 x.2.2.2=some r∧x.2.2.1≤l.length∧x.2.2.2.length≤x.2.2.1∧Good x.2.2.2∧x.2.1<x.2.2.2.length) (fun x=>x.1) (f,a,p1,t1) ⟨Nat.le_refl _,h2,k2,by dsimp only;omega,k5,k1⟩ ?_ fun x hx=>?_
 ·exact Z31
 obtain ⟨g,a',p',t'⟩:=x
 obtain ⟨x1,x2,x3,x4,x5,x6⟩:=hx
 dsimp only at x1 x2 x3 x4 x5 x6 ⊢
 have ht':t'.length≤100000:=by omega
 have hpx:fJ ((H.set id (pst m l p' tb t')).set tb (.buf 7 t'.length)) id tb l p' t':=fE hpre' x3 x4 x5
 cases g with
 |zero=>cases x2
 |succ g =>
 rw [run] at x2
 simp only [dJ] at x2
 cases hs:isS l p' [124,124] with
 |false =>
  rw [hs,if_neg (by simp)] at x2
  cases x2
  simp only [go_sem,f1,f2,hgi,hgt',hsi,hst,aU,bb,bA,cD,bY,cF,bW,bR,bz,bJ,bN,bp,hne,ne_eq,hne',hl5,Int.toNat_natCast,aQ,aR,i1,Int.reduceLE,eq_self,not_false_eq_true,x3,hs,if_false]
  exact Z23
 |true =>
  rw [hs,if_pos rfl] at x2
  have hlt1:=cX hs
  have hp2:fJ ((H.set id (pst m l (p'+1) tb t')).set tb (.buf 7 t'.length)) id tb l (p'+1) t':=fE hpre' hlt1 (by omega) x5
  rcases aT x2 with ⟨q,h3,rfl⟩|⟨b,p2,t2,h3,h4⟩
  ·have h3':=cE (show g≤f by omega) h3
   simp only [go_sem,f1,f2,hgi,hgt',hsi,hst,aU,bb,bA,cD,bY,cF,bW,bR,bz,bJ,bN,bp,hne,ne_eq,hne',hl5,Int.toNat_natCast,aQ,aR,i1,Int.reduceLE,eq_self,not_false_eq_true,m9,x3,hs,if_true,hp2,h3']
   exact Z29
  have h3':=cE (show g≤f by omega) h3
  obtain ⟨k1b,k2b,k3b,k4b,k5b,k6b⟩:=aX _ h3 x5 trivial hlt1
  simp only [Rl.isL,Bool.false_eq_true,if_false] at k4b
  have ht2:t2.length≤100000:=by omega
  simp only [go_sem,f1,f2,hgi,hgt',hsi,hst,aU,bb,bA,cD,bY,cF,bW,bR,bz,bJ,bN,bp,hne,ne_eq,hne',hl5,Int.toNat_natCast,aQ,aR,i1,Int.reduceLE,eq_self,not_false_eq_true,m9,x3,hs,if_true,hp2,h3',ht2]
  have hc3:=hcl2 p2 (t2++[⟨15,a',b,[],[],0⟩])
  refine ⟨(g,t2.length,p2,t2++[⟨15,a',b,[],[],0⟩]),⟨by dsimp only;omega,h4,k2b,by simp;omega,k5b.snoc ⟨(show 1≤15 by decide),(show 15≤16 by decide)⟩ (show (0:Nat)<2^128 by decide) (.inr ⟨by simp only;omega,by simp only;omega⟩),by simp⟩,by dsimp only;omega,?_⟩
  simp only [List.length_append,yaz,yba,Nat.zero_add] at hc3 ⊢
  exact Z32
theorem It {f:Nat} (h_yNot:EntOk Tryz.prog 494 (Ent.effect (jX f))):EntOk Tryz.prog 482 (Ent.effect (m9 (f+1))):=by
 refine EntOk.effect fun args H K h=>?_
 unfold m9 bp at h
 split at h
 rotate_left
 ·exact h.elim
 rename_i id
 obtain ⟨m,l,p,tb,t,hg,hpre,hK⟩:=h
 cases ho:run l (f+1) .and p t with
 |none=>rw [ho] at hK;exact hK.elim
 |some r =>
 rw [ho,fG] at hK
 refine ⟨_,_,hK,?_⟩
 clear hK
 rw [run] at ho
 simp only [dJ] at ho
 have hpre':=hpre
 obtain ⟨hne,htb,ht,hp,hl,hgl,hgt⟩:=hpre
 have hid:=AHeap.get_lt hg
 have htbl:=AHeap.get_lt htb
 have f1:=cm hid
 have f2:=cm htbl
 have hl5:l.length≤100000:=by omega
 have i1:=@Int.natCast_nonneg
 have hne':(id=tb)=False:=eq_false hne
 refine ACalls.fW aB (TblOk.cons h_yNot (TblOk.cons kG (TblOk.cons jH TblOk.nil))) Tryz.func482 [.tmp 2] rE (T:=aA []) (h:=fun hcl hlt=>?_)
 clear hlt
 obtain ⟨hgi,hgt',hsi,hcl2,hst⟩:=g8 hg hpre' hcl
 rcases aT ho with ⟨q,h1,rfl⟩|⟨a,p1,t1,h1,h2⟩
 ·simp only [go_sem,f1,f2,hgi,hgt',hsi,hst,aU,bb,bA,cD,bY,cF,bW,bR,bz,bJ,bN,bp,hne,ne_eq,hne',hl5,Int.toNat_natCast,aQ,aR,i1,Int.reduceLE,eq_self,not_false_eq_true,jX,hg,hpre',h1]
  exact Z29
 clear ho
 obtain ⟨k1,k2,k3,k4,k5,k6⟩:=aX _ h1 hgt trivial hp
 simp only [Rl.isL,Bool.false_eq_true,if_false] at k4
 have hp1:fJ ((H.set id (pst m l p1 tb t1)).set tb (.buf 7 t1.length)) id tb l p1 t1:=fE hpre' k2 (by omega) k5
 simp only [go_sem,f1,f2,hgi,hgt',hsi,hst,aU,bb,bA,cD,bY,cF,bW,bR,bz,bJ,bN,bp,hne,ne_eq,hne',hl5,Int.toNat_natCast,aQ,aR,i1,Int.reduceLE,eq_self,not_false_eq_true,jX,hg,hpre',h1]
 refine ay (A:=Nat × Nat × Nat × List Nd) (fun x=>[(0,.ptr id 0),(3,.int .i64 (x.2.1:Int))]) (fun x=>(H.set id (pst m l x.2.2.1 tb x.2.2.2)).set tb (.buf 7 x.2.2.2.length))
  (fun x=>x.1≤f∧run l x.1 (.andL x.2.1) x.2.2.1 x.2.2.2=some r∧x.2.2.1≤l.length∧x.2.2.2.length≤x.2.2.1∧Good x.2.2.2∧x.2.1<x.2.2.2.length) (fun x=>x.1) (f,a,p1,t1) ⟨Nat.le_refl _,h2,k2,by dsimp only;omega,k5,k1⟩ ?_ fun x hx=>?_
 ·exact Z31
 obtain ⟨g,a',p',t'⟩:=x
 obtain ⟨x1,x2,x3,x4,x5,x6⟩:=hx
 dsimp only at x1 x2 x3 x4 x5 x6 ⊢
 have ht':t'.length≤100000:=by omega
 have hpx:fJ ((H.set id (pst m l p' tb t')).set tb (.buf 7 t'.length)) id tb l p' t':=fE hpre' x3 x4 x5
 cases g with
 |zero=>cases x2
 |succ g =>
 rw [run] at x2
 simp only [dJ] at x2
 cases hs:isS l p' [38,38] with
 |false =>
  rw [hs,if_neg (by simp)] at x2
  cases x2
  simp only [go_sem,f1,f2,hgi,hgt',hsi,hst,aU,bb,bA,cD,bY,cF,bW,bR,bz,bJ,bN,bp,hne,ne_eq,hne',hl5,Int.toNat_natCast,aQ,aR,i1,Int.reduceLE,eq_self,not_false_eq_true,x3,hs,if_false]
  exact Z23
 |true =>
  rw [hs,if_pos rfl] at x2
  have hlt1:=cX hs
  have hp2:fJ ((H.set id (pst m l (p'+1) tb t')).set tb (.buf 7 t'.length)) id tb l (p'+1) t':=fE hpre' hlt1 (by omega) x5
  rcases aT x2 with ⟨q,h3,rfl⟩|⟨b,p2,t2,h3,h4⟩
  ·have h3':=cE (show g≤f by omega) h3
   simp only [go_sem,f1,f2,hgi,hgt',hsi,hst,aU,bb,bA,cD,bY,cF,bW,bR,bz,bJ,bN,bp,hne,ne_eq,hne',hl5,Int.toNat_natCast,aQ,aR,i1,Int.reduceLE,eq_self,not_false_eq_true,jX,x3,hs,if_true,hp2,h3']
   exact Z29
  have h3':=cE (show g≤f by omega) h3
  obtain ⟨k1b,k2b,k3b,k4b,k5b,k6b⟩:=aX _ h3 x5 trivial hlt1
  simp only [Rl.isL,Bool.false_eq_true,if_false] at k4b
  have ht2:t2.length≤100000:=by omega
  simp only [go_sem,f1,f2,hgi,hgt',hsi,hst,aU,bb,bA,cD,bY,cF,bW,bR,bz,bJ,bN,bp,hne,ne_eq,hne',hl5,Int.toNat_natCast,aQ,aR,i1,Int.reduceLE,eq_self,not_false_eq_true,jX,x3,hs,if_true,hp2,h3',ht2]
  have hc3:=hcl2 p2 (t2++[⟨14,a',b,[],[],0⟩])
  refine ⟨(g,t2.length,p2,t2++[⟨14,a',b,[],[],0⟩]),⟨by dsimp only;omega,h4,k2b,by simp;omega,k5b.snoc ⟨(show 1≤14 by decide),(show 14≤16 by decide)⟩ (show (0:Nat)<2^128 by decide) (.inr ⟨by simp only;omega,by simp only;omega⟩),by simp⟩,by dsimp only;omega,?_⟩
  simp only [List.length_append,yaz,yba,Nat.zero_add] at hc3 ⊢
  exact Z32
theorem Jh {f:Nat} (h_yNot:EntOk Tryz.prog 494 (Ent.effect (jX f))) (h_yCmp:EntOk Tryz.prog 498 (Ent.effect (tt f))):EntOk Tryz.prog 494 (Ent.effect (jX (f+1))):=by
 refine EntOk.effect fun args H K h=>?_
 unfold jX bp at h
 split at h
 rotate_left
 ·exact h.elim
 rename_i id
 obtain ⟨m,l,p,tb,t,hg,hpre,hK⟩:=h
 cases ho:run l (f+1) .not p t with
 |none=>rw [ho] at hK;exact hK.elim
 |some r =>
 rw [ho,fG] at hK
 refine ⟨_,_,hK,?_⟩
 clear hK
 rw [run] at ho
 simp only [dJ] at ho
 have hpre':=hpre
 obtain ⟨hne,htb,ht,hp,hl,hgl,hgt⟩:=hpre
 have hid:=AHeap.get_lt hg
 have htbl:=AHeap.get_lt htb
 have f1:=cm hid
 have f2:=cm htbl
 have hl5:l.length≤100000:=by omega
 have i1:=@Int.natCast_nonneg
 have hne':(id=tb)=False:=eq_false hne
 refine ACalls.fW aB (TblOk.cons kG (TblOk.cons h_yNot (TblOk.cons jH (TblOk.cons h_yCmp TblOk.nil)))) Tryz.func494 [.tmp 2] rE (T:=aA []) (h:=fun hcl hlt=>?_)
 clear hlt
 obtain ⟨hgi,hgt',hsi,hcl2,hst⟩:=g8 hg hpre' hcl
 cases hs:isS l p [33] with
 |false =>
  rw [hs,if_neg (by simp)] at ho
  simp only [go_sem,f1,f2,hgi,hgt',hsi,hst,aU,bb,bA,cD,bY,cF,bW,bR,bz,bJ,bN,bp,hne,ne_eq,hne',hl5,Int.toNat_natCast,aQ,aR,i1,Int.reduceLE,eq_self,not_false_eq_true,tt,hg,hp,hs,if_false,hpre',ho,fG]
  cases r with
  |ok a q u =>
   simp only [go_sem,f1,f2,hgi,hgt',hsi,hst,aU,bb,bA,cD,bY,cF,bW,bR,bz,bJ,bN,bp,hne,ne_eq,hne',hl5,Int.toNat_natCast,aQ,aR,i1,Int.reduceLE,eq_self,not_false_eq_true]
   exact Z23
  |bad q =>
   simp only [go_sem,f1,f2,hgi,hgt',hsi,hst,aU,bb,bA,cD,bY,cF,bW,bR,bz,bJ,bN,bp,hne,ne_eq,hne',hl5,Int.toNat_natCast,aQ,aR,i1,Int.reduceLE,eq_self,not_false_eq_true]
   exact Z29
 |true =>
  rw [hs,if_pos rfl] at ho
  have hlt1:=cX hs
  have hgi1:∀ X,(H.set id X).get id=some X:=fun X=>AHeap.get_set_same _ _ hid
  have hp2:fJ (H.set id (pst m l (p+1) tb t)) id tb l (p+1) t:=jO hpre' hlt1 (by omega)
  have hss:∀ X Y,(H.set id X).set id Y=H.set id Y:=fun X Y=>by simp only [AHeap.set];congr 1;funext k;by_cases hk:k=id<;>simp [hk]
  rcases aT ho with ⟨q,h3,rfl⟩|⟨b,p2,t2,h3,h4⟩
  ·simp only [go_sem,f1,f2,hgi,hgt',hsi,hst,aU,bb,bA,cD,bY,cF,bW,bR,bz,bJ,bN,bp,hne,ne_eq,hne',hl5,Int.toNat_natCast,aQ,aR,i1,Int.reduceLE,eq_self,not_false_eq_true,jX,hg,hp,hs,if_true,hgi1,hss,hp2,h3]
   exact Z29
  cases h4
  obtain ⟨k1b,k2b,k3b,k4b,k5b,k6b⟩:=aX _ h3 hgt trivial hlt1
  simp only [Rl.isL,Bool.false_eq_true,if_false] at k4b
  have ht2:t2.length≤100000:=by omega
  simp only [go_sem,f1,f2,hgi,hgt',hsi,hst,aU,bb,bA,cD,bY,cF,bW,bR,bz,bJ,bN,bp,hne,ne_eq,hne',hl5,Int.toNat_natCast,aQ,aR,i1,Int.reduceLE,eq_self,not_false_eq_true,jX,hg,hp,hs,if_true,hgi1,hss,hp2,h3,ht2,nd2]
  have hc3:=hcl2 p2 (t2++[⟨5,b,0,[],[],0⟩])
  simp only [List.length_append,yaz,yba,Nat.zero_add] at hc3 ⊢
  exact Z30
theorem KV {f:Nat} (h_yUn:EntOk Tryz.prog 504 (Ent.effect (nr f))) (h_yAtom:EntOk Tryz.prog 507 (Ent.effect (pB f))):EntOk Tryz.prog 504 (Ent.effect (nr (f+1))):=by
 refine EntOk.effect fun args H K h=>?_
 unfold nr bp at h
 split at h
 rotate_left
 ·exact h.elim
 rename_i id
 obtain ⟨m,l,p,tb,t,hg,hpre,hK⟩:=h
 cases ho:run l (f+1) .un p t with
 |none=>rw [ho] at hK;exact hK.elim
 |some r =>
 rw [ho,fG] at hK
 refine ⟨_,_,hK,?_⟩
 clear hK
 rw [run] at ho
 simp only [dJ] at ho
 have hpre':=hpre
 obtain ⟨hne,htb,ht,hp,hl,hgl,hgt⟩:=hpre
 have hid:=AHeap.get_lt hg
 have htbl:=AHeap.get_lt htb
 have f1:=cm hid
 have f2:=cm htbl
 have hl5:l.length≤100000:=by omega
 have i1:=@Int.natCast_nonneg
 have hne':(id=tb)=False:=eq_false hne
 refine ACalls.fW aB (TblOk.cons kG (TblOk.cons h_yUn (TblOk.cons jH (TblOk.cons h_yAtom TblOk.nil)))) Tryz.func504 [.tmp 2] rE (T:=aA []) (h:=fun hcl hlt=>?_)
 clear hlt
 obtain ⟨hgi,hgt',hsi,hcl2,hst⟩:=g8 hg hpre' hcl
 cases hs:isS l p [45] with
 |false =>
  rw [hs,if_neg (by simp)] at ho
  simp only [go_sem,f1,f2,hgi,hgt',hsi,hst,aU,bb,bA,cD,bY,cF,bW,bR,bz,bJ,bN,bp,hne,ne_eq,hne',hl5,Int.toNat_natCast,aQ,aR,i1,Int.reduceLE,eq_self,not_false_eq_true,pB,hg,hp,hs,if_false,hpre',ho,fG]
  cases r with
  |ok a q u =>
   simp only [go_sem,f1,f2,hgi,hgt',hsi,hst,aU,bb,bA,cD,bY,cF,bW,bR,bz,bJ,bN,bp,hne,ne_eq,hne',hl5,Int.toNat_natCast,aQ,aR,i1,Int.reduceLE,eq_self,not_false_eq_true]
   exact Z23
  |bad q =>
   simp only [go_sem,f1,f2,hgi,hgt',hsi,hst,aU,bb,bA,cD,bY,cF,bW,bR,bz,bJ,bN,bp,hne,ne_eq,hne',hl5,Int.toNat_natCast,aQ,aR,i1,Int.reduceLE,eq_self,not_false_eq_true]
   exact Z29
 |true =>
  rw [hs,if_pos rfl] at ho
  have hlt1:=cX hs
  have hgi1:∀ X,(H.set id X).get id=some X:=fun X=>AHeap.get_set_same _ _ hid
  have hp2:fJ (H.set id (pst m l (p+1) tb t)) id tb l (p+1) t:=jO hpre' hlt1 (by omega)
  have hss:∀ X Y,(H.set id X).set id Y=H.set id Y:=fun X Y=>by simp only [AHeap.set];congr 1;funext k;by_cases hk:k=id<;>simp [hk]
  rcases aT ho with ⟨q,h3,rfl⟩|⟨b,p2,t2,h3,h4⟩
  ·simp only [go_sem,f1,f2,hgi,hgt',hsi,hst,aU,bb,bA,cD,bY,cF,bW,bR,bz,bJ,bN,bp,hne,ne_eq,hne',hl5,Int.toNat_natCast,aQ,aR,i1,Int.reduceLE,eq_self,not_false_eq_true,nr,hg,hp,hs,if_true,hgi1,hss,hp2,h3]
   exact Z29
  cases h4
  obtain ⟨k1b,k2b,k3b,k4b,k5b,k6b⟩:=aX _ h3 hgt trivial hlt1
  simp only [Rl.isL,Bool.false_eq_true,if_false] at k4b
  have ht2:t2.length≤100000:=by omega
  simp only [go_sem,f1,f2,hgi,hgt',hsi,hst,aU,bb,bA,cD,bY,cF,bW,bR,bz,bJ,bN,bp,hne,ne_eq,hne',hl5,Int.toNat_natCast,aQ,aR,i1,Int.reduceLE,eq_self,not_false_eq_true,nr,hg,hp,hs,if_true,hgi1,hss,hp2,h3,ht2,nd2]
  have hc3:=hcl2 p2 (t2++[⟨4,b,0,[],[],0⟩])
  simp only [List.length_append,yaz,yba,Nat.zero_add] at hc3 ⊢
  exact Z30
theorem H9 {f:Nat} (h_ySum:EntOk Tryz.prog 500 (Ent.effect (mB f))):EntOk Tryz.prog 498 (Ent.effect (tt (f+1))):=by
 refine EntOk.effect fun args H K h=>?_
 unfold tt bp at h
 split at h
 rotate_left
 ·exact h.elim
 rename_i id
 obtain ⟨m,l,p,tb,t,hg,hpre,hK⟩:=h
 cases ho:run l (f+1) .cmp p t with
 |none=>rw [ho] at hK;exact hK.elim
 |some r =>
 rw [ho,fG] at hK
 refine ⟨_,_,hK,?_⟩
 clear hK
 rw [run] at ho
 simp only [dJ] at ho
 have hpre':=hpre
 obtain ⟨hne,htb,ht,hp,hl,hgl,hgt⟩:=hpre
 have hid:=AHeap.get_lt hg
 have htbl:=AHeap.get_lt htb
 have f1:=cm hid
 have f2:=cm htbl
 have hl5:l.length≤100000:=by omega
 have i1:=@Int.natCast_nonneg
 have hne':(id=tb)=False:=eq_false hne
 refine ACalls.fW aB (TblOk.cons h_ySum (TblOk.cons xp (TblOk.cons zR (TblOk.cons jH TblOk.nil)))) Tryz.func498 [.tmp 2] rE (T:=aA []) (h:=fun hcl hlt=>?_)
 clear hlt
 obtain ⟨hgi,hgt',hsi,hcl2,hst⟩:=g8 hg hpre' hcl
 rcases aT ho with ⟨q,h1,rfl⟩|⟨a,p1,t1,h1,h2⟩
 ·simp only [go_sem,f1,f2,hgi,hgt',hsi,hst,aU,bb,bA,cD,bY,cF,bW,bR,bz,bJ,bN,bp,hne,ne_eq,hne',hl5,Int.toNat_natCast,aQ,aR,i1,Int.reduceLE,eq_self,not_false_eq_true,mB,hg,hpre',h1]
  exact Z29
 clear ho
 obtain ⟨k1,k2,k3,k4,k5,k6⟩:=aX _ h1 hgt trivial hp
 simp only [Rl.isL,Bool.false_eq_true,if_false] at k4
 have hp1:fJ ((H.set id (pst m l p1 tb t1)).set tb (.buf 7 t1.length)) id tb l p1 t1:=fE hpre' k2 (by omega) k5
 cases hs:gB l p1 opsC with
 |none =>
  rw [hs] at h2
  cases h2
  simp only [go_sem,f1,f2,hgi,hgt',hsi,hst,aU,bb,bA,cD,bY,cF,bW,bR,bz,bJ,bN,bp,hne,ne_eq,hne',hl5,Int.toNat_natCast,aQ,aR,i1,Int.reduceLE,eq_self,not_false_eq_true,kx,fm,kB,iV,k9,lF,mB,hg,hpre',h1,k2,hs,qi]
  refine xb rfl ?_
  simp only [go_sem,f1,f2,hgi,hgt',hsi,hst,aU,bb,bA,cD,bY,cF,bW,bR,bz,bJ,bN,bp,hne,ne_eq,hne',hl5,Int.toNat_natCast,aQ,aR,i1,Int.reduceLE,eq_self,not_false_eq_true]
  exact Z23
 |some op =>
  rw [hs] at h2
  dsimp only at h2
  obtain ⟨hlt1,so,hso⟩:=gP hs
  obtain ⟨o1,o2⟩:=wV hso
  have hop:((op:Int) != 0)=true:=by simp;omega
  have hp2:fJ ((H.set id (pst m l (p1+1) tb t1)).set tb (.buf 7 t1.length)) id tb l (p1+1) t1:=fE hpre' hlt1 (by omega) k5
  rcases aT h2 with ⟨q,h3,rfl⟩|⟨b,p2,t2,h3,h4⟩
  ·simp only [go_sem,f1,f2,hgi,hgt',hsi,hst,aU,bb,bA,cD,bY,cF,bW,bR,bz,bJ,bN,bp,hne,ne_eq,hne',hl5,Int.toNat_natCast,aQ,aR,i1,Int.reduceLE,eq_self,not_false_eq_true,kx,fm,kB,iV,k9,lF,mB,hg,hpre',h1,k2,hs,nh,hop,hp2,h3]
   exact Z29
  cases h4
  obtain ⟨k1b,k2b,k3b,k4b,k5b,k6b⟩:=aX _ h3 k5 trivial hlt1
  simp only [Rl.isL,Bool.false_eq_true,if_false] at k4b
  have ht2:t2.length≤100000:=by omega
  simp only [go_sem,f1,f2,hgi,hgt',hsi,hst,aU,bb,bA,cD,bY,cF,bW,bR,bz,bJ,bN,bp,hne,ne_eq,hne',hl5,Int.toNat_natCast,aQ,aR,i1,Int.reduceLE,eq_self,not_false_eq_true,kx,fm,kB,iV,k9,lF,mB,hg,hpre',h1,k2,hs,nh,hop,hp2,h3,ht2,nd2]
  have hc3:=hcl2 p2 (t2++[⟨op,a,b,[],[],0⟩])
  simp only [List.length_append,yaz,yba,Nat.zero_add] at hc3 ⊢
  exact Z30
theorem Ij {f:Nat} (h_yUn:EntOk Tryz.prog 504 (Ent.effect (nr f))):EntOk Tryz.prog 500 (Ent.effect (mB (f+1))):=by
 refine EntOk.effect fun args H K h=>?_
 unfold mB bp at h
 split at h
 rotate_left
 ·exact h.elim
 rename_i id
 obtain ⟨m,l,p,tb,t,hg,hpre,hK⟩:=h
 cases ho:run l (f+1) .sum p t with
 |none=>rw [ho] at hK;exact hK.elim
 |some r =>
 rw [ho,fG] at hK
 refine ⟨_,_,hK,?_⟩
 clear hK
 rw [run] at ho
 simp only [dJ] at ho
 have hpre':=hpre
 obtain ⟨hne,htb,ht,hp,hl,hgl,hgt⟩:=hpre
 have hid:=AHeap.get_lt hg
 have htbl:=AHeap.get_lt htb
 have f1:=cm hid
 have f2:=cm htbl
 have hl5:l.length≤100000:=by omega
 have i1:=@Int.natCast_nonneg
 have hne':(id=tb)=False:=eq_false hne
 refine ACalls.fW aB (TblOk.cons h_yUn (TblOk.cons Gd (TblOk.cons zR (TblOk.cons jH TblOk.nil)))) Tryz.func500 [.tmp 2] rE (T:=aA []) (h:=fun hcl hlt=>?_)
 clear hlt
 obtain ⟨hgi,hgt',hsi,hcl2,hst⟩:=g8 hg hpre' hcl
 rcases aT ho with ⟨q,h1,rfl⟩|⟨a,p1,t1,h1,h2⟩
 ·simp only [go_sem,f1,f2,hgi,hgt',hsi,hst,aU,bb,bA,cD,bY,cF,bW,bR,bz,bJ,bN,bp,hne,ne_eq,hne',hl5,Int.toNat_natCast,aQ,aR,i1,Int.reduceLE,eq_self,not_false_eq_true,nr,hg,hpre',h1]
  exact Z29
 clear ho
 obtain ⟨k1,k2,k3,k4,k5,k6⟩:=aX _ h1 hgt trivial hp
 simp only [Rl.isL,Bool.false_eq_true,if_false] at k4
 have hp1:fJ ((H.set id (pst m l p1 tb t1)).set tb (.buf 7 t1.length)) id tb l p1 t1:=fE hpre' k2 (by omega) k5
 have hsn:∀ p',gB l p' opsS=none→opv l p'=0∧oph l p'=p':=fun p' e=>by simp [opv,oph,e]
 have hss:∀ p' op,gB l p' opsS=some op→opv l p'=op∧oph l p'=p'+1:=fun p' op e=>by simp [opv,oph,e]
 have hev:∀ p',(gB l p' opsS=none∧opv l p'=0∧oph l p'=p')∨∃ op,gB l p' opsS=some op∧opv l p'=op∧oph l p'=p'+1:=fun p'=>by
  cases hs:gB l p' opsS with
  |none=>exact .inl ⟨rfl,hsn _ hs⟩
  |some op=>exact .inr ⟨op,rfl,hss _ _ hs⟩
 simp only [go_sem,f1,f2,hgi,hgt',hsi,hst,aU,bb,bA,cD,bY,cF,bW,bR,bz,bJ,bN,bp,hne,ne_eq,hne',hl5,Int.toNat_natCast,aQ,aR,i1,Int.reduceLE,eq_self,not_false_eq_true,kx,fm,kB,iV,k9,lF,nr,hg,hpre',h1,k2]
 rcases hev p1 with ⟨hs1,v1,v2⟩|⟨op1,hs1,v1,v2⟩
 all_goals
  simp only [go_sem,f1,f2,hgi,hgt',hsi,hst,aU,bb,bA,cD,bY,cF,bW,bR,bz,bJ,bN,bp,hne,ne_eq,hne',hl5,Int.toNat_natCast,aQ,aR,i1,Int.reduceLE,eq_self,not_false_eq_true,kx,fm,kB,iV,k9,lF,k2,hs1,qi,nh]
  refine ay (A:=Nat × Nat × Nat × List Nd) (fun x=>[(0,.ptr id 0),(3,.int .i64 (x.2.1:Int)),(4,.int .i64 (opv l x.2.2.1:Int))]) (fun x=>(H.set id (pst m l (oph l x.2.2.1) tb x.2.2.2)).set tb (.buf 7 x.2.2.2.length)) (fun x=>x.1≤f∧run l x.1 (.sumL x.2.1) x.2.2.1 x.2.2.2=some r∧x.2.2.1≤l.length∧x.2.2.2.length≤x.2.2.1∧Good x.2.2.2∧x.2.1<x.2.2.2.length) (fun x=>x.1) (f,a,p1,t1) ⟨Nat.le_refl _,h2,k2,by dsimp only;omega,k5,k1⟩ ?_ fun x hx=>?_
  ·dsimp only
   rw [v1,v2]
   exact Z31
  obtain ⟨g,a',p',t'⟩:=x
  obtain ⟨x1,x2,x3,x4,x5,x6⟩:=hx
  dsimp only at x1 x2 x3 x4 x5 x6 ⊢
  have ht':t'.length≤100000:=by omega
  cases g with
  |zero=>cases x2
  |succ g =>
  rw [run] at x2
  simp only [dJ] at x2
  rcases hev p' with ⟨hs,u1,u2⟩|⟨op,hs,u1,u2⟩
  ·rw [hs] at x2
   cases x2
   rw [u1,u2]
   simp only [go_sem,f1,f2,hgi,hgt',hsi,hst,aU,bb,bA,cD,bY,cF,bW,bR,bz,bJ,bN,bp,hne,ne_eq,hne',hl5,Int.toNat_natCast,aQ,aR,i1,Int.reduceLE,eq_self,not_false_eq_true]
   refine xb rfl ?_
   simp only [go_sem,f1,f2,hgi,hgt',hsi,hst,aU,bb,bA,cD,bY,cF,bW,bR,bz,bJ,bN,bp,hne,ne_eq,hne',hl5,Int.toNat_natCast,aQ,aR,i1,Int.reduceLE,eq_self,not_false_eq_true]
   exact Z23
  ·rw [hs] at x2
   dsimp only at x2
   rw [u1,u2]
   obtain ⟨hlt1,so,hso⟩:=gP hs
   obtain ⟨o1,o2⟩:=p9 hso
   have hop:((op:Int) != 0)=true:=by simp;omega
   have hp2:fJ ((H.set id (pst m l (p'+1) tb t')).set tb (.buf 7 t'.length)) id tb l (p'+1) t':=fE hpre' hlt1 (by omega) x5
   rcases aT x2 with ⟨q,h3,rfl⟩|⟨b,p2,t2,h3,h4⟩
   ·have h3':=cE (show g≤f by omega) h3
    simp only [go_sem,f1,f2,hgi,hgt',hsi,hst,aU,bb,bA,cD,bY,cF,bW,bR,bz,bJ,bN,bp,hne,ne_eq,hne',hl5,Int.toNat_natCast,aQ,aR,i1,Int.reduceLE,eq_self,not_false_eq_true,nr,hop,hp2,h3']
    exact Z29
   have h3':=cE (show g≤f by omega) h3
   obtain ⟨k1b,k2b,k3b,k4b,k5b,k6b⟩:=aX _ h3 x5 trivial hlt1
   simp only [Rl.isL,Bool.false_eq_true,if_false] at k4b
   have ht2:t2.length≤100000:=by omega
   have hc3:=hcl2 (oph l p2) (t2++[⟨op,a',b,[],[],0⟩])
   rcases hev p2 with ⟨hs2,w1,w2⟩|⟨op2,hs2,w1,w2⟩
   all_goals
    simp only [go_sem,f1,f2,hgi,hgt',hsi,hst,aU,bb,bA,cD,bY,cF,bW,bR,bz,bJ,bN,bp,hne,ne_eq,hne',hl5,Int.toNat_natCast,aQ,aR,i1,Int.reduceLE,eq_self,not_false_eq_true,kx,fm,kB,iV,k9,lF,nr,hop,hp2,h3',ht2,k2b,hs2,qi,nh]
    refine ⟨(g,t2.length,p2,t2++[⟨op,a',b,[],[],0⟩]),⟨by dsimp only;omega,h4,k2b,by simp;omega,k5b.snoc ⟨(by show 1≤op;omega),o2⟩ (show (0:Nat)<2^128 by decide) (.inr ⟨by simp only;omega,by simp only;omega⟩),by simp⟩,by dsimp only;omega,?_⟩
    dsimp only
    rw [w1,w2]
    rw [w2] at hc3
    simp only [List.length_append,yaz,yba,Nat.zero_add] at hc3 ⊢
    exact Z32
theorem EZ {f:Nat} (h_yImp:EntOk Tryz.prog 398 (Ent.effect (iW f))):EntOk Tryz.prog 507 (Ent.effect (pB (f+1))):=by
 refine EntOk.effect fun args H K h=>?_
 unfold pB bp at h
 split at h
 rotate_left
 ·exact h.elim
 rename_i id
 obtain ⟨m,l,p,tb,t,hg,hpre,hK⟩:=h
 cases ho:run l (f+1) .atom p t with
 |none=>rw [ho] at hK;exact hK.elim
 |some r =>
 rw [ho,fG] at hK
 refine ⟨_,_,hK,?_⟩
 clear hK
 rw [run] at ho
 simp only [dJ] at ho
 have hpre':=hpre
 obtain ⟨hne,htb,ht,hp,hl,hgl,hgt⟩:=hpre
 have hid:=AHeap.get_lt hg
 have htbl:=AHeap.get_lt htb
 have f1:=cm hid
 have f2:=cm htbl
 have hl5:l.length≤100000:=by omega
 have i1:=@Int.natCast_nonneg
 have hne':(id=tb)=False:=eq_false hne
 refine ACalls.fW aB (TblOk.cons kG (TblOk.cons h_yImp (TblOk.cons lE (TblOk.cons zj (TblOk.cons GG (TblOk.cons Ew (TblOk.cons jH TblOk.nil))))))) Tryz.func507 [.tmp 2] rE (T:=aA []) (h:=fun hcl hlt=>?_)
 clear hlt
 obtain ⟨hgi,hgt',hsi,hcl2,hst⟩:=g8 hg hpre' hcl
 have hgi1:∀ X,(H.set id X).get id=some X:=fun X=>AHeap.get_set_same _ _ hid
 have hgt1:∀ X,(H.set id X).get tb=some (.buf 7 t.length):=fun X=>by rw [AHeap.get_set_ne _ _ (fun e=>hne e.symm)];exact htb
 have hss:∀ X Y,(H.set id X).set id Y=H.set id Y:=fun X Y=>by simp only [AHeap.set];congr 1;funext k;by_cases hk:k=id<;>simp [hk]
 have hcs:=av (cs:=[.slice m 3 (cU l),.int .i64 (p:Int),.slice (.own tb) 7 (nds t)]) hg
 have ht5:t.length≤100000:=by omega
 cases hs0:isS l p [40] with
 |true =>
  rw [hs0,if_pos rfl] at ho
  have hlt1:=cX hs0
  have hp2:fJ (H.set id (pst m l (p+1) tb t)) id tb l (p+1) t:=jO hpre' hlt1 (by omega)
  rcases aT ho with ⟨q,h3,rfl⟩|⟨a,p1,t1,h3,h4⟩
  ·simp only [go_sem,f1,f2,hgi,hgt',hsi,hst,aU,bb,bA,cD,bY,cF,bW,bR,bz,bJ,bN,bp,hne,ne_eq,hne',hl5,Int.toNat_natCast,aQ,aR,i1,Int.reduceLE,eq_self,not_false_eq_true,iW,hg,hp,hs0,if_true,hgi1,hss,hp2,h3]
   exact Z29
  obtain ⟨k1b,k2b,k3b,k4b,k5b,k6b⟩:=aX _ h3 hgt trivial hlt1
  simp only [Rl.isL,Bool.false_eq_true,if_false] at k4b
  cases hs2:isS l p1 [41] with
  |true =>
   rw [hs2,if_pos rfl] at h4
   cases h4
   simp only [go_sem,f1,f2,hgi,hgt',hsi,hst,aU,bb,bA,cD,bY,cF,bW,bR,bz,bJ,bN,bp,hne,ne_eq,hne',hl5,Int.toNat_natCast,aQ,aR,i1,Int.reduceLE,eq_self,not_false_eq_true,iW,hg,hp,hs0,if_true,hgi1,hss,hp2,h3,k2b,hs2]
   exact Z23
  |false =>
   rw [hs2,if_neg (by simp)] at h4
   cases h4
   simp only [go_sem,f1,f2,hgi,hgt',hsi,hst,aU,bb,bA,cD,bY,cF,bW,bR,bz,bJ,bN,bp,hne,ne_eq,hne',hl5,Int.toNat_natCast,aQ,aR,i1,Int.reduceLE,eq_self,not_false_eq_true,iW,eV,hg,hp,hs0,if_true,if_false,hgi1,hss,hp2,h3,k2b,hs2]
   exact Z29
 |false =>
  rw [hs0,if_neg (by simp)] at ho
  cases ho
  by_cases hlt0:p<l.length
  ·rcases htk:l[p] with ⟨k,x,z⟩
   have hgd:=lY hlt0 htk
   have hge:l[p]?=some (k,x,z):=by rw [List.getElem?_eq_getElem hlt0,htk]
   have d0:decide ((p:Int)<(l.length:Int))=true:=by simp;omega
   by_cases hk1:k=1
   ·subst hk1
    have hka:oZ l p=1:=by unfold oZ;rw [hge]
    have hr:cQ l p t=.ok t.length (p+1) (t++[⟨1,0,0,[],[],v5 l p⟩]):=by unfold cQ v5;rw [hge];rfl
    have hd1:(((1:Nat):Int)==1)=true:=rfl
    rw [hr]
    have hc3:=hcl2 (p+1) (t++[⟨1,0,0,[],[],v5 l p⟩])
    simp only [go_sem,f1,f2,hgi,hgt',hsi,hst,aU,bb,bA,cD,bY,cF,bW,bR,bz,bJ,bN,bp,hne,ne_eq,hne',hl5,Int.toNat_natCast,aQ,aR,i1,Int.reduceLE,eq_self,not_false_eq_true,hg,hp,hs0,if_false,hcs,aO,hgd,d0,ja,eS,eV,gL,hp,hgi1,hgt1,hss,ht5,fV,fb,ge,bne_self_eq_false,beq_self_eq_true,hd1,hka,hpre']
    simp only [List.length_append,yaz,yba,Nat.zero_add] at hc3 ⊢
    refine ⟨by omega,?_⟩
    exact Z30
   ·have d1:((k:Int)==1)=false:=by simp;omega
    by_cases hk2:k=2
    ·subst hk2
     have hw:jA l p=some x:=by unfold jA;rw [hge];rfl
     have hd2:(((2:Nat):Int)==1)=false:=rfl
     by_cases hx1:x=rT
     ·have hr:cQ l p t=.ok t.length (p+1) (t++[⟨2,0,0,[],[],1⟩]):=by unfold cQ;rw [hge];simp [hx1]
      have htr:kJ x=.tup [ge 2 1,.bool true]:=by unfold kJ;rw [if_pos hx1]
      rw [hr]
      have hc3:=hcl2 (p+1) (t++[⟨2,0,0,[],[],1⟩])
      simp only [go_sem,f1,f2,hgi,hgt',hsi,hst,aU,bb,bA,cD,bY,cF,bW,bR,bz,bJ,bN,bp,hne,ne_eq,hne',hl5,Int.toNat_natCast,aQ,aR,i1,Int.reduceLE,eq_self,not_false_eq_true,hg,hp,hs0,if_false,hcs,aO,hgd,d0,ja,eS,eV,gL,hp,hgi1,hgt1,hss,ht5,fV,fb,ge,bne_self_eq_false,beq_self_eq_true,hd2,hw,htr,JO,JX]
      simp only [List.length_append,yaz,yba,Nat.zero_add] at hc3 ⊢
      refine ⟨by omega,?_⟩
      exact Z30
     ·by_cases hx2:x=mH
      ·have hr:cQ l p t=.ok t.length (p+1) (t++[⟨2,0,0,[],[],0⟩]):=by unfold cQ;rw [hge];simp [hx1,hx2];decide
       have htr:kJ x=.tup [ge 2 0,.bool true]:=by unfold kJ;rw [if_neg hx1,if_pos hx2]
       rw [hr]
       have hc3:=hcl2 (p+1) (t++[⟨2,0,0,[],[],0⟩])
       simp only [go_sem,f1,f2,hgi,hgt',hsi,hst,aU,bb,bA,cD,bY,cF,bW,bR,bz,bJ,bN,bp,hne,ne_eq,hne',hl5,Int.toNat_natCast,aQ,aR,i1,Int.reduceLE,eq_self,not_false_eq_true,hg,hp,hs0,if_false,hcs,aO,hgd,d0,ja,eS,eV,gL,hp,hgi1,hgt1,hss,ht5,fV,fb,ge,bne_self_eq_false,beq_self_eq_true,hd2,hw,htr]
       simp only [List.length_append,yaz,yba,Nat.zero_add] at hc3 ⊢
       refine ⟨by omega,?_⟩
       exact Z30
      ·have htr:kJ x=.tup [ge 0 0,.bool false]:=by unfold kJ;rw [if_neg hx1,if_neg hx2]
       have hp1:p+1≤l.length:=by omega
       cases hs3:isS l (p+1) [58,58] with
       |false =>
        have hr:cQ l p t=.ok t.length (p+1) (t++[⟨3,0,0,x,[],0⟩]):=by unfold cQ;rw [hge];simp [hx1,hx2,hs3]
        rw [hr]
        have hc3:=hcl2 (p+1) (t++[⟨3,0,0,x,[],0⟩])
        simp only [go_sem,f1,f2,hgi,hgt',hsi,hst,aU,bb,bA,cD,bY,cF,bW,bR,bz,bJ,bN,bp,hne,ne_eq,hne',hl5,Int.toNat_natCast,aQ,aR,i1,Int.reduceLE,eq_self,not_false_eq_true,hg,hp,hs0,if_false,hcs,aO,hgd,d0,ja,eS,eV,gL,hp,hgi1,hgt1,hss,ht5,fV,fb,ge,bne_self_eq_false,beq_self_eq_true,hd2,hw,htr,hp1,hs3]
        simp only [List.length_append,yaz,yba,Nat.zero_add] at hc3 ⊢
        refine ⟨by omega,?_⟩
        exact Z30
       |true =>
        have hlt3:=cX hs3
        have hp2:p+1+1≤l.length:=by omega
        have hp3:p+2=p+1+1:=rfl
        cases hw2:jA l (p+1+1) with
        |none =>
         have hr:cQ l p t=.bad (p+1+1):=by
          unfold cQ;rw [hge];simp [hx1,hx2,hs3]
          unfold jA at hw2
          cases hge2:l[p+1+1]? with
          |none=>rfl
          |some v =>
           obtain ⟨k2,y,z2⟩:=v
           rw [hge2] at hw2
           dsimp only at hw2 ⊢
           split at hw2
           ·cases hw2
           ·rename_i hk;rw [if_neg hk]
         rw [hr]
         simp only [go_sem,f1,f2,hgi,hgt',hsi,hst,aU,bb,bA,cD,bY,cF,bW,bR,bz,bJ,bN,bp,hne,ne_eq,hne',hl5,Int.toNat_natCast,aQ,aR,i1,Int.reduceLE,eq_self,not_false_eq_true,hg,hp,hs0,if_false,hcs,aO,hgd,d0,ja,eS,eV,gL,hp,hgi1,hgt1,hss,ht5,fV,fb,ge,bne_self_eq_false,beq_self_eq_true,hd2,hw,htr,hp1,hs3,if_true,hp2,hw2]
         refine ⟨by omega,?_⟩
         simp (disch:=first|exact Zd|omega) [↓zmk,beq,ybc,ybd,ybe,ag,wk,wk2,wk1,wkM,wkL,au,ybf,ip hcl,zms,gJ,dd_le1,fw]
         exact (dd_le1.push _).push _
        |some y =>
         have hr:cQ l p t=.ok t.length (p+1+1+1) (t++[⟨3,0,0,x,y,0⟩]):=by
          unfold cQ;rw [hge];simp [hx1,hx2,hs3]
          unfold jA at hw2
          cases hge2:l[p+1+1]? with
          |none=>rw [hge2] at hw2;cases hw2
          |some v =>
           obtain ⟨k2,y2,z2⟩:=v
           rw [hge2] at hw2
           dsimp only at hw2 ⊢
           split at hw2
           ·rename_i hk;cases hw2;rw [if_pos hk]
           ·cases hw2
         rw [hr]
         have hc3:=hcl2 (p+1+1+1) (t++[⟨3,0,0,x,y,0⟩])
         simp only [go_sem,f1,f2,hgi,hgt',hsi,hst,aU,bb,bA,cD,bY,cF,bW,bR,bz,bJ,bN,bp,hne,ne_eq,hne',hl5,Int.toNat_natCast,aQ,aR,i1,Int.reduceLE,eq_self,not_false_eq_true,hg,hp,hs0,if_false,hcs,aO,hgd,d0,ja,eS,eV,gL,hp,hgi1,hgt1,hss,ht5,fV,fb,ge,bne_self_eq_false,beq_self_eq_true,hd2,hw,htr,hp1,hs3,if_true,hp2,hw2]
         simp only [List.length_append,yaz,yba,Nat.zero_add] at hc3 ⊢
         refine ⟨by omega,?_⟩
         exact Z30
    ·have hw:jA l p=none:=by unfold jA;rw [hge];dsimp only;rw [if_neg hk2]
     have hr:cQ l p t=.bad p:=by unfold cQ;rw [hge];simp [hk1,hk2]
     rw [hr]
     simp only [go_sem,f1,f2,hgi,hgt',hsi,hst,aU,bb,bA,cD,bY,cF,bW,bR,bz,bJ,bN,bp,hne,ne_eq,hne',hl5,Int.toNat_natCast,aQ,aR,i1,Int.reduceLE,eq_self,not_false_eq_true,hg,hp,hs0,if_false,hcs,aO,hgd,d0,ja,eS,eV,gL,hp,hgi1,hgt1,hss,ht5,fV,fb,ge,bne_self_eq_false,beq_self_eq_true,d1,hw]
     refine ⟨by omega,?_⟩
     exact Z29
  ·have hpe:p=l.length:=by omega
   subst hpe
   have hge:l[l.length]?=none:=List.getElem?_eq_none (Nat.le_refl _)
   have hw:jA l l.length=none:=by unfold jA;rw [hge]
   have hr:cQ l l.length t=.bad l.length:=by unfold cQ;rw [hge]
   have d0:decide ((l.length:Int)<(l.length:Int))=false:=by simp
   rw [hr]
   simp only [go_sem,f1,f2,hgi,hgt',hsi,hst,aU,bb,bA,cD,bY,cF,bW,bR,bz,bJ,bN,bp,hne,ne_eq,hne',hl5,Int.toNat_natCast,aQ,aR,i1,Int.reduceLE,eq_self,not_false_eq_true,hg,hp,hs0,if_false,hcs,aO,d0,ja,eS,eV,gL,hp,hgi1,hgt1,hss,ht5,fV,fb,ge,bne_self_eq_false,beq_self_eq_true,hw,Nat.le_refl]
   exact Z29
end Go.AL
