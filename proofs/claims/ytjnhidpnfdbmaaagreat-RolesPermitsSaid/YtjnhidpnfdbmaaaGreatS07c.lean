/- Lemmas of the proof; no condition. -/
import Derived.Test.YtjnhidpnfdbmaaaGreatE06
import Derived.Test.YtjnhidpnfdbmaaaGreatLSyn
set_option linter.all false
set_option maxRecDepth 10000
set_option maxHeartbeats 32000000
open Go Go.AL Go.Proofs
namespace Go.AL
theorem Pn:ti Tryz.prog 176=some ⟨.struct [(0,3,false),(1,3,false),(2,3,false),(3,9,false),(4,9,false),(5,29,false)],7,72,.agg [.int .i64 0,.int .i64 0,.int .i64 0,.str [],.str [],.int .u64 0,.int .u64 0]⟩:=krf
theorem L3:tSl Tryz.prog 139 176:=kSl
theorem IM:ti Tryz.prog 257=some ⟨.struct [(0,177,false),(1,3,false),(2,139,false)],3,56,.agg [.slice .nil 1 [],.int .i64 0,.slice .nil 1 []]⟩:=krf
theorem Cz:ti Tryz.prog 303=some ⟨.struct [(0,3,false),(1,9,false)],2,24,.agg [.int .i64 0,.str []]⟩:=krf
theorem Bb:tSl Tryz.prog 300 303:=kSl
theorem Mq:ti Tryz.prog 254=some ⟨.int .i64,1,8,.int .i64 0⟩:=krf
attribute [go_sem] Pn L3 IM Cz Bb Mq
def lM(n:Nd):AV:=.agg [.int .i64 (n.op:Int),.int .i64 (n.a:Int),.int .i64 (n.b:Int),.str n.name,.str n.attr,.int .u64 ((n.v/2^64:Nat):Int),.int .u64 ((n.v%2^64:Nat):Int)]
def nds(t:List Nd):List AV:=t.map lM
theorem aO{t:List Nd}:(nds t).length=t.length:=by simp[nds]
theorem CD{t:List Nd}{n:Nd}:nds t++[lM n]=nds (t++[n]):=by simp[nds]
theorem lF{n:Nat}{m:Mark}{t:List Nd}:AV.lt n (.slice m 7 (nds t))=∀ id,m=.own id→id<n:=by
 rw[AV.lt]
 refine propext ⟨fun h=>h.1,fun h=>⟨h,fun j hj=>?_⟩⟩
 simp only[nds,List.getElem_map,lM]
 simp[znr,znu,znv,znf,znh]
theorem tA{n:Nat}{m:Mark}{l:List Tok}:AV.lt n (.slice m 3 (dN l))=∀ id,m=.own id→id<n:=by
 rw[AV.lt]
 refine propext ⟨fun h=>h.1,fun h=>⟨h,fun j hj=>?_⟩⟩
 simp only[dN,List.getElem_map,BG]
 simp[znr,znu,znv,znf,znh]
theorem xe:∀{l l':List Tok},dN l=dN l'→l=l'
 |[],[],_=>rfl
 |[],_::_,h=>by cases h
 |_::_,[],h=>by cases h
 |(a,b,c)::l,(a',b',c')::l',h=>by
  simp only[dN,yae,List.cons.injEq,BG,AV.agg.injEq,AV.int.injEq,AV.str.injEq,true_and,and_true]at h
  obtain⟨⟨h1,h2,h3⟩,h4⟩:=h
  rw[xe h4]
  congr 1
  simp only[Prod.mk.injEq]
  exact⟨Xa,h2,Xa⟩
theorem Bj:∀{l l':List Nd},nds l=nds l'→l=l'
 |[],[],_=>rfl
 |[],_::_,h=>by cases h
 |_::_,[],h=>by cases h
 |⟨a1,a2,a3,a4,a5,a6⟩::l,⟨b1,b2,b3,b4,b5,b6⟩::l',h=>by
  simp only[nds,yae,List.cons.injEq,lM,AV.agg.injEq,AV.int.injEq,AV.str.injEq,true_and,and_true]at h
  obtain⟨⟨h1,h2,h3,h4,h5,h6,h7⟩,h8⟩:=h
  rw[Bj h8]
  congr 1
  simp only[Nd.mk.injEq]
  exact⟨Xa,Xa,Xa,h4,h5,Xa⟩
def Cj(v:AV)(Kp:AV→AHeap→Prop)(H:AHeap):Prop:=match v with
 |.iface t v=>Kp (.iface t v) H
 |_=>False
@[congr] theorem NW{v v':AV}{Kp:AV→AHeap→Prop}{H:AHeap}(h:v=v'):Cj v Kp H=Cj v' Kp H:=by rw[h]
theorem Cg{t:TypeId}{v:AV}{Kp:AV→AHeap→Prop}{H:AHeap}:Cj (.iface t v) Kp H=Kp (.iface t v) H:=rfl
theorem MR{P:Program}{Ω:Tbl}{ops:Array Oper}{rest:List Oper}{K:Fr→AHeap→Prop}{Kp:Fr→AV→AHeap→Prop}{fr:Fr}{H:AHeap}{d:Option Tmp}{x:Operand}{t:TypeId}{pos:String}{aft:Array Edge} :
 bP P Ω ops (Oper.mk d (.panic x) t pos aft none::rest) K Kp fr H=Cj (ev fr x) (Kp fr) H:=(rfl)
def pst(m:Mark)(l:List Tok)(p tb:Nat)(t:List Nd):AObj:=.cells [.slice m 3 (dN l),.int .i64 (p:Int),.slice (.own tb) 7 (nds t)]
def onP(o:Option AObj)(K:Mark→List Tok→Nat→Nat→List Nd→Prop):Prop:=∃ m l p tb t,o=some (pst m l p tb t)∧K m l p tb t
@[congr] theorem Rw{o o':Option AObj}{K:Mark→List Tok→Nat→Nat→List Nd→Prop}(h:o=o'):onP o K=onP o' K:=by rw[h]
theorem bw{m:Mark}{l:List Tok}{p tb:Nat}{t:List Nd}{K:Mark→List Tok→Nat→Nat→List Nd→Prop}:onP (some (pst m l p tb t)) K=K m l p tb t:=by
 refine propext ⟨fun⟨m',l',p',tb',t',h,hk⟩=>?_,fun h=>⟨m,l,p,tb,t,rfl,h⟩⟩
 simp only[pst,Option.some.injEq,AObj.cells.injEq,List.cons.injEq,AV.slice.injEq,AV.int.injEq,Mark.own.injEq,true_and,and_true]at h
 obtain⟨⟨rfl,h1⟩,h2,rfl,h3⟩:=h
 have:=xe h1
 have:=Bj h3
 have:p=p':=Xa
 subst_vars
 exact hk
theorem Al{m:Mark}{l:List Tok}{p tb:Nat}{t:List Nd}{K:Mark→List Tok→Nat→Nat→List Nd→Prop}:onP (some (.cells [.slice m 3 (dN l),.int .i64 (p:Int),.slice (.own tb) 7 (nds t)])) K=K m l p tb t:=bw
def fZ:ECt
 |[.ptr id 0],H,K=>onP (H.get id) fun m l p tb t=>K (.panic (.iface 254 (.int .i64 (p:Int)))) H
 |_,_,_=>False
theorem nO:EEe 175 fZ:=by
 refine Yef fun _ H K h=>?_
 unfold fZ at h
 split at h<;>try exact h.elim
 rename_i id
 obtain⟨m,l,p,tb,t,hg,hK⟩:=h
 refine⟨_,_,hK,?_⟩
 clear hK
 refine Yfu az tNq Tryz.func175 [] fun hcl=>?_
 have hcs:=ax (cs:=[.slice m 3 (dN l),.int .i64 (p:Int),.slice (.own tb) 7 (nds t)]) hg
 simp only[go_sem,hcs,↓MR,Cg]
 exact Z0
def cn:ECt
 |[.ptr id 0,.agg [.int .i64 op,.int .i64 a,.int .i64 b,.str nm,.str att,.int .u64 hi,.int .u64 lo]],H,K=>onP (H.get id) fun m l p tb t =>
   (0≤op∧0≤a∧0≤b∧mD hi lo∧id≠tb∧H.get tb=some (.buf 7 t.length)∧t.length≤100000) ∧
   K (.ret (.int .i64 (t.length:Int))) ((H.set id (pst m l p tb (t++[⟨op.toNat,a.toNat,b.toNat,nm,att,vOf hi.toNat lo.toNat⟩]))).set tb (.buf 7 (t.length+1)))
 |_,_,_=>False
theorem kE{H:AHeap}{id:Nat}{m:Mark}{l:List Tok}{p tb:Nat}{t:List Nd}(hg:H.get id=some (pst m l p tb t))(hcl:H.Closed)(p':Nat)(t':List Nd):(H.set id (pst m l p' tb t')).Closed:=by
 have h0:=hcl id _ hg 0 Xb
 have h2:=hcl id _ hg 2 Xb
 simp only[List.getElem_cons_zero,List.getElem_cons_succ,tA,lF]at h0 h2
 refine ai hcl ?_
 simp only[znu,znv,tA,lF,znf,and_true,true_and]
 exact⟨h0,h2⟩
theorem nU{H:AHeap}{i j:Nat}(h:i≠j)(o c:AObj):(H.set j o).set i c=(H.set i c).set j o:=by
 simp only[AHeap.set]
 congr 1
 funext k
 by_cases h1:k=i
 ·subst h1;simp[h]
 ·simp[h1]
theorem cR{H:AHeap}{i j:Nat}(h:i≠j)(o:AObj):aK (H.set j o) i=aK H i:=by
 unfold aK;rw[AHeap.get_set_ne _ _ h]
theorem lO:EEe 199 cn:=by
 refine Yef fun _ H K h=>?_
 unfold cn at h
 split at h<;>try exact h.elim
 rename_i id op a b nm att hi lo
 obtain⟨m,l,p,tb,t,hg,⟨h1,h2,h3,⟨h4,h5,h6,h7⟩,hne,htb,htl⟩,hK⟩:=h
 refine⟨_,_,hK,?_⟩
 clear hK
 obtain⟨op,rfl⟩:=bv h1
 obtain⟨a,rfl⟩:=bv h2
 obtain⟨b,rfl⟩:=bv h3
 obtain⟨hi,rfl⟩:=bv h4
 obtain⟨lo,rfl⟩:=bv h6
 simp only[iNq]
 refine Yfw az tNq Tryz.func199 [.tmp 4] (nrq _) (T:=ay [(1,[[],[],[],[],[],[],[5],[4,5],[],[],[4,5]])]) (h:=fun hcl=>?_)
 have hid:=glq hg
 have htbl:=glq htb
 have hcs:=ax (cs:=[.slice m 3 (dN l),.int .i64 (p:Int),.slice (.own tb) 7 (nds t)]) hg
 have f1:=cK hid
 have f2:=cK htbl
 have g1:(id=tb)=False:=eq_false hne
 have g2:(tb=id)=False:=eq_false fun e=>hne e.symm
 have e1:nds t++[AV.agg [.int .i64 (op:Int),.int .i64 (a:Int),.int .i64 (b:Int),.str nm,.str att,.int .u64 (hi:Int),.int .u64 (lo:Int)]]=nds (t++[⟨op,a,b,nm,att,vOf hi lo⟩]):=by
  rw[← CD];unfold lM;simp only;rw[sC Xa,Be (Xa)]
 have e2:IntKind.i64.wrap (((t.length+1:Nat):Int)-1)=(t.length:Int):=Xe
 have hcl1:=kE hg hcl p (t++[⟨op,a,b,nm,att,vOf hi lo⟩])
 have hcl2:((H.set id (pst m l p tb (t++[⟨op,a,b,nm,att,vOf hi lo⟩]))).set tb (.buf 7 (t.length+1))).Closed:=ae hcl1
 have s1:=nU (H:=H) hne
 have s2:=fun o=>(cR (H:=H) hne o).trans hcs
 have s3:∀ o cs,aK ((H.set id (.cells cs)).set tb o) id=some cs:=fun o cs=>by rw[cR hne,fx hid,if_pos rfl]
 simp only[go_sem,hcs,aO,f1,f2,g1,g2,htb,aC,if_pos htbl,e1,s1,s2,s3,e2,lAq]
 refine⟨⟨Xa,Xa,by simp[bG,AV.cells,AV.one]⟩,?_⟩
 simp only[pst]at hcl2 ⊢
 simp (disch:=first|exact Zd|omega) [↓zmo,beq,ybc,ybd,ybe,af,wk,wk2,wk1,wkM,wkL,aj,ybf,hcl2,htbl,lF]
 trace_state
theorem FI{l:List Tok}{p k z:Nat}{x s:List UInt8}(hp:p<l.length)(h:l[p]=(k,x,z)):isS l p s=(k==3&&x==s):=by
 unfold isS;rw[gQq hp,h]
theorem Cl{l:List Tok}{p:Nat}{s:List UInt8}(hp:l.length≤p):isS l p s=false:=by
 unfold isS;rw[gNq hp]
theorem oB{l:List Tok}{p k z:Nat}{x:List UInt8}(hp:p<l.length)(h:l[p]=(k,x,z)):(dN l).getD p .junk=.agg [.int .i64 (k:Int),.str x,.int .i64 (z:Int)]:=by
 rw[MF hp,h];rfl
def cj:ECt
 |[.ptr id 0,.str s],H,K=>onP (H.get id) fun m l p tb t=>(p≤l.length∧l.length≤100000) ∧
   if isS l p s=true then K (.ret (.bool true)) (H.set id (pst m l (p+1) tb t))else K (.ret (.bool false)) H
 |_,_,_=>False
theorem mS:EEe 198 cj:=by
 refine Yef fun _ H K h=>?_
 unfold cj at h
 split at h<;>try exact h.elim
 rename_i id s
 obtain⟨m,l,p,tb,t,hg,⟨hp,hl⟩,hK⟩:=h
 have hid:=glq hg
 have hcs:=ax (cs:=[.slice m 3 (dN l),.int .i64 (p:Int),.slice (.own tb) 7 (nds t)]) hg
 have e1:IntKind.i64.wrap ((p:Int)+1)=((p+1:Nat):Int):=Xe
 by_cases hlt0:p<l.length
 ·rcases htk:l[p]with⟨k,x,z⟩
  have hgd:=oB hlt0 htk
  rw[FI hlt0 htk]at hK
  have d1:((p:Int)==(l.length:Int))=false:=Xd
  by_cases hk:k=3
  ·subst hk
   by_cases hx:x=s
   ·subst hx
    simp only[beq_self_eq_true,Bool.and_self,if_true]at hK
    refine⟨_,_,hK,?_⟩
    clear hK
    refine Yfu az tNq Tryz.func198 [.tmp 4] fun hcl=>?_
    have hcl1:=kE hg hcl (p+1) t
    simp only[go_sem,hcs,aT,hgd,d1,iNq,e1,beq_self_eq_true,bne_self_eq_false]
    refine⟨Xa,Gb rfl ⟨Xa,?_⟩⟩
    change af (H.set id (pst m l (p+1) tb t)) _ _ _
    exact Z27
   ·have d3:(x==s)=false:=by simpa using hx
    rw[d3,Bool.and_false,if_neg (Xb)]at hK
    refine⟨_,_,hK,?_⟩
    clear hK
    refine Yfu az tNq Tryz.func198 [.tmp 4] fun hcl=>?_
    simp only[go_sem,hcs,aT,hgd,d1,d3,iNq,e1,beq_self_eq_true,bne_self_eq_false]
    refine⟨Xa,Gb rfl ⟨Xa,?_⟩⟩
    exact Z0
  ·have d3:(k==3)=false:=by simpa using hk
   rw[d3,Bool.false_and,if_neg (Xb)]at hK
   refine⟨_,_,hK,?_⟩
   clear hK
   refine Yfu az tNq Tryz.func198 [.tmp 4] fun hcl=>?_
   have d4:((k:Int) !=3)=true:=Xd
   simp only[go_sem,hcs,aT,hgd,d1,d4,iNq,e1,beq_self_eq_true,bne_self_eq_false]
   exact V32
 ·have hpe:p=l.length:=Xa
  subst hpe
  rw[Cl (nrq _),if_neg (Xb)]at hK
  refine⟨_,_,hK,?_⟩
  clear hK
  refine Yfu az tNq Tryz.func198 [.tmp 4] fun hcl=>?_
  simp only[go_sem,hcs,aT,beq_self_eq_true]
  exact Z0
def lG(l:List Tok)(p:Nat):Option (List UInt8):=match l[p]? with
 |none=>none
 |some (k,x,_)=>if k=2 then some x else none
def onW(o:Option (List UInt8))(K1:List UInt8→Prop)(K2:Prop):Prop:=match o with
 |some x=>K1 x
 |none=>K2
@[congr] theorem Rs{o o':Option (List UInt8)}{K1:List UInt8→Prop}{K2:Prop}(h:o=o'):onW o K1 K2=onW o' K1 K2:=by rw[h]
theorem iE{x:List UInt8}{K1:List UInt8→Prop}{K2:Prop}:onW (some x) K1 K2=K1 x:=rfl
theorem gz{K1:List UInt8→Prop}{K2:Prop}:onW none K1 K2=K2:=rfl
def kR:ECt
 |[.ptr id 0,.int .i64 kd],H,K=>onP (H.get id) fun m l p tb t=>(kd=2∧p≤l.length∧l.length≤100000) ∧
   onW (lG l p) (fun x=>K (.ret (.str x)) (H.set id (pst m l (p+1) tb t))) (K (.panic (.iface 254 (.int .i64 (p:Int)))) H)
 |_,_,_=>False
theorem Mr:EEe 235 kR:=by
 refine Yef fun _ H K h=>?_
 unfold kR at h
 split at h<;>try exact h.elim
 rename_i id kd
 obtain⟨m,l,p,tb,t,hg,⟨rfl,hp,hl⟩,hK⟩:=h
 have hid:=glq hg
 have hcs:=ax (cs:=[.slice m 3 (dN l),.int .i64 (p:Int),.slice (.own tb) 7 (nds t)]) hg
 have e1:IntKind.i64.wrap ((p:Int)+1)=((p+1:Nat):Int):=Xe
 have e2:IntKind.i64.wrap (((p+1:Nat):Int)-1)=(p:Int):=Xe
 unfold lG at hK
 by_cases hlt0:p<l.length
 ·rcases htk:l[p]with⟨k,x,z⟩
  have hgd:=oB hlt0 htk
  rw[gQq hlt0,htk]at hK
  dsimp only at hK
  have d1:((p:Int)==(l.length:Int))=false:=Xd
  by_cases hk:k=2
  ·subst hk
   rw[if_pos rfl,iE]at hK
   refine⟨_,_,hK,?_⟩
   clear hK
   refine Yfw az (tCq nO tNq) Tryz.func235 [.tmp 4] (by simp[zlf]) (T:=ay []) (h:=fun hcl=>?_)
   have hcl1:=kE hg hcl (p+1) t
   simp only[go_sem,hcs,aT,hgd,d1,iNq,e1,e2,fx hid,beq_self_eq_true,bne_self_eq_false]
   refine⟨Xa,Bn rfl ?_⟩
   simp only[go_sem,hcs,aT,hgd,d1,iNq,e1,e2,fx hid,beq_self_eq_true,bne_self_eq_false]
   refine⟨Xa,?_⟩
   change af (H.set id (pst m l (p+1) tb t)) _ _ _
   exact Z27
  ·have d3:(k==2)=false:=by simpa using hk
   rw[if_neg hk,gz]at hK
   refine⟨_,_,hK,?_⟩
   clear hK
   refine Yfu az (tCq nO tNq) Tryz.func235 [.tmp 4] fun hcl=>?_
   have d4:((k:Int) !=2)=true:=Xd
   simp only[go_sem,hcs,aT,hgd,d1,d4,iNq,e1,fZ,hg,bw]
   exact V32
 ·have hpe:p=l.length:=Xa
  subst hpe
  rw[gNq (nrq _)]at hK
  dsimp only at hK
  rw[gz]at hK
  refine⟨_,_,hK,?_⟩
  clear hK
  refine Yfu az (tCq nO tNq) Tryz.func235 [.tmp 4] fun hcl=>?_
  simp only[go_sem,hcs,aT,beq_self_eq_true,fZ,hg,bw]
  exact Z0
def j9(l:List (Nat × List UInt8)):List AV:=l.map fun o=>.agg [.int .i64 (o.1:Int),.str o.2]
theorem jI{l:List (Nat × List UInt8)}:(j9 l).length=l.length:=by simp[j9]
theorem AO:∀{l l':List (Nat × List UInt8)},j9 l=j9 l'→l=l'
 |[],[],_=>rfl
 |[],_::_,h=>by cases h
 |_::_,[],h=>by cases h
 |(a,b)::l,(a',b')::l',h=>by
  simp only[j9,yae,List.cons.injEq,AV.agg.injEq,AV.int.injEq,AV.str.injEq,true_and,and_true]at h
  obtain⟨⟨h1,h2⟩,h4⟩:=h
  rw[AO h4]
  congr 1
  simp only[Prod.mk.injEq]
  exact⟨Xa,h2⟩
theorem fB{n:Nat}{l:List (Nat × List UInt8)}:AV.lt n (.slice .any 2 (j9 l)):=j6 fun x hx=>by
 simp only[j9,List.mem_map]at hx
 obtain⟨o,_,rfl⟩:=hx
 simp[znr,znu,znv,znf,znh]
theorem OM:[AV.agg [.int .i64 8,.str [61,61]],.agg [.int .i64 9,.str [33,61]],.agg [.int .i64 10,.str [60]],.agg [.int .i64 11,.str [60,61]],.agg [.int .i64 12,.str [62]],.agg [.int .i64 13,.str [62,61]]]=j9 opsC:=rfl
theorem Ol:[AV.agg [.int .i64 6,.str [43]],.agg [.int .i64 7,.str [45]]]=j9 opsS:=rfl
def gE:PCt
 |[],_,K=>K (.slice .any 2 (j9 opsC))
 |_,_,_=>False
theorem Cq:EPp 227 gE:=by
 refine Ype fun _ H K h=>?_
 unfold gE at h
 split at h<;>try exact h.elim
 refine⟨_,h,?_⟩
 clear h
 refine Yfu az tNq Tryz.func227 [.tmp 0] fun hcl=>?_
 simp only[go_sem,OM]
 exact Z28
def mT:PCt
 |[],_,K=>K (.slice .any 2 (j9 opsS))
 |_,_,_=>False
theorem Mo:EPp 230 mT:=by
 refine Ype fun _ H K h=>?_
 unfold mT at h
 split at h<;>try exact h.elim
 refine⟨_,h,?_⟩
 clear h
 refine Yfu az tNq Tryz.func230 [.tmp 0] fun hcl=>?_
 simp only[go_sem,Ol]
 exact Z28
def PI(x:List AV)(K:List (Nat × List UInt8)→Prop):Prop:=∃ l,x=j9 l∧K l
theorem kK{l:List (Nat × List UInt8)}{K:List (Nat × List UInt8)→Prop}:PI (j9 l) K=K l :=
 propext ⟨fun⟨l',h,hk⟩=>by rw[AO h];exact hk,fun h=>⟨l,rfl,h⟩⟩
def onN(o:Option Nat)(K1:Nat→Prop)(K2:Prop):Prop:=match o with
 |some x=>K1 x
 |none=>K2
@[congr] theorem Rz{o o':Option Nat}{K1:Nat→Prop}{K2:Prop}(h:o=o'):onN o K1 K2=onN o' K1 K2:=by rw[h]
theorem pC{x:Nat}{K1:Nat→Prop}{K2:Prop}:onN (some x) K1 K2=K1 x:=rfl
theorem t9{K1:Nat→Prop}{K2:Prop}:onN none K1 K2=K2:=rfl
def mH:ECt
 |[.ptr id 0,.slice _ 2 x],H,K=>onP (H.get id) fun m l p tb t=>PI x fun ops=>(p≤l.length∧l.length≤100000∧ops.length≤100) ∧
   onN (iZ l p ops) (fun k=>K (.ret (.int .i64 (k:Int))) (H.set id (pst m l (p+1) tb t))) (K (.ret (.int .i64 0)) H)
 |_,_,_=>False
theorem At{l:List (Nat × List UInt8)}{k:Nat}(h:k<l.length):(j9 l).getD k .junk=.agg [.int .i64 (l[k].1:Int),.str l[k].2]:=by simp[j9,gEq,h]
theorem D3:EEe 226 mH:=by
 refine Yef fun _ H K h=>?_
 unfold mH at h
 split at h<;>try exact h.elim
 rename_i id mo x
 obtain⟨m,l,p,tb,t,hg,ops,rfl,⟨hp,hl,ho⟩,hK⟩:=h
 have hid:=glq hg
 have f1:=cK hid
 cases hop:iZ l p ops with
 |some k =>
  rw[hop,pC]at hK
  refine⟨_,_,hK,?_⟩
  clear hK
  refine ACalls.fW az (tCq mS tNq) Tryz.func226 [.tmp 4] (by simp[zlf]) (T:=ay []) (h:=fun hcl hlt=>?_)
  have hltm:∀ n',H.nx≤n'→AV.lt n' (.slice .any 2 (j9 ops)):=fun n' _=>fB
  clear hlt
  have hcl1:=kE hg hcl (p+1) t
  simp only[go_sem,jI]
  refine aA (A:=Nat) (fun i=>[(9,.int .i64 (i:Int)),(8,.int .i64 (ops.length:Int)),(7,.slice .any 2 (j9 ops)),(0,.ptr id 0)]) (fun _=>H) (fun i=>i≤ops.length∧iZ l p (ops.drop i)=some k) (fun i=>ops.length-i) 0 ⟨Xa,hop⟩ ?_ fun i hi=>?_
  ·exact Z29
  obtain⟨hi,hop'⟩:=hi
  refine T9 ?_
  refine aq (fun h1=>?_) (fun h1=>?_)
  ·have hi1:i<ops.length:=by simp at h1;omega
   have e5:IntKind.i64.wrap ((i:Int)+1)=((i+1:Nat):Int):=Xe
   have hgo:=At hi1
   rw[dcq hi1]at hop'
   rcases hok:ops[i]with⟨ko,so⟩
   rw[hok]at hop' hgo
   unfold iZ at hop'
   by_cases hs:isS l p so=true
   ·rw[if_pos hs]at hop'
    cases hop'
    simp only[go_sem,iNq,jI,hgo,cj,f1,hg,bw,hs,if_true,hp,hl]
    refine⟨Xa,?_⟩
    exact Z27
   ·exact V82
  ·exfalso
   have hi1:ops.length≤i:=by simp at h1;omega
   rw[ybf hi1]at hop'
   cases hop'
 |none =>
  rw[hop,t9]at hK
  refine⟨_,_,hK,?_⟩
  clear hK
  refine Yfu az (tCq mS tNq) Tryz.func226 [.tmp 4] fun hcl=>?_
  simp only[go_sem,jI]
  refine aA (A:=Nat) (fun i=>[(9,.int .i64 (i:Int)),(8,.int .i64 (ops.length:Int)),(7,.slice .any 2 (j9 ops)),(0,.ptr id 0)]) (fun _=>H) (fun i=>i≤ops.length∧iZ l p (ops.drop i)=none) (fun i=>ops.length-i) 0 ⟨Xa,hop⟩ ?_ fun i hi=>?_
  ·exact Z29
  obtain⟨hi,hop'⟩:=hi
  refine T9 ?_
  refine aq (fun h1=>?_) (fun h1=>?_)
  ·have hi1:i<ops.length:=by simp at h1;omega
   have e5:IntKind.i64.wrap ((i:Int)+1)=((i+1:Nat):Int):=Xe
   have hgo:=At hi1
   rw[dcq hi1]at hop'
   rcases hok:ops[i]with⟨ko,so⟩
   rw[hok]at hop' hgo
   unfold iZ at hop'
   by_cases hs:isS l p so=true
   ·rw[if_pos hs]at hop';cases hop'
   ·exact V82
  ·exact V33
def iC(op v:Int):AV:=.agg [.int .i64 op,.int .i64 0,.int .i64 0,.str [],.str [],.int .u64 0,.int .u64 v]
def mU(s:List UInt8):AV:=if s=vN then .tup [iC 2 1,.bool true]else if s=qo then .tup [iC 2 0,.bool true]else .tup [iC 0 0,.bool false]
def vY:PCt
 |[.int .u64 n],_,K=>K (.agg [.int .u64 0,.int .u64 n])
 |_,_,_=>False
theorem vw:EPp 113 vY:=by
 refine Ype fun _ H K h=>?_
 unfold vY at h
 split at h<;>try exact h.elim
 rename_i n
 refine⟨_,h,?_⟩
 clear h
 refine Yfu az tNq Tryz.func113 [.cell 2 29] fun hcl=>?_
 exact V33
def je:PCt
 |[.str s],_,K=>K (mU s)
 |_,_,_=>False
theorem In:EPp 236 je:=by
 refine Ype fun _ H K h=>?_
 unfold je at h
 split at h<;>try exact h.elim
 rename_i s
 refine⟨_,h,?_⟩
 clear h
 unfold mU
 by_cases h1:s=vN
 ·rw[if_pos h1]
  subst h1
  refine Yfu az (tCq vw tNq) Tryz.func236 [.cell 2 176,.tmp 3] fun hcl=>?_
  have d1:(vN==[116,114,117,101])=true:=Xc
  simp only[go_sem,vY,d1,zld]
  exact Z30
 ·rw[if_neg h1]
  have d1:(s==[116,114,117,101])=false:=by simpa[vN]using h1
  by_cases h2:s=qo
  ·rw[if_pos h2]
   subst h2
   refine Yfu az (tCq vw tNq) Tryz.func236 [.cell 2 176,.tmp 3] fun hcl=>?_
   have d2:(qo==[102,97,108,115,101])=true:=Xc
   simp only[go_sem,vY,d1,d2,zld]
   exact Z30
  ·rw[if_neg h2]
   have d2:(s==[102,97,108,115,101])=false:=by simpa[qo]using h2
   refine Yfu az (tCq vw tNq) Tryz.func236 [.cell 2 176,.tmp 3] fun hcl=>?_
   simp only[go_sem,vY,d1,d2,zld]
   exact Z30
def rB(l:List Tok):Prop:=∀ x∈l,x.2.1.length≤1000∧(x.1=1→(lit x.2.1).isSome=true)
def ik(H:AHeap)(id tb:Nat)(l:List Tok)(p:Nat)(t:List Nd):Prop:=id≠tb∧H.get tb=some (.buf 7 t.length)∧t.length≤p∧p≤l.length∧l.length≤1000∧rB l∧Good t
theorem gZ{H:AHeap}{id tb p p':Nat}{m:Mark}{l:List Tok}{t t':List Nd}(h:ik H id tb l p t)(hp:p'≤l.length)(ht:t'.length≤p')(hg:Good t'):ik ((H.set id (pst m l p' tb t')).set tb (.buf 7 t'.length)) id tb l p' t':=by
 exact V107
theorem lS{H:AHeap}{id tb p p':Nat}{o:AObj}{l:List Tok}{t:List Nd}(h:ik H id tb l p t)(hp:p'≤l.length)(ht:t.length≤p'):ik (H.set id o) id tb l p' t:=by
 obtain⟨h1,h2,h3,h4,h5,h6,h7⟩:=h
 refine⟨h1,?_,ht,hp,h5,h6,h7⟩
 rw[AHeap.get_set_ne _ _ (fun e=>h1 e.symm)];exact h2
def sj(l:List Tok)(p:Nat):Nat:=match l[p]? with
 |none=>0
 |some (k,_,_)=>k
def zz(l:List Tok)(p:Nat):Nat:=match l[p]? with
 |none=>0
 |some (_,x,_)=>(lit x).getD 0
def fX:ECt
 |[.ptr id 0],H,K=>onP (H.get id) fun m l p tb t=>(ik H id tb l p t∧sj l p=1) ∧
   K (.ret (.int .i64 (t.length:Int))) ((H.set id (pst m l (p+1) tb (t++[⟨1,0,0,[],[],zz l p⟩]))).set tb (.buf 7 (t.length+1)))
 |_,_,_=>False
theorem Do:EEe 234 fX:=by
 refine Yef fun _ H K h=>?_
 unfold fX at h
 split at h<;>try exact h.elim
 rename_i id
 obtain⟨m,l,p,tb,t,hg,⟨⟨hne,htb,ht,hp,hl,hgl,hgt⟩,hk⟩,hK⟩:=h
 have hid:=glq hg
 have htbl:=glq htb
 have hcs:=ax (cs:=[.slice m 3 (dN l),.int .i64 (p:Int),.slice (.own tb) 7 (nds t)]) hg
 have f1:=cK hid
 have f2:=cK htbl
 have g1:(id=tb)=False:=eq_false hne
 have g2:(tb=id)=False:=eq_false fun e=>hne e.symm
 have e1:IntKind.i64.wrap ((p:Int)+1)=((p+1:Nat):Int):=Xe
 have hlt0:p<l.length:=by
  rcases Nat.lt_or_ge p l.length with h1|h1
  ·exact h1
  ·unfold sj at hk;rw[gNq h1]at hk;cases hk
 rcases htk:l[p]with⟨k,x,z⟩
 have hgd:=oB hlt0 htk
 have hk1:k=1:=by unfold sj at hk;rw[gQq hlt0,htk]at hk;exact hk
 subst hk1
 have hla:zz l p=(lit x).getD 0:=by unfold zz;rw[gQq hlt0,htk]
 rw[hla]at hK
 obtain⟨hxl,hxs⟩:=hgl l[p] (gMq hlt0)
 rw[htk]at hxl hxs
 dsimp only at hxl hxs
 obtain⟨n,hn⟩:=Option.isSome_iff_exists.1 (hxs rfl)
 have hn128:=AW hn
 rw[hn]at hK
 dsimp only[Option.getD_some]at hK
 refine⟨_,_,hK,?_⟩
 clear hK
 refine Yfw az (tCq v5 (tCq nO (tCq zH (tCq lO tNq)))) Tryz.func234 [.tmp 2] (nrq _) (T:=ay [(1,[[],[],[],[],[],[],[],[],[],[],[],[3,7,10],[],[],[],[],[3,7,10,11]])]) (h:=fun hcl=>?_)
 have hxl':x.length≤140737488355328:=Xa
 have hv:nT (n:Int)=.tup [.agg [.int .u64 ((n/2^64:Nat):Int),.int .u64 ((n%2^64:Nat):Int)],.bool true]:=by
  unfold nT
  rw[if_pos ⟨Int.natCast_nonneg n,Int.lt_of_lt_of_le (Int.ofNat_lt.2 hn128) Xc⟩]
  rfl
 have hn1:isN (n:Int):=⟨Int.le_trans Xc (Int.natCast_nonneg n),Int.lt_of_lt_of_le (Int.ofNat_lt.2 hn128) Xc⟩
 have hvo:vOf (n/2^64) (n%2^64)=n:=bZ n
 have hlo:n/2^64<18446744073709551616:=Xa
 have hlo2:n%2^64<18446744073709551616:=Xa
 have hx1:(id=H.nx)=False:=eFo
 have s1:=nU (H:=H) hne
 simp only[go_sem,hcs,aT,hgd,iNq,e1,oO,hxl',ww,hn,hx1,nAV]
 simp only[mr]
 refine⟨Xa,n,⟨rfl,hn1⟩,?_⟩
 rw[hv]
 have hn0:(0≤n/2^64):=Nat.zero_le _
 generalize hw0:w0 (n:Int)=y0
 generalize hw1:w1 (n:Int)=y1
 generalize hw2:w2 (n:Int)=y2
 have hgi:∀ o,(H.set id o).get id=some o:=fun o=>AHeap.get_set_same _ _ hid
 have hgt:∀ o,(H.set id o).get tb=some (.buf 7 t.length):=fun o=>by rw[AHeap.get_set_ne _ _ (fun e=>hne e.symm)];exact htb
 have hcl1:=kE hg hcl (p+1) (t++[⟨1,0,0,[],[],n⟩])
 have hcl2:((H.set id (pst m l (p+1) tb (t++[⟨1,0,0,[],[],n⟩]))).set tb (.buf 7 (t.length+1))).Closed:=ae hcl1
 simp only[aF,go_sem,hcs,iNq,e1,hx1,f1,f2,g1,g2,fx hid,cn,hgi,hgt,Al,hvo]
 refine⟨⟨Xc,Xc,Xc,⟨Xa,Xa,Xa,Xa⟩,Xa⟩,?_⟩
 exact Z25
def HU(m:Mark)(l:List Tok)(tb id:Nat)(H:AHeap)(K:AEnd→AHeap→Prop)(o:Option PR):Prop:=match o with
 |none=>False
 |some (.ok a p t)=>K (.ret (.int .i64 (a:Int))) ((H.set id (pst m l p tb t)).set tb (.buf 7 t.length))
 |some (.bad p)=>K (.panic (.iface 254 (.int .i64 (p:Int)))) ((H.del id).del tb)
@[congr] theorem Qf{m:Mark}{l:List Tok}{tb id:Nat}{H:AHeap}{K:AEnd→AHeap→Prop}{o o':Option PR}(h:o=o'):HU m l tb id H K o=HU m l tb id H K o':=by rw[h]
theorem bS{m:Mark}{l:List Tok}{tb id a p:Nat}{t:List Nd}{H:AHeap}{K:AEnd→AHeap→Prop}:HU m l tb id H K (some (.ok a p t))=K (.ret (.int .i64 (a:Int))) ((H.set id (pst m l p tb t)).set tb (.buf 7 t.length)):=rfl
theorem bE{m:Mark}{l:List Tok}{tb id p:Nat}{H:AHeap}{K:AEnd→AHeap→Prop}:HU m l tb id H K (some (.bad p))=K (.panic (.iface 254 (.int .i64 (p:Int)))) ((H.del id).del tb):=rfl
def bI(rl:Rl)(f:Nat):ECt
 |[.ptr id 0],H,K=>onP (H.get id) fun m l p tb t=>ik H id tb l p t∧HU m l tb id H K (run l f rl p t)
 |_,_,_=>False
theorem cx{H:AHeap}{i j:Nat}{x y:AObj}:(((H.set i x).set j y).del i).del j=(H.del i).del j:=by
 exact V122
theorem bR{H:AHeap}{i j:Nat}{x:AObj}:((H.set i x).del i).del j=(H.del i).del j:=by
 exact V122
theorem jd{H:AHeap}{i j:Nat}:((H.del i).del j).Le H:=⟨nrq _,fun k x hk=>by
 rw[jp]at hk
 split at hk
 ·cases hk
 ·rw[jp]at hk
  split at hk
  ·cases hk
  ·exact hk⟩
theorem gM{H:AHeap}{i j:Nat}{x y:AObj}:((H.del i).del j).Le ((H.set i x).set j y):=by
 have:=jd (H:=(H.set i x).set j y) (i:=i) (j:=j)
 rwa[cx]at this
theorem dd_le1{H:AHeap}{i j:Nat}{x:AObj}:((H.del i).del j).Le (H.set i x):=by
 have:=jd (H:=H.set i x) (i:=i) (j:=j)
 rwa[bR]at this
theorem jM{H:AHeap}{i j:Nat}(h:H.Closed):((H.del i).del j).Closed:=au (au h)
theorem jD{H:AHeap}{id tb p:Nat}{m:Mark}{l:List Tok}{t:List Nd}(hg:H.get id=some (pst m l p tb t))(h:ik H id tb l p t)(hcl:H.Closed) :
 (∀ X Y,((H.set id X).set tb Y).get id=some X)∧(∀ X Y,((H.set id X).set tb Y).get tb=some Y)∧(∀ X Y Z,((H.set id X).set tb Y).set id Z=(H.set id Z).set tb Y) ∧
   (∀ p' t',((H.set id (pst m l p' tb t')).set tb (.buf 7 t'.length)).Closed)∧(∀ X Y Z,((H.set id X).set tb Y).set tb Z=(H.set id X).set tb Z):=by
 obtain⟨h1,h2,h3,h4,h5,h6,h7⟩:=h
 have hid:=glq hg
 have htb:=glq h2
 refine⟨fun X Y=>?_,fun X Y=>?_,fun X Y Z=>?_,fun p' t'=>ae (kE hg hcl p' t'),fun X Y Z=>?_⟩
 ·rw[AHeap.get_set_ne _ _ h1];exact AHeap.get_set_same _ _ hid
 ·exact AHeap.get_set_same _ _ (by simpa[zlf]using htb)
 ·exact V158
 ·simp only[AHeap.set];congr 1;funext k;by_cases hk:k=tb<;>simp[hk]
def kv(f:Nat):=bI .imp f
def vR(f:Nat):=bI .or f
def pQ(f:Nat):=bI .and f
def mi(f:Nat):=bI .not f
def yh(f:Nat):=bI .cmp f
def pD(f:Nat):=bI .sum f
def pT(f:Nat):=bI .un f
def tX(f:Nat):=bI .atom f
def xR:PR→AEnd
 |.ok a _ _=>.ret (.int .i64 (a:Int))
 |.bad p=>.panic (.iface 254 (.int .i64 (p:Int)))
def HR(m:Mark)(l:List Tok)(tb id:Nat)(H:AHeap):PR→AHeap
 |.ok _ p t=>(H.set id (pst m l p tb t)).set tb (.buf 7 t.length)
 |.bad _=>(H.del id).del tb
theorem dd{a p:Nat}{t:List Nd}:xR (.ok a p t)=.ret (.int .i64 (a:Int)):=rfl
theorem cA{p:Nat}:xR (.bad p)=.panic (.iface 254 (.int .i64 (p:Int))):=rfl
theorem c6{m:Mark}{l:List Tok}{tb id a p:Nat}{t:List Nd}{H:AHeap}:HR m l tb id H (.ok a p t)=(H.set id (pst m l p tb t)).set tb (.buf 7 t.length):=rfl
theorem cB{m:Mark}{l:List Tok}{tb id p:Nat}{H:AHeap}:HR m l tb id H (.bad p)=(H.del id).del tb:=rfl
theorem ic{m:Mark}{l:List Tok}{tb id:Nat}{H:AHeap}{K:AEnd→AHeap→Prop}{r:PR}:HU m l tb id H K (some r)=K (xR r) (HR m l tb id H r):=by cases r<;>rfl
theorem vU{m:Mark}{l:List Tok}{tb id:Nat}{H:AHeap}{r:PR}:H.nx≤(HR m l tb id H r).nx:=by cases r<;>exact nrq _
theorem nK:(opsC.length≤100)=True:=eq_true Xc
theorem nX:(opsS.length≤100)=True:=eq_true Xc
def opv(l:List Tok)(p:Nat):Nat:=(iZ l p opsS).getD 0
def oph(l:List Tok)(p:Nat):Nat:=if(iZ l p opsS).isSome then p+1 else p
theorem P0:vOf 0 1=1:=rfl
theorem P7:mD 0 1=True:=eq_true (by unfold mD;decide)
theorem bj:vOf 0 0=0:=rfl
theorem bh:mD 0 0=True:=eq_true (by unfold mD;decide)
theorem O9{f:Nat}(h_yOr:EEe 197 (vR f))(h_yImp:EEe 174 (kv f)):EEe 174 (kv (f+1)):=by
 refine Yef fun _ H K h=>?_
 unfold kv bI at h
 split at h<;>try exact h.elim
 rename_i id
 obtain⟨m,l,p,tb,t,hg,hpre,hK⟩:=h
 cases ho:run l (f+1) .imp p t with
 |none=>rw[ho]at hK;exact hK.elim
 |some r =>
 rw[ho,ic]at hK
 refine⟨_,_,hK,?_⟩
 clear hK
 rw[run]at ho
 simp only[eT]at ho
 have hpre':=hpre
 obtain⟨hne,htb,ht,hp,hl,hgl,hgt⟩:=hpre
 have hid:=glq hg
 have htbl:=glq htb
 have f1:=cK hid
 have f2:=cK htbl
 have hl5:l.length≤100000:=Xa
 have i1:=@Int.natCast_nonneg
 have hne':(id=tb)=False:=eq_false hne
 refine Yfw az (tCq h_yOr (tCq mS (tCq h_yImp (tCq lO tNq)))) Tryz.func174 [.tmp 2] vU (T:=ay []) (h:=fun hcl=>?_)
 obtain⟨hgi,hgt',hsi,hcl2,hst⟩:=jD hg hpre' hcl
 rcases bp ho with⟨q,h1,rfl⟩|⟨a,p1,t1,h1,h2⟩
 ·simp only[go_sem,f1,f2,hgi,hgt',hsi,hst,bw,bE,bS,dd,cA,c6,cB,cx,bR,cj,cn,bI,hne,ne_eq,hne',hl5,iNq,bj,bh,i1,Int.reduceLE,eq_self,nFq,vR,hg,hpre',h1]
  exact Z31
 clear ho
 obtain⟨k1,k2,k3,k4,k5,k6⟩:=bz _ h1 hgt trivial hp
 simp only[Rl.isL,Bool.false_eq_true,if_false]at k4
 have hp1:ik ((H.set id (pst m l p1 tb t1)).set tb (.buf 7 t1.length)) id tb l p1 t1:=gZ hpre' k2 Xa k5
 cases hs:isS l p1 [45,62]with
 |false=>
  rw[hs,if_neg (Xb)]at h2
  cases h2
  simp only[go_sem,f1,f2,hgi,hgt',hsi,hst,bw,bE,bS,dd,cA,c6,cB,cx,bR,cj,cn,bI,hne,ne_eq,hne',hl5,iNq,bj,bh,i1,Int.reduceLE,eq_self,nFq,vR,hg,hpre',h1,k2,hs,if_false]
  exact Z25
 |true=>
  rw[hs,if_pos rfl]at h2
  have hlt1:=dT hs
  have hp2:ik ((H.set id (pst m l (p1+1) tb t1)).set tb (.buf 7 t1.length)) id tb l (p1+1) t1:=gZ hpre' hlt1 Xa k5
  rcases bp h2 with⟨q,h3,rfl⟩|⟨b,p2,t2,h3,h4⟩
  ·simp only[go_sem,f1,f2,hgi,hgt',hsi,hst,bw,bE,bS,dd,cA,c6,cB,cx,bR,cj,cn,bI,hne,ne_eq,hne',hl5,iNq,bj,bh,i1,Int.reduceLE,eq_self,nFq,vR,kv,hg,hpre',h1,k2,hs,if_true,hp2,h3]
   exact Z31
  cases h4
  obtain⟨k1b,k2b,k3b,k4b,k5b,k6b⟩:=bz _ h3 k5 trivial hlt1
  simp only[Rl.isL,Bool.false_eq_true,if_false]at k4b
  have ht2:t2.length≤100000:=Xa
  simp only[go_sem,f1,f2,hgi,hgt',hsi,hst,bw,bE,bS,dd,cA,c6,cB,cx,bR,cj,cn,bI,hne,ne_eq,hne',hl5,iNq,bj,bh,i1,Int.reduceLE,eq_self,nFq,vR,kv,hg,hpre',h1,k2,hs,if_true,hp2,h3,ht2,nd2]
  have hc3:=hcl2 p2 (t2++[⟨16,a,b,[],[],0⟩])
  exact V85
theorem Q1{f:Nat}(h_yAnd:EEe 212 (pQ f)):EEe 197 (vR (f+1)):=by
 refine Yef fun _ H K h=>?_
 unfold vR bI at h
 split at h<;>try exact h.elim
 rename_i id
 obtain⟨m,l,p,tb,t,hg,hpre,hK⟩:=h
 cases ho:run l (f+1) .or p t with
 |none=>rw[ho]at hK;exact hK.elim
 |some r =>
 rw[ho,ic]at hK
 refine⟨_,_,hK,?_⟩
 clear hK
 rw[run]at ho
 simp only[eT]at ho
 have hpre':=hpre
 obtain⟨hne,htb,ht,hp,hl,hgl,hgt⟩:=hpre
 have hid:=glq hg
 have htbl:=glq htb
 have f1:=cK hid
 have f2:=cK htbl
 have hl5:l.length≤100000:=Xa
 have i1:=@Int.natCast_nonneg
 have hne':(id=tb)=False:=eq_false hne
 refine Yfw az (tCq h_yAnd (tCq mS (tCq lO tNq))) Tryz.func197 [.tmp 2] vU (T:=ay []) (h:=fun hcl=>?_)
 obtain⟨hgi,hgt',hsi,hcl2,hst⟩:=jD hg hpre' hcl
 rcases bp ho with⟨q,h1,rfl⟩|⟨a,p1,t1,h1,h2⟩
 ·refine T31 ?_
  exact Z31
 clear ho
 obtain⟨k1,k2,k3,k4,k5,k6⟩:=bz _ h1 hgt trivial hp
 simp only[Rl.isL,Bool.false_eq_true,if_false]at k4
 have hp1:ik ((H.set id (pst m l p1 tb t1)).set tb (.buf 7 t1.length)) id tb l p1 t1:=gZ hpre' k2 Xa k5
 refine T31 ?_
 refine aA (A:=Nat × Nat × Nat × List Nd) (fun x=>[(0,.ptr id 0),(3,.int .i64 (x.2.1:Int))]) (fun x=>(H.set id (pst m l x.2.2.1 tb x.2.2.2)).set tb (.buf 7 x.2.2.2.length))
  (fun x=>x.1≤f∧run l x.1 (.orL x.2.1) x.2.2.1 x.2.2.2=some r∧x.2.2.1≤l.length∧x.2.2.2.length≤x.2.2.1∧Good x.2.2.2∧x.2.1<x.2.2.2.length) (fun x=>x.1) (f,a,p1,t1) ⟨nrq _,h2,k2,Xf,k5,k1⟩ ?_ fun x hx=>?_
 ·exact Z33
 obtain⟨g,a',p',t'⟩:=x
 obtain⟨x1,x2,x3,x4,x5,x6⟩:=hx
 dsimp only at x1 x2 x3 x4 x5 x6 ⊢
 have ht':t'.length≤100000:=Xa
 have hpx:ik ((H.set id (pst m l p' tb t')).set tb (.buf 7 t'.length)) id tb l p' t':=gZ hpre' x3 x4 x5
 cases g with
 |zero=>cases x2
 |succ g =>
 rw[run]at x2
 simp only[eT]at x2
 cases hs:isS l p' [124,124]with
 |false=>
  exact V80
 |true=>
  rw[hs,if_pos rfl]at x2
  have hlt1:=dT hs
  have hp2:ik ((H.set id (pst m l (p'+1) tb t')).set tb (.buf 7 t'.length)) id tb l (p'+1) t':=gZ hpre' hlt1 Xa x5
  rcases bp x2 with⟨q,h3,rfl⟩|⟨b,p2,t2,h3,h4⟩
  ·have h3':=dt (show g≤f by omega) h3
   simp only[go_sem,f1,f2,hgi,hgt',hsi,hst,bw,bE,bS,dd,cA,c6,cB,cx,bR,cj,cn,bI,hne,ne_eq,hne',hl5,iNq,bj,bh,i1,Int.reduceLE,eq_self,nFq,pQ,x3,hs,if_true,hp2,h3']
   exact Z31
  have h3':=dt (show g≤f by omega) h3
  obtain⟨k1b,k2b,k3b,k4b,k5b,k6b⟩:=bz _ h3 x5 trivial hlt1
  simp only[Rl.isL,Bool.false_eq_true,if_false]at k4b
  have ht2:t2.length≤100000:=Xa
  simp only[go_sem,f1,f2,hgi,hgt',hsi,hst,bw,bE,bS,dd,cA,c6,cB,cx,bR,cj,cn,bI,hne,ne_eq,hne',hl5,iNq,bj,bh,i1,Int.reduceLE,eq_self,nFq,pQ,x3,hs,if_true,hp2,h3',ht2]
  have hc3:=hcl2 p2 (t2++[⟨15,a',b,[],[],0⟩])
  refine⟨(g,t2.length,p2,t2++[⟨15,a',b,[],[],0⟩]),⟨Xf,h4,k2b,Xd,k5b.snoc ⟨(show 1≤15 by decide),(show 15≤16 by decide)⟩ (show(0:Nat)<2^128 by decide) (.inr ⟨Xm,Xm⟩),Xb⟩,Xf,?_⟩
  exact V56
theorem Nn{f:Nat}(h_yNot:EEe 220 (mi f)):EEe 212 (pQ (f+1)):=by
 refine Yef fun _ H K h=>?_
 unfold pQ bI at h
 split at h<;>try exact h.elim
 rename_i id
 obtain⟨m,l,p,tb,t,hg,hpre,hK⟩:=h
 cases ho:run l (f+1) .and p t with
 |none=>rw[ho]at hK;exact hK.elim
 |some r =>
 rw[ho,ic]at hK
 refine⟨_,_,hK,?_⟩
 clear hK
 rw[run]at ho
 simp only[eT]at ho
 have hpre':=hpre
 obtain⟨hne,htb,ht,hp,hl,hgl,hgt⟩:=hpre
 have hid:=glq hg
 have htbl:=glq htb
 have f1:=cK hid
 have f2:=cK htbl
 have hl5:l.length≤100000:=Xa
 have i1:=@Int.natCast_nonneg
 have hne':(id=tb)=False:=eq_false hne
 refine Yfw az (tCq h_yNot (tCq mS (tCq lO tNq))) Tryz.func212 [.tmp 2] vU (T:=ay []) (h:=fun hcl=>?_)
 obtain⟨hgi,hgt',hsi,hcl2,hst⟩:=jD hg hpre' hcl
 rcases bp ho with⟨q,h1,rfl⟩|⟨a,p1,t1,h1,h2⟩
 ·refine T32 ?_
  exact Z31
 clear ho
 obtain⟨k1,k2,k3,k4,k5,k6⟩:=bz _ h1 hgt trivial hp
 simp only[Rl.isL,Bool.false_eq_true,if_false]at k4
 have hp1:ik ((H.set id (pst m l p1 tb t1)).set tb (.buf 7 t1.length)) id tb l p1 t1:=gZ hpre' k2 Xa k5
 refine T32 ?_
 refine aA (A:=Nat × Nat × Nat × List Nd) (fun x=>[(0,.ptr id 0),(3,.int .i64 (x.2.1:Int))]) (fun x=>(H.set id (pst m l x.2.2.1 tb x.2.2.2)).set tb (.buf 7 x.2.2.2.length))
  (fun x=>x.1≤f∧run l x.1 (.andL x.2.1) x.2.2.1 x.2.2.2=some r∧x.2.2.1≤l.length∧x.2.2.2.length≤x.2.2.1∧Good x.2.2.2∧x.2.1<x.2.2.2.length) (fun x=>x.1) (f,a,p1,t1) ⟨nrq _,h2,k2,Xf,k5,k1⟩ ?_ fun x hx=>?_
 ·exact Z33
 obtain⟨g,a',p',t'⟩:=x
 obtain⟨x1,x2,x3,x4,x5,x6⟩:=hx
 dsimp only at x1 x2 x3 x4 x5 x6 ⊢
 have ht':t'.length≤100000:=Xa
 have hpx:ik ((H.set id (pst m l p' tb t')).set tb (.buf 7 t'.length)) id tb l p' t':=gZ hpre' x3 x4 x5
 cases g with
 |zero=>cases x2
 |succ g =>
 rw[run]at x2
 simp only[eT]at x2
 cases hs:isS l p' [38,38]with
 |false=>
  exact V80
 |true=>
  rw[hs,if_pos rfl]at x2
  have hlt1:=dT hs
  have hp2:ik ((H.set id (pst m l (p'+1) tb t')).set tb (.buf 7 t'.length)) id tb l (p'+1) t':=gZ hpre' hlt1 Xa x5
  rcases bp x2 with⟨q,h3,rfl⟩|⟨b,p2,t2,h3,h4⟩
  ·have h3':=dt (show g≤f by omega) h3
   simp only[go_sem,f1,f2,hgi,hgt',hsi,hst,bw,bE,bS,dd,cA,c6,cB,cx,bR,cj,cn,bI,hne,ne_eq,hne',hl5,iNq,bj,bh,i1,Int.reduceLE,eq_self,nFq,mi,x3,hs,if_true,hp2,h3']
   exact Z31
  have h3':=dt (show g≤f by omega) h3
  obtain⟨k1b,k2b,k3b,k4b,k5b,k6b⟩:=bz _ h3 x5 trivial hlt1
  simp only[Rl.isL,Bool.false_eq_true,if_false]at k4b
  have ht2:t2.length≤100000:=Xa
  simp only[go_sem,f1,f2,hgi,hgt',hsi,hst,bw,bE,bS,dd,cA,c6,cB,cx,bR,cj,cn,bI,hne,ne_eq,hne',hl5,iNq,bj,bh,i1,Int.reduceLE,eq_self,nFq,mi,x3,hs,if_true,hp2,h3',ht2]
  have hc3:=hcl2 p2 (t2++[⟨14,a',b,[],[],0⟩])
  refine⟨(g,t2.length,p2,t2++[⟨14,a',b,[],[],0⟩]),⟨Xf,h4,k2b,Xd,k5b.snoc ⟨(show 1≤14 by decide),(show 14≤16 by decide)⟩ (show(0:Nat)<2^128 by decide) (.inr ⟨Xm,Xm⟩),Xb⟩,Xf,?_⟩
  exact V56
theorem NG{f:Nat}(h_yNot:EEe 220 (mi f))(h_yCmp:EEe 223 (yh f)):EEe 220 (mi (f+1)):=by
 refine Yef fun _ H K h=>?_
 unfold mi bI at h
 split at h<;>try exact h.elim
 rename_i id
 obtain⟨m,l,p,tb,t,hg,hpre,hK⟩:=h
 cases ho:run l (f+1) .not p t with
 |none=>rw[ho]at hK;exact hK.elim
 |some r =>
 rw[ho,ic]at hK
 refine⟨_,_,hK,?_⟩
 clear hK
 rw[run]at ho
 simp only[eT]at ho
 have hpre':=hpre
 obtain⟨hne,htb,ht,hp,hl,hgl,hgt⟩:=hpre
 have hid:=glq hg
 have htbl:=glq htb
 have f1:=cK hid
 have f2:=cK htbl
 have hl5:l.length≤100000:=Xa
 have i1:=@Int.natCast_nonneg
 have hne':(id=tb)=False:=eq_false hne
 refine Yfw az (tCq mS (tCq h_yNot (tCq lO (tCq h_yCmp tNq)))) Tryz.func220 [.tmp 2] vU (T:=ay []) (h:=fun hcl=>?_)
 obtain⟨hgi,hgt',hsi,hcl2,hst⟩:=jD hg hpre' hcl
 cases hs:isS l p [33]with
 |false=>
  rw[hs,if_neg (Xb)]at ho
  simp only[go_sem,f1,f2,hgi,hgt',hsi,hst,bw,bE,bS,dd,cA,c6,cB,cx,bR,cj,cn,bI,hne,ne_eq,hne',hl5,iNq,bj,bh,i1,Int.reduceLE,eq_self,nFq,yh,hg,hp,hs,if_false,hpre',ho,ic]
  cases r with
  |ok a q u =>
   exact V38
  |bad q =>
   exact V92
 |true=>
  rw[hs,if_pos rfl]at ho
  have hlt1:=dT hs
  have hgi1:∀ X,(H.set id X).get id=some X:=fun X=>AHeap.get_set_same _ _ hid
  have hp2:ik (H.set id (pst m l (p+1) tb t)) id tb l (p+1) t:=lS hpre' hlt1 Xa
  have hss:∀ X Y,(H.set id X).set id Y=H.set id Y:=fun X Y=>by simp only[AHeap.set];congr 1;funext k;by_cases hk:k=id<;>simp[hk]
  rcases bp ho with⟨q,h3,rfl⟩|⟨b,p2,t2,h3,h4⟩
  ·simp only[go_sem,f1,f2,hgi,hgt',hsi,hst,bw,bE,bS,dd,cA,c6,cB,cx,bR,cj,cn,bI,hne,ne_eq,hne',hl5,iNq,bj,bh,i1,Int.reduceLE,eq_self,nFq,mi,hg,hp,hs,if_true,hgi1,hss,hp2,h3]
   exact Z31
  cases h4
  obtain⟨k1b,k2b,k3b,k4b,k5b,k6b⟩:=bz _ h3 hgt trivial hlt1
  simp only[Rl.isL,Bool.false_eq_true,if_false]at k4b
  have ht2:t2.length≤100000:=Xa
  simp only[go_sem,f1,f2,hgi,hgt',hsi,hst,bw,bE,bS,dd,cA,c6,cB,cx,bR,cj,cn,bI,hne,ne_eq,hne',hl5,iNq,bj,bh,i1,Int.reduceLE,eq_self,nFq,mi,hg,hp,hs,if_true,hgi1,hss,hp2,h3,ht2,nd2]
  have hc3:=hcl2 p2 (t2++[⟨5,b,0,[],[],0⟩])
  exact V85
theorem QH{f:Nat}(h_yUn:EEe 229 (pT f))(h_yAtom:EEe 232 (tX f)):EEe 229 (pT (f+1)):=by
 refine Yef fun _ H K h=>?_
 unfold pT bI at h
 split at h<;>try exact h.elim
 rename_i id
 obtain⟨m,l,p,tb,t,hg,hpre,hK⟩:=h
 cases ho:run l (f+1) .un p t with
 |none=>rw[ho]at hK;exact hK.elim
 |some r =>
 rw[ho,ic]at hK
 refine⟨_,_,hK,?_⟩
 clear hK
 rw[run]at ho
 simp only[eT]at ho
 have hpre':=hpre
 obtain⟨hne,htb,ht,hp,hl,hgl,hgt⟩:=hpre
 have hid:=glq hg
 have htbl:=glq htb
 have f1:=cK hid
 have f2:=cK htbl
 have hl5:l.length≤100000:=Xa
 have i1:=@Int.natCast_nonneg
 have hne':(id=tb)=False:=eq_false hne
 refine Yfw az (tCq mS (tCq h_yUn (tCq lO (tCq h_yAtom tNq)))) Tryz.func229 [.tmp 2] vU (T:=ay []) (h:=fun hcl=>?_)
 obtain⟨hgi,hgt',hsi,hcl2,hst⟩:=jD hg hpre' hcl
 cases hs:isS l p [45]with
 |false=>
  rw[hs,if_neg (Xb)]at ho
  simp only[go_sem,f1,f2,hgi,hgt',hsi,hst,bw,bE,bS,dd,cA,c6,cB,cx,bR,cj,cn,bI,hne,ne_eq,hne',hl5,iNq,bj,bh,i1,Int.reduceLE,eq_self,nFq,tX,hg,hp,hs,if_false,hpre',ho,ic]
  cases r with
  |ok a q u =>
   exact V38
  |bad q =>
   exact V92
 |true=>
  rw[hs,if_pos rfl]at ho
  have hlt1:=dT hs
  have hgi1:∀ X,(H.set id X).get id=some X:=fun X=>AHeap.get_set_same _ _ hid
  have hp2:ik (H.set id (pst m l (p+1) tb t)) id tb l (p+1) t:=lS hpre' hlt1 Xa
  have hss:∀ X Y,(H.set id X).set id Y=H.set id Y:=fun X Y=>by simp only[AHeap.set];congr 1;funext k;by_cases hk:k=id<;>simp[hk]
  rcases bp ho with⟨q,h3,rfl⟩|⟨b,p2,t2,h3,h4⟩
  ·simp only[go_sem,f1,f2,hgi,hgt',hsi,hst,bw,bE,bS,dd,cA,c6,cB,cx,bR,cj,cn,bI,hne,ne_eq,hne',hl5,iNq,bj,bh,i1,Int.reduceLE,eq_self,nFq,pT,hg,hp,hs,if_true,hgi1,hss,hp2,h3]
   exact Z31
  cases h4
  obtain⟨k1b,k2b,k3b,k4b,k5b,k6b⟩:=bz _ h3 hgt trivial hlt1
  simp only[Rl.isL,Bool.false_eq_true,if_false]at k4b
  have ht2:t2.length≤100000:=Xa
  simp only[go_sem,f1,f2,hgi,hgt',hsi,hst,bw,bE,bS,dd,cA,c6,cB,cx,bR,cj,cn,bI,hne,ne_eq,hne',hl5,iNq,bj,bh,i1,Int.reduceLE,eq_self,nFq,pT,hg,hp,hs,if_true,hgi1,hss,hp2,h3,ht2,nd2]
  have hc3:=hcl2 p2 (t2++[⟨4,b,0,[],[],0⟩])
  exact V85
theorem Ph{f:Nat}(h_ySum:EEe 225 (pD f)):EEe 223 (yh (f+1)):=by
 refine Yef fun _ H K h=>?_
 unfold yh bI at h
 split at h<;>try exact h.elim
 rename_i id
 obtain⟨m,l,p,tb,t,hg,hpre,hK⟩:=h
 cases ho:run l (f+1) .cmp p t with
 |none=>rw[ho]at hK;exact hK.elim
 |some r =>
 rw[ho,ic]at hK
 refine⟨_,_,hK,?_⟩
 clear hK
 rw[run]at ho
 simp only[eT]at ho
 have hpre':=hpre
 obtain⟨hne,htb,ht,hp,hl,hgl,hgt⟩:=hpre
 have hid:=glq hg
 have htbl:=glq htb
 have f1:=cK hid
 have f2:=cK htbl
 have hl5:l.length≤100000:=Xa
 have i1:=@Int.natCast_nonneg
 have hne':(id=tb)=False:=eq_false hne
 refine Yfw az (tCq h_ySum (tCq Cq (tCq D3 (tCq lO tNq)))) Tryz.func223 [.tmp 2] vU (T:=ay []) (h:=fun hcl=>?_)
 obtain⟨hgi,hgt',hsi,hcl2,hst⟩:=jD hg hpre' hcl
 rcases bp ho with⟨q,h1,rfl⟩|⟨a,p1,t1,h1,h2⟩
 ·simp only[go_sem,f1,f2,hgi,hgt',hsi,hst,bw,bE,bS,dd,cA,c6,cB,cx,bR,cj,cn,bI,hne,ne_eq,hne',hl5,iNq,bj,bh,i1,Int.reduceLE,eq_self,nFq,pD,hg,hpre',h1]
  exact Z31
 clear ho
 obtain⟨k1,k2,k3,k4,k5,k6⟩:=bz _ h1 hgt trivial hp
 simp only[Rl.isL,Bool.false_eq_true,if_false]at k4
 have hp1:ik ((H.set id (pst m l p1 tb t1)).set tb (.buf 7 t1.length)) id tb l p1 t1:=gZ hpre' k2 Xa k5
 cases hs:iZ l p1 opsC with
 |none =>
  rw[hs]at h2
  cases h2
  simp only[go_sem,f1,f2,hgi,hgt',hsi,hst,bw,bE,bS,dd,cA,c6,cB,cx,bR,cj,cn,bI,hne,ne_eq,hne',hl5,iNq,bj,bh,i1,Int.reduceLE,eq_self,nFq,mH,gE,mT,kK,nK,nX,pD,hg,hpre',h1,k2,hs,t9]
  refine Bn rfl ?_
  exact V38
 |some op =>
  rw[hs]at h2
  dsimp only at h2
  obtain⟨hlt1,so,hso⟩:=jo hs
  obtain⟨o1,o2⟩:=Ck hso
  have hop:((op:Int) !=0)=true:=Xd
  have hp2:ik ((H.set id (pst m l (p1+1) tb t1)).set tb (.buf 7 t1.length)) id tb l (p1+1) t1:=gZ hpre' hlt1 Xa k5
  rcases bp h2 with⟨q,h3,rfl⟩|⟨b,p2,t2,h3,h4⟩
  ·simp only[go_sem,f1,f2,hgi,hgt',hsi,hst,bw,bE,bS,dd,cA,c6,cB,cx,bR,cj,cn,bI,hne,ne_eq,hne',hl5,iNq,bj,bh,i1,Int.reduceLE,eq_self,nFq,mH,gE,mT,kK,nK,nX,pD,hg,hpre',h1,k2,hs,pC,hop,hp2,h3]
   exact Z31
  cases h4
  obtain⟨k1b,k2b,k3b,k4b,k5b,k6b⟩:=bz _ h3 k5 trivial hlt1
  simp only[Rl.isL,Bool.false_eq_true,if_false]at k4b
  have ht2:t2.length≤100000:=Xa
  simp only[go_sem,f1,f2,hgi,hgt',hsi,hst,bw,bE,bS,dd,cA,c6,cB,cx,bR,cj,cn,bI,hne,ne_eq,hne',hl5,iNq,bj,bh,i1,Int.reduceLE,eq_self,nFq,mH,gE,mT,kK,nK,nX,pD,hg,hpre',h1,k2,hs,pC,hop,hp2,h3,ht2,nd2]
  have hc3:=hcl2 p2 (t2++[⟨op,a,b,[],[],0⟩])
  exact V85
theorem O7{f:Nat}(h_yUn:EEe 229 (pT f)):EEe 225 (pD (f+1)):=by
 refine Yef fun _ H K h=>?_
 unfold pD bI at h
 split at h<;>try exact h.elim
 rename_i id
 obtain⟨m,l,p,tb,t,hg,hpre,hK⟩:=h
 cases ho:run l (f+1) .sum p t with
 |none=>rw[ho]at hK;exact hK.elim
 |some r =>
 rw[ho,ic]at hK
 refine⟨_,_,hK,?_⟩
 clear hK
 rw[run]at ho
 simp only[eT]at ho
 have hpre':=hpre
 obtain⟨hne,htb,ht,hp,hl,hgl,hgt⟩:=hpre
 have hid:=glq hg
 have htbl:=glq htb
 have f1:=cK hid
 have f2:=cK htbl
 have hl5:l.length≤100000:=Xa
 have i1:=@Int.natCast_nonneg
 have hne':(id=tb)=False:=eq_false hne
 refine Yfw az (tCq h_yUn (tCq Mo (tCq D3 (tCq lO tNq)))) Tryz.func225 [.tmp 2] vU (T:=ay []) (h:=fun hcl=>?_)
 obtain⟨hgi,hgt',hsi,hcl2,hst⟩:=jD hg hpre' hcl
 rcases bp ho with⟨q,h1,rfl⟩|⟨a,p1,t1,h1,h2⟩
 ·simp only[go_sem,f1,f2,hgi,hgt',hsi,hst,bw,bE,bS,dd,cA,c6,cB,cx,bR,cj,cn,bI,hne,ne_eq,hne',hl5,iNq,bj,bh,i1,Int.reduceLE,eq_self,nFq,pT,hg,hpre',h1]
  exact Z31
 clear ho
 obtain⟨k1,k2,k3,k4,k5,k6⟩:=bz _ h1 hgt trivial hp
 simp only[Rl.isL,Bool.false_eq_true,if_false]at k4
 have hp1:ik ((H.set id (pst m l p1 tb t1)).set tb (.buf 7 t1.length)) id tb l p1 t1:=gZ hpre' k2 Xa k5
 have hsn:∀ p',iZ l p' opsS=none→opv l p'=0∧oph l p'=p':=fun p' e=>by simp[opv,oph,e]
 have hss:∀ p' op,iZ l p' opsS=some op→opv l p'=op∧oph l p'=p'+1:=fun p' op e=>by simp[opv,oph,e]
 have hev:∀ p',(iZ l p' opsS=none∧opv l p'=0∧oph l p'=p')∨∃ op,iZ l p' opsS=some op∧opv l p'=op∧oph l p'=p'+1:=fun p'=>by
  cases hs:iZ l p' opsS with
  |none=>exact .inl ⟨rfl,hsn _ hs⟩
  |some op=>exact .inr ⟨op,rfl,hss _ _ hs⟩
 simp only[go_sem,f1,f2,hgi,hgt',hsi,hst,bw,bE,bS,dd,cA,c6,cB,cx,bR,cj,cn,bI,hne,ne_eq,hne',hl5,iNq,bj,bh,i1,Int.reduceLE,eq_self,nFq,mH,gE,mT,kK,nK,nX,pT,hg,hpre',h1,k2]
 rcases hev p1 with⟨hs1,v1,v2⟩|⟨op1,hs1,v1,v2⟩
 all_goals
  simp only[go_sem,f1,f2,hgi,hgt',hsi,hst,bw,bE,bS,dd,cA,c6,cB,cx,bR,cj,cn,bI,hne,ne_eq,hne',hl5,iNq,bj,bh,i1,Int.reduceLE,eq_self,nFq,mH,gE,mT,kK,nK,nX,k2,hs1,t9,pC]
  refine aA (A:=Nat × Nat × Nat × List Nd) (fun x=>[(0,.ptr id 0),(3,.int .i64 (x.2.1:Int)),(4,.int .i64 (opv l x.2.2.1:Int))]) (fun x=>(H.set id (pst m l (oph l x.2.2.1) tb x.2.2.2)).set tb (.buf 7 x.2.2.2.length)) (fun x=>x.1≤f∧run l x.1 (.sumL x.2.1) x.2.2.1 x.2.2.2=some r∧x.2.2.1≤l.length∧x.2.2.2.length≤x.2.2.1∧Good x.2.2.2∧x.2.1<x.2.2.2.length) (fun x=>x.1) (f,a,p1,t1) ⟨nrq _,h2,k2,Xf,k5,k1⟩ ?_ fun x hx=>?_
  ·dsimp only
   rw[v1,v2]
   exact Z33
  obtain⟨g,a',p',t'⟩:=x
  obtain⟨x1,x2,x3,x4,x5,x6⟩:=hx
  dsimp only at x1 x2 x3 x4 x5 x6 ⊢
  have ht':t'.length≤100000:=Xa
  cases g with
  |zero=>cases x2
  |succ g =>
  rw[run]at x2
  simp only[eT]at x2
  rcases hev p' with⟨hs,u1,u2⟩|⟨op,hs,u1,u2⟩
  ·rw[hs]at x2
   cases x2
   rw[u1,u2]
   simp only[go_sem,f1,f2,hgi,hgt',hsi,hst,bw,bE,bS,dd,cA,c6,cB,cx,bR,cj,cn,bI,hne,ne_eq,hne',hl5,iNq,bj,bh,i1,Int.reduceLE,eq_self,nFq]
   refine Bn rfl ?_
   exact V38
  ·rw[hs]at x2
   dsimp only at x2
   rw[u1,u2]
   obtain⟨hlt1,so,hso⟩:=jo hs
   obtain⟨o1,o2⟩:=sT hso
   have hop:((op:Int) !=0)=true:=Xd
   have hp2:ik ((H.set id (pst m l (p'+1) tb t')).set tb (.buf 7 t'.length)) id tb l (p'+1) t':=gZ hpre' hlt1 Xa x5
   rcases bp x2 with⟨q,h3,rfl⟩|⟨b,p2,t2,h3,h4⟩
   ·have h3':=dt (show g≤f by omega) h3
    simp only[go_sem,f1,f2,hgi,hgt',hsi,hst,bw,bE,bS,dd,cA,c6,cB,cx,bR,cj,cn,bI,hne,ne_eq,hne',hl5,iNq,bj,bh,i1,Int.reduceLE,eq_self,nFq,pT,hop,hp2,h3']
    exact Z31
   have h3':=dt (show g≤f by omega) h3
   obtain⟨k1b,k2b,k3b,k4b,k5b,k6b⟩:=bz _ h3 x5 trivial hlt1
   simp only[Rl.isL,Bool.false_eq_true,if_false]at k4b
   have ht2:t2.length≤100000:=Xa
   have hc3:=hcl2 (oph l p2) (t2++[⟨op,a',b,[],[],0⟩])
   rcases hev p2 with⟨hs2,w1,w2⟩|⟨op2,hs2,w1,w2⟩
   all_goals
    simp only[go_sem,f1,f2,hgi,hgt',hsi,hst,bw,bE,bS,dd,cA,c6,cB,cx,bR,cj,cn,bI,hne,ne_eq,hne',hl5,iNq,bj,bh,i1,Int.reduceLE,eq_self,nFq,mH,gE,mT,kK,nK,nX,pT,hop,hp2,h3',ht2,k2b,hs2,t9,pC]
    refine⟨(g,t2.length,p2,t2++[⟨op,a',b,[],[],0⟩]),⟨Xf,h4,k2b,Xd,k5b.snoc ⟨(by show 1≤op;omega),o2⟩ (show(0:Nat)<2^128 by decide) (.inr ⟨Xm,Xm⟩),Xb⟩,Xf,?_⟩
    dsimp only
    rw[w1,w2]
    rw[w2]at hc3
    simp only[lAq,yaz,yba,nzq]at hc3 ⊢
    (simp only[bkq,enterW,aJ,ltF,ne_eq,Nat.reduceEqDiff,reduceCtorEq,hc3,hid];try simp (disch:=first|exact Zd|omega) [↓zmo,beq,ybc,ybd,ybe,af,wk,wk2,wk1,wkM,wkL,aj,ybf,byq,biq,ah,hcl,hc3,hid];try(repeat' (first|assumption|omega|exact True.intro|refine And.intro ?_ ?_|refine ag ?_|refine ae ?_|refine aa ?_ ?_|refine ai ?_ ?_|refine au ?_|exact lRq _|refine lPq ?_ _|refine AHeap.Le.del ?_ ?_|(simp only[bt,and_true,true_and,hc3,hid];first|done|omega|(simp;done)))))
theorem M6{f:Nat}(h_yImp:EEe 174 (kv f)):EEe 232 (tX (f+1)):=by
 refine Yef fun _ H K h=>?_
 unfold tX bI at h
 split at h<;>try exact h.elim
 rename_i id
 obtain⟨m,l,p,tb,t,hg,hpre,hK⟩:=h
 cases ho:run l (f+1) .atom p t with
 |none=>rw[ho]at hK;exact hK.elim
 |some r =>
 rw[ho,ic]at hK
 refine⟨_,_,hK,?_⟩
 clear hK
 rw[run]at ho
 simp only[eT]at ho
 have hpre':=hpre
 obtain⟨hne,htb,ht,hp,hl,hgl,hgt⟩:=hpre
 have hid:=glq hg
 have htbl:=glq htb
 have f1:=cK hid
 have f2:=cK htbl
 have hl5:l.length≤100000:=Xa
 have i1:=@Int.natCast_nonneg
 have hne':(id=tb)=False:=eq_false hne
 refine Yfw az (tCq mS (tCq h_yImp (tCq nO (tCq Do (tCq Mr (tCq In (tCq lO tNq))))))) Tryz.func232 [.tmp 2] vU (T:=ay []) (h:=fun hcl=>?_)
 obtain⟨hgi,hgt',hsi,hcl2,hst⟩:=jD hg hpre' hcl
 have hgi1:∀ X,(H.set id X).get id=some X:=fun X=>AHeap.get_set_same _ _ hid
 have hgt1:∀ X,(H.set id X).get tb=some (.buf 7 t.length):=fun X=>by rw[AHeap.get_set_ne _ _ (fun e=>hne e.symm)];exact htb
 have hss:∀ X Y,(H.set id X).set id Y=H.set id Y:=fun X Y=>by simp only[AHeap.set];congr 1;funext k;by_cases hk:k=id<;>simp[hk]
 have hcs:=ax (cs:=[.slice m 3 (dN l),.int .i64 (p:Int),.slice (.own tb) 7 (nds t)]) hg
 have ht5:t.length≤100000:=Xa
 cases hs0:isS l p [40]with
 |true=>
  rw[hs0,if_pos rfl]at ho
  have hlt1:=dT hs0
  have hp2:ik (H.set id (pst m l (p+1) tb t)) id tb l (p+1) t:=lS hpre' hlt1 Xa
  rcases bp ho with⟨q,h3,rfl⟩|⟨a,p1,t1,h3,h4⟩
  ·simp only[go_sem,f1,f2,hgi,hgt',hsi,hst,bw,bE,bS,dd,cA,c6,cB,cx,bR,cj,cn,bI,hne,ne_eq,hne',hl5,iNq,bj,bh,i1,Int.reduceLE,eq_self,nFq,kv,hg,hp,hs0,if_true,hgi1,hss,hp2,h3]
   exact Z31
  obtain⟨k1b,k2b,k3b,k4b,k5b,k6b⟩:=bz _ h3 hgt trivial hlt1
  simp only[Rl.isL,Bool.false_eq_true,if_false]at k4b
  cases hs2:isS l p1 [41]with
  |true=>
   rw[hs2,if_pos rfl]at h4
   cases h4
   simp only[go_sem,f1,f2,hgi,hgt',hsi,hst,bw,bE,bS,dd,cA,c6,cB,cx,bR,cj,cn,bI,hne,ne_eq,hne',hl5,iNq,bj,bh,i1,Int.reduceLE,eq_self,nFq,kv,hg,hp,hs0,if_true,hgi1,hss,hp2,h3,k2b,hs2]
   exact Z25
  |_=>
   rw[hs2,if_neg (Xb)]at h4
   cases h4
   simp only[go_sem,f1,f2,hgi,hgt',hsi,hst,bw,bE,bS,dd,cA,c6,cB,cx,bR,cj,cn,bI,hne,ne_eq,hne',hl5,iNq,bj,bh,i1,Int.reduceLE,eq_self,nFq,kv,fZ,hg,hp,hs0,if_true,if_false,hgi1,hss,hp2,h3,k2b,hs2]
   exact Z31
 |false=>
  rw[hs0,if_neg (Xb)]at ho
  cases ho
  by_cases hlt0:p<l.length
  ·rcases htk:l[p]with⟨k,x,z⟩
   have hgd:=oB hlt0 htk
   have hge:l[p]?=some (k,x,z):=by rw[gQq hlt0,htk]
   have d0:decide ((p:Int)<(l.length:Int))=true:=Xd
   by_cases hk1:k=1
   ·subst hk1
    have hka:sj l p=1:=by unfold sj;rw[hge]
    have hr:du l p t=.ok t.length (p+1) (t++[⟨1,0,0,[],[],zz l p⟩]):=by unfold du zz;rw[hge];rfl
    have hd1:(((1:Nat):Int)==1)=true:=rfl
    rw[hr]
    have hc3:=hcl2 (p+1) (t++[⟨1,0,0,[],[],zz l p⟩])
    simp only[go_sem,f1,f2,hgi,hgt',hsi,hst,bw,bE,bS,dd,cA,c6,cB,cx,bR,cj,cn,bI,hne,ne_eq,hne',hl5,iNq,bj,bh,i1,Int.reduceLE,eq_self,nFq,hg,hp,hs0,if_false,hcs,aT,hgd,d0,kR,fX,fZ,je,hp,hgi1,hgt1,hss,ht5,iE,gz,iC,bne_self_eq_false,beq_self_eq_true,hd1,hka,hpre']
    exact V47
   ·have d1:((k:Int)==1)=false:=Xd
    by_cases hk2:k=2
    ·subst hk2
     have hw:lG l p=some x:=by unfold lG;rw[hge];rfl
     have hd2:(((2:Nat):Int)==1)=false:=rfl
     by_cases hx1:x=vN
     ·have hr:du l p t=.ok t.length (p+1) (t++[⟨2,0,0,[],[],1⟩]):=by unfold du;rw[hge];simp[hx1]
      have htr:mU x=.tup [iC 2 1,.bool true]:=by unfold mU;rw[if_pos hx1]
      rw[hr]
      have hc3:=hcl2 (p+1) (t++[⟨2,0,0,[],[],1⟩])
      simp only[go_sem,f1,f2,hgi,hgt',hsi,hst,bw,bE,bS,dd,cA,c6,cB,cx,bR,cj,cn,bI,hne,ne_eq,hne',hl5,iNq,bj,bh,i1,Int.reduceLE,eq_self,nFq,hg,hp,hs0,if_false,hcs,aT,hgd,d0,kR,fX,fZ,je,hp,hgi1,hgt1,hss,ht5,iE,gz,iC,bne_self_eq_false,beq_self_eq_true,hd2,hw,htr,P0,P7]
      exact V47
     ·by_cases hx2:x=qo
      ·have hr:du l p t=.ok t.length (p+1) (t++[⟨2,0,0,[],[],0⟩]):=by unfold du;rw[hge];simp[hx1,hx2];decide
       have htr:mU x=.tup [iC 2 0,.bool true]:=by unfold mU;rw[if_neg hx1,if_pos hx2]
       rw[hr]
       have hc3:=hcl2 (p+1) (t++[⟨2,0,0,[],[],0⟩])
       simp only[go_sem,f1,f2,hgi,hgt',hsi,hst,bw,bE,bS,dd,cA,c6,cB,cx,bR,cj,cn,bI,hne,ne_eq,hne',hl5,iNq,bj,bh,i1,Int.reduceLE,eq_self,nFq,hg,hp,hs0,if_false,hcs,aT,hgd,d0,kR,fX,fZ,je,hp,hgi1,hgt1,hss,ht5,iE,gz,iC,bne_self_eq_false,beq_self_eq_true,hd2,hw,htr]
       exact V47
      ·have htr:mU x=.tup [iC 0 0,.bool false]:=by unfold mU;rw[if_neg hx1,if_neg hx2]
       have hp1:p+1≤l.length:=Xa
       cases hs3:isS l (p+1) [58,58]with
       |false=>
        have hr:du l p t=.ok t.length (p+1) (t++[⟨3,0,0,x,[],0⟩]):=by unfold du;rw[hge];simp[hx1,hx2,hs3]
        rw[hr]
        have hc3:=hcl2 (p+1) (t++[⟨3,0,0,x,[],0⟩])
        simp only[go_sem,f1,f2,hgi,hgt',hsi,hst,bw,bE,bS,dd,cA,c6,cB,cx,bR,cj,cn,bI,hne,ne_eq,hne',hl5,iNq,bj,bh,i1,Int.reduceLE,eq_self,nFq,hg,hp,hs0,if_false,hcs,aT,hgd,d0,kR,fX,fZ,je,hp,hgi1,hgt1,hss,ht5,iE,gz,iC,bne_self_eq_false,beq_self_eq_true,hd2,hw,htr,hp1,hs3]
        exact V47
       |true=>
        have hlt3:=dT hs3
        have hp2:p+1+1≤l.length:=Xa
        have hp3:p+2=p+1+1:=rfl
        cases hw2:lG l (p+1+1)with
        |none =>
         have hr:du l p t=.bad (p+1+1):=by
          unfold du;rw[hge];simp[hx1,hx2,hs3]
          exact V89
         rw[hr]
         refine T16 ?_
         refine⟨Xa,?_⟩
         simp (disch:=first|exact Zd|omega) [↓zmo,beq,ybc,ybd,ybe,af,wk,wk2,wk1,wkM,wkL,aj,ybf,jM hcl,zmw,jd,dd_le1,gM]
         exact(dd_le1.push _).push _
        |some y =>
         have hr:du l p t=.ok t.length (p+1+1+1) (t++[⟨3,0,0,x,y,0⟩]):=by
          unfold du;rw[hge];simp[hx1,hx2,hs3]
          exact V79
         rw[hr]
         have hc3:=hcl2 (p+1+1+1) (t++[⟨3,0,0,x,y,0⟩])
         refine T16 ?_
         exact V47
    ·have hw:lG l p=none:=by unfold lG;rw[hge];dsimp only;rw[if_neg hk2]
     have hr:du l p t=.bad p:=by unfold du;rw[hge];simp[hk1,hk2]
     rw[hr]
     simp only[go_sem,f1,f2,hgi,hgt',hsi,hst,bw,bE,bS,dd,cA,c6,cB,cx,bR,cj,cn,bI,hne,ne_eq,hne',hl5,iNq,bj,bh,i1,Int.reduceLE,eq_self,nFq,hg,hp,hs0,if_false,hcs,aT,hgd,d0,kR,fX,fZ,je,hp,hgi1,hgt1,hss,ht5,iE,gz,iC,bne_self_eq_false,beq_self_eq_true,d1,hw]
     refine⟨Xa,?_⟩
     exact Z31
  ·have hpe:p=l.length:=Xa
   subst hpe
   have hge:l[l.length]?=none:=gNq (nrq _)
   have hw:lG l l.length=none:=by unfold lG;rw[hge]
   have hr:du l l.length t=.bad l.length:=by unfold du;rw[hge]
   have d0:decide ((l.length:Int)<(l.length:Int))=false:=Xb
   rw[hr]
   simp only[go_sem,f1,f2,hgi,hgt',hsi,hst,bw,bE,bS,dd,cA,c6,cB,cx,bR,cj,cn,bI,hne,ne_eq,hne',hl5,iNq,bj,bh,i1,Int.reduceLE,eq_self,nFq,hg,hp,hs0,if_false,hcs,aT,d0,kR,fX,fZ,je,hp,hgi1,hgt1,hss,ht5,iE,gz,iC,bne_self_eq_false,beq_self_eq_true,hw,nrq]
   exact Z31
end Go.AL
