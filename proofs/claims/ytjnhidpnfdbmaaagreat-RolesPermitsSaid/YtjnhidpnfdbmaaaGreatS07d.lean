/- Lemmas of the proof; no condition. -/
import Derived.Test.YtjnhidpnfdbmaaaGreatS07c
import Derived.Test.YtjnhidpnfdbmaaaGreatAlDefer
set_option linter.all false
set_option maxRecDepth 10000
open Go Go.AL Go.Proofs
namespace Go.AL
theorem Qa:ti Tryz.prog 20=some ⟨.iface 0,1,16,.nili⟩:=krf
attribute [go_sem] Qa
theorem jE{g:FuncId}{rl:Rl}:EntOk Tryz.prog g (Ent.effect (bI rl 0)):=by
 refine Yef fun _ H K h=>?_
 unfold bI at h
 split at h
 ·obtain⟨m,l,p,tb,t,hg,hpre,hK⟩:=h
  exact hK.elim
 ·exact h.elim
structure RulesOk(f:Nat):Prop where
 imp:EEe 174 (kv f)
 or:EEe 197 (vR f)
 and:EEe 212 (pQ f)
 not:EEe 220 (mi f)
 cmp:EEe 223 (yh f)
 sum:EEe 225 (pD f)
 un:EEe 229 (pT f)
 atom:EEe 232 (tX f)
theorem CP:∀ f,RulesOk f
 |0=>⟨jE,jE,jE,jE,jE,jE,jE,jE⟩
 |f+1=>have h:=CP f
  ⟨O9 h.or h.imp,Q1 h.and,Nn h.not,NG h.not h.cmp,Ph h.sum,O7 h.un,QH h.un h.atom,M6 h.imp⟩
theorem LW{n0:Nat}{H2 H:AHeap}{T:Nat→List (List Nat)}{fr:Fr}:(ER n0 H2 T).n fr H=(H2.Le H∧H2.Closed∧n0≤H2.nx):=rfl
theorem Mx{n0:Nat}{H2 H:AHeap}{T:Nat→List (List Nat)}{fr:Fr}:(ER n0 H2 T).r fr H=(H2.Le H∧H2.Closed∧n0≤H2.nx):=rfl
theorem KV{n0:Nat}{H2:AHeap}{T:Nat→List (List Nat)}:(ER n0 H2 T).T=T:=rfl
section
variable {P:Program} {Ω:Tbl} {C:Code} {rs:List ResultVar} {H1 H:AHeap} {x v:AV} {g:FuncId} {d n0:Nat} {caps:List AV} {cs:List Nat} {T:Nat→List (List Nat)} {fr:Fr}
theorem Gj:(z4 P rs H1 x g caps n0 T).r fr H=DL P rs H1 x g caps none fr H:=rfl
theorem GV:(z4 P rs H1 x g caps n0 T).p fr v H=DL P rs H1 x g caps (some v) fr H:=rfl
theorem tt:(z4 P rs H1 x g caps n0 T).T=T:=rfl
theorem Nv:(Gr P Ω C rs H1 x g d cs n0 T).T=T:=rfl
theorem Og:(Gr P Ω C rs H1 x g d cs n0 T).n fr H=aw P Ω C (KI P Ω (z4 P rs H1 x g (cs.map (Fr.get fr)) H.nx T) []) ((d,.func (.func g) [] (cs.map (Fr.get fr)))::fr) H:=rfl
end
theorem Ff{H:AHeap}{a b c:Nat}:ADefer Tryz.prog 173 [.ptr a 0,.ptr b 0,.ptr c 0] H none H:=by
 refine ADefer.of_aw az (Ω:=[]) tNq (a:=6) (b:=3) Tryz.func173 (by rfl) (by rfl) (T:=ay []) Xh Xc Xc (by simp only[Tryz.ntmps173,List.length_cons,List.length_nil];decide) fun hcl _=>?_
 change aw _ _ _ (KI Tryz.prog [] (ER H.nx H) []) _ _
 simp only[Option.getD_none,go_sem,LW,Mx,KV]
 exact⟨lRq _,hcl,nrq _⟩
theorem ES{H:AHeap}{a b c p:Nat}{x y z:AV}(ha:H.get a=some (.cells [x]))(hb:H.get b=some (.cells [y]))(hc:H.get c=some (.cells [z]))(hab:a≠b)(hac:a≠c)(hbc:b≠c) :
 ADefer Tryz.prog 173 [.ptr a 0,.ptr b 0,.ptr c 0] H (some (.iface 254 (.int .i64 (p:Int)))) (((H.set a (.cells [.slice .nil 1 []])).set b (.cells [.int .i64 (p:Int)])).set c (.cells [.bool false])):=by
 refine ADefer.of_aw az (Ω:=[]) tNq (a:=6) (b:=3) Tryz.func173 (by rfl) (by rfl) (T:=ay []) Xh Xc Xc (by simp only[Tryz.ntmps173,List.length_cons,List.length_nil];decide) fun hcl _=>?_
 have la:=glq ha
 have lb:=glq hb
 have lc:=glq hc
 have h1:=ax ha
 have h2:∀ o,aK (H.set a o) b=some [y]:=fun o=>(cR (fun e=>hab e.symm) o).trans (ax hb)
 have h3:∀ o o',aK ((H.set a o).set b o') c=some [z]:=fun o o'=>(cR (fun e=>hbc e.symm) o').trans ((cR (fun e=>hac e.symm) o).trans (ax hc))
 change aw _ _ _ (KI Tryz.prog [] (ER H.nx _) []) _ _
 simp only[Option.getD_some,go_sem,LW,Mx,KV,iT,h1,h2,h3]
 refine⟨lRq _,ai (ai (ai hcl ?_) ?_) ?_,nrq _⟩
 ·simp[znu,znv,zmn]
 ·simp[znu,znv,znf]
 ·simp[znu,znv,zng]
theorem MI{m:Mark}{l:List Tok}{tb:Nat}{K:Mark→List Tok→Nat→Nat→List Nd→Prop}:onP (some (.cells [.slice m 3 (dN l),.int .i64 0,.slice (.own tb) 7 []])) K=K m l 0 tb []:=bw (p:=0) (t:=[])
theorem Qn{H:AHeap}{o0 o1 o2 o3 o4:AObj}:(((((H.push o0).push o1).push o2).push o3).push o4).get H.nx=some o0∧(((((H.push o0).push o1).push o2).push o3).push o4).get (H.nx+1)=some o1∧(((((H.push o0).push o1).push o2).push o3).push o4).get (H.nx+1+1)=some o2:=by
 refine⟨?_,?_,?_⟩
 ·rw[gPq _ _ Xg,gPq _ _ Xg,gPq _ _ Xg,gPq _ _ (Xg)]
  exact V131
 ·rw[gPq _ _ Xg,gPq _ _ Xg,gPq _ _ (Xg)]
  exact V131
 ·rw[gPq _ _ Xg,gPq _ _ (Xg)]
  exact V131
theorem Qb{H:AHeap}{a b c:Nat}{x y z:List AV}(la:a<H.nx)(lb:b<H.nx)(lc:c<H.nx)(hab:a≠b)(hac:a≠c)(hbc:b≠c) :
 aK (((H.set a (.cells x)).set b (.cells y)).set c (.cells z)) a=some x∧aK (((H.set a (.cells x)).set b (.cells y)).set c (.cells z)) b=some y∧aK (((H.set a (.cells x)).set b (.cells y)).set c (.cells z)) c=some z:=by
 refine⟨?_,?_,?_⟩
 ·rw[cR hac,cR hab,fx la,if_pos rfl]
 ·rw[cR hbc,fx (show b<(H.set a (.cells x)).nx from lb),if_pos rfl]
 ·rw[fx (show c<((H.set a (.cells x)).set b (.cells y)).nx from lc),if_pos rfl]
theorem xm{H X:AHeap}{q:Nat}{x y z:AV}{fr:Fr}(hcl:H.Closed)(hle:H.Le X)(h0:X.get H.nx=some (.cells [x]))(h1:X.get (H.nx+1)=some (.cells [y]))(h2:X.get (H.nx+1+1)=some (.cells [z]))
 (f2:Fr.get fr 2=.ptr H.nx 0) (f3:Fr.get fr 3=.ptr (H.nx+1) 0) (f4:Fr.get fr 4=.ptr (H.nx+1+1) 0) :
 DL Tryz.prog [.cell 2 139,.cell 3 3,.cell 4 4] H (.tup [.slice .any 7 [],.int .i64 (q:Int),.bool false]) 173 [.ptr H.nx 0,.ptr (H.nx+1) 0,.ptr (H.nx+1+1) 0] (some (.iface 254 (.int .i64 (q:Int)))) fr X:=by
 refine⟨_,ES (x:=x) (y:=y) (z:=z) h0 h1 h2 Xa Xa Xa,?_⟩
 obtain⟨c1,c2,c3⟩:=Qb (x:=[.slice .nil 1 []]) (y:=[.int .i64 (q:Int)]) (z:=[.bool false]) (glq h0) (glq h1) (glq h2) Xa Xa Xa
 have hl3:=bF (bF (bF hle (nrq H.nx) (o:=.cells [.slice .nil 1 []])) (show H.nx≤H.nx+1 by omega) (o:=.cells [.int .i64 (q:Int)])) (show H.nx≤H.nx+1+1 by omega) (o:=.cells [.bool false])
 refine T47 ?_
 refine⟨?_,hl3,hcl,?_⟩
 ·simp[wk,aj,wk2,wk1]
 ·simp[zns,znu,znv,znf,zng,zmn]
theorem Kt{H X:AHeap}{tb:Nat}{t:List Nd}{fr:Fr}(hcl:H.Closed)(hle:H.Le X)(h0:X.get H.nx=some (.cells [.slice (.own tb) 7 (nds t)]))(h1:X.get (H.nx+1)=some (.cells [.int .i64 0]))(h2:X.get (H.nx+1+1)=some (.cells [.bool true]))
 (f2:Fr.get fr 2=.ptr H.nx 0) (f3:Fr.get fr 3=.ptr (H.nx+1) 0) (f4:Fr.get fr 4=.ptr (H.nx+1+1) 0) :
 DL Tryz.prog [.cell 2 139,.cell 3 3,.cell 4 4] H (.tup [.slice .any 7 (nds t),.int .i64 0,.bool true]) 173 [.ptr H.nx 0,.ptr (H.nx+1) 0,.ptr (H.nx+1+1) 0] none fr X:=by
 refine⟨_,Ff,?_⟩
 have c1:=ax h0
 have c2:=ax h1
 have c3:=ax h2
 refine T47 ?_
 refine⟨?_,hle,hcl,?_⟩
 ·simp[wk,aj,wk2,wk1,wkM]
 ·simp[zns,znu,znv,znf,zng,lF]
def uP(l:List Tok):PR→AV
 |.ok _ p t=>if p<l.length then .tup [.slice .any 7 [],.int .i64 (p:Int),.bool false]else .tup [.slice .any 7 (nds t),.int .i64 0,.bool true]
 |.bad p=>.tup [.slice .any 7 [],.int .i64 (p:Int),.bool false]
def AR:PCt
 |[.slice _ 3 x],_,K=>∃ l f r,(x=dN l∧run l f .imp 0 []=some r∧l.length≤1000∧rB l)∧K (uP l r)
 |_,_,_=>False
theorem Lv:EPp 148 AR:=by
 refine Ype fun _ H K h=>?_
 unfold AR at h
 split at h<;>try exact h.elim
 rename_i m x
 obtain⟨l,f,r,⟨rfl,hr,hl,hgl⟩,hK⟩:=h
 refine⟨_,hK,?_⟩
 clear hK
 have hR:=CP f
 refine ACalls.of_defer az (Ω:=[(174,Ent.effect (kv f)),(175,Ent.effect fZ)]) (tCq hR.imp (tCq nO tNq)) (T:=ay [(2,[[10]])]) (d:=6) (caps:=[2,3,4]) Tryz.func148 Xh Tryz.func173 Xh (by rfl) (by rfl) (rs:=[.cell 2 139,.cell 3 3,.cell 4 4]) (by rfl) Xh Xh Xc (by simp only[Tryz.ntmps148,List.length_cons,List.length_nil];decide) (nrq _) fun hcl hlt=>?_
 show aw _ _ _ (KI Tryz.prog [(174,Ent.effect (kv f)),(175,Ent.effect fZ)] (Gr _ _ _ _ _ _ _ _ _ _ _) []) _ _
 simp only[go_sem,Og,Nv,tt,bhq,List.take_succ_cons,List.take_zero,List.drop_succ_cons,List.drop_zero]
 refine me 8 2 7 [.slice m 3 (dN l),.int .i64 0,.slice .nil 1 []] (by simp[Fr.get]) rfl ?_
 simp only[List.set_cons_succ,List.set_cons_zero,go_sem,tt,bhq,List.take_succ_cons,List.take_zero,List.drop_succ_cons,List.drop_zero,kv,bI,MI,hr]
 refine⟨⟨Xa,?_,Xb,Xb,hl,hgl,Good.nil⟩,?_⟩
 ·exact V131
 have hlm:∀ n',H.nx≤n'→(AV.slice m 3 (dN l)).lt n':=fun n' hn=>AV.lt_mono hn _ (hlt (AV.slice m 3 (dN l)) Xb)
 have hw:=bz f hr Good.nil trivial (Nat.zero_le _)
 cases r with
 |bad q =>
  simp only[bE,go_sem,GV,uP]
  obtain⟨e0,e1,e2⟩:=@Qn H (.cells [.slice .nil 1 []]) (.cells [.int .i64 0]) (.cells [.bool false]) (.cells [.slice m 3 (dN l),.int .i64 0,.slice (.own (H.nx+1+1+1+1)) 7 []]) (.buf 7 0)
  have hd:∀{X:AHeap}{j:Nat}{o:AObj},X.get j=some o→j≠H.nx+1+1+1→j≠H.nx+1+1+1+1→((X.del (H.nx+1+1+1)).del (H.nx+1+1+1+1)).get j=some o:=fun h n1 n2=>by
   rw[jp,if_neg n2,jp,if_neg n1];exact h
  refine xm hcl ?_ (hd e0 Xa Xa) (hd e1 Xa Xa) (hd e2 Xa Xa) rfl rfl rfl
  exact(((((((lRq H).push _).push _).push _).push _).push _).del Xa).del Xa
 |ok a p t =>
  obtain⟨k1,k2,k3,k4,k5,k6⟩:=hw
  have hnl:(nds t).length=t.length:=aO
  simp only[bS,go_sem,Gj,tt,pst,aT]
  refine aq (fun hc=>?_) (fun hc=>?_)
  ·have hc':p<l.length:=sHc
   simp only[go_sem,GV,tt,pst,fZ,Al,uP,hc',if_true]
   obtain⟨e0,e1,e2⟩:=@Qn H (.cells [.slice .nil 1 []]) (.cells [.int .i64 0]) (.cells [.bool false]) (.cells [.slice m 3 (dN l),.int .i64 (p:Int),.slice (.own (H.nx+1+1+1+1)) 7 (nds t)]) (.buf 7 t.length)
   refine xm hcl ?_ e0 e1 e2 rfl rfl rfl
   exact(((((lRq H).push _).push _).push _).push _).push _
  ·have hc':¬ p<l.length:=sHc
   simp only[go_sem,Gj,tt,pst,uP,hc',if_false]
   obtain⟨e0,e1,e2⟩:=@Qn H (.cells [.slice (.own (H.nx+1+1+1+1)) 7 (nds t)]) (.cells [.int .i64 0]) (.cells [.bool true]) (.cells [.slice m 3 (dN l),.int .i64 (p:Int),.slice (.own (H.nx+1+1+1+1)) 7 (nds t)]) (.buf 7 t.length)
   refine Kt hcl ?_ e0 e1 e2 rfl rfl rfl
   exact(((((lRq H).push _).push _).push _).push _).push _
end Go.AL
