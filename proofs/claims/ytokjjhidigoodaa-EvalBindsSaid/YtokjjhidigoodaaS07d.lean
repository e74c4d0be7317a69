/- Contracts and plain laws, a part of the proof; no condition of its own. -/
import Derived.Test.YtokjjhidigoodaaS07c
import Derived.Test.YtokjjhidigoodaaAlDefer
open Go Go.AL Go.Proofs
namespace Go.AL
set_option linter.all false
set_option maxRecDepth 10000
theorem CR:ti Try.prog 20=some ⟨.iface 0,1,16,.nili⟩:=by kernel_rfl
attribute [go_sem] CR
theorem eW {g:FuncId} {rl:Rl}:EntOk Try.prog g (Ent.effect (aK rl 0)):=by
 refine EntOk.effect fun args H K h=>?_
 unfold aK at h
 split at h
 ·obtain ⟨m,l,p,tb,t,hg,hpre,hK⟩:=h
  exact hK.elim
 ·exact h.elim
structure RulesOk (f:Nat):Prop where
 imp:EntOk Try.prog 77 (Ent.effect (fP f))
 or:EntOk Try.prog 90 (Ent.effect (nb f))
 and:EntOk Try.prog 94 (Ent.effect (jz f))
 not:EntOk Try.prog 95 (Ent.effect (gM f))
 cmp:EntOk Try.prog 96 (Ent.effect (oQ f))
 sum:EntOk Try.prog 97 (Ent.effect (jQ f))
 un:EntOk Try.prog 100 (Ent.effect (jR f))
 atom:EntOk Try.prog 102 (Ent.effect (lH f))
theorem sC:∀ f,RulesOk f
 |0=>⟨eW,eW,eW,eW,eW,eW,eW,eW⟩
 |f+1=>have h:=sC f
  ⟨CC h.or h.imp,DH h.and,Cr h.not,Bq h.not h.cmp,Cx h.sum,Bn h.un,Da h.un h.atom,AQ h.imp⟩
theorem yO {n0:Nat} {H2 H:AHeap} {T:Nat→List (List Nat)} {fr:Fr}:(uM n0 H2 T).n fr H=(H2.Le H∧H2.Closed∧n0≤H2.nx):=rfl
theorem A9 {n0:Nat} {H2 H:AHeap} {T:Nat→List (List Nat)} {fr:Fr}:(uM n0 H2 T).r fr H=(H2.Le H∧H2.Closed∧n0≤H2.nx):=rfl
theorem AD {n0:Nat} {H2:AHeap} {T:Nat→List (List Nat)}:(uM n0 H2 T).T=T:=rfl
section
variable {P:Program} {Ω:Tbl} {C:Code} {rs:List ResultVar} {H1 H:AHeap} {x v:AV} {g:FuncId} {d n0:Nat} {caps:List AV} {cs:List Nat} {T:Nat→List (List Nat)} {fr:Fr}
theorem wa:(p6 P rs H1 x g caps n0 T).r fr H=tW P rs H1 x g caps none fr H:=rfl
theorem vW:(p6 P rs H1 x g caps n0 T).p fr v H=tW P rs H1 x g caps (some v) fr H:=rfl
theorem lX:(p6 P rs H1 x g caps n0 T).T=T:=rfl
theorem BS:(wC P Ω C rs H1 x g d cs n0 T).T=T:=rfl
theorem BZ:(wC P Ω C rs H1 x g d cs n0 T).n fr H=aw P Ω C (KI P Ω (p6 P rs H1 x g (cs.map (Fr.get fr)) H.nx T) []) ((d,.func (.func g) [] (cs.map (Fr.get fr)))::fr) H:=rfl
end
/-- the closure where nothing is recovered -/
theorem vu {H:AHeap} {a b c:Nat}:ADefer Try.prog 76 [.ptr a 0,.ptr b 0,.ptr c 0] H none H:=by
 refine ADefer.of_aw aD (Ω:=[]) TblOk.nil (a:=6) (b:=3) Try.func76 (by rfl) (by rfl) (T:=az []) (by kernel_rfl) (by decide) (by decide) (by simp only [Try.ntmps76,List.length_cons,List.length_nil];decide) fun hcl _=>?_
 change aw _ _ _ (KI Try.prog [] (uM H.nx H) []) _ _
 simp only [Option.getD_none,go_sem,yO,A9,AD]
 exact ⟨AHeap.Le.refl _,hcl,Nat.le_refl _⟩
theorem uA {H:AHeap} {a b c p:Nat} {x y z:AV} (ha:H.get a=some (.cells [x])) (hb:H.get b=some (.cells [y])) (hc:H.get c=some (.cells [z])) (hab:a≠b) (hac:a≠c) (hbc:b≠c) :
 ADefer Try.prog 76 [.ptr a 0,.ptr b 0,.ptr c 0] H (some (.iface 188 (.int .i64 (p:Int)))) (((H.set a (.cells [.slice .nil 1 []])).set b (.cells [.int .i64 (p:Int)])).set c (.cells [.bool false])):=by
 refine ADefer.of_aw aD (Ω:=[]) TblOk.nil (a:=6) (b:=3) Try.func76 (by rfl) (by rfl) (T:=az []) (by kernel_rfl) (by decide) (by decide) (by simp only [Try.ntmps76,List.length_cons,List.length_nil];decide) fun hcl _=>?_
 have la:=AHeap.get_lt ha
 have lb:=AHeap.get_lt hb
 have lc:=AHeap.get_lt hc
 have h1:=ai ha
 have h2:∀ o,aA (H.set a o) b=some [y]:=fun o=>(cQ (fun e=>hab e.symm) o).trans (ai hb)
 have h3:∀ o o',aA ((H.set a o).set b o') c=some [z]:=fun o o'=>(cQ (fun e=>hbc e.symm) o').trans ((cQ (fun e=>hac e.symm) o).trans (ai hc))
 change aw _ _ _ (KI Try.prog [] (uM H.nx _) []) _ _
 simp only [Option.getD_some,go_sem,yO,A9,AD,ep,h1,h2,h3]
 refine ⟨AHeap.Le.refl _,ah (ah (ah hcl ?_) ?_) ?_,Nat.le_refl _⟩
 ·simp [znq,znr,zmj]
 ·simp [znq,znr,znb]
 ·simp [znq,znr,znc]
theorem y4 {m:Mark} {l:List Tok} {tb:Nat} {K:Mark→List Tok→Nat→Nat→List Nd→Prop}:onP (some (.cells [.slice m 3 (cV l),.int .i64 0,.slice (.own tb) 7 []])) K=K m l 0 tb []:=aE (p:=0) (t:=[])
theorem DG {H:AHeap} {o0 o1 o2 o3 o4:AObj}:(((((H.push o0).push o1).push o2).push o3).push o4).get H.nx=some o0∧(((((H.push o0).push o1).push o2).push o3).push o4).get (H.nx+1)=some o1∧(((((H.push o0).push o1).push o2).push o3).push o4).get (H.nx+1+1)=some o2:=by
 refine ⟨?_,?_,?_⟩
 ·rw [AHeap.get_push_lt _ _ (by simp only [zla];omega),AHeap.get_push_lt _ _ (by simp only [zla];omega),AHeap.get_push_lt _ _ (by simp only [zla];omega),AHeap.get_push_lt _ _ (by simp only [zla];omega)]
  exact AHeap.get_push_new _ _
 ·rw [AHeap.get_push_lt _ _ (by simp only [zla];omega),AHeap.get_push_lt _ _ (by simp only [zla];omega),AHeap.get_push_lt _ _ (by simp only [zla];omega)]
  exact AHeap.get_push_new _ _
 ·rw [AHeap.get_push_lt _ _ (by simp only [zla];omega),AHeap.get_push_lt _ _ (by simp only [zla];omega)]
  exact AHeap.get_push_new _ _
theorem Dz {H:AHeap} {a b c:Nat} {x y z:List AV} (la:a<H.nx) (lb:b<H.nx) (lc:c<H.nx) (hab:a≠b) (hac:a≠c) (hbc:b≠c) :
 aA (((H.set a (.cells x)).set b (.cells y)).set c (.cells z)) a=some x∧aA (((H.set a (.cells x)).set b (.cells y)).set c (.cells z)) b=some y∧aA (((H.set a (.cells x)).set b (.cells y)).set c (.cells z)) c=some z:=by
 refine ⟨?_,?_,?_⟩
 ·rw [cQ hac,cQ hab,eZ la,if_pos rfl]
 ·rw [cQ hbc,eZ (show b<(H.set a (.cells x)).nx from lb),if_pos rfl]
 ·rw [eZ (show c<((H.set a (.cells x)).set b (.cells y)).nx from lc),if_pos rfl]
/-- the panic's way out -/
theorem ph {H X:AHeap} {q:Nat} {x y z:AV} {fr:Fr} (hcl:H.Closed) (hle:H.Le X) (h0:X.get H.nx=some (.cells [x])) (h1:X.get (H.nx+1)=some (.cells [y])) (h2:X.get (H.nx+1+1)=some (.cells [z]))
 (f2:Fr.get fr 2=.ptr H.nx 0) (f3:Fr.get fr 3=.ptr (H.nx+1) 0) (f4:Fr.get fr 4=.ptr (H.nx+1+1) 0) :
 tW Try.prog [.cell 2 73,.cell 3 3,.cell 4 4] H (.tup [.slice .any 7 [],.int .i64 (q:Int),.bool false]) 76 [.ptr H.nx 0,.ptr (H.nx+1) 0,.ptr (H.nx+1+1) 0] (some (.iface 188 (.int .i64 (q:Int)))) fr X:=by
 refine ⟨_,uA (x:=x) (y:=y) (z:=z) h0 h1 h2 (by omega) (by omega) (by omega),?_⟩
 obtain ⟨c1,c2,c3⟩:=Dz (x:=[.slice .nil 1 []]) (y:=[.int .i64 (q:Int)]) (z:=[.bool false]) (AHeap.get_lt h0) (AHeap.get_lt h1) (AHeap.get_lt h2) (by omega) (by omega) (by omega)
 have hl3:=aX (aX (aX hle (Nat.le_refl H.nx) (o:=.cells [.slice .nil 1 []])) (show H.nx≤H.nx+1 by omega) (o:=.cells [.int .i64 (q:Int)])) (show H.nx≤H.nx+1+1 by omega) (o:=.cells [.bool false])
 simp only [iQ,lC,f2,f3,f4,zjc,go_sem,c1,c2,c3,zjd,TD.agg,Option.map_some,List.getD_cons_zero,one]
 refine ⟨?_,hl3,hcl,?_⟩
 ·simp [wk,am,wk2,wk1]
 ·simp [zno,znq,znr,znb,znc,zmj]
theorem yQ {H X:AHeap} {tb:Nat} {t:List Nd} {fr:Fr} (hcl:H.Closed) (hle:H.Le X) (h0:X.get H.nx=some (.cells [.slice (.own tb) 7 (nds t)])) (h1:X.get (H.nx+1)=some (.cells [.int .i64 0])) (h2:X.get (H.nx+1+1)=some (.cells [.bool true]))
 (f2:Fr.get fr 2=.ptr H.nx 0) (f3:Fr.get fr 3=.ptr (H.nx+1) 0) (f4:Fr.get fr 4=.ptr (H.nx+1+1) 0) :
 tW Try.prog [.cell 2 73,.cell 3 3,.cell 4 4] H (.tup [.slice .any 7 (nds t),.int .i64 0,.bool true]) 76 [.ptr H.nx 0,.ptr (H.nx+1) 0,.ptr (H.nx+1+1) 0] none fr X:=by
 refine ⟨_,vu,?_⟩
 have c1:=ai h0
 have c2:=ai h1
 have c3:=ai h2
 simp only [iQ,lC,f2,f3,f4,zjc,go_sem,c1,c2,c3,zjd,TD.agg,Option.map_some,List.getD_cons_zero,one]
 refine ⟨?_,hle,hcl,?_⟩
 ·simp [wk,am,wk2,wk1,wkM]
 ·simp [zno,znq,znr,znb,znc,mq]
def mK (l:List Tok):PR→AV
 |.ok _ p t=>if p<l.length then .tup [.slice .any 7 [],.int .i64 (p:Int),.bool false] else .tup [.slice .any 7 (nds t),.int .i64 0,.bool true]
 |.bad p=>.tup [.slice .any 7 [],.int .i64 (p:Int),.bool false]
def rR:List AV→AHeap→(AV→Prop)→Prop
 |[.slice _ 3 x],_,K=>∃ l f r,(x=cV l∧run l f .imp 0 []=some r∧l.length≤1000∧mT l)∧K (mK l r)
 |_,_,_=>False
theorem zL:EntOk Try.prog 55 (Ent.pure rR):=by
 refine EntOk.pure fun args H K h=>?_
 unfold rR at h
 split at h
 rotate_left
 ·exact h.elim
 rename_i m x
 obtain ⟨l,f,r,⟨rfl,hr,hl,hgl⟩,hK⟩:=h
 refine ⟨_,hK,?_⟩
 clear hK
 have hR:=sC f
 refine ACalls.of_defer aD (Ω:=[(77,Ent.effect (fP f)),(78,Ent.effect db)]) (TblOk.cons hR.imp (TblOk.cons iz TblOk.nil)) (T:=az [(2,[[10]])]) (d:=6) (caps:=[2,3,4]) Try.func55 (by kernel_rfl) Try.func76 (by kernel_rfl) (by rfl) (by rfl) (rs:=[.cell 2 73,.cell 3 3,.cell 4 4]) (by rfl) (by kernel_rfl) (by kernel_rfl) (by decide) (by simp only [Try.ntmps55,List.length_cons,List.length_nil];decide) (Nat.le_refl _) fun hcl hlt=>?_
 show aw _ _ _ (KI Try.prog [(77,Ent.effect (fP f)),(78,Ent.effect db)] (wC _ _ _ _ _ _ _ _ _ _ _) []) _ _
 simp only [go_sem,BZ,BS,lX,bhq,Nat.reduceMod,Nat.reduceDiv,aM,aL,aO,bE,aN,bD,bz,bB,bA,List.take_succ_cons,List.take_zero,List.drop_succ_cons,List.drop_zero]
 refine lK 8 2 7 [.slice m 3 (cV l),.int .i64 0,.slice .nil 1 []] (by simp [Fr.get]) rfl ?_
 simp only [List.set_cons_succ,List.set_cons_zero,go_sem,lX,bhq,Nat.reduceMod,Nat.reduceDiv,aM,aL,aO,bE,aN,bD,bz,bB,bA,List.take_succ_cons,List.take_zero,List.drop_succ_cons,List.drop_zero,fP,aK,y4,hr]
 refine ⟨⟨by omega,?_,by simp,by simp,hl,hgl,Good.nil⟩,?_⟩
 ·exact AHeap.get_push_new _ _
 have hlm:∀ n',H.nx≤n'→(AV.slice m 3 (cV l)).lt n':=fun n' hn=>AV.lt_mono hn _ (hlt (AV.slice m 3 (cV l)) (by simp))
 have hw:=bL f hr Good.nil trivial (Nat.zero_le _)
 cases r with
 |bad q =>
  simp only [aH,go_sem,vW,mK]
  obtain ⟨e0,e1,e2⟩:=@DG H (.cells [.slice .nil 1 []]) (.cells [.int .i64 0]) (.cells [.bool false]) (.cells [.slice m 3 (cV l),.int .i64 0,.slice (.own (H.nx+1+1+1+1)) 7 []]) (.buf 7 0)
  have hd:∀ {X:AHeap} {j:Nat} {o:AObj},X.get j=some o→j≠H.nx+1+1+1→j≠H.nx+1+1+1+1→((X.del (H.nx+1+1+1)).del (H.nx+1+1+1+1)).get j=some o:=fun h n1 n2=>by
   rw [eK,if_neg n2,eK,if_neg n1];exact h
  refine ph hcl ?_ (hd e0 (by omega) (by omega)) (hd e1 (by omega) (by omega)) (hd e2 (by omega) (by omega)) rfl rfl rfl
  exact (((((((AHeap.Le.refl H).push _).push _).push _).push _).push _).del (by omega)).del (by omega)
 |ok a p t =>
  obtain ⟨k1,k2,k3,k4,k5,k6⟩:=hw
  have hnl:(nds t).length=t.length:=aJ
  simp only [aP,go_sem,wa,lX,pst,bc]
  refine ax (fun hc=>?_) (fun hc=>?_)
  ·have hc':p<l.length:=by simp at hc;omega
   simp only [go_sem,vW,lX,pst,db,qb,mK,hc',if_true]
   obtain ⟨e0,e1,e2⟩:=@DG H (.cells [.slice .nil 1 []]) (.cells [.int .i64 0]) (.cells [.bool false]) (.cells [.slice m 3 (cV l),.int .i64 (p:Int),.slice (.own (H.nx+1+1+1+1)) 7 (nds t)]) (.buf 7 t.length)
   refine ph hcl ?_ e0 e1 e2 rfl rfl rfl
   exact (((((AHeap.Le.refl H).push _).push _).push _).push _).push _
  ·have hc':¬ p<l.length:=by simp at hc;omega
   simp only [go_sem,wa,lX,pst,mK,hc',if_false]
   obtain ⟨e0,e1,e2⟩:=@DG H (.cells [.slice (.own (H.nx+1+1+1+1)) 7 (nds t)]) (.cells [.int .i64 0]) (.cells [.bool true]) (.cells [.slice m 3 (cV l),.int .i64 (p:Int),.slice (.own (H.nx+1+1+1+1)) 7 (nds t)]) (.buf 7 t.length)
   refine yQ hcl ?_ e0 e1 e2 rfl rfl rfl
   exact (((((AHeap.Le.refl H).push _).push _).push _).push _).push _
end Go.AL
