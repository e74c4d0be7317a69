/- Lemmas of the proof; no condition. -/
import Derived.Test.YtokjjhidigoodaaGreatS07c
import Derived.Test.YtokjjhidigoodaaGreatAlDefer
set_option linter.all false
set_option maxRecDepth 10000
open Go Go.AL Go.Proofs
namespace Go.AL
theorem Ng:ti Tryz.prog 20=some ⟨.iface 0,1,16,.nili⟩:=by kernel_rfl
attribute [go_sem] Ng
theorem i0 {g:FuncId} {rl:Rl}:EntOk Tryz.prog g (Ent.effect (bI rl 0)):=by
 refine EntOk.effect fun args H K h=>?_
 unfold bI at h
 split at h
 ·obtain ⟨m,l,p,tb,t,hg,hpre,hK⟩:=h
  exact hK.elim
 ·exact h.elim
structure RulesOk (f:Nat):Prop where
 imp:EntOk Tryz.prog 398 (Ent.effect (jQ f))
 or:EntOk Tryz.prog 460 (Ent.effect (uh f))
 and:EntOk Tryz.prog 482 (Ent.effect (oL f))
 not:EntOk Tryz.prog 494 (Ent.effect (lq f))
 cmp:EntOk Tryz.prog 498 (Ent.effect (wL f))
 sum:EntOk Tryz.prog 500 (Ent.effect (oR f))
 un:EntOk Tryz.prog 504 (Ent.effect (oq f))
 atom:EntOk Tryz.prog 507 (Ent.effect (sP f))
theorem Ca:∀ f,RulesOk f
 |0=>⟨i0,i0,i0,i0,i0,i0,i0,i0⟩
 |f+1=>have h:=Ca f
  ⟨LG h.or h.imp,NP h.and,LC h.not,Lm h.not h.cmp,LE h.sum,MQ h.un,NR h.un h.atom,KT h.imp⟩
theorem IE {n0:Nat} {H2 H:AHeap} {T:Nat→List (List Nat)} {fr:Fr}:(Dc n0 H2 T).n fr H=(H2.Le H∧H2.Closed∧n0≤H2.nx):=rfl
theorem KH {n0:Nat} {H2 H:AHeap} {T:Nat→List (List Nat)} {fr:Fr}:(Dc n0 H2 T).r fr H=(H2.Le H∧H2.Closed∧n0≤H2.nx):=rfl
theorem I3 {n0:Nat} {H2:AHeap} {T:Nat→List (List Nat)}:(Dc n0 H2 T).T=T:=rfl
section
variable {P:Program} {Ω:Tbl} {C:Code} {rs:List ResultVar} {H1 H:AHeap} {x v:AV} {g:FuncId} {d n0:Nat} {caps:List AV} {cs:List Nat} {T:Nat→List (List Nat)} {fr:Fr}
theorem EB:(yW P rs H1 x g caps n0 T).r fr H=Cz P rs H1 x g caps none fr H:=rfl
theorem EU:(yW P rs H1 x g caps n0 T).p fr v H=Cz P rs H1 x g caps (some v) fr H:=rfl
theorem rq:(yW P rs H1 x g caps n0 T).T=T:=rfl
theorem MT:(EL P Ω C rs H1 x g d cs n0 T).T=T:=rfl
theorem Lq:(EL P Ω C rs H1 x g d cs n0 T).n fr H=aw P Ω C (KI P Ω (yW P rs H1 x g (cs.map (Fr.get fr)) H.nx T) []) ((d,.func (.func g) [] (cs.map (Fr.get fr)))::fr) H:=rfl
end
theorem DL {H:AHeap} {a b c:Nat}:ADefer Tryz.prog 397 [.ptr a 0,.ptr b 0,.ptr c 0] H none H:=by
 refine ADefer.of_aw ax (Ω:=[]) tNq (a:=6) (b:=3) Tryz.func397 (by rfl) (by rfl) (T:=av []) (by kernel_rfl) (by decide) (by decide) (by simp only [Tryz.ntmps397,List.length_cons,List.length_nil];decide) fun hcl _=>?_
 change aw _ _ _ (KI Tryz.prog [] (Dc H.nx H) []) _ _
 simp only [Option.getD_none,go_sem,IE,KH,I3]
 exact ⟨lRq _,hcl,nrq _⟩
theorem C5 {H:AHeap} {a b c p:Nat} {x y z:AV} (ha:H.get a=some (.cells [x])) (hb:H.get b=some (.cells [y])) (hc:H.get c=some (.cells [z])) (hab:a≠b) (hac:a≠c) (hbc:b≠c) :
 ADefer Tryz.prog 397 [.ptr a 0,.ptr b 0,.ptr c 0] H (some (.iface 438 (.int .i64 (p:Int)))) (((H.set a (.cells [.slice .nil 1 []])).set b (.cells [.int .i64 (p:Int)])).set c (.cells [.bool false])):=by
 refine ADefer.of_aw ax (Ω:=[]) tNq (a:=6) (b:=3) Tryz.func397 (by rfl) (by rfl) (T:=av []) (by kernel_rfl) (by decide) (by decide) (by simp only [Tryz.ntmps397,List.length_cons,List.length_nil];decide) fun hcl _=>?_
 have la:=glq ha
 have lb:=glq hb
 have lc:=glq hc
 have h1:=ay ha
 have h2:∀ o,aR (H.set a o) b=some [y]:=fun o=>(cL (fun e=>hab e.symm) o).trans (ay hb)
 have h3:∀ o o',aR ((H.set a o).set b o') c=some [z]:=fun o o'=>(cL (fun e=>hbc e.symm) o').trans ((cL (fun e=>hac e.symm) o).trans (ay hc))
 change aw _ _ _ (KI Tryz.prog [] (Dc H.nx _) []) _ _
 simp only [Option.getD_some,go_sem,IE,KH,I3,io,h1,h2,h3]
 refine ⟨lRq _,ai (ai (ai hcl ?_) ?_) ?_,nrq _⟩
 ·simp [znq,znr,zmj]
 ·simp [znq,znr,znb]
 ·simp [znq,znr,znc]
theorem Iq {m:Mark} {l:List Tok} {tb:Nat} {K:Mark→List Tok→Nat→Nat→List Nd→Prop}:onP (some (.cells [.slice m 3 (dr l),.int .i64 0,.slice (.own tb) 7 []])) K=K m l 0 tb []:=bn (p:=0) (t:=[])
theorem N5 {H:AHeap} {o0 o1 o2 o3 o4:AObj}:(((((H.push o0).push o1).push o2).push o3).push o4).get H.nx=some o0∧(((((H.push o0).push o1).push o2).push o3).push o4).get (H.nx+1)=some o1∧(((((H.push o0).push o1).push o2).push o3).push o4).get (H.nx+1+1)=some o2:=by
 refine ⟨?_,?_,?_⟩
 ·rw [gPq _ _ (by simp only [zla];omega),gPq _ _ (by simp only [zla];omega),gPq _ _ (by simp only [zla];omega),gPq _ _ (by simp only [zla];omega)]
  exact Y130
 ·rw [gPq _ _ (by simp only [zla];omega),gPq _ _ (by simp only [zla];omega),gPq _ _ (by simp only [zla];omega)]
  exact Y130
 ·rw [gPq _ _ (by simp only [zla];omega),gPq _ _ (by simp only [zla];omega)]
  exact Y130
theorem NV {H:AHeap} {a b c:Nat} {x y z:List AV} (la:a<H.nx) (lb:b<H.nx) (lc:c<H.nx) (hab:a≠b) (hac:a≠c) (hbc:b≠c) :
 aR (((H.set a (.cells x)).set b (.cells y)).set c (.cells z)) a=some x∧aR (((H.set a (.cells x)).set b (.cells y)).set c (.cells z)) b=some y∧aR (((H.set a (.cells x)).set b (.cells y)).set c (.cells z)) c=some z:=by
 refine ⟨?_,?_,?_⟩
 ·rw [cL hac,cL hab,eX la,if_pos rfl]
 ·rw [cL hbc,eX (show b<(H.set a (.cells x)).nx from lb),if_pos rfl]
 ·rw [eX (show c<((H.set a (.cells x)).set b (.cells y)).nx from lc),if_pos rfl]
theorem wI {H X:AHeap} {q:Nat} {x y z:AV} {fr:Fr} (hcl:H.Closed) (hle:H.Le X) (h0:X.get H.nx=some (.cells [x])) (h1:X.get (H.nx+1)=some (.cells [y])) (h2:X.get (H.nx+1+1)=some (.cells [z]))
 (f2:Fr.get fr 2=.ptr H.nx 0) (f3:Fr.get fr 3=.ptr (H.nx+1) 0) (f4:Fr.get fr 4=.ptr (H.nx+1+1) 0) :
 Cz Tryz.prog [.cell 2 92,.cell 3 3,.cell 4 4] H (.tup [.slice .any 7 [],.int .i64 (q:Int),.bool false]) 397 [.ptr H.nx 0,.ptr (H.nx+1) 0,.ptr (H.nx+1+1) 0] (some (.iface 438 (.int .i64 (q:Int)))) fr X:=by
 refine ⟨_,C5 (x:=x) (y:=y) (z:=z) h0 h1 h2 (by omega) (by omega) (by omega),?_⟩
 obtain ⟨c1,c2,c3⟩:=NV (x:=[.slice .nil 1 []]) (y:=[.int .i64 (q:Int)]) (z:=[.bool false]) (glq h0) (glq h1) (glq h2) (by omega) (by omega) (by omega)
 have hl3:=bF (bF (bF hle (nrq H.nx) (o:=.cells [.slice .nil 1 []])) (show H.nx≤H.nx+1 by omega) (o:=.cells [.int .i64 (q:Int)])) (show H.nx≤H.nx+1+1 by omega) (o:=.cells [.bool false])
 simp only [mC,qD,f2,f3,f4,zjc,go_sem,c1,c2,c3,zjd,TD.agg,Option.map_some,List.getD_cons_zero,one]
 refine ⟨?_,hl3,hcl,?_⟩
 ·simp [wk,aj,wk2,wk1]
 ·simp [zno,znq,znr,znb,znc,zmj]
theorem KE {H X:AHeap} {tb:Nat} {t:List Nd} {fr:Fr} (hcl:H.Closed) (hle:H.Le X) (h0:X.get H.nx=some (.cells [.slice (.own tb) 7 (nds t)])) (h1:X.get (H.nx+1)=some (.cells [.int .i64 0])) (h2:X.get (H.nx+1+1)=some (.cells [.bool true]))
 (f2:Fr.get fr 2=.ptr H.nx 0) (f3:Fr.get fr 3=.ptr (H.nx+1) 0) (f4:Fr.get fr 4=.ptr (H.nx+1+1) 0) :
 Cz Tryz.prog [.cell 2 92,.cell 3 3,.cell 4 4] H (.tup [.slice .any 7 (nds t),.int .i64 0,.bool true]) 397 [.ptr H.nx 0,.ptr (H.nx+1) 0,.ptr (H.nx+1+1) 0] none fr X:=by
 refine ⟨_,DL,?_⟩
 have c1:=ay h0
 have c2:=ay h1
 have c3:=ay h2
 simp only [mC,qD,f2,f3,f4,zjc,go_sem,c1,c2,c3,zjd,TD.agg,Option.map_some,List.getD_cons_zero,one]
 refine ⟨?_,hle,hcl,?_⟩
 ·simp [wk,aj,wk2,wk1,wkM]
 ·simp [zno,znq,znr,znb,znc,kE]
def tE (l:List Tok):PR→AV
 |.ok _ p t=>if p<l.length then .tup [.slice .any 7 [],.int .i64 (p:Int),.bool false] else .tup [.slice .any 7 (nds t),.int .i64 0,.bool true]
 |.bad p=>.tup [.slice .any 7 [],.int .i64 (p:Int),.bool false]
def zT:List AV→AHeap→(AV→Prop)→Prop
 |[.slice _ 3 x],_,K=>∃ l f r,(x=dr l∧run l f .imp 0 []=some r∧l.length≤1000∧qd l)∧K (tE l r)
 |_,_,_=>False
theorem I0:EntOk Tryz.prog 283 (Ent.pure zT):=by
 refine Ype fun _ H K h=>?_
 unfold zT at h
 split at h
 rotate_left
 ·exact h.elim
 rename_i m x
 obtain ⟨l,f,r,⟨rfl,hr,hl,hgl⟩,hK⟩:=h
 refine ⟨_,hK,?_⟩
 clear hK
 have hR:=Ca f
 refine ACalls.of_defer ax (Ω:=[(398,Ent.effect (jQ f)),(399,Ent.effect fJ)]) (tCq hR.imp (tCq mJ tNq)) (T:=av [(2,[[10]])]) (d:=6) (caps:=[2,3,4]) Tryz.func283 (by kernel_rfl) Tryz.func397 (by kernel_rfl) (by rfl) (by rfl) (rs:=[.cell 2 92,.cell 3 3,.cell 4 4]) (by rfl) (by kernel_rfl) (by kernel_rfl) (by decide) (by simp only [Tryz.ntmps283,List.length_cons,List.length_nil];decide) (nrq _) fun hcl hlt=>?_
 show aw _ _ _ (KI Tryz.prog [(398,Ent.effect (jQ f)),(399,Ent.effect fJ)] (EL _ _ _ _ _ _ _ _ _ _ _) []) _ _
 simp only [go_sem,Lq,MT,rq,bhq,Nat.reduceMod,Nat.reduceDiv,aD,aE,aF,bf,aG,bc,aZ,bb,a9,List.take_succ_cons,List.take_zero,List.drop_succ_cons,List.drop_zero]
 refine lJ 8 2 7 [.slice m 3 (dr l),.int .i64 0,.slice .nil 1 []] (by simp [Fr.get]) rfl ?_
 simp only [List.set_cons_succ,List.set_cons_zero,go_sem,rq,bhq,Nat.reduceMod,Nat.reduceDiv,aD,aE,aF,bf,aG,bc,aZ,bb,a9,List.take_succ_cons,List.take_zero,List.drop_succ_cons,List.drop_zero,jQ,bI,Iq,hr]
 refine ⟨⟨by omega,?_,by simp,by simp,hl,hgl,Good.nil⟩,?_⟩
 ·exact Y130
 have hlm:∀ n',H.nx≤n'→(AV.slice m 3 (dr l)).lt n':=fun n' hn=>AV.lt_mono hn _ (hlt (AV.slice m 3 (dr l)) (by simp))
 have hw:=br f hr Good.nil trivial (Nat.zero_le _)
 cases r with
 |bad q =>
  simp only [bA,go_sem,EU,tE]
  obtain ⟨e0,e1,e2⟩:=@N5 H (.cells [.slice .nil 1 []]) (.cells [.int .i64 0]) (.cells [.bool false]) (.cells [.slice m 3 (dr l),.int .i64 0,.slice (.own (H.nx+1+1+1+1)) 7 []]) (.buf 7 0)
  have hd:∀ {X:AHeap} {j:Nat} {o:AObj},X.get j=some o→j≠H.nx+1+1+1→j≠H.nx+1+1+1+1→((X.del (H.nx+1+1+1)).del (H.nx+1+1+1+1)).get j=some o:=fun h n1 n2=>by
   rw [iN,if_neg n2,iN,if_neg n1];exact h
  refine wI hcl ?_ (hd e0 (by omega) (by omega)) (hd e1 (by omega) (by omega)) (hd e2 (by omega) (by omega)) rfl rfl rfl
  exact (((((((lRq H).push _).push _).push _).push _).push _).del (by omega)).del (by omega)
 |ok a p t =>
  obtain ⟨k1,k2,k3,k4,k5,k6⟩:=hw
  have hnl:(nds t).length=t.length:=aJ
  simp only [bO,go_sem,EB,rq,pst,aT]
  refine au (fun hc=>?_) (fun hc=>?_)
  ·have hc':p<l.length:=by simp at hc;omega
   simp only [go_sem,EU,rq,pst,fJ,yv,tE,hc',if_true]
   obtain ⟨e0,e1,e2⟩:=@N5 H (.cells [.slice .nil 1 []]) (.cells [.int .i64 0]) (.cells [.bool false]) (.cells [.slice m 3 (dr l),.int .i64 (p:Int),.slice (.own (H.nx+1+1+1+1)) 7 (nds t)]) (.buf 7 t.length)
   refine wI hcl ?_ e0 e1 e2 rfl rfl rfl
   exact (((((lRq H).push _).push _).push _).push _).push _
  ·have hc':¬ p<l.length:=by simp at hc;omega
   simp only [go_sem,EB,rq,pst,tE,hc',if_false]
   obtain ⟨e0,e1,e2⟩:=@N5 H (.cells [.slice (.own (H.nx+1+1+1+1)) 7 (nds t)]) (.cells [.int .i64 0]) (.cells [.bool true]) (.cells [.slice m 3 (dr l),.int .i64 (p:Int),.slice (.own (H.nx+1+1+1+1)) 7 (nds t)]) (.buf 7 t.length)
   refine KE hcl ?_ e0 e1 e2 rfl rfl rfl
   exact (((((lRq H).push _).push _).push _).push _).push _
end Go.AL
