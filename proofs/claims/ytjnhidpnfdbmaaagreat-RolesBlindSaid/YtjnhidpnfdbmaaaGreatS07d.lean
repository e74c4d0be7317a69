/- Lemmas of the proof; no condition. -/
import Derived.Test.YtjnhidpnfdbmaaaGreatS07c
import Derived.Test.YtjnhidpnfdbmaaaGreatAlDefer
set_option linter.all false
set_option maxRecDepth 10000
open Go Go.AL Go.Proofs
namespace Go.AL
theorem Lw:ti Tryz.prog 20=some ⟨.iface 0,1,16,.nili⟩:=by kernel_rfl
attribute [go_sem] Lw
theorem gI {g:FuncId} {rl:Rl}:EntOk Tryz.prog g (Ent.effect (bc rl 0)):=by
 refine EntOk.effect fun args H K h=>?_
 unfold bc at h
 split at h
 ·obtain ⟨m,l,p,tb,t,hg,hpre,hK⟩:=h
  exact hK.elim
 ·exact h.elim
structure RulesOk (f:Nat):Prop where
 imp:EntOk Tryz.prog 174 (Ent.effect (iF f))
 or:EntOk Tryz.prog 197 (Ent.effect (rg f))
 and:EntOk Tryz.prog 212 (Ent.effect (m9 f))
 not:EntOk Tryz.prog 220 (Ent.effect (jN f))
 cmp:EntOk Tryz.prog 223 (Ent.effect (sO f))
 sum:EntOk Tryz.prog 225 (Ent.effect (me f))
 un:EntOk Tryz.prog 229 (Ent.effect (mm f))
 atom:EntOk Tryz.prog 232 (Ent.effect (pj f))
theorem zx:∀ f,RulesOk f
 |0=>⟨gI,gI,gI,gI,gI,gI,gI,gI⟩
 |f+1=>have h:=zx f
  ⟨II h.or h.imp,K8 h.and,Jz h.not,Iz h.not h.cmp,Ij h.sum,IJ h.un,KN h.un h.atom,Fp h.imp⟩
theorem HN {n0:Nat} {H2 H:AHeap} {T:Nat→List (List Nat)} {fr:Fr}:(zE n0 H2 T).n fr H=(H2.Le H∧H2.Closed∧n0≤H2.nx):=rfl
theorem Gc {n0:Nat} {H2 H:AHeap} {T:Nat→List (List Nat)} {fr:Fr}:(zE n0 H2 T).r fr H=(H2.Le H∧H2.Closed∧n0≤H2.nx):=rfl
theorem G5 {n0:Nat} {H2:AHeap} {T:Nat→List (List Nat)}:(zE n0 H2 T).T=T:=rfl
section
variable {P:Program} {Ω:Tbl} {C:Code} {rs:List ResultVar} {H1 H:AHeap} {x v:AV} {g:FuncId} {d n0:Nat} {caps:List AV} {cs:List Nat} {T:Nat→List (List Nat)} {fr:Fr}
theorem Bt:(vq P rs H1 x g caps n0 T).r fr H=yN P rs H1 x g caps none fr H:=rfl
theorem BH:(vq P rs H1 x g caps n0 T).p fr v H=yN P rs H1 x g caps (some v) fr H:=rfl
theorem py:(vq P rs H1 x g caps n0 T).T=T:=rfl
theorem Jw:(Cb P Ω C rs H1 x g d cs n0 T).T=T:=rfl
theorem IP:(Cb P Ω C rs H1 x g d cs n0 T).n fr H=aw P Ω C (KI P Ω (vq P rs H1 x g (cs.map (Fr.get fr)) H.nx T) []) ((d,.func (.func g) [] (cs.map (Fr.get fr)))::fr) H:=rfl
end
theorem zB {H:AHeap} {a b c:Nat}:ADefer Tryz.prog 173 [.ptr a 0,.ptr b 0,.ptr c 0] H none H:=by
 refine ADefer.of_aw au (Ω:=[]) tNq (a:=6) (b:=3) Tryz.func173 (by rfl) (by rfl) (T:=aq []) (by kernel_rfl) (by decide) (by decide) (by simp only [Tryz.ntmps173,List.length_cons,List.length_nil];decide) fun hcl _=>?_
 change aw _ _ _ (KI Tryz.prog [] (zE H.nx H) []) _ _
 simp only [Option.getD_none,go_sem,HN,Gc,G5]
 exact ⟨lRq _,hcl,nrq _⟩
theorem Ay {H:AHeap} {a b c p:Nat} {x y z:AV} (ha:H.get a=some (.cells [x])) (hb:H.get b=some (.cells [y])) (hc:H.get c=some (.cells [z])) (hab:a≠b) (hac:a≠c) (hbc:b≠c) :
 ADefer Tryz.prog 173 [.ptr a 0,.ptr b 0,.ptr c 0] H (some (.iface 254 (.int .i64 (p:Int)))) (((H.set a (.cells [.slice .nil 1 []])).set b (.cells [.int .i64 (p:Int)])).set c (.cells [.bool false])):=by
 refine ADefer.of_aw au (Ω:=[]) tNq (a:=6) (b:=3) Tryz.func173 (by rfl) (by rfl) (T:=aq []) (by kernel_rfl) (by decide) (by decide) (by simp only [Tryz.ntmps173,List.length_cons,List.length_nil];decide) fun hcl _=>?_
 have la:=glq ha
 have lb:=glq hb
 have lc:=glq hc
 have h1:=ax ha
 have h2:∀ o,aA (H.set a o) b=some [y]:=fun o=>(dD (fun e=>hab e.symm) o).trans (ax hb)
 have h3:∀ o o',aA ((H.set a o).set b o') c=some [z]:=fun o o'=>(dD (fun e=>hbc e.symm) o').trans ((dD (fun e=>hac e.symm) o).trans (ax hc))
 change aw _ _ _ (KI Tryz.prog [] (zE H.nx _) []) _ _
 simp only [Option.getD_some,go_sem,HN,Gc,G5,fN,h1,h2,h3]
 refine ⟨lRq _,aj (aj (aj hcl ?_) ?_) ?_,nrq _⟩
 ·simp [znu,znv,zmn]
 ·simp [znu,znv,znf]
 ·simp [znu,znv,zng]
theorem Ge {m:Mark} {l:List Tok} {tb:Nat} {K:Mark→List Tok→Nat→Nat→List Nd→Prop}:onP (some (.cells [.slice m 3 (dV l),.int .i64 0,.slice (.own tb) 7 []])) K=K m l 0 tb []:=aN (p:=0) (t:=[])
theorem Kz {H:AHeap} {o0 o1 o2 o3 o4:AObj}:(((((H.push o0).push o1).push o2).push o3).push o4).get H.nx=some o0∧(((((H.push o0).push o1).push o2).push o3).push o4).get (H.nx+1)=some o1∧(((((H.push o0).push o1).push o2).push o3).push o4).get (H.nx+1+1)=some o2:=by
 refine ⟨?_,?_,?_⟩
 ·rw [gPq _ _ (by simp only [zle];omega),gPq _ _ (by simp only [zle];omega),gPq _ _ (by simp only [zle];omega),gPq _ _ (by simp only [zle];omega)]
  exact AHeap.get_push_new _ _
 ·rw [gPq _ _ (by simp only [zle];omega),gPq _ _ (by simp only [zle];omega),gPq _ _ (by simp only [zle];omega)]
  exact AHeap.get_push_new _ _
 ·rw [gPq _ _ (by simp only [zle];omega),gPq _ _ (by simp only [zle];omega)]
  exact AHeap.get_push_new _ _
theorem LH {H:AHeap} {a b c:Nat} {x y z:List AV} (la:a<H.nx) (lb:b<H.nx) (lc:c<H.nx) (hab:a≠b) (hac:a≠c) (hbc:b≠c) :
 aA (((H.set a (.cells x)).set b (.cells y)).set c (.cells z)) a=some x∧aA (((H.set a (.cells x)).set b (.cells y)).set c (.cells z)) b=some y∧aA (((H.set a (.cells x)).set b (.cells y)).set c (.cells z)) c=some z:=by
 refine ⟨?_,?_,?_⟩
 ·rw [dD hac,dD hab,fI la,if_pos rfl]
 ·rw [dD hbc,fI (show b<(H.set a (.cells x)).nx from lb),if_pos rfl]
 ·rw [fI (show c<((H.set a (.cells x)).set b (.cells y)).nx from lc),if_pos rfl]
theorem uf {H X:AHeap} {q:Nat} {x y z:AV} {fr:Fr} (hcl:H.Closed) (hle:H.Le X) (h0:X.get H.nx=some (.cells [x])) (h1:X.get (H.nx+1)=some (.cells [y])) (h2:X.get (H.nx+1+1)=some (.cells [z]))
 (f2:Fr.get fr 2=.ptr H.nx 0) (f3:Fr.get fr 3=.ptr (H.nx+1) 0) (f4:Fr.get fr 4=.ptr (H.nx+1+1) 0) :
 yN Tryz.prog [.cell 2 139,.cell 3 3,.cell 4 4] H (.tup [.slice .any 7 [],.int .i64 (q:Int),.bool false]) 173 [.ptr H.nx 0,.ptr (H.nx+1) 0,.ptr (H.nx+1+1) 0] (some (.iface 254 (.int .i64 (q:Int)))) fr X:=by
 refine ⟨_,Ay (x:=x) (y:=y) (z:=z) h0 h1 h2 (by omega) (by omega) (by omega),?_⟩
 obtain ⟨c1,c2,c3⟩:=LH (x:=[.slice .nil 1 []]) (y:=[.int .i64 (q:Int)]) (z:=[.bool false]) (glq h0) (glq h1) (glq h2) (by omega) (by omega) (by omega)
 have hl3:=cU (cU (cU hle (nrq H.nx) (o:=.cells [.slice .nil 1 []])) (show H.nx≤H.nx+1 by omega) (o:=.cells [.int .i64 (q:Int)])) (show H.nx≤H.nx+1+1 by omega) (o:=.cells [.bool false])
 simp only [kU,pW,f2,f3,f4,zjg,go_sem,c1,c2,c3,zjh,TD.agg,Option.map_some,List.getD_cons_zero,one]
 refine ⟨?_,hl3,hcl,?_⟩
 ·simp [wk,ah,wk2,wk1]
 ·simp [zns,znu,znv,znf,zng,zmn]
theorem HP {H X:AHeap} {tb:Nat} {t:List Nd} {fr:Fr} (hcl:H.Closed) (hle:H.Le X) (h0:X.get H.nx=some (.cells [.slice (.own tb) 7 (nds t)])) (h1:X.get (H.nx+1)=some (.cells [.int .i64 0])) (h2:X.get (H.nx+1+1)=some (.cells [.bool true]))
 (f2:Fr.get fr 2=.ptr H.nx 0) (f3:Fr.get fr 3=.ptr (H.nx+1) 0) (f4:Fr.get fr 4=.ptr (H.nx+1+1) 0) :
 yN Tryz.prog [.cell 2 139,.cell 3 3,.cell 4 4] H (.tup [.slice .any 7 (nds t),.int .i64 0,.bool true]) 173 [.ptr H.nx 0,.ptr (H.nx+1) 0,.ptr (H.nx+1+1) 0] none fr X:=by
 refine ⟨_,zB,?_⟩
 have c1:=ax h0
 have c2:=ax h1
 have c3:=ax h2
 simp only [kU,pW,f2,f3,f4,zjg,go_sem,c1,c2,c3,zjh,TD.agg,Option.map_some,List.getD_cons_zero,one]
 refine ⟨?_,hle,hcl,?_⟩
 ·simp [wk,ah,wk2,wk1,wkM]
 ·simp [zns,znu,znv,znf,zng,qA]
def qE (l:List Tok):PR→AV
 |.ok _ p t=>if p<l.length then .tup [.slice .any 7 [],.int .i64 (p:Int),.bool false] else .tup [.slice .any 7 (nds t),.int .i64 0,.bool true]
 |.bad p=>.tup [.slice .any 7 [],.int .i64 (p:Int),.bool false]
def wB:List AV→AHeap→(AV→Prop)→Prop
 |[.slice _ 3 x],_,K=>∃ l f r,(x=dV l∧run l f .imp 0 []=some r∧l.length≤1000∧rp l)∧K (qE l r)
 |_,_,_=>False
theorem F8:EntOk Tryz.prog 148 (Ent.pure wB):=by
 refine Ype fun _ H K h=>?_
 unfold wB at h
 split at h
 rotate_left
 ·exact h.elim
 rename_i m x
 obtain ⟨l,f,r,⟨rfl,hr,hl,hgl⟩,hK⟩:=h
 refine ⟨_,hK,?_⟩
 clear hK
 have hR:=zx f
 refine ACalls.of_defer au (Ω:=[(174,Ent.effect (iF f)),(175,Ent.effect ey)]) (tCq hR.imp (tCq kM tNq)) (T:=aq [(2,[[10]])]) (d:=6) (caps:=[2,3,4]) Tryz.func148 (by kernel_rfl) Tryz.func173 (by kernel_rfl) (by rfl) (by rfl) (rs:=[.cell 2 139,.cell 3 3,.cell 4 4]) (by rfl) (by kernel_rfl) (by kernel_rfl) (by decide) (by simp only [Tryz.ntmps148,List.length_cons,List.length_nil];decide) (nrq _) fun hcl hlt=>?_
 show aw _ _ _ (KI Tryz.prog [(174,Ent.effect (iF f)),(175,Ent.effect ey)] (Cb _ _ _ _ _ _ _ _ _ _ _) []) _ _
 simp only [go_sem,IP,Jw,py,bhq,Nat.reduceMod,Nat.reduceDiv,aC,aB,aE,aS,aD,aR,aO,aP,aQ,List.take_succ_cons,List.take_zero,List.drop_succ_cons,List.drop_zero]
 refine kY 8 2 7 [.slice m 3 (dV l),.int .i64 0,.slice .nil 1 []] (by simp [Fr.get]) rfl ?_
 simp only [List.set_cons_succ,List.set_cons_zero,go_sem,py,bhq,Nat.reduceMod,Nat.reduceDiv,aC,aB,aE,aS,aD,aR,aO,aP,aQ,List.take_succ_cons,List.take_zero,List.drop_succ_cons,List.drop_zero,iF,bc,Ge,hr]
 refine ⟨⟨by omega,?_,by simp,by simp,hl,hgl,Good.nil⟩,?_⟩
 ·exact AHeap.get_push_new _ _
 have hlm:∀ n',H.nx≤n'→(AV.slice m 3 (dV l)).lt n':=fun n' hn=>AV.lt_mono hn _ (hlt (AV.slice m 3 (dV l)) (by simp))
 have hw:=cf f hr Good.nil trivial (Nat.zero_le _)
 cases r with
 |bad q =>
  simp only [aX,go_sem,BH,qE]
  obtain ⟨e0,e1,e2⟩:=@Kz H (.cells [.slice .nil 1 []]) (.cells [.int .i64 0]) (.cells [.bool false]) (.cells [.slice m 3 (dV l),.int .i64 0,.slice (.own (H.nx+1+1+1+1)) 7 []]) (.buf 7 0)
  have hd:∀ {X:AHeap} {j:Nat} {o:AObj},X.get j=some o→j≠H.nx+1+1+1→j≠H.nx+1+1+1+1→((X.del (H.nx+1+1+1)).del (H.nx+1+1+1+1)).get j=some o:=fun h n1 n2=>by
   rw [gu,if_neg n2,gu,if_neg n1];exact h
  refine uf hcl ?_ (hd e0 (by omega) (by omega)) (hd e1 (by omega) (by omega)) (hd e2 (by omega) (by omega)) rfl rfl rfl
  exact (((((((lRq H).push _).push _).push _).push _).push _).del (by omega)).del (by omega)
 |ok a p t =>
  obtain ⟨k1,k2,k3,k4,k5,k6⟩:=hw
  have hnl:(nds t).length=t.length:=a9
  simp only [bn,go_sem,Bt,py,pst,bG]
  refine ai (fun hc=>?_) (fun hc=>?_)
  ·have hc':p<l.length:=by simp at hc;omega
   simp only [go_sem,BH,py,pst,ey,vU,qE,hc',if_true]
   obtain ⟨e0,e1,e2⟩:=@Kz H (.cells [.slice .nil 1 []]) (.cells [.int .i64 0]) (.cells [.bool false]) (.cells [.slice m 3 (dV l),.int .i64 (p:Int),.slice (.own (H.nx+1+1+1+1)) 7 (nds t)]) (.buf 7 t.length)
   refine uf hcl ?_ e0 e1 e2 rfl rfl rfl
   exact (((((lRq H).push _).push _).push _).push _).push _
  ·have hc':¬ p<l.length:=by simp at hc;omega
   simp only [go_sem,Bt,py,pst,qE,hc',if_false]
   obtain ⟨e0,e1,e2⟩:=@Kz H (.cells [.slice (.own (H.nx+1+1+1+1)) 7 (nds t)]) (.cells [.int .i64 0]) (.cells [.bool true]) (.cells [.slice m 3 (dV l),.int .i64 (p:Int),.slice (.own (H.nx+1+1+1+1)) 7 (nds t)]) (.buf 7 t.length)
   refine HP hcl ?_ e0 e1 e2 rfl rfl rfl
   exact (((((lRq H).push _).push _).push _).push _).push _
end Go.AL
