/- Lemmas of the proof; no condition. -/
import Derived.Test.YtpofmhikcgkdhaaGreatS07c
import Derived.Test.YtpofmhikcgkdhaaGreatAlDefer
set_option linter.all false
set_option maxRecDepth 10000
open Go Go.AL Go.Proofs
namespace Go.AL
theorem C4:ti Tryz.prog 20=some ⟨.iface 0,1,16,.nili⟩:=by kernel_rfl
attribute [go_sem] C4
theorem eR {g:FuncId} {rl:Rl}:EntOk Tryz.prog g (Ent.effect (aR rl 0)):=by
 refine EntOk.effect fun args H K h=>?_
 unfold aR at h
 split at h
 ·obtain ⟨m,l,p,tb,t,hg,hpre,hK⟩:=h
  exact hK.elim
 ·exact h.elim
structure RulesOk (f:Nat):Prop where
 imp:EntOk Tryz.prog 58 (Ent.effect (fE f))
 or:EntOk Tryz.prog 77 (Ent.effect (nA f))
 and:EntOk Tryz.prog 90 (Ent.effect (jJ f))
 not:EntOk Tryz.prog 95 (Ent.effect (gu f))
 cmp:EntOk Tryz.prog 99 (Ent.effect (pj f))
 sum:EntOk Tryz.prog 101 (Ent.effect (jV f))
 un:EntOk Tryz.prog 104 (Ent.effect (jI f))
 atom:EntOk Tryz.prog 106 (Ent.effect (lV f))
theorem tn:∀ f,RulesOk f
 |0=>⟨eR,eR,eR,eR,eR,eR,eR,eR⟩
 |f+1=>have h:=tn f
  ⟨Bx h.or h.imp,Dd h.and,AW h.not,AK h.not h.cmp,Bk h.sum,BI h.un,Dh h.un h.atom,y7 h.imp⟩
theorem Am {n0:Nat} {H2 H:AHeap} {T:Nat→List (List Nat)} {fr:Fr}:(vf n0 H2 T).n fr H=(H2.Le H∧H2.Closed∧n0≤H2.nx):=rfl
theorem yi {n0:Nat} {H2 H:AHeap} {T:Nat→List (List Nat)} {fr:Fr}:(vf n0 H2 T).r fr H=(H2.Le H∧H2.Closed∧n0≤H2.nx):=rfl
theorem zI {n0:Nat} {H2:AHeap} {T:Nat→List (List Nat)}:(vf n0 H2 T).T=T:=rfl
section
variable {P:Program} {Ω:Tbl} {C:Code} {rs:List ResultVar} {H1 H:AHeap} {x v:AV} {g:FuncId} {d n0:Nat} {caps:List AV} {cs:List Nat} {T:Nat→List (List Nat)} {fr:Fr}
theorem wD:(p6 P rs H1 x g caps n0 T).r fr H=ub P rs H1 x g caps none fr H:=rfl
theorem wL:(p6 P rs H1 x g caps n0 T).p fr v H=ub P rs H1 x g caps (some v) fr H:=rfl
theorem lD:(p6 P rs H1 x g caps n0 T).T=T:=rfl
theorem AQ:(wW P Ω C rs H1 x g d cs n0 T).T=T:=rfl
theorem BL:(wW P Ω C rs H1 x g d cs n0 T).n fr H=aw P Ω C (KI P Ω (p6 P rs H1 x g (cs.map (Fr.get fr)) H.nx T) []) ((d,.func (.func g) [] (cs.map (Fr.get fr)))::fr) H:=rfl
end
theorem uP {H:AHeap} {a b c:Nat}:ADefer Tryz.prog 57 [.ptr a 0,.ptr b 0,.ptr c 0] H none H:=by
 refine ADefer.of_aw aE (Ω:=[]) tNq (a:=6) (b:=3) Tryz.func57 (by rfl) (by rfl) (T:=ay []) (by kernel_rfl) (by decide) (by decide) (by simp only [Tryz.ntmps57,List.length_cons,List.length_nil];decide) fun hcl _=>?_
 change aw _ _ _ (KI Tryz.prog [] (vf H.nx H) []) _ _
 simp only [Option.getD_none,go_sem,Am,yi,zI]
 exact ⟨lRq _,hcl,nrq _⟩
theorem uT {H:AHeap} {a b c p:Nat} {x y z:AV} (ha:H.get a=some (.cells [x])) (hb:H.get b=some (.cells [y])) (hc:H.get c=some (.cells [z])) (hab:a≠b) (hac:a≠c) (hbc:b≠c) :
 ADefer Tryz.prog 57 [.ptr a 0,.ptr b 0,.ptr c 0] H (some (.iface 107 (.int .i64 (p:Int)))) (((H.set a (.cells [.slice .nil 1 []])).set b (.cells [.int .i64 (p:Int)])).set c (.cells [.bool false])):=by
 refine ADefer.of_aw aE (Ω:=[]) tNq (a:=6) (b:=3) Tryz.func57 (by rfl) (by rfl) (T:=ay []) (by kernel_rfl) (by decide) (by decide) (by simp only [Tryz.ntmps57,List.length_cons,List.length_nil];decide) fun hcl _=>?_
 have la:=glq ha
 have lb:=glq hb
 have lc:=glq hc
 have h1:=bg ha
 have h2:∀ o,aA (H.set a o) b=some [y]:=fun o=>(bJ (fun e=>hab e.symm) o).trans (bg hb)
 have h3:∀ o o',aA ((H.set a o).set b o') c=some [z]:=fun o o'=>(bJ (fun e=>hbc e.symm) o').trans ((bJ (fun e=>hac e.symm) o).trans (bg hc))
 change aw _ _ _ (KI Tryz.prog [] (vf H.nx _) []) _ _
 simp only [Option.getD_some,go_sem,Am,yi,zI,gW,h1,h2,h3]
 refine ⟨lRq _,ai (ai (ai hcl ?_) ?_) ?_,nrq _⟩
 ·simp [znu,znv,zmn]
 ·simp [znu,znv,znf]
 ·simp [znu,znv,zng]
theorem yP {m:Mark} {l:List Tok} {tb:Nat} {K:Mark→List Tok→Nat→Nat→List Nd→Prop}:onP (some (.cells [.slice m 3 (ce l),.int .i64 0,.slice (.own tb) 7 []])) K=K m l 0 tb []:=aM (p:=0) (t:=[])
theorem CC {H:AHeap} {o0 o1 o2 o3 o4:AObj}:(((((H.push o0).push o1).push o2).push o3).push o4).get H.nx=some o0∧(((((H.push o0).push o1).push o2).push o3).push o4).get (H.nx+1)=some o1∧(((((H.push o0).push o1).push o2).push o3).push o4).get (H.nx+1+1)=some o2:=by
 refine ⟨?_,?_,?_⟩
 ·rw [gPq _ _ (by simp only [zle];omega),gPq _ _ (by simp only [zle];omega),gPq _ _ (by simp only [zle];omega),gPq _ _ (by simp only [zle];omega)]
  exact AHeap.get_push_new _ _
 ·rw [gPq _ _ (by simp only [zle];omega),gPq _ _ (by simp only [zle];omega),gPq _ _ (by simp only [zle];omega)]
  exact AHeap.get_push_new _ _
 ·rw [gPq _ _ (by simp only [zle];omega),gPq _ _ (by simp only [zle];omega)]
  exact AHeap.get_push_new _ _
theorem CD {H:AHeap} {a b c:Nat} {x y z:List AV} (la:a<H.nx) (lb:b<H.nx) (lc:c<H.nx) (hab:a≠b) (hac:a≠c) (hbc:b≠c) :
 aA (((H.set a (.cells x)).set b (.cells y)).set c (.cells z)) a=some x∧aA (((H.set a (.cells x)).set b (.cells y)).set c (.cells z)) b=some y∧aA (((H.set a (.cells x)).set b (.cells y)).set c (.cells z)) c=some z:=by
 refine ⟨?_,?_,?_⟩
 ·rw [bJ hac,bJ hab,cH la,if_pos rfl]
 ·rw [bJ hbc,cH (show b<(H.set a (.cells x)).nx from lb),if_pos rfl]
 ·rw [cH (show c<((H.set a (.cells x)).set b (.cells y)).nx from lc),if_pos rfl]
theorem oY {H X:AHeap} {q:Nat} {x y z:AV} {fr:Fr} (hcl:H.Closed) (hle:H.Le X) (h0:X.get H.nx=some (.cells [x])) (h1:X.get (H.nx+1)=some (.cells [y])) (h2:X.get (H.nx+1+1)=some (.cells [z]))
 (f2:Fr.get fr 2=.ptr H.nx 0) (f3:Fr.get fr 3=.ptr (H.nx+1) 0) (f4:Fr.get fr 4=.ptr (H.nx+1+1) 0) :
 ub Tryz.prog [.cell 2 26,.cell 3 3,.cell 4 4] H (.tup [.slice .any 7 [],.int .i64 (q:Int),.bool false]) 57 [.ptr H.nx 0,.ptr (H.nx+1) 0,.ptr (H.nx+1+1) 0] (some (.iface 107 (.int .i64 (q:Int)))) fr X:=by
 refine ⟨_,uT (x:=x) (y:=y) (z:=z) h0 h1 h2 (by omega) (by omega) (by omega),?_⟩
 obtain ⟨c1,c2,c3⟩:=CD (x:=[.slice .nil 1 []]) (y:=[.int .i64 (q:Int)]) (z:=[.bool false]) (glq h0) (glq h1) (glq h2) (by omega) (by omega) (by omega)
 have hl3:=db (db (db hle (nrq H.nx) (o:=.cells [.slice .nil 1 []])) (show H.nx≤H.nx+1 by omega) (o:=.cells [.int .i64 (q:Int)])) (show H.nx≤H.nx+1+1 by omega) (o:=.cells [.bool false])
 simp only [gP,kI,f2,f3,f4,zjg,go_sem,c1,c2,c3,zjh,TD.agg,Option.map_some,List.getD_cons_zero,one]
 refine ⟨?_,hl3,hcl,?_⟩
 ·simp [wk,am,wk2,wk1]
 ·simp [zns,znu,znv,znf,zng,zmn]
theorem yj {H X:AHeap} {tb:Nat} {t:List Nd} {fr:Fr} (hcl:H.Closed) (hle:H.Le X) (h0:X.get H.nx=some (.cells [.slice (.own tb) 7 (nds t)])) (h1:X.get (H.nx+1)=some (.cells [.int .i64 0])) (h2:X.get (H.nx+1+1)=some (.cells [.bool true]))
 (f2:Fr.get fr 2=.ptr H.nx 0) (f3:Fr.get fr 3=.ptr (H.nx+1) 0) (f4:Fr.get fr 4=.ptr (H.nx+1+1) 0) :
 ub Tryz.prog [.cell 2 26,.cell 3 3,.cell 4 4] H (.tup [.slice .any 7 (nds t),.int .i64 0,.bool true]) 57 [.ptr H.nx 0,.ptr (H.nx+1) 0,.ptr (H.nx+1+1) 0] none fr X:=by
 refine ⟨_,uP,?_⟩
 have c1:=bg h0
 have c2:=bg h1
 have c3:=bg h2
 simp only [gP,kI,f2,f3,f4,zjg,go_sem,c1,c2,c3,zjh,TD.agg,Option.map_some,List.getD_cons_zero,one]
 refine ⟨?_,hle,hcl,?_⟩
 ·simp [wk,am,wk2,wk1,wkM]
 ·simp [zns,znu,znv,znf,zng,gH]
def mB (l:List Tok):PR→AV
 |.ok _ p t=>if p<l.length then .tup [.slice .any 7 [],.int .i64 (p:Int),.bool false] else .tup [.slice .any 7 (nds t),.int .i64 0,.bool true]
 |.bad p=>.tup [.slice .any 7 [],.int .i64 (p:Int),.bool false]
def sH:List AV→AHeap→(AV→Prop)→Prop
 |[.slice _ 3 x],_,K=>∃ l f r,(x=ce l∧run l f .imp 0 []=some r∧l.length≤1000∧lN l)∧K (mB l r)
 |_,_,_=>False
theorem yU:EntOk Tryz.prog 34 (Ent.pure sH):=by
 refine Ype fun _ H K h=>?_
 unfold sH at h
 split at h
 rotate_left
 ·exact h.elim
 rename_i m x
 obtain ⟨l,f,r,⟨rfl,hr,hl,hgl⟩,hK⟩:=h
 refine ⟨_,hK,?_⟩
 clear hK
 have hR:=tn f
 refine ACalls.of_defer aE (Ω:=[(58,Ent.effect (fE f)),(59,Ent.effect c6)]) (tCq hR.imp (tCq iW tNq)) (T:=ay [(2,[[10]])]) (d:=6) (caps:=[2,3,4]) Tryz.func34 (by kernel_rfl) Tryz.func57 (by kernel_rfl) (by rfl) (by rfl) (rs:=[.cell 2 26,.cell 3 3,.cell 4 4]) (by rfl) (by kernel_rfl) (by kernel_rfl) (by decide) (by simp only [Tryz.ntmps34,List.length_cons,List.length_nil];decide) (nrq _) fun hcl hlt=>?_
 show aw _ _ _ (KI Tryz.prog [(58,Ent.effect (fE f)),(59,Ent.effect c6)] (wW _ _ _ _ _ _ _ _ _ _ _) []) _ _
 simp only [go_sem,BL,AQ,lD,bhq,Nat.reduceMod,Nat.reduceDiv,gB,gC,hO,mL,g7,lW,kH,kZ,lz,List.take_succ_cons,List.take_zero,List.drop_succ_cons,List.drop_zero]
 refine tM 8 2 7 [.slice m 3 (ce l),.int .i64 0,.slice .nil 1 []] (by simp [Fr.get]) rfl ?_
 simp only [List.set_cons_succ,List.set_cons_zero,go_sem,lD,bhq,Nat.reduceMod,Nat.reduceDiv,gB,gC,hO,mL,g7,lW,kH,kZ,lz,List.take_succ_cons,List.take_zero,List.drop_succ_cons,List.drop_zero,fE,aR,yP,hr]
 refine ⟨⟨by omega,?_,by simp,by simp,hl,hgl,Good.nil⟩,?_⟩
 ·exact AHeap.get_push_new _ _
 have hlm:∀ n',H.nx≤n'→(AV.slice m 3 (ce l)).lt n':=fun n' hn=>AV.lt_mono hn _ (hlt (AV.slice m 3 (ce l)) (by simp))
 have hw:=aH f hr Good.nil trivial (Nat.zero_le _)
 cases r with
 |bad q =>
  simp only [aO,go_sem,wL,mB]
  obtain ⟨e0,e1,e2⟩:=@CC H (.cells [.slice .nil 1 []]) (.cells [.int .i64 0]) (.cells [.bool false]) (.cells [.slice m 3 (ce l),.int .i64 0,.slice (.own (H.nx+1+1+1+1)) 7 []]) (.buf 7 0)
  have hd:∀ {X:AHeap} {j:Nat} {o:AObj},X.get j=some o→j≠H.nx+1+1+1→j≠H.nx+1+1+1+1→((X.del (H.nx+1+1+1)).del (H.nx+1+1+1+1)).get j=some o:=fun h n1 n2=>by
   rw [eK,if_neg n2,eK,if_neg n1];exact h
  refine oY hcl ?_ (hd e0 (by omega) (by omega)) (hd e1 (by omega) (by omega)) (hd e2 (by omega) (by omega)) rfl rfl rfl
  exact (((((((lRq H).push _).push _).push _).push _).push _).del (by omega)).del (by omega)
 |ok a p t =>
  obtain ⟨k1,k2,k3,k4,k5,k6⟩:=hw
  have hnl:(nds t).length=t.length:=az
  simp only [aX,go_sem,wD,lD,pst,aB]
  refine ah (fun hc=>?_) (fun hc=>?_)
  ·have hc':p<l.length:=by simp at hc;omega
   simp only [go_sem,wL,lD,pst,c6,qM,mB,hc',if_true]
   obtain ⟨e0,e1,e2⟩:=@CC H (.cells [.slice .nil 1 []]) (.cells [.int .i64 0]) (.cells [.bool false]) (.cells [.slice m 3 (ce l),.int .i64 (p:Int),.slice (.own (H.nx+1+1+1+1)) 7 (nds t)]) (.buf 7 t.length)
   refine oY hcl ?_ e0 e1 e2 rfl rfl rfl
   exact (((((lRq H).push _).push _).push _).push _).push _
  ·have hc':¬ p<l.length:=by simp at hc;omega
   simp only [go_sem,wD,lD,pst,mB,hc',if_false]
   obtain ⟨e0,e1,e2⟩:=@CC H (.cells [.slice (.own (H.nx+1+1+1+1)) 7 (nds t)]) (.cells [.int .i64 0]) (.cells [.bool true]) (.cells [.slice m 3 (ce l),.int .i64 (p:Int),.slice (.own (H.nx+1+1+1+1)) 7 (nds t)]) (.buf 7 t.length)
   refine yj hcl ?_ e0 e1 e2 rfl rfl rfl
   exact (((((lRq H).push _).push _).push _).push _).push _
end Go.AL
