/- Lemmas of the proof; no condition. -/
import Derived.Test.YtpbnggedofiinaaGreatM19j
import Derived.Test.YtpbnggedofiinaaGreatAlDefer
import Derived.Test.YtpbnggedofiinaaGreatM19m
import Derived.Test.YtpbnggedofiinaaGreatM19r
set_option linter.all false
set_option maxRecDepth 10000
set_option maxHeartbeats 32000000
open List renaming length_cons → yaz, length_nil → yba, take_of_length_le → ybc, drop_append → ybd, take_append → ybe, drop_eq_nil_of_le → ybf, getD_cons_zero → yau, drop_zero → yap, take_succ_cons → yaq, take_zero → yar, drop_succ_cons → yao, length_map → ybb, map_cons → yae, map_nil → yaf, cons_append → yal, nil_append → yak, append_nil → yaj
open Option renaming map_some → yag, map_none → yah
open Go Go.AL Go.Proofs
namespace Go.AL
theorem FU:ti Tryz.prog 239=some ⟨.struct [],0,0,.agg []⟩:=by kernel_rfl
theorem Hg:ti Tryz.prog 20=some ⟨.iface 0,1,16,.nili⟩:=by kernel_rfl
attribute [go_sem] FU Hg
def xB (v:AV) (Kp:AV→AHeap→Prop) (H:AHeap):Prop:=match v with
 |.iface t v=>Kp (.iface t v) H
 |_=>False
@[congr] theorem E8 {v v':AV} {Kp:AV→AHeap→Prop} {H:AHeap} (h:v=v'):xB v Kp H=xB v' Kp H:=by rw [h]
theorem qb {t:TypeId} {v:AV} {Kp:AV→AHeap→Prop} {H:AHeap}:xB (.iface t v) Kp H=Kp (.iface t v) H:=rfl
theorem zl {P:Program} {Ω:Tbl} {ops:Array Oper} {rest:List Oper} {K:Fr→AHeap→Prop} {Kp:Fr→AV→AHeap→Prop} {fr:Fr} {H:AHeap} {d:Option Tmp} {x:Operand} {t:TypeId} {pos:String} {aft:Array Edge} :
 bo P Ω ops (Oper.mk d (.panic x) t pos aft none::rest) K Kp fr H=xB (ev fr x) (Kp fr) H:=(rfl)
theorem D5 {n0:Nat} {H2 H:AHeap} {T:Nat→List (List Nat)} {fr:Fr}:(Aq n0 H2 T).n fr H=(H2.Le H∧H2.Closed∧n0≤H2.nx):=rfl
theorem Em {n0:Nat} {H2 H:AHeap} {T:Nat→List (List Nat)} {fr:Fr}:(Aq n0 H2 T).r fr H=(H2.Le H∧H2.Closed∧n0≤H2.nx):=rfl
theorem E2 {n0:Nat} {H2:AHeap} {T:Nat→List (List Nat)}:(Aq n0 H2 T).T=T:=rfl
section
variable {P:Program} {Ω:Tbl} {C:Code} {rs:List ResultVar} {H1 H:AHeap} {x v:AV} {g:FuncId} {d n0:Nat} {caps:List AV} {cs:List Nat} {T:Nat→List (List Nat)} {fr:Fr}
theorem j9:(tD P rs H1 x g caps n0 T).n fr H=xu P rs H1 x g caps none fr H:=rfl
theorem jZ:(tD P rs H1 x g caps n0 T).r fr H=xu P rs H1 x g caps none fr H:=rfl
theorem jT:(tD P rs H1 x g caps n0 T).p fr v H=xu P rs H1 x g caps (some v) fr H:=rfl
theorem j5:(tD P rs H1 x g caps n0 T).T=T:=rfl
theorem j7:(mI P Ω C rs H1 x g d cs n0 T).T=T:=rfl
theorem jW:(mI P Ω C rs H1 x g d cs n0 T).n fr H=aw P Ω C (KI P Ω (tD P rs H1 x g (cs.map (Fr.get fr)) H.nx T) []) ((d,.func (.func g) [] (cs.map (Fr.get fr)))::fr) H:=rfl
end
def gl (q:Int × RS) (most:Int):Bool:=decide (q.2.2.2=0)&&(decide (q.1<1)||decide (q.1 > most))
def cw:List AV→AHeap→(AEnd→AHeap→Prop)→Prop
 |[.ptr id 0,.int .i64 most],H,K=>onR H id fun m l e=>True∧K (if gl (aq (m,l,e) 1) most then .panic (.iface 239 (.agg [])) else .ret (.int .i64 (aq (m,l,e) 1).1)) (H.set id (.cells (aJ (aq (m,l,e) 1).2)))
 |_,_,_=>False
theorem g8:EntOk Tryz.prog 135 (Ent.effect cw):=by
 refine EntOk.effect fun args H K h=>?_
 unfold cw at h
 split at h
 rotate_left
 ·exact h.elim
 rename_i id most
 obtain ⟨m,l,e,hid,hle,h⟩:=dw h
 obtain ⟨hpre,hK⟩:=h
 refine ⟨_,_,hK,?_⟩
 clear hK
 have hl0:=glq hid
 have hne:=dd hl0
 have hss:=cL hid
 have hcs:=aM hid
 have hcm:=fun cs=>@bd H id cs hl0
 have hgm:=fun o=>@bA H id o hl0
 obtain ⟨Q,hQ⟩:∃ Q,aq (m,l,e) 1=Q:=⟨_,rfl⟩
 have hQl:=bz m l e 1
 have hQm:=bG m l e 1
 rw [hQ] at hQl hQm ⊢
 obtain ⟨n,m1,l1,e1⟩:=Q
 refine ACalls.fW ah (tCq iM (tCq gx tNq)) Tryz.func135 [.tmp 4] (by simp only [zlf];omega) (T:=ae []) (h:=fun hcl hlt=>?_)
 clear hlt
 have hcl1:=fun l' e'=>ax hid hcl m (.inl rfl) l' e'
 have hcl2:=fun l' e'=>ax hid hcl .any (.inr rfl) l' e'
 dsimp only at hQl hQm
 simp only [go_sem,byq,hne,hid,hcs,hgm,hcm,fE,cK,onR,aj,hQ,aJ]
 have hcl3:(H.set id (.cells [.slice m1 1 (bys l1),.int .i64 e1])).Closed:=by
  rcases hQm with rfl|rfl
  ·exact hcl1 _ _
  ·exact hcl2 _ _
 refine ⟨by omega,by omega,bM (fun h1=>bM (fun h2=>?_) (fun h2=>af (fun h3=>?_) (fun h3=>?_))) (fun h1=>?_)⟩
 ·have hb:gl (n,m1,l1,e1) most=true:=by
   have a1:e1=0:=by simpa using h1
   have a2:n<1:=by simpa using h2
   simp [gl,a1,a2]
  rw [hb,if_pos rfl]
  simp only [go_sem,byq,↓zl,qb]
  exact Z8
 ·have hb:gl (n,m1,l1,e1) most=true:=by
   have a1:e1=0:=by simpa using h1
   have a2:n > most:=by simpa using h3
   simp [gl,a1,a2]
  rw [hb,if_pos rfl]
  simp only [go_sem,byq,↓zl,qb]
  exact Z8
 ·have hb:gl (n,m1,l1,e1) most=false:=by
   have a2:¬ n<1:=of_decide_eq_false h2
   have a3:¬ n > most:=of_decide_eq_false h3
   simp [gl,a2,a3]
  rw [hb,if_neg (by decide)]
  simp only [go_sem,byq]
  exact Z8
 ·have hb:gl (n,m1,l1,e1) most=false:=by
   have a1:¬ e1=0:=by simpa using h1
   simp [gl,a1]
  rw [hb,if_neg (by decide)]
  simp only [go_sem,byq]
  exact Z8
def zq:List AV:=[.int .i64 0,.int .i64 0,.int .u64 0,.int .u64 0,.slice .nil 1 [],.int .i64 0,.int .i64 0,.int .i64 0,.int .i64 0,.slice .nil 1 []]
theorem nE {H:AHeap} {i j:Nat} (h:j≠i) (o:AObj):ai (H.set i o) j=ai H j:=by
 unfold ai
 rw [AHeap.get_set_ne _ _ h]
theorem tp {H X:AHeap} {i:Nat} {o:AObj} (h:H.Le X) (hi:H.nx≤i):H.Le (X.set i o):=⟨h.nx,fun j x hj=>by
 have:=glq hj
 rw [AHeap.get_set_ne _ _ (by omega)]
 exact h.get _ _ hj⟩
theorem uJ {H:AHeap} {a b:Nat} {y:AV} (ha:H.get a=some (.cells zq)) (hb:H.get b=some (.cells [y])) (hab:a≠b) :
 ADefer Tryz.prog 134 [.ptr a 0,.ptr b 0] H (some (.iface 239 (.agg []))) ((H.set a (.cells zq)).set b (.cells [.int .i64 2])):=by
 refine ADefer.of_aw ah (Ω:=[]) tNq (a:=5) (b:=2) Tryz.func134 (by rfl) (by rfl) (T:=ae []) (by kernel_rfl) (by decide) (by decide) (by simp only [Tryz.ntmps134,yaz,yba];decide) fun hcl _=>?_
 have la:=glq ha
 have lb:=glq hb
 have h1:=aM ha
 unfold zq at h1
 have h2:∀ o,ai (H.set a o) b=some [y]:=fun o=>(nE (fun e=>hab e.symm) o).trans (aM hb)
 have n1:=iJ la
 have n2:=iJ lb
 change aw _ _ _ (KI Tryz.prog [] (Aq H.nx _) []) _ _
 simp only [Option.getD_some,go_sem,D5,Em,E2,ld,h1,h2,n1,n2,zq]
 exact ⟨(lRq _).push _,aP (aP hcl (by simp [znu,znv,znf,lt_sliceL])) (by simp [znu,znv,znf]),nrq _⟩
theorem oD {H H1 X:AHeap} {y:AV} {fr:Fr} (hcl:H1.Closed) (hle:H1.Le X) (hn:H1.nx≤H.nx) (h0:X.get H.nx=some (.cells zq)) (h1:X.get (H.nx+1)=some (.cells [y]))
 (f2:Fr.get fr 2=.ptr H.nx 0) (f3:Fr.get fr 3=.ptr (H.nx+1) 0) :
 xu Tryz.prog [.cell 2 41,.cell 3 43] H1 (.tup [bb cm,.int .i64 2]) 134 [.ptr H.nx 0,.ptr (H.nx+1) 0] (some (.iface 239 (.agg []))) fr X:=by
 refine ⟨_,uJ (y:=y) h0 h1 (by omega),?_⟩
 have l0:=glq h0
 have l1:=glq h1
 have c2:ai ((X.set H.nx (.cells zq)).set (H.nx+1) (.cells [.int .i64 2])) (H.nx+1)=some [.int .i64 2]:=by
  rw [eZ (show H.nx+1<(X.set H.nx (.cells zq)).nx from l1),if_pos rfl]
 have c1:ai ((X.set H.nx (.cells zq)).set (H.nx+1) (.cells [.int .i64 2])) H.nx=some zq:=by
  rw [nE (by omega),eZ l0,if_pos rfl]
 have hl3:=tp (tp hle hn (o:=.cells zq)) (show H1.nx≤H.nx+1 by omega) (o:=.cells [.int .i64 2])
 have z1:(10≤zq.length)=True:=eq_true (by decide)
 have z2:zq.take 10=zq:=rfl
 simp only [lS,qC,f2,f3,zjg,go_sem,c1,c2,zjh,TD.agg,yag,yau,one,z1,z2,yap]
 refine ⟨?_,hl3,hcl,?_⟩
 ·simp [wk,ak,wk2,wkL,wk1,wkM,bb,aF,cm,zll,zq]
 ·rw [zns]
  exact ⟨dN _,by rw [znf];trivial,trivial⟩
def pD (s:RS):SReq × RS:=let q0:=aq s 2;let q1:=bn q0.2;({ cm with role:=q0.1,el:=q1.1 },q1.2)
def se (s:RS):SReq × RS:=(cm,s)
def oX (s:RS):SReq × RS:=let q0:=aq s 2;let q1:=aq q0.2 2;({ cm with role:=q0.1,table:=q1.1 },q1.2)
def pm (s:RS):SReq × RS:=let q0:=aq s 2;let q1:=aq q0.2 4;let q2:=aq q1.2 2;({ cm with role:=q0.1,frm:=q1.1,count:=q2.1 },q2.2)
def pp (s:RS):SReq × RS:=let q0:=aq s 2;let q1:=cW q0.2 320;({ cm with port:=q0.1,data:=q1.1 },q1.2)
def g9:List AV→AHeap→(AEnd→AHeap→Prop)→Prop
 |[.ptr id 0],H,K=>onR H id fun m l e=>True∧K (.ret (bb (pD (m,l,e)).1)) (H.set id (.cells (aJ (pD (m,l,e)).2)))
 |_,_,_=>False
theorem mv:EntOk Tryz.prog 116 (Ent.effect g9):=by
 refine EntOk.effect fun args H K h=>?_
 unfold g9 at h
 split at h
 rotate_left
 ·exact h.elim
 rename_i id
 obtain ⟨m,l,e,hid,hle,h⟩:=dw h
 obtain ⟨hpre,hK⟩:=h
 refine ⟨_,_,hK,?_⟩
 clear hK
 have hl0:=glq hid
 have hne:=dd hl0
 have hss:=cL hid
 have hcs:=aM hid
 have hcm:=fun cs=>@bd H id cs hl0
 have hgm:=fun o=>@bA H id o hl0
 obtain ⟨Q,hQ⟩:∃ Q,pD (m,l,e)=Q:=⟨_,rfl⟩
 rw [hQ]
 unfold pD at hQ
 try dsimp only at hQ
 have hl0:=bz m l e 2
 have hm0:=bG m l e 2
 generalize h0:aq (m,l,e) 2=q0 at *
 obtain ⟨v0,m0,l0,e0⟩:=q0
 dsimp only at hQ hl0 hm0
 have hl1:=gk m0 l0 e0
 have hm1:=jG m0 l0 e0
 generalize h1:bn (m0,l0,e0)=q1 at *
 obtain ⟨v1,m1,l1,e1⟩:=q1
 dsimp only at hQ hl1 hm1
 replace hm1:=au hm0 hm1
 subst hQ
 dsimp only [aJ]
 refine ACalls.fW ah (tCq lC (tCq iM tNq)) Tryz.func116 [.cell 2 41] (by simp only [zlf];omega) (T:=ae []) (h:=fun hcl hlt=>?_)
 clear hlt
 have b0:l0.length≤100000:=by omega
 have b1:l1.length≤100000:=by omega
 simp only [go_sem,byq,hne,hid,hcs,hcm,hgm,onR,aj,aE,zmb,zlz,zlk,and_true,true_and,hid,onR,aj,aJ,vv,vc,lW,fE,h0,h1,b0,b1]
 have hclz:(H.set id (.cells [.slice m1 1 (bys l1),.int .i64 e1])).Closed:=ax hid hcl m1 hm1 l1 e1
 refine ⟨hle,?_,by repeat first|exact .refl _|refine .push ?_ _,hclz,dN _⟩
 simp [wk,wk2,wkL,wk1,wkM,bb,aF,cm,zll]
def hO:List AV→AHeap→(AEnd→AHeap→Prop)→Prop
 |[.ptr id 0],H,K=>onR H id fun m l e=>True∧K (.ret (bb (se (m,l,e)).1)) (H.set id (.cells (aJ (se (m,l,e)).2)))
 |_,_,_=>False
theorem mh:EntOk Tryz.prog 120 (Ent.effect hO):=by
 refine EntOk.effect fun args H K h=>?_
 unfold hO at h
 split at h
 rotate_left
 ·exact h.elim
 rename_i id
 obtain ⟨m,l,e,hid,hle,h⟩:=dw h
 obtain ⟨hpre,hK⟩:=h
 refine ⟨_,_,hK,?_⟩
 clear hK
 have hl0:=glq hid
 have hne:=dd hl0
 have hss:=cL hid
 have hcs:=aM hid
 have hcm:=fun cs=>@bd H id cs hl0
 have hgm:=fun o=>@bA H id o hl0
 obtain ⟨Q,hQ⟩:∃ Q,se (m,l,e)=Q:=⟨_,rfl⟩
 rw [hQ]
 unfold se at hQ
 try dsimp only at hQ
 subst hQ
 dsimp only [aJ]
 refine ACalls.fW ah tNq Tryz.func120 [.cell 2 41] (by simp only [zlf];omega) (T:=ae []) (h:=fun hcl hlt=>?_)
 clear hlt
 simp only [go_sem,byq,hne,hid,hcs,hcm,hgm,onR,aj,aE,zmb,zlz,zlk,and_true,true_and,hid,onR,aj,aJ,vv,vc]
 have hclz:(H.set id (.cells [.slice m 1 (bys l),.int .i64 e])).Closed:=ax hid hcl m (.inl rfl) l e
 refine ⟨?_,by rw [hss];repeat first|exact .refl _|refine .push ?_ _,hclz,dN _⟩
 simp [wk,wk2,wkL,wk1,wkM,bb,aF,cm,zll]
def gZ:List AV→AHeap→(AEnd→AHeap→Prop)→Prop
 |[.ptr id 0],H,K=>onR H id fun m l e=>True∧K (.ret (bb (oX (m,l,e)).1)) (H.set id (.cells (aJ (oX (m,l,e)).2)))
 |_,_,_=>False
theorem mg:EntOk Tryz.prog 127 (Ent.effect gZ):=by
 refine EntOk.effect fun args H K h=>?_
 unfold gZ at h
 split at h
 rotate_left
 ·exact h.elim
 rename_i id
 obtain ⟨m,l,e,hid,hle,h⟩:=dw h
 obtain ⟨hpre,hK⟩:=h
 refine ⟨_,_,hK,?_⟩
 clear hK
 have hl0:=glq hid
 have hne:=dd hl0
 have hss:=cL hid
 have hcs:=aM hid
 have hcm:=fun cs=>@bd H id cs hl0
 have hgm:=fun o=>@bA H id o hl0
 obtain ⟨Q,hQ⟩:∃ Q,oX (m,l,e)=Q:=⟨_,rfl⟩
 rw [hQ]
 unfold oX at hQ
 try dsimp only at hQ
 have hl0:=bz m l e 2
 have hm0:=bG m l e 2
 generalize h0:aq (m,l,e) 2=q0 at *
 obtain ⟨v0,m0,l0,e0⟩:=q0
 dsimp only at hQ hl0 hm0
 have hl1:=bz m0 l0 e0 2
 have hm1:=bG m0 l0 e0 2
 generalize h1:aq (m0,l0,e0) 2=q1 at *
 obtain ⟨v1,m1,l1,e1⟩:=q1
 dsimp only at hQ hl1 hm1
 replace hm1:=au hm0 hm1
 subst hQ
 dsimp only [aJ]
 refine ACalls.fW ah (tCq iM tNq) Tryz.func127 [.cell 2 41] (by simp only [zlf];omega) (T:=ae []) (h:=fun hcl hlt=>?_)
 clear hlt
 have b0:l0.length≤100000:=by omega
 have b1:l1.length≤100000:=by omega
 simp only [go_sem,byq,hne,hid,hcs,hcm,hgm,onR,aj,aE,zmb,zlz,zlk,and_true,true_and,hid,onR,aj,aJ,vv,vc,fE,h0,h1,b0,b1]
 have hclz:(H.set id (.cells [.slice m1 1 (bys l1),.int .i64 e1])).Closed:=ax hid hcl m1 hm1 l1 e1
 refine ⟨hle,?_,by repeat first|exact .refl _|refine .push ?_ _,hclz,dN _⟩
 simp [wk,wk2,wkL,wk1,wkM,bb,aF,cm,zll]
def im:List AV→AHeap→(AEnd→AHeap→Prop)→Prop
 |[.ptr id 0],H,K=>onR H id fun m l e=>True∧K (.ret (bb (pm (m,l,e)).1)) (H.set id (.cells (aJ (pm (m,l,e)).2)))
 |_,_,_=>False
theorem mH:EntOk Tryz.prog 130 (Ent.effect im):=by
 refine EntOk.effect fun args H K h=>?_
 unfold im at h
 split at h
 rotate_left
 ·exact h.elim
 rename_i id
 obtain ⟨m,l,e,hid,hle,h⟩:=dw h
 obtain ⟨hpre,hK⟩:=h
 refine ⟨_,_,hK,?_⟩
 clear hK
 have hl0:=glq hid
 have hne:=dd hl0
 have hss:=cL hid
 have hcs:=aM hid
 have hcm:=fun cs=>@bd H id cs hl0
 have hgm:=fun o=>@bA H id o hl0
 obtain ⟨Q,hQ⟩:∃ Q,pm (m,l,e)=Q:=⟨_,rfl⟩
 rw [hQ]
 unfold pm at hQ
 try dsimp only at hQ
 have hl0:=bz m l e 2
 have hm0:=bG m l e 2
 generalize h0:aq (m,l,e) 2=q0 at *
 obtain ⟨v0,m0,l0,e0⟩:=q0
 dsimp only at hQ hl0 hm0
 have hl1:=bz m0 l0 e0 4
 have hm1:=bG m0 l0 e0 4
 generalize h1:aq (m0,l0,e0) 4=q1 at *
 obtain ⟨v1,m1,l1,e1⟩:=q1
 dsimp only at hQ hl1 hm1
 replace hm1:=au hm0 hm1
 have hl2:=bz m1 l1 e1 2
 have hm2:=bG m1 l1 e1 2
 generalize h2:aq (m1,l1,e1) 2=q2 at *
 obtain ⟨v2,m2,l2,e2⟩:=q2
 dsimp only at hQ hl2 hm2
 replace hm2:=au hm1 hm2
 subst hQ
 dsimp only [aJ]
 refine ACalls.fW ah (tCq iM tNq) Tryz.func130 [.cell 2 41] (by simp only [zlf];omega) (T:=ae []) (h:=fun hcl hlt=>?_)
 clear hlt
 have b0:l0.length≤100000:=by omega
 have b1:l1.length≤100000:=by omega
 have b2:l2.length≤100000:=by omega
 simp only [go_sem,byq,hne,hid,hcs,hcm,hgm,onR,aj,aE,zmb,zlz,zlk,and_true,true_and,hid,onR,aj,aJ,vv,vc,fE,h0,h1,h2,b0,b1,b2]
 have hclz:(H.set id (.cells [.slice m2 1 (bys l2),.int .i64 e2])).Closed:=ax hid hcl m2 hm2 l2 e2
 refine ⟨hle,?_,by repeat first|exact .refl _|refine .push ?_ _,hclz,dN _⟩
 simp [wk,wk2,wkL,wk1,wkM,bb,aF,cm,zll]
def ik:List AV→AHeap→(AEnd→AHeap→Prop)→Prop
 |[.ptr id 0],H,K=>onR H id fun m l e=>True∧K (.ret (bb (pp (m,l,e)).1)) (H.set id (.cells (aJ (pp (m,l,e)).2)))
 |_,_,_=>False
theorem mD:EntOk Tryz.prog 133 (Ent.effect ik):=by
 refine EntOk.effect fun args H K h=>?_
 unfold ik at h
 split at h
 rotate_left
 ·exact h.elim
 rename_i id
 obtain ⟨m,l,e,hid,hle,h⟩:=dw h
 obtain ⟨hpre,hK⟩:=h
 refine ⟨_,_,hK,?_⟩
 clear hK
 have hl0:=glq hid
 have hne:=dd hl0
 have hss:=cL hid
 have hcs:=aM hid
 have hcm:=fun cs=>@bd H id cs hl0
 have hgm:=fun o=>@bA H id o hl0
 obtain ⟨Q,hQ⟩:∃ Q,pp (m,l,e)=Q:=⟨_,rfl⟩
 rw [hQ]
 unfold pp at hQ
 try dsimp only at hQ
 have hl0:=bz m l e 2
 have hm0:=bG m l e 2
 generalize h0:aq (m,l,e) 2=q0 at *
 obtain ⟨v0,m0,l0,e0⟩:=q0
 dsimp only at hQ hl0 hm0
 have hl1:=uk m0 l0 e0 320
 have hm1:=tf m0 l0 e0 320
 generalize h1:cW (m0,l0,e0) 320=q1 at *
 obtain ⟨v1,m1,l1,e1⟩:=q1
 dsimp only at hQ hl1 hm1
 replace hm1:=au hm0 hm1
 subst hQ
 dsimp only [aJ]
 refine ACalls.fW ah (tCq u4 (tCq iM tNq)) Tryz.func133 [.cell 2 41] (by simp only [zlf];omega) (T:=ae []) (h:=fun hcl hlt=>?_)
 clear hlt
 have b0:l0.length≤100000:=by omega
 have b1:l1.length≤100000:=by omega
 simp only [go_sem,byq,hne,hid,hcs,hcm,hgm,onR,aj,aE,zmb,zlz,zlk,and_true,true_and,hid,onR,aj,aJ,vv,vc,il,fE,h0,h1,b0,b1]
 have hclz:(H.set id (.cells [.slice m1 1 (bys l1),.int .i64 e1])).Closed:=ax hid hcl m1 hm1 l1 e1
 refine ⟨hle,?_,by repeat first|exact .refl _|refine .push ?_ _,hclz,dN _⟩
 simp [wk,wk2,wkL,wk1,wkM,bb,aF,cm,zll]
def eH:Nat→RS→Option (List (Int × SEntry)) × RS
 |0,s=>(some [],s)
 |n+1,s =>
  let q:=aq s 1
  if gl q 3 then (none,q.2)
  else
   let e:=eK q.2
   match eH n e.2 with
   |(some us,t)=>(some ((q.1,e.1)::us),t)
   |(none,t)=>(none,t)
theorem qE:∀ (n:Nat) (s:RS),(eH n s).2.2.1.length≤s.2.1.length∧eD s.1 (eH n s).2.1
 |0,s=>⟨nrq _,.inl rfl⟩
 |n+1,s=>by
  obtain ⟨m,l,e⟩:=s
  have a1:=bz m l e 1
  have a2:=bG m l e 1
  have b1:=qs (aq (m,l,e) 1).2
  have b2:=qh (aq (m,l,e) 1).2
  rw [← n9] at b1 b2
  obtain ⟨c1,c2⟩:=qE n (eK (aq (m,l,e) 1).2).2
  have hu:eH (n+1) (m,l,e)=if gl (aq (m,l,e) 1) 3 then (none,(aq (m,l,e) 1).2) else match eH n (eK (aq (m,l,e) 1).2).2 with
   |(some us,t)=>(some (((aq (m,l,e) 1).1,(eK (aq (m,l,e) 1).2).1)::us),t)
   |(none,t)=>(none,t):=rfl
  rw [hu]
  split
  ·exact ⟨a1,a2⟩
  ·generalize eH n (eK (aq (m,l,e) 1).2).2=q at *
   obtain ⟨o,t⟩:=q
   cases o
   ·exact ⟨Nat.le_trans c1 (Nat.le_trans b1 a1),au (au a2 b2) c2⟩
   ·exact ⟨Nat.le_trans c1 (Nat.le_trans b1 a1),au (au a2 b2) c2⟩
def A4 (o:Option (List (Int × SEntry))):AEnd :=
 match o with
 |some us=>.ret (.slice .any 6 (us.map cV))
 |none=>.panic (.iface 239 (.agg []))
def rG:List AV→AHeap→(AEnd→AHeap→Prop)→Prop
 |[.ptr id 0],H,K=>onR H id fun m l e=>True∧K (A4 (eH (bf (m,l,e) 32).1.toNat (bf (m,l,e) 32).2).1) (H.set id (.cells (aJ (eH (bf (m,l,e) 32).1.toNat (bf (m,l,e) 32).2).2)))
 |_,_,_=>False
theorem zB:EntOk Tryz.prog 124 (Ent.effect rG):=by
 refine EntOk.effect fun args H K h=>?_
 unfold rG at h
 split at h
 rotate_left
 ·exact h.elim
 rename_i id
 obtain ⟨m,l,e,hid,hle,h⟩:=dw h
 obtain ⟨hpre,hK⟩:=h
 refine ⟨_,_,hK,?_⟩
 clear hK
 have hl0:=glq hid
 have hne:=dd hl0
 have hss:=cL hid
 have hcs:=aM hid
 have hcm:=fun cs=>@bd H id cs hl0
 have hgm:=fun o=>@bA H id o hl0
 have hl1:=jx m l e 32
 have hm1:=kr m l e 32
 have hc1:=nD (m,l,e) 32 (by decide)
 generalize h1:bf (m,l,e) 32=q1 at *
 obtain ⟨c,m1,l1,e1⟩:=q1
 dsimp only at hl1 hm1 hc1 ⊢
 obtain ⟨kc,rfl⟩:∃ kc:Nat,c=(kc:Int):=⟨c.toNat,by omega⟩
 rw [iNq]
 obtain ⟨Q,hQ⟩:∃ Q,eH kc (m1,l1,e1)=Q:=⟨_,rfl⟩
 rw [hQ]
 have hQg:=qE kc (m1,l1,e1)
 rw [hQ] at hQg
 refine ACalls.fW ah (tCq rz (tCq g8 (tCq yx tNq))) Tryz.func124 [.tmp 2] (by simp only [zlf];omega) (T:=ae []) (h:=fun hcl hlt=>?_)
 clear hlt
 have b1:l1.length≤100000:=by omega
 simp only [bk,bh,bhq,Nat.reduceMod,Nat.reduceDiv,aA,az,aB,aZ,aC,aY,aS,aU,aV,yaq,yar,yao,yap,go_sem,byq,hne,hid,hcs,hcm,hgm,onR,aj,aE,zmb,zlz,zlk,and_true,true_and,hid,fC,h1,b1,aJ]
 refine ⟨hle,?_⟩
 have hclL:∀ (s:RS) (k:Nat),eD m s.1→(((H.set id (.cells [.slice s.1 1 (bys s.2.1),.int .i64 s.2.2])).push (.buf 6 0)).push (.buf 6 k)).Closed:=fun s k hs=>bj (bj (ax hid hcl s.1 hs s.2.1 s.2.2))
 refine aK (A:=List (Int × SEntry) × RS) (fun x=>[(0,.ptr id 0),(3,.slice (.own (H.nx+1)) 6 (x.1.map cV)),(6,.int .i64 (kc:Int)),(7,.int .i64 (x.1.length:Int))]) (fun x=>((H.set id (.cells [.slice x.2.1 1 (bys x.2.2.1),.int .i64 x.2.2.2])).push (.buf 6 0)).push (.buf 6 x.1.length)) (fun x=>x.1.length≤kc∧((eH (kc - x.1.length) x.2).1.map (x.1++·),(eH (kc - x.1.length) x.2).2)=Q∧x.2.2.1.length≤l1.length∧eD m x.2.1) (fun x=>kc - x.1.length) ([],(m1,l1,e1)) ⟨Nat.zero_le _,by rw [← hQ];simp,nrq _,hm1⟩ ?_ fun x hx=>?_
 ·refine ⟨by simp only [zkq,zkv,zle,zlf];omega,lRq _,hclL (m1,l1,e1) 0 hm1,?_,?_⟩
  ·simp [ltF,znf,znn,lt_sliceL,znv,zle,zlf]
   try omega
  ·simp [cf,wk2,wk1,wkM,Fr.get]
 obtain ⟨us,m2,l2,e2⟩:=x
 obtain ⟨hx1,hx2,hx3,hx4⟩:=hx
 dsimp only at hx1 hx2 hx3 hx4 ⊢
 have b2:l2.length≤100000:=by omega
 simp only [go_sem]
 refine af (fun hc=>?_) (fun hc=>?_)
 ·have hk':us.length<kc:=by simp at hc;omega
  have e5:IntKind.i64.wrap ((us.length:Int)+1)=((us.length+1:Nat):Int):=by rw [wrap_i64]<;>omega
  have hk2:kc - us.length=(kc - (us.length+1))+1:=by omega
  have hu:eH (kc - us.length) (m2,l2,e2)=if gl (aq (m2,l2,e2) 1) 3 then (none,(aq (m2,l2,e2) 1).2) else match eH (kc - (us.length+1)) (eK (aq (m2,l2,e2) 1).2).2 with
   |(some us,t)=>(some (((aq (m2,l2,e2) 1).1,(eK (aq (m2,l2,e2) 1).2).1)::us),t)
   |(none,t)=>(none,t):=by rw [hk2];rfl
  rw [hu] at hx2
  have hl3:=bz m2 l2 e2 1
  have hm3:=bG m2 l2 e2 1
  generalize hq3:aq (m2,l2,e2) 1=q3 at *
  cases hb3:gl q3 3
  ·rw [if_neg (by rw [hb3];decide)] at hx2
   obtain ⟨n3,m3,l3,e3⟩:=q3
   dsimp only at hl3 hm3 hx2
   have hl4:=qs (m3,l3,e3)
   have hm4:=qh (m3,l3,e3)
   rw [← n9] at hl4 hm4
   generalize hq4:eK (m3,l3,e3)=q4 at *
   obtain ⟨en,m4,l4,e4⟩:=q4
   dsimp only at hl4 hm4 hx2
   have b3:l3.length≤100000:=by omega
   simp only [go_sem,byq,hne,hid,hcs,hcm,hgm,onR,aj,aE,zmb,zlz,zlk,and_true,true_and,hid,cw,sy,hq3,hb3,hq4,b2,b3,aJ,if_false,Bool.false_eq_true,bc,aN,e5,ybb]
   have hlen:(us++[(n3,en)]).length=us.length+1:=by simp
   have hmm:eD m m4:=au (au hx4 hm3) hm4
   refine ⟨⟨by omega,by omega,fun z hz=>by rw [List.mem_singleton] at hz;subst hz;rfl⟩,(us++[(n3,en)],(m4,l4,e4)),⟨by dsimp only;omega,?_,by dsimp only;omega,hmm⟩,by dsimp only;omega,?_⟩
   ·dsimp only
    rw [hlen,← hx2]
    generalize eH (kc - (us.length+1)) (m4,l4,e4)=q5
    obtain ⟨o,t⟩:=q5
    cases o
    ·rfl
    ·simp [List.append_assoc]
   ·refine ⟨by simp only [zle,zlf];omega,?_,hclL (m4,l4,e4) _ hmm,?_,?_⟩
    ·simp only [List.map_append,yae,yaf,cV,kB,aN,lAq,yaz,yba,yal,yak]
     repeat first|exact .refl _|refine .push ?_ _
    ·simp [ltF,znf,znn,lt_sliceL,zle,zlf]
     refine ⟨by omega,ltL_iff.2 fun j hj=>?_⟩
     have hmem:=gMq hj
     rw [List.mem_append,List.mem_map,List.mem_singleton] at hmem
     rcases hmem with ⟨x,_,e⟩|e
     ·rw [← e];exact kq x
     ·rw [e];exact kq _
    ·simp [cf,wk2,wk1,wkM,Fr.get,cV,kB,aN]
  ·rw [if_pos hb3] at hx2
   dsimp only [Option.map] at hx2
   subst hx2
   simp only [go_sem,byq,hne,hid,hcs,hcm,hgm,onR,aj,aE,zmb,zlz,zlk,and_true,true_and,hid,cw,hq3,hb3,b2,aJ,if_true,A4]
   exact ⟨rfl,by repeat first|exact .refl _|refine .push ?_ _,ax hid hcl _ (au hx4 hm3) _ _,by simp [znq,znr,znv]⟩
 ·have hk':us.length=kc:=by simp at hc;omega
  subst hk'
  rw [Nat.sub_self] at hx2
  subst hx2
  simp only [go_sem,byq,eH,yag,yaj,A4]
  exact ⟨by simp [wk,wk2,wk1,wkM],by repeat first|exact .refl _|refine .push ?_ _,ax hid hcl _ hx4 _ _,bg kq⟩
def A8 (o:Option SReq):AEnd :=
 match o with
 |some r=>.ret (bb r)
 |none=>.panic (.iface 239 (.agg []))
def rL (s:RS):Option SReq × RS :=
 let q0:=aq s 2;let q1:=bn q0.2;let q2:=bf q1.2 32;let q3:=eH q2.1.toNat q2.2
 (q3.1.map fun us=>{ cm with role:=q0.1,el:=q1.1,ups:=us },q3.2)
def gT:List AV→AHeap→(AEnd→AHeap→Prop)→Prop
 |[.ptr id 0],H,K=>onR H id fun m l e=>True∧K (A8 (rL (m,l,e)).1) (H.set id (.cells (aJ (rL (m,l,e)).2)))
 |_,_,_=>False
theorem AS (s:RS):(rL s).2.2.1.length≤s.2.1.length∧eD s.1 (rL s).2.1:=by
 obtain ⟨m,l,e⟩:=s
 unfold rL
 dsimp only
 have a1:=bz m l e 2
 have a2:=bG m l e 2
 generalize aq (m,l,e) 2=q0 at *
 obtain ⟨v0,m0,l0,e0⟩:=q0
 have b1:=gk m0 l0 e0
 have b2:=jG m0 l0 e0
 dsimp only at a1 a2 ⊢
 generalize bn (m0,l0,e0)=q1 at *
 obtain ⟨v1,m1,l1,e1⟩:=q1
 have c1:=jx m1 l1 e1 32
 have c2:=kr m1 l1 e1 32
 dsimp only at b1 b2 ⊢
 generalize bf (m1,l1,e1) 32=q2 at *
 obtain ⟨v2,m2,l2,e2⟩:=q2
 obtain ⟨d1,d2⟩:=qE v2.toNat (m2,l2,e2)
 dsimp only at c1 c2 d1 d2 ⊢
 exact ⟨by omega,au (au (au a2 b2) c2) d2⟩
theorem mr:EntOk Tryz.prog 123 (Ent.effect gT):=by
 refine EntOk.effect fun args H K h=>?_
 unfold gT at h
 split at h
 rotate_left
 ·exact h.elim
 rename_i id
 obtain ⟨m,l,e,hid,hle,h⟩:=dw h
 obtain ⟨hpre,hK⟩:=h
 refine ⟨_,_,hK,?_⟩
 clear hK
 have hl0:=glq hid
 have hne:=dd hl0
 have hss:=cL hid
 have hcs:=aM hid
 have hcm:=fun cs=>@bd H id cs hl0
 have hgm:=fun o=>@bA H id o hl0
 obtain ⟨Q,hQ⟩:∃ Q,rL (m,l,e)=Q:=⟨_,rfl⟩
 have hQg:=AS (m,l,e)
 rw [hQ] at hQg ⊢
 unfold rL at hQ
 dsimp only at hQ
 have hl0:=bz m l e 2
 generalize h0:aq (m,l,e) 2=q0 at *
 obtain ⟨v0,m0,l0,e0⟩:=q0
 dsimp only at hQ hl0
 have hl1:=gk m0 l0 e0
 generalize h1:bn (m0,l0,e0)=q1 at *
 obtain ⟨v1,m1,l1,e1⟩:=q1
 dsimp only at hQ hl1
 generalize h2:eH (bf (m1,l1,e1) 32).1.toNat (bf (m1,l1,e1) 32).2=q2 at *
 obtain ⟨o,t⟩:=q2
 dsimp only at hQ
 subst hQ
 obtain ⟨m3,l3,e3⟩:=t
 dsimp only at hQg ⊢
 have b0:l0.length≤100000:=by omega
 have b1:l1.length≤100000:=by omega
 cases o
 all_goals
  refine ACalls.fW ah (tCq iM (tCq lC (tCq zB tNq))) Tryz.func123 [.cell 2 41] (by simp only [zlf];omega) (T:=ae []) (h:=fun hcl hlt=>?_)
  clear hlt
  have hclz:(H.set id (.cells [.slice m3 1 (bys l3),.int .i64 e3])).Closed:=ax hid hcl m3 hQg.2 l3 e3
  simp only [go_sem,byq,hne,hid,hcs,hcm,hgm,onR,aj,aE,zmb,zlz,zlk,and_true,true_and,hid,onR,aj,aJ,vv,vc,fE,lW,rG,h0,h1,h2,b0,b1,A4,A8,yag,yah]
  first
   |exact ⟨hle,rfl,by repeat first|exact .refl _|refine .push ?_ _,hclz,by simp [znq,znr,znv]⟩
   |exact ⟨hle,by simp [wk,wk2,wkL,wk1,wkM,bb,aF,cm,zll],by repeat first|exact .refl _|refine .push ?_ _,hclz,dN _⟩
def rdF (k:Int) (s:RS):Option SReq × RS :=
 if k=1 then (some (pD s).1,(pD s).2) else if k=2 then (some (se s).1,(se s).2) else if k=3 then rL s else if k=4 then (some (oX s).1,(oX s).2)
 else if k=5 then (some (pm s).1,(pm s).2) else (some (pp s).1,(pp s).2)
theorem Fs (s:RS):(pD s).2.2.1.length≤s.2.1.length∧eD s.1 (pD s).2.1:=by
 obtain ⟨m,l,e⟩:=s
 unfold pD
 dsimp only
 have l0':=bz m l e 2
 have n0:=bG m l e 2
 generalize aq (m,l,e) 2=q0 at *
 obtain ⟨v0,m0,l0,e0⟩:=q0
 dsimp only at l0' n0 ⊢
 have l1':=gk m0 l0 e0
 have n1:=jG m0 l0 e0
 generalize bn (m0,l0,e0)=q1 at *
 obtain ⟨v1,m1,l1,e1⟩:=q1
 dsimp only at l1' n1 ⊢
 exact ⟨by omega,(au n0 n1)⟩
theorem FP (s:RS):(se s).2.2.1.length≤s.2.1.length∧eD s.1 (se s).2.1:=by
 exact ⟨nrq _,.inl rfl⟩
theorem FD (s:RS):(oX s).2.2.1.length≤s.2.1.length∧eD s.1 (oX s).2.1:=by
 obtain ⟨m,l,e⟩:=s
 unfold oX
 dsimp only
 have l0':=bz m l e 2
 have n0:=bG m l e 2
 generalize aq (m,l,e) 2=q0 at *
 obtain ⟨v0,m0,l0,e0⟩:=q0
 dsimp only at l0' n0 ⊢
 have l1':=bz m0 l0 e0 2
 have n1:=bG m0 l0 e0 2
 generalize aq (m0,l0,e0) 2=q1 at *
 obtain ⟨v1,m1,l1,e1⟩:=q1
 dsimp only at l1' n1 ⊢
 exact ⟨by omega,(au n0 n1)⟩
theorem Fu (s:RS):(pm s).2.2.1.length≤s.2.1.length∧eD s.1 (pm s).2.1:=by
 obtain ⟨m,l,e⟩:=s
 unfold pm
 dsimp only
 have l0':=bz m l e 2
 have n0:=bG m l e 2
 generalize aq (m,l,e) 2=q0 at *
 obtain ⟨v0,m0,l0,e0⟩:=q0
 dsimp only at l0' n0 ⊢
 have l1':=bz m0 l0 e0 4
 have n1:=bG m0 l0 e0 4
 generalize aq (m0,l0,e0) 4=q1 at *
 obtain ⟨v1,m1,l1,e1⟩:=q1
 dsimp only at l1' n1 ⊢
 have l2':=bz m1 l1 e1 2
 have n2:=bG m1 l1 e1 2
 generalize aq (m1,l1,e1) 2=q2 at *
 obtain ⟨v2,m2,l2,e2⟩:=q2
 dsimp only at l2' n2 ⊢
 exact ⟨by omega,(au (au n0 n1) n2)⟩
theorem Fq (s:RS):(pp s).2.2.1.length≤s.2.1.length∧eD s.1 (pp s).2.1:=by
 obtain ⟨m,l,e⟩:=s
 unfold pp
 dsimp only
 have l0':=bz m l e 2
 have n0:=bG m l e 2
 generalize aq (m,l,e) 2=q0 at *
 obtain ⟨v0,m0,l0,e0⟩:=q0
 dsimp only at l0' n0 ⊢
 have l1':=uk m0 l0 e0 320
 have n1:=tf m0 l0 e0 320
 generalize cW (m0,l0,e0) 320=q1 at *
 obtain ⟨v1,m1,l1,e1⟩:=q1
 dsimp only at l1' n1 ⊢
 exact ⟨by omega,(au n0 n1)⟩
theorem Gu (k:Int) (s:RS):(rdF k s).2.2.1.length≤s.2.1.length∧eD s.1 (rdF k s).2.1:=by
 unfold rdF
 (repeat' split)<;>first|exact Fs s|exact FP s|exact AS s|exact FD s|exact Fu s|exact Fq s
def rqF (s:RS):SReq × Int × RS :=
 if gl (aq s 1) 6 then (cm,2,(aq s 1).2) else if (aq s 1).2.2.2≠0 then (cm,(aq s 1).2.2.2,(aq s 1).2)
 else match rdF (aq s 1).1 (aq s 1).2 with
  |(none,t)=>(cm,2,t)
  |(some r,t)=>({ r with kind:=(aq s 1).1 },gO t,t)
theorem uI {H:AHeap} {a b:Nat}:ADefer Tryz.prog 134 [.ptr a 0,.ptr b 0] H none H:=by
 refine ADefer.of_aw ah (Ω:=[]) tNq (a:=5) (b:=2) Tryz.func134 (by rfl) (by rfl) (T:=ae []) (by kernel_rfl) (by decide) (by decide) (by simp only [Tryz.ntmps134,yaz,yba];decide) fun hcl _=>?_
 change aw _ _ _ (KI Tryz.prog [] (Aq H.nx H) []) _ _
 simp only [Option.getD_none,go_sem,D5,Em,E2]
 exact ⟨lRq _,hcl,nrq _⟩
theorem gL {H H1 X:AHeap} {cs:List AV} {r:SReq} {e:Int} {fr:Fr} (hcl:H1.Closed) (hle:H1.Le X) (h0:ai X H.nx=some cs) (h1:ai X (H.nx+1)=some [.int .i64 e]) (hl:cs.length=10) (hw:wk2 X H1 (.agg cs) (bb r))
 (f2:Fr.get fr 2=.ptr H.nx 0) (f3:Fr.get fr 3=.ptr (H.nx+1) 0) :
 xu Tryz.prog [.cell 2 41,.cell 3 43] H1 (.tup [bb r,.int .i64 e]) 134 [.ptr H.nx 0,.ptr (H.nx+1) 0] none fr X:=by
 refine ⟨_,uI,?_⟩
 have z1:(10≤cs.length)=True:=eq_true (by omega)
 have z2:cs.take 10=cs:=ybc (by omega)
 simp only [lS,qC,f2,f3,zjg,go_sem,h0,h1,zjh,TD.agg,yag,yau,one,z1,z2,yap]
 refine ⟨⟨hw,by simp [wk2,wk1],trivial⟩,hle,hcl,?_⟩
 rw [zns]
 exact ⟨dN _,by rw [znf];trivial,trivial⟩
def kZ:List AV→AHeap→(AEnd→AHeap→Prop)→Prop
 |[.ptr id 0],H,K=>onR H id fun m l e=>True∧K (.ret (.tup [bb (rqF (m,l,e)).1,.int .i64 (rqF (m,l,e)).2.1])) (H.set id (.cells (aJ (rqF (m,l,e)).2.2)))
 |_,_,_=>False
theorem mf:EntOk Tryz.prog 38 (Ent.effect kZ):=by
 refine EntOk.effect fun args H K h=>?_
 unfold kZ at h
 split at h
 rotate_left
 ·exact h.elim
 rename_i id
 obtain ⟨m,l,e,hid,hle,h⟩:=dw h
 obtain ⟨hpre,hK⟩:=h
 refine ⟨_,_,hK,?_⟩
 clear hK
 have hl0:=glq hid
 have hne:=dd hl0
 have hss:=cL hid
 have hcs:=aM hid
 have hcm:=fun cs=>@bd H id cs hl0
 have hgm:=fun o=>@bA H id o hl0
 obtain ⟨F,hF⟩:∃ F,rqF (m,l,e)=F:=⟨_,rfl⟩
 rw [hF]
 unfold rqF at hF
 have hQl:=bz m l e 1
 have hQm:=bG m l e 1
 generalize hQ:aq (m,l,e) 1=Q at *
 obtain ⟨n,m1,l1,e1⟩:=Q
 dsimp only at hQl hQm hF
 have b1:l1.length≤100000:=by omega
 have e00:((0:Int) != 0)=false:=rfl
 cases hb:gl (n,m1,l1,e1) 6
 case true =>
  rw [hb,if_pos rfl] at hF
  subst hF
  dsimp only [aJ]
  refine ACalls.of_defer ah (Ω:=[(135,Ent.effect cw),(136,Ent.pure cK),(37,Ent.pure aW),(116,Ent.effect g9),(120,Ent.effect hO),(123,Ent.effect gT),(127,Ent.effect gZ),(130,Ent.effect im),(133,Ent.effect ik),(50,Ent.pure bv)]) (tCq g8 (tCq gx (tCq cT (tCq mv (tCq mh (tCq mr (tCq mg (tCq mH (tCq mD (tCq fD tNq)))))))))) (T:=ae [(8,[[],[],[],[0,2],[0,2]])]) (d:=6) (caps:=[2,3]) Tryz.func38 (by kernel_rfl) Tryz.func134 (by kernel_rfl) (by rfl) (by rfl) (rs:=[.cell 2 41,.cell 3 43]) (by rfl) (by kernel_rfl) (by kernel_rfl) (by decide) (by simp only [Tryz.ntmps38,yaz,yba];decide) (by simp only [zlf];omega) fun hcl hlt=>?_
  have hcl3:∀ m' l' e',eD m m'→(H.set id (.cells [.slice m' 1 (bys l'),.int .i64 e'])).Closed:=fun m' l' e' h=>ax hid hcl m' h l' e'
  show aw _ _ _ (KI Tryz.prog [(135,Ent.effect cw),(136,Ent.pure cK),(37,Ent.pure aW),(116,Ent.effect g9),(120,Ent.effect hO),(123,Ent.effect gT),(127,Ent.effect gZ),(130,Ent.effect im),(133,Ent.effect ik),(50,Ent.pure bv)] (mI _ _ _ _ _ _ _ _ _ _ _) []) _ _
  simp only [go_sem,jW,j7,j5,jZ,j9,jT,bhq,Nat.reduceMod,Nat.reduceDiv,aA,az,aB,aZ,aC,aY,aS,aU,aV,yaq,yar,yao,yap,hne,hid,hcs,hcm,hgm,onR,aj,aE,zmb,zlz,zlk,and_true,true_and,hid,cw,cK,aJ,hQ,b1,hb,e00,if_true]
  refine ⟨hle,?_⟩
  refine oD (H:=H) (y:=.int .i64 0) (hcl3 _ _ _ hQm) (((lRq _).push _).push _) (by simp only [zlf];omega) ?_ ?_ rfl rfl
  ·rw [gPq _ _ (by simp only [zle,zlf];omega)]
   exact AHeap.get_push_new _ _
  ·exact AHeap.get_push_new _ _
 rw [hb,if_neg (by decide)] at hF
 by_cases he:e1=0
 case neg =>
  have d1:(e1 != 0)=true:=by simpa using he
  rw [if_pos he] at hF
  subst hF
  dsimp only [aJ]
  refine ACalls.of_defer ah (Ω:=[(135,Ent.effect cw),(136,Ent.pure cK),(37,Ent.pure aW),(116,Ent.effect g9),(120,Ent.effect hO),(123,Ent.effect gT),(127,Ent.effect gZ),(130,Ent.effect im),(133,Ent.effect ik),(50,Ent.pure bv)]) (tCq g8 (tCq gx (tCq cT (tCq mv (tCq mh (tCq mr (tCq mg (tCq mH (tCq mD (tCq fD tNq)))))))))) (T:=ae [(8,[[],[],[],[0,2],[0,2]])]) (d:=6) (caps:=[2,3]) Tryz.func38 (by kernel_rfl) Tryz.func134 (by kernel_rfl) (by rfl) (by rfl) (rs:=[.cell 2 41,.cell 3 43]) (by rfl) (by kernel_rfl) (by kernel_rfl) (by decide) (by simp only [Tryz.ntmps38,yaz,yba];decide) (by simp only [zlf];omega) fun hcl hlt=>?_
  have hcl3:∀ m' l' e',eD m m'→(H.set id (.cells [.slice m' 1 (bys l'),.int .i64 e'])).Closed:=fun m' l' e' h=>ax hid hcl m' h l' e'
  show aw _ _ _ (KI Tryz.prog [(135,Ent.effect cw),(136,Ent.pure cK),(37,Ent.pure aW),(116,Ent.effect g9),(120,Ent.effect hO),(123,Ent.effect gT),(127,Ent.effect gZ),(130,Ent.effect im),(133,Ent.effect ik),(50,Ent.pure bv)] (mI _ _ _ _ _ _ _ _ _ _ _) []) _ _
  simp only [go_sem,jW,j7,j5,jZ,j9,jT,bhq,Nat.reduceMod,Nat.reduceDiv,aA,az,aB,aZ,aC,aY,aS,aU,aV,yaq,yar,yao,yap,hne,hid,hcs,hcm,hgm,onR,aj,aE,zmb,zlz,zlk,and_true,true_and,hid,cw,cK,aJ,hQ,b1,hb,e00,if_false,Bool.false_eq_true,d1]
  refine ⟨hle,?_⟩
  refine gL (hcl3 _ _ _ hQm) (by repeat first|exact .refl _|refine .push ?_ _) (by first|(simp only [go_sem];done)|(simp only [go_sem];rfl)) (by first|(simp only [go_sem];done)|(simp only [go_sem];rfl)) rfl ?_ rfl rfl
  simp [wk2,wkL,wk1,wkM,bb,aF,cm,zll]
 subst he
 rw [if_neg (by decide)] at hF
 have hn:n=1∨n=2∨n=3∨n=4∨n=5∨n=6:=by
  simp [gl] at hb
  omega
 obtain ⟨g1,g2⟩:=Gu n (m1,l1,0)
 dsimp only at g1 g2
 generalize hG:rdF n (m1,l1,0)=G at *
 obtain ⟨go,m2,l2,e2⟩:=G
 dsimp only at g1 g2 hF
 have b2:l2.length≤100000:=by omega
 have hmm:=au hQm g2
 rcases hn with rfl|rfl|rfl|rfl|rfl|rfl
 ·have hw:IntKind.i64.wrap 0=0:=by decide
  have hg:codL.getD 0 .junk=.agg [.func (.func 113) [] [],.func (.func 114) [] [],.func (.func 116) [] []]:=rfl
  have et:((0:Int)).toNat=0:=rfl
  have hcd:codL.length=6:=rfl
  rw [show rdF 1 (m1,l1,0)=(some (pD (m1,l1,0)).1,(pD (m1,l1,0)).2) from rfl] at hG
  generalize hGk:pD (m1,l1,0)=G2 at hG
  obtain ⟨r,t⟩:=G2
  simp only [Prod.mk.injEq] at hG
  obtain ⟨rfl,rfl⟩:=hG
  dsimp only at hF
  subst hF
  dsimp only [aJ]
  refine ACalls.of_defer ah (Ω:=[(135,Ent.effect cw),(136,Ent.pure cK),(37,Ent.pure aW),(116,Ent.effect g9),(120,Ent.effect hO),(123,Ent.effect gT),(127,Ent.effect gZ),(130,Ent.effect im),(133,Ent.effect ik),(50,Ent.pure bv)]) (tCq g8 (tCq gx (tCq cT (tCq mv (tCq mh (tCq mr (tCq mg (tCq mH (tCq mD (tCq fD tNq)))))))))) (T:=ae [(8,[[],[],[],[0,2],[0,2]])]) (d:=6) (caps:=[2,3]) Tryz.func38 (by kernel_rfl) Tryz.func134 (by kernel_rfl) (by rfl) (by rfl) (rs:=[.cell 2 41,.cell 3 43]) (by rfl) (by kernel_rfl) (by kernel_rfl) (by decide) (by simp only [Tryz.ntmps38,yaz,yba];decide) (by simp only [zlf];omega) fun hcl hlt=>?_
  have hcl3:∀ m' l' e',eD m m'→(H.set id (.cells [.slice m' 1 (bys l'),.int .i64 e'])).Closed:=fun m' l' e' h=>ax hid hcl m' h l' e'
  show aw _ _ _ (KI Tryz.prog [(135,Ent.effect cw),(136,Ent.pure cK),(37,Ent.pure aW),(116,Ent.effect g9),(120,Ent.effect hO),(123,Ent.effect gT),(127,Ent.effect gZ),(130,Ent.effect im),(133,Ent.effect ik),(50,Ent.pure bv)] (mI _ _ _ _ _ _ _ _ _ _ _) []) _ _
  simp only [go_sem,jW,j7,j5,jZ,j9,jT,bhq,Nat.reduceMod,Nat.reduceDiv,aA,az,aB,aZ,aC,aY,aS,aU,aV,yaq,yar,yao,yap,hne,hid,hcs,hcm,hgm,onR,aj,aE,zmb,zlz,zlk,and_true,true_and,hid,cw,cK,aJ,hQ,b1,hb,e00,if_false,Bool.false_eq_true,aW,hw,hg,et,hcd,g9,hGk,bv,b2,bb,aF]
  refine ⟨hle,⟨by decide,by decide⟩,?_⟩
  refine gL (r:={ r with kind:=1 }) (hcl3 _ _ _ hmm) (by repeat first|exact .refl _|refine .push ?_ _) (by first|(simp only [go_sem];done)|(simp only [go_sem];rfl)) (by first|(simp only [go_sem];done)|(simp only [go_sem];rfl)) rfl ?_ rfl rfl
  simp [wk2,wkL,wk1,wkM,bb,aF,cm,zll]
 skip
 ·have hw:IntKind.i64.wrap 1=1:=by decide
  have hg:codL.getD 1 .junk=.agg [.func (.func 118) [] [],.func (.func 119) [] [],.func (.func 120) [] []]:=rfl
  have et:((1:Int)).toNat=1:=rfl
  have hcd:codL.length=6:=rfl
  rw [show rdF 2 (m1,l1,0)=(some (se (m1,l1,0)).1,(se (m1,l1,0)).2) from rfl] at hG
  generalize hGk:se (m1,l1,0)=G2 at hG
  obtain ⟨r,t⟩:=G2
  simp only [Prod.mk.injEq] at hG
  obtain ⟨rfl,rfl⟩:=hG
  dsimp only at hF
  subst hF
  dsimp only [aJ]
  refine ACalls.of_defer ah (Ω:=[(135,Ent.effect cw),(136,Ent.pure cK),(37,Ent.pure aW),(116,Ent.effect g9),(120,Ent.effect hO),(123,Ent.effect gT),(127,Ent.effect gZ),(130,Ent.effect im),(133,Ent.effect ik),(50,Ent.pure bv)]) (tCq g8 (tCq gx (tCq cT (tCq mv (tCq mh (tCq mr (tCq mg (tCq mH (tCq mD (tCq fD tNq)))))))))) (T:=ae [(8,[[],[],[],[0,2],[0,2]])]) (d:=6) (caps:=[2,3]) Tryz.func38 (by kernel_rfl) Tryz.func134 (by kernel_rfl) (by rfl) (by rfl) (rs:=[.cell 2 41,.cell 3 43]) (by rfl) (by kernel_rfl) (by kernel_rfl) (by decide) (by simp only [Tryz.ntmps38,yaz,yba];decide) (by simp only [zlf];omega) fun hcl hlt=>?_
  have hcl3:∀ m' l' e',eD m m'→(H.set id (.cells [.slice m' 1 (bys l'),.int .i64 e'])).Closed:=fun m' l' e' h=>ax hid hcl m' h l' e'
  show aw _ _ _ (KI Tryz.prog [(135,Ent.effect cw),(136,Ent.pure cK),(37,Ent.pure aW),(116,Ent.effect g9),(120,Ent.effect hO),(123,Ent.effect gT),(127,Ent.effect gZ),(130,Ent.effect im),(133,Ent.effect ik),(50,Ent.pure bv)] (mI _ _ _ _ _ _ _ _ _ _ _) []) _ _
  simp only [go_sem,jW,j7,j5,jZ,j9,jT,bhq,Nat.reduceMod,Nat.reduceDiv,aA,az,aB,aZ,aC,aY,aS,aU,aV,yaq,yar,yao,yap,hne,hid,hcs,hcm,hgm,onR,aj,aE,zmb,zlz,zlk,and_true,true_and,hid,cw,cK,aJ,hQ,b1,hb,e00,if_false,Bool.false_eq_true,aW,hw,hg,et,hcd,hO,hGk,bv,b2,bb,aF]
  refine ⟨hle,⟨by decide,by decide⟩,?_⟩
  refine gL (r:={ r with kind:=2 }) (hcl3 _ _ _ hmm) (by repeat first|exact .refl _|refine .push ?_ _) (by first|(simp only [go_sem];done)|(simp only [go_sem];rfl)) (by first|(simp only [go_sem];done)|(simp only [go_sem];rfl)) rfl ?_ rfl rfl
  simp [wk2,wkL,wk1,wkM,bb,aF,cm,zll]
 skip
 ·have hw:IntKind.i64.wrap 2=2:=by decide
  have hg:codL.getD 2 .junk=.agg [.func (.func 121) [] [],.func (.func 122) [] [],.func (.func 123) [] []]:=rfl
  have et:((2:Int)).toNat=2:=rfl
  have hcd:codL.length=6:=rfl
  rw [show rdF 3 (m1,l1,0)=rL (m1,l1,0) from rfl] at hG
  cases go
  case none =>
   dsimp only at hF
   subst hF
   dsimp only [aJ]
   refine ACalls.of_defer ah (Ω:=[(135,Ent.effect cw),(136,Ent.pure cK),(37,Ent.pure aW),(116,Ent.effect g9),(120,Ent.effect hO),(123,Ent.effect gT),(127,Ent.effect gZ),(130,Ent.effect im),(133,Ent.effect ik),(50,Ent.pure bv)]) (tCq g8 (tCq gx (tCq cT (tCq mv (tCq mh (tCq mr (tCq mg (tCq mH (tCq mD (tCq fD tNq)))))))))) (T:=ae [(8,[[],[],[],[0,2],[0,2]])]) (d:=6) (caps:=[2,3]) Tryz.func38 (by kernel_rfl) Tryz.func134 (by kernel_rfl) (by rfl) (by rfl) (rs:=[.cell 2 41,.cell 3 43]) (by rfl) (by kernel_rfl) (by kernel_rfl) (by decide) (by simp only [Tryz.ntmps38,yaz,yba];decide) (by simp only [zlf];omega) fun hcl hlt=>?_
   have hcl3:∀ m' l' e',eD m m'→(H.set id (.cells [.slice m' 1 (bys l'),.int .i64 e'])).Closed:=fun m' l' e' h=>ax hid hcl m' h l' e'
   show aw _ _ _ (KI Tryz.prog [(135,Ent.effect cw),(136,Ent.pure cK),(37,Ent.pure aW),(116,Ent.effect g9),(120,Ent.effect hO),(123,Ent.effect gT),(127,Ent.effect gZ),(130,Ent.effect im),(133,Ent.effect ik),(50,Ent.pure bv)] (mI _ _ _ _ _ _ _ _ _ _ _) []) _ _
   simp only [go_sem,jW,j7,j5,jZ,j9,jT,bhq,Nat.reduceMod,Nat.reduceDiv,aA,az,aB,aZ,aC,aY,aS,aU,aV,yaq,yar,yao,yap,hne,hid,hcs,hcm,hgm,onR,aj,aE,zmb,zlz,zlk,and_true,true_and,hid,cw,cK,aJ,hQ,b1,hb,e00,if_false,Bool.false_eq_true,aW,hw,hg,et,hcd,gT,hG,A8,bv,b2]
   refine ⟨hle,⟨by decide,by decide⟩,?_⟩
   refine oD (H:=H) (y:=.int .i64 0) (hcl3 _ _ _ hmm) (((lRq _).push _).push _) (by simp only [zlf];omega) ?_ ?_ rfl rfl
   ·rw [gPq _ _ (by simp only [zle,zlf];omega)]
    exact AHeap.get_push_new _ _
   ·exact AHeap.get_push_new _ _
  case some r =>
   dsimp only at hF
   subst hF
   dsimp only [aJ]
   refine ACalls.of_defer ah (Ω:=[(135,Ent.effect cw),(136,Ent.pure cK),(37,Ent.pure aW),(116,Ent.effect g9),(120,Ent.effect hO),(123,Ent.effect gT),(127,Ent.effect gZ),(130,Ent.effect im),(133,Ent.effect ik),(50,Ent.pure bv)]) (tCq g8 (tCq gx (tCq cT (tCq mv (tCq mh (tCq mr (tCq mg (tCq mH (tCq mD (tCq fD tNq)))))))))) (T:=ae [(8,[[],[],[],[0,2],[0,2]])]) (d:=6) (caps:=[2,3]) Tryz.func38 (by kernel_rfl) Tryz.func134 (by kernel_rfl) (by rfl) (by rfl) (rs:=[.cell 2 41,.cell 3 43]) (by rfl) (by kernel_rfl) (by kernel_rfl) (by decide) (by simp only [Tryz.ntmps38,yaz,yba];decide) (by simp only [zlf];omega) fun hcl hlt=>?_
   have hcl3:∀ m' l' e',eD m m'→(H.set id (.cells [.slice m' 1 (bys l'),.int .i64 e'])).Closed:=fun m' l' e' h=>ax hid hcl m' h l' e'
   show aw _ _ _ (KI Tryz.prog [(135,Ent.effect cw),(136,Ent.pure cK),(37,Ent.pure aW),(116,Ent.effect g9),(120,Ent.effect hO),(123,Ent.effect gT),(127,Ent.effect gZ),(130,Ent.effect im),(133,Ent.effect ik),(50,Ent.pure bv)] (mI _ _ _ _ _ _ _ _ _ _ _) []) _ _
   simp only [go_sem,jW,j7,j5,jZ,j9,jT,bhq,Nat.reduceMod,Nat.reduceDiv,aA,az,aB,aZ,aC,aY,aS,aU,aV,yaq,yar,yao,yap,hne,hid,hcs,hcm,hgm,onR,aj,aE,zmb,zlz,zlk,and_true,true_and,hid,cw,cK,aJ,hQ,b1,hb,e00,if_false,Bool.false_eq_true,aW,hw,hg,et,hcd,gT,hG,A8,bv,b2,bb,aF]
   refine ⟨hle,⟨by decide,by decide⟩,?_⟩
   refine gL (r:={ r with kind:=3 }) (hcl3 _ _ _ hmm) (by repeat first|exact .refl _|refine .push ?_ _) (by first|(simp only [go_sem];done)|(simp only [go_sem];rfl)) (by first|(simp only [go_sem];done)|(simp only [go_sem];rfl)) rfl ?_ rfl rfl
   simp [wk2,wkL,wk1,wkM,bb,aF,cm,zll]
 skip
 ·have hw:IntKind.i64.wrap 3=3:=by decide
  have hg:codL.getD 3 .junk=.agg [.func (.func 125) [] [],.func (.func 126) [] [],.func (.func 127) [] []]:=rfl
  have et:((3:Int)).toNat=3:=rfl
  have hcd:codL.length=6:=rfl
  rw [show rdF 4 (m1,l1,0)=(some (oX (m1,l1,0)).1,(oX (m1,l1,0)).2) from rfl] at hG
  generalize hGk:oX (m1,l1,0)=G2 at hG
  obtain ⟨r,t⟩:=G2
  simp only [Prod.mk.injEq] at hG
  obtain ⟨rfl,rfl⟩:=hG
  dsimp only at hF
  subst hF
  dsimp only [aJ]
  refine ACalls.of_defer ah (Ω:=[(135,Ent.effect cw),(136,Ent.pure cK),(37,Ent.pure aW),(116,Ent.effect g9),(120,Ent.effect hO),(123,Ent.effect gT),(127,Ent.effect gZ),(130,Ent.effect im),(133,Ent.effect ik),(50,Ent.pure bv)]) (tCq g8 (tCq gx (tCq cT (tCq mv (tCq mh (tCq mr (tCq mg (tCq mH (tCq mD (tCq fD tNq)))))))))) (T:=ae [(8,[[],[],[],[0,2],[0,2]])]) (d:=6) (caps:=[2,3]) Tryz.func38 (by kernel_rfl) Tryz.func134 (by kernel_rfl) (by rfl) (by rfl) (rs:=[.cell 2 41,.cell 3 43]) (by rfl) (by kernel_rfl) (by kernel_rfl) (by decide) (by simp only [Tryz.ntmps38,yaz,yba];decide) (by simp only [zlf];omega) fun hcl hlt=>?_
  have hcl3:∀ m' l' e',eD m m'→(H.set id (.cells [.slice m' 1 (bys l'),.int .i64 e'])).Closed:=fun m' l' e' h=>ax hid hcl m' h l' e'
  show aw _ _ _ (KI Tryz.prog [(135,Ent.effect cw),(136,Ent.pure cK),(37,Ent.pure aW),(116,Ent.effect g9),(120,Ent.effect hO),(123,Ent.effect gT),(127,Ent.effect gZ),(130,Ent.effect im),(133,Ent.effect ik),(50,Ent.pure bv)] (mI _ _ _ _ _ _ _ _ _ _ _) []) _ _
  simp only [go_sem,jW,j7,j5,jZ,j9,jT,bhq,Nat.reduceMod,Nat.reduceDiv,aA,az,aB,aZ,aC,aY,aS,aU,aV,yaq,yar,yao,yap,hne,hid,hcs,hcm,hgm,onR,aj,aE,zmb,zlz,zlk,and_true,true_and,hid,cw,cK,aJ,hQ,b1,hb,e00,if_false,Bool.false_eq_true,aW,hw,hg,et,hcd,gZ,hGk,bv,b2,bb,aF]
  refine ⟨hle,⟨by decide,by decide⟩,?_⟩
  refine gL (r:={ r with kind:=4 }) (hcl3 _ _ _ hmm) (by repeat first|exact .refl _|refine .push ?_ _) (by first|(simp only [go_sem];done)|(simp only [go_sem];rfl)) (by first|(simp only [go_sem];done)|(simp only [go_sem];rfl)) rfl ?_ rfl rfl
  simp [wk2,wkL,wk1,wkM,bb,aF,cm,zll]
 skip
 ·have hw:IntKind.i64.wrap 4=4:=by decide
  have hg:codL.getD 4 .junk=.agg [.func (.func 128) [] [],.func (.func 129) [] [],.func (.func 130) [] []]:=rfl
  have et:((4:Int)).toNat=4:=rfl
  have hcd:codL.length=6:=rfl
  rw [show rdF 5 (m1,l1,0)=(some (pm (m1,l1,0)).1,(pm (m1,l1,0)).2) from rfl] at hG
  generalize hGk:pm (m1,l1,0)=G2 at hG
  obtain ⟨r,t⟩:=G2
  simp only [Prod.mk.injEq] at hG
  obtain ⟨rfl,rfl⟩:=hG
  dsimp only at hF
  subst hF
  dsimp only [aJ]
  refine ACalls.of_defer ah (Ω:=[(135,Ent.effect cw),(136,Ent.pure cK),(37,Ent.pure aW),(116,Ent.effect g9),(120,Ent.effect hO),(123,Ent.effect gT),(127,Ent.effect gZ),(130,Ent.effect im),(133,Ent.effect ik),(50,Ent.pure bv)]) (tCq g8 (tCq gx (tCq cT (tCq mv (tCq mh (tCq mr (tCq mg (tCq mH (tCq mD (tCq fD tNq)))))))))) (T:=ae [(8,[[],[],[],[0,2],[0,2]])]) (d:=6) (caps:=[2,3]) Tryz.func38 (by kernel_rfl) Tryz.func134 (by kernel_rfl) (by rfl) (by rfl) (rs:=[.cell 2 41,.cell 3 43]) (by rfl) (by kernel_rfl) (by kernel_rfl) (by decide) (by simp only [Tryz.ntmps38,yaz,yba];decide) (by simp only [zlf];omega) fun hcl hlt=>?_
  have hcl3:∀ m' l' e',eD m m'→(H.set id (.cells [.slice m' 1 (bys l'),.int .i64 e'])).Closed:=fun m' l' e' h=>ax hid hcl m' h l' e'
  show aw _ _ _ (KI Tryz.prog [(135,Ent.effect cw),(136,Ent.pure cK),(37,Ent.pure aW),(116,Ent.effect g9),(120,Ent.effect hO),(123,Ent.effect gT),(127,Ent.effect gZ),(130,Ent.effect im),(133,Ent.effect ik),(50,Ent.pure bv)] (mI _ _ _ _ _ _ _ _ _ _ _) []) _ _
  simp only [go_sem,jW,j7,j5,jZ,j9,jT,bhq,Nat.reduceMod,Nat.reduceDiv,aA,az,aB,aZ,aC,aY,aS,aU,aV,yaq,yar,yao,yap,hne,hid,hcs,hcm,hgm,onR,aj,aE,zmb,zlz,zlk,and_true,true_and,hid,cw,cK,aJ,hQ,b1,hb,e00,if_false,Bool.false_eq_true,aW,hw,hg,et,hcd,im,hGk,bv,b2,bb,aF]
  refine ⟨hle,⟨by decide,by decide⟩,?_⟩
  refine gL (r:={ r with kind:=5 }) (hcl3 _ _ _ hmm) (by repeat first|exact .refl _|refine .push ?_ _) (by first|(simp only [go_sem];done)|(simp only [go_sem];rfl)) (by first|(simp only [go_sem];done)|(simp only [go_sem];rfl)) rfl ?_ rfl rfl
  simp [wk2,wkL,wk1,wkM,bb,aF,cm,zll]
 skip
 ·have hw:IntKind.i64.wrap 5=5:=by decide
  have hg:codL.getD 5 .junk=.agg [.func (.func 131) [] [],.func (.func 132) [] [],.func (.func 133) [] []]:=rfl
  have et:((5:Int)).toNat=5:=rfl
  have hcd:codL.length=6:=rfl
  rw [show rdF 6 (m1,l1,0)=(some (pp (m1,l1,0)).1,(pp (m1,l1,0)).2) from rfl] at hG
  generalize hGk:pp (m1,l1,0)=G2 at hG
  obtain ⟨r,t⟩:=G2
  simp only [Prod.mk.injEq] at hG
  obtain ⟨rfl,rfl⟩:=hG
  dsimp only at hF
  subst hF
  dsimp only [aJ]
  refine ACalls.of_defer ah (Ω:=[(135,Ent.effect cw),(136,Ent.pure cK),(37,Ent.pure aW),(116,Ent.effect g9),(120,Ent.effect hO),(123,Ent.effect gT),(127,Ent.effect gZ),(130,Ent.effect im),(133,Ent.effect ik),(50,Ent.pure bv)]) (tCq g8 (tCq gx (tCq cT (tCq mv (tCq mh (tCq mr (tCq mg (tCq mH (tCq mD (tCq fD tNq)))))))))) (T:=ae [(8,[[],[],[],[0,2],[0,2]])]) (d:=6) (caps:=[2,3]) Tryz.func38 (by kernel_rfl) Tryz.func134 (by kernel_rfl) (by rfl) (by rfl) (rs:=[.cell 2 41,.cell 3 43]) (by rfl) (by kernel_rfl) (by kernel_rfl) (by decide) (by simp only [Tryz.ntmps38,yaz,yba];decide) (by simp only [zlf];omega) fun hcl hlt=>?_
  have hcl3:∀ m' l' e',eD m m'→(H.set id (.cells [.slice m' 1 (bys l'),.int .i64 e'])).Closed:=fun m' l' e' h=>ax hid hcl m' h l' e'
  show aw _ _ _ (KI Tryz.prog [(135,Ent.effect cw),(136,Ent.pure cK),(37,Ent.pure aW),(116,Ent.effect g9),(120,Ent.effect hO),(123,Ent.effect gT),(127,Ent.effect gZ),(130,Ent.effect im),(133,Ent.effect ik),(50,Ent.pure bv)] (mI _ _ _ _ _ _ _ _ _ _ _) []) _ _
  simp only [go_sem,jW,j7,j5,jZ,j9,jT,bhq,Nat.reduceMod,Nat.reduceDiv,aA,az,aB,aZ,aC,aY,aS,aU,aV,yaq,yar,yao,yap,hne,hid,hcs,hcm,hgm,onR,aj,aE,zmb,zlz,zlk,and_true,true_and,hid,cw,cK,aJ,hQ,b1,hb,e00,if_false,Bool.false_eq_true,aW,hw,hg,et,hcd,ik,hGk,bv,b2,bb,aF]
  refine ⟨hle,⟨by decide,by decide⟩,?_⟩
  refine gL (r:={ r with kind:=6 }) (hcl3 _ _ _ hmm) (by repeat first|exact .refl _|refine .push ?_ _) (by first|(simp only [go_sem];done)|(simp only [go_sem];rfl)) (by first|(simp only [go_sem];done)|(simp only [go_sem];rfl)) rfl ?_ rfl rfl
  simp [wk2,wkL,wk1,wkM,bb,aF,cm,zll]
def sb (b:List UInt8):SReq × Int :=
 if 8000<b.length then (cm,3) else if (rqF (.any,b,0)).2.1≠0 then (cm,(rqF (.any,b,0)).2.1) else ((rqF (.any,b,0)).1,0)
def sj:List AV→AHeap→(AV→Prop)→Prop
 |[.slice _ 1 l],_,K=>∃ b:List UInt8,(l=bys b∧b.length≤100000)∧K (.tup [bb (sb b).1,.int .i64 (sb b).2])
 |_,_,_=>False
theorem DB:EntOk Tryz.prog 10 (Ent.pure sj):=by
 refine Ype fun _ H K h=>?_
 unfold sj at h
 split at h
 rotate_left
 ·exact h.elim
 rename_i m l
 obtain ⟨b,⟨rfl,hb⟩,hK⟩:=h
 refine ⟨_,hK,?_⟩
 clear hK
 obtain ⟨D,hD⟩:∃ D,sb b=D:=⟨_,rfl⟩
 rw [hD]
 unfold sb at hD
 obtain ⟨r,e,t⟩:∃ r e t,rqF (.any,b,0)=(r,e,t):=⟨_,_,_,rfl⟩
 obtain ⟨s,hq⟩:=t
 rw [hq] at hD
 dsimp only at hD
 by_cases h1:8000<b.length
 ·have d1:decide ((b.length:Int) > 8000)=true:=dtq (by omega)
  rw [if_pos h1] at hD
  subst hD
  refine ACalls.fW ah (tCq wE (tCq mf tNq)) Tryz.func10 [.cell 2 41,.tmp 3] (nrq _) (T:=ae []) (h:=fun hcl hlt=>?_)
  clear hlt
  simp only [go_sem,byq,d1]
  refine ⟨?_,by repeat first|exact .refl _|refine .push ?_ _,hcl,?_⟩
  ·simp [wk,ak,wk2,wkL,wk1,wkM,bb,aF,cm,zll]
  ·rw [zns]
   exact ⟨dN _,by rw [znf];trivial,trivial⟩
 have d1:decide ((b.length:Int) > 8000)=false:=dfq (by omega)
 rw [if_neg h1] at hD
 by_cases h2:e=0
 ·have d2:(e != 0)=false:=by rw [h2];rfl
  rw [if_neg (by rw [h2];decide)] at hD
  subst hD
  refine ACalls.fW ah (tCq wE (tCq mf tNq)) Tryz.func10 [.cell 2 41,.tmp 3] (nrq _) (T:=ae []) (h:=fun hcl hlt=>?_)
  clear hlt
  simp only [go_sem,byq,d1,yG,kZ,onR,aj,hq,bb,aF]
  refine ⟨by omega,by omega,?_⟩
  try simp only [go_sem,byq,d2]
  refine ⟨?_,by repeat first|exact .refl _|refine .push ?_ _,hcl,?_⟩
  ·simp [wk,ak,wk2,wkL,wk1,wkM,bb,aF,zll]
  ·rw [zns]
   exact ⟨dN _,by rw [znf];trivial,trivial⟩
 ·have d2:(e != 0)=true:=by simpa using h2
  rw [if_pos h2] at hD
  subst hD
  refine ACalls.fW ah (tCq wE (tCq mf tNq)) Tryz.func10 [.cell 2 41,.tmp 3] (nrq _) (T:=ae []) (h:=fun hcl hlt=>?_)
  clear hlt
  simp only [go_sem,byq,d1,yG,kZ,onR,aj,hq,bb,aF]
  refine ⟨by omega,by omega,?_⟩
  try simp only [go_sem,byq,d2]
  refine ⟨?_,by repeat first|exact .refl _|refine .push ?_ _,hcl,?_⟩
  ·simp [wk,ak,wk2,wkL,wk1,wkM,bb,aF,cm,zll]
  ·rw [zns]
   exact ⟨dN _,by rw [znf];trivial,trivial⟩
theorem jg {m:Mark} (h:eD .any m):m=.any:=by
 rcases h with h|h
 ·exact h
 ·exact h
theorem pP {m m':Mark} {l l':List UInt8} {e w v e':Int} (h:aq (m,l,e) w=(v,m',l',e')):eD m m':=by
 have a1:=bG m l e w
 rw [h] at a1;exact a1
theorem vO {m m':Mark} {l l':List UInt8} {e w v e':Int} (h:bf (m,l,e) w=(v,m',l',e')):eD m m':=by
 have a1:=kr m l e w
 rw [h] at a1;exact a1
theorem Hd {r:SReq} (hv:1≤r.kind∧r.kind≤6) (hk:r.ups.all kOK=true) (hu:gV r=r) (hn:oH r=true) (hl:r.ups.length≤32) (hd:r.data.length≤320) (hw:(bI r).length≤8000):ig r=(bI r,0):=by
 have hp:gU r=true:=by
  rw [rU,Bool.and_eq_true]
  refine ⟨?_,(lZ _ _).2 hu⟩
  unfold okR Av
  rw [Bool.and_eq_true]
  exact ⟨dtq hv,hk⟩
 have hb:=F0 hp hl
 rw [hn] at hb
 unfold ig
 rw [if_neg (by rw [hp];decide),if_neg (by omega),if_neg (by rw [hb];decide),if_neg (by omega)]
theorem Fh {r:SReq} (hv:1≤r.kind∧r.kind≤6):bI r≠[]:=by
 obtain ⟨x,_,hx⟩:=Iz (eE hv.1 hv.2)
 unfold bI
 rw [hx];simp
theorem ow:∀ k,rg (Bg k) 2=true
 |0|1|2|3|4=>rfl
 |n+5=>rfl
theorem uv {b:List UInt8} {u n:Nat}:rg ((cv b u n:Nat):Int) 2=true:=by
 have:=oZ (b:=b) (v:=u) (n:=n)
 exact dtq ⟨by omega,by show ((cv b u n:Nat):Int)<65536;omega⟩
theorem G3 {b:List UInt8} {u n:Nat}:rg ((cv b u n:Nat):Int) 4=true:=by
 have:=oZ (b:=b) (v:=u) (n:=n)
 exact dtq ⟨by omega,by show ((cv b u n:Nat):Int)<4294967296;omega⟩
theorem wz {e:SEntry} (h:WOk e):rgE e=true:=by
 have r2:∀ n:Int,0≤n→n≤65535→rg n 2=true:=fun n h1 h2=>dtq ⟨h1,by show n<65536;omega⟩
 unfold rgE
 rw [r2 _ h.t0 h.t1,r2 _ h.p0 h.p1,r2 _ h.a0 h.a1,dtq h.ml,dtq h.al]
 simp only [Bool.true_and]
 rw [List.all_eq_true]
 intro m hm
 have w:=h.mo m hm
 unfold rgM
 rw [show rg m.pfx 1=true from dtq ⟨w.p0,by show m.pfx<256;have:=w.p1;omega⟩]
 cases hp:m.present
 ·rw [w.no hp];rfl
 ·rfl
theorem DH {S:Sch} (hG:GenS S) (hS:SSm S) {b:List UInt8} {v:Nat}:kOK (p8 S b v).1=true∧rgE (p8 S b v).1.2=true:=by
 have h:=sY hG hS (b:=b) (v:=cp v 2) (n:=(cv b (cp v 1) 4:Nat))
 have h4:=cn (b:=b) (v:=cp v 0) (n:=4) (by decide)
 have hk:∀ k,k<4→1≤u9 k∧u9 k≤3:=fun k hk=>by
  match k,hk with
  |0,_|1,_|2,_|3,_=>exact ⟨by decide,by decide⟩
 unfold p8
 dsimp only
 refine ⟨dtq (hk _ h4),?_⟩
 split
 ·exact wz ⟨h.t0,h.t1,h.p0,h.p1,Int.le_refl _,by show (0:Int)≤65535;decide,h.ml,Nat.zero_le _,h.mo,fun x hx=>by cases hx⟩
 ·exact wz h
theorem xM {S:Sch} (hG:GenS S) (hS:SSm S) {b:List UInt8}:∀ (n v:Nat),∀ u∈(pf S b n v).1,kOK u=true∧rgE u.2=true
 |0,v=>fun u hu=>by cases hu
 |n+1,v=>fun u hu=>by
  simp only [pf,List.mem_cons] at hu
  rcases hu with rfl|hu
  ·exact DH hG hS
  ·exact xM hG hS n _ u hu
theorem Du {S:Sch} (hG:GenS S) (hS:SSm S) {b:List UInt8} {v:Nat}:∃ W,ig (jj S b v).1=(W,0)∧W≠[]∧W.length≤8000:=by
 have hr:=Bm hG (b:=b) (v:=v)
 have hlb:=fun k=>qU k hr.1
 suffices h:(1≤(jj S b v).1.kind∧(jj S b v).1.kind≤6)∧(jj S b v).1.ups.all kOK=true∧gV (jj S b v).1=(jj S b v).1∧oH (jj S b v).1=true∧(jj S b v).1.ups.length≤5∧(jj S b v).1.data.length≤13 by
  obtain ⟨h1,h2,h3,h4,h5,h6⟩:=h
  have hw:(bI (jj S b v).1).length≤8000:=by
   have ln:=fun n w=>bW n w
   have lv:=cM hr.1.el
   have lb:(ge (jj S b v).1.data).length≤100:=by
    unfold ge
    rw [lAq,ny,List.length_take]
    omega
   have lu:=mt _ hr.1.uo
   have a0:=ln (jj S b v).1.kind 1
   have a1:=ln (jj S b v).1.role 2
   have a2:=ln (jj S b v).1.ups.length 2
   have a3:=ln (jj S b v).1.table 2
   have a4:=ln (jj S b v).1.frm 4
   have a5:=ln (jj S b v).1.count 2
   have a6:=ln (jj S b v).1.port 2
   unfold bI cd
   (repeat' split)<;>simp only [lAq,yba]<;>omega
  exact ⟨_,Hd h1 h2 h3 h4 (by omega) (by omega) hw,Fh h1,hw⟩
 obtain ⟨g1,g2⟩:=wB hG (b:=b) (cv b (cp v 3) 5) (cp v 4)
 have g3:=xM hG hS (b:=b) (cv b (cp v 3) 5) (cp v 4)
 have h5:=cn (b:=b) (v:=cp v 3) (n:=5) (by decide)
 have hf:=tu (b:=b) (v:=min (cp v 3) b.length)
 have r0:rg 0 2=true:=rg0 2
 have r04:rg 0 4=true:=rg0 4
 unfold jj
 dsimp only
 repeat' split
 ·exact ⟨⟨by show (1:Int)≤1;decide,by show (1:Int)≤6;decide⟩,rfl,rfl,by simp [oH,ow,r0,r04,cm],Nat.zero_le _,Nat.zero_le _⟩
 ·refine ⟨⟨by show (1:Int)≤3;decide,by show (3:Int)≤6;decide⟩,List.all_eq_true.2 fun u hu=>(g3 u hu).1,rfl,?_,by dsimp only;omega,Nat.zero_le _⟩
  simp only [oH,cm,List.all_cons,List.all_nil,ow,r0,r04,Bool.and_true,Bool.true_and]
  exact List.all_eq_true.2 fun u hu=>(g3 u hu).2
 ·exact ⟨⟨by show (1:Int)≤4;decide,by show (4:Int)≤6;decide⟩,rfl,rfl,by simp [oH,ow,r0,r04,cm,uv],Nat.zero_le _,Nat.zero_le _⟩
 ·exact ⟨⟨by show (1:Int)≤5;decide,by show (5:Int)≤6;decide⟩,rfl,rfl,by simp [oH,ow,r0,r04,cm,uv,G3],Nat.zero_le _,Nat.zero_le _⟩
 ·exact ⟨⟨by show (1:Int)≤6;decide,by show (6:Int)≤6;decide⟩,rfl,rfl,by simp [oH,ow,r0,r04,cm,uv],Nat.zero_le _,by dsimp only;omega⟩
 ·exact ⟨⟨by show (1:Int)≤2;decide,by show (2:Int)≤6;decide⟩,rfl,rfl,by simp [oH,ow,r0,r04,cm],Nat.zero_le _,Nat.zero_le _⟩
end Go.AL
