/- Lemmas of the proof; no condition. -/
import Derived.Test.YtpbnggedofiinaaGreatM20a
import Derived.Test.YtpbnggedofiinaaGreatM20j
set_option linter.all false
set_option maxRecDepth 10000
set_option maxHeartbeats 32000000
open List renaming length_cons → yaz, length_nil → yba, take_of_length_le → ybc, drop_append → ybd, take_append → ybe, drop_eq_nil_of_le → ybf, take_succ_cons → yaq, take_zero → yar, drop_succ_cons → yao, drop_zero → yap, length_map → ybb, nil_append → yak, map_cons → yae, map_nil → yaf, cons_append → yal, append_nil → yaj
open Go Go.AL Go.Proofs
namespace Go.AL
def fj (r:SRec):List UInt8:=aa r.num 4++aa r.ctl 1++aa r.role 2++aa r.kind 1++aa r.code 1++aa r.fail 2++aa r.upd 2
def gt (r:SRec):Bool:=!rg r.num 4||!rg r.ctl 1||!rg r.role 2||!rg r.kind 1||!rg r.code 1||!rg r.fail 2||!rg r.upd 2
def Au:List AV→AHeap→(AEnd→AHeap→Prop)→Prop
 |[.ptr id 0,.agg l],H,K=>∃ q b wr r,(WOn H id q b wr∧l=mU r∧b.length≤1000000)∧K (.ret (.tup [])) (wrH H id q (b++fj r) (wr||gt r))
 |_,_,_=>False
theorem F6:EntOk Tryz.prog 42 (Ent.effect Au):=by
 refine EntOk.effect fun args H K h=>?_
 unfold Au at h
 split at h
 rotate_left
 ·exact h.elim
 rename_i id l
 obtain ⟨q,b,wr,r,⟨hW,rfl,hb⟩,hK⟩:=h
 refine ⟨_,_,hK,?_⟩
 clear hK
 have hid:=glq hW.o
 have hq:=glq hW.bu
 have ln:=fun n w=>bW n w
 refine ACalls.fW ah (tCq ip tNq) Tryz.func42 [] (by rw [bC];omega) (T:=ae []) (h:=fun hcl hlt=>?_)
 clear hlt
 have hcl1:=hW.closed (b':=b++fj r) (wr':=wr||gt r) hcl
 simp only [go_sem,byq,mU,cx]
 refine ⟨q,(b),(wr),(hW).push _,?_⟩
 rw [cN ?_ ?_]
 rotate_left
 ·exact hid
 ·exact hq
 have hl0:((b++aa r.num 4)).length≤1000010:=by simp only [lAq] at *;have:=ln r.num 4;omega
 have hW0:WOn (wrH H id q (b++aa r.num 4) (wr||!rg r.num 4)) id q (b++aa r.num 4) (wr||!rg r.num 4):=hW.next (by omega)
 simp only [go_sem,byq,bC,mU,cx]
 refine ⟨q,((b++aa r.num 4)),((wr||!rg r.num 4)),(hW0).push _,?_⟩
 rw [cN ?_ ?_]
 rotate_left
 ·exact hid
 ·exact hq
 rw [bP hW.ne]
 have hl1:(((b++aa r.num 4)++aa r.ctl 1)).length≤1000020:=by simp only [lAq] at *;have:=ln r.ctl 1;omega
 have hW1:WOn (wrH H id q ((b++aa r.num 4)++aa r.ctl 1) ((wr||!rg r.num 4)||!rg r.ctl 1)) id q ((b++aa r.num 4)++aa r.ctl 1) ((wr||!rg r.num 4)||!rg r.ctl 1):=hW.next (by omega)
 simp only [go_sem,byq,bC,mU,cx]
 refine ⟨q,(((b++aa r.num 4)++aa r.ctl 1)),(((wr||!rg r.num 4)||!rg r.ctl 1)),(hW1).push _,?_⟩
 rw [cN ?_ ?_]
 rotate_left
 ·exact hid
 ·exact hq
 rw [bP hW.ne]
 have hl2:((((b++aa r.num 4)++aa r.ctl 1)++aa r.role 2)).length≤1000030:=by simp only [lAq] at *;have:=ln r.role 2;omega
 have hW2:WOn (wrH H id q (((b++aa r.num 4)++aa r.ctl 1)++aa r.role 2) (((wr||!rg r.num 4)||!rg r.ctl 1)||!rg r.role 2)) id q (((b++aa r.num 4)++aa r.ctl 1)++aa r.role 2) (((wr||!rg r.num 4)||!rg r.ctl 1)||!rg r.role 2):=hW.next (by omega)
 simp only [go_sem,byq,bC,mU,cx]
 refine ⟨q,((((b++aa r.num 4)++aa r.ctl 1)++aa r.role 2)),((((wr||!rg r.num 4)||!rg r.ctl 1)||!rg r.role 2)),(hW2).push _,?_⟩
 rw [cN ?_ ?_]
 rotate_left
 ·exact hid
 ·exact hq
 rw [bP hW.ne]
 have hl3:(((((b++aa r.num 4)++aa r.ctl 1)++aa r.role 2)++aa r.kind 1)).length≤1000040:=by simp only [lAq] at *;have:=ln r.kind 1;omega
 have hW3:WOn (wrH H id q ((((b++aa r.num 4)++aa r.ctl 1)++aa r.role 2)++aa r.kind 1) ((((wr||!rg r.num 4)||!rg r.ctl 1)||!rg r.role 2)||!rg r.kind 1)) id q ((((b++aa r.num 4)++aa r.ctl 1)++aa r.role 2)++aa r.kind 1) ((((wr||!rg r.num 4)||!rg r.ctl 1)||!rg r.role 2)||!rg r.kind 1):=hW.next (by omega)
 simp only [go_sem,byq,bC,mU,cx]
 refine ⟨q,(((((b++aa r.num 4)++aa r.ctl 1)++aa r.role 2)++aa r.kind 1)),(((((wr||!rg r.num 4)||!rg r.ctl 1)||!rg r.role 2)||!rg r.kind 1)),(hW3).push _,?_⟩
 rw [cN ?_ ?_]
 rotate_left
 ·exact hid
 ·exact hq
 rw [bP hW.ne]
 have hl4:((((((b++aa r.num 4)++aa r.ctl 1)++aa r.role 2)++aa r.kind 1)++aa r.code 1)).length≤1000050:=by simp only [lAq] at *;have:=ln r.code 1;omega
 have hW4:WOn (wrH H id q (((((b++aa r.num 4)++aa r.ctl 1)++aa r.role 2)++aa r.kind 1)++aa r.code 1) (((((wr||!rg r.num 4)||!rg r.ctl 1)||!rg r.role 2)||!rg r.kind 1)||!rg r.code 1)) id q (((((b++aa r.num 4)++aa r.ctl 1)++aa r.role 2)++aa r.kind 1)++aa r.code 1) (((((wr||!rg r.num 4)||!rg r.ctl 1)||!rg r.role 2)||!rg r.kind 1)||!rg r.code 1):=hW.next (by omega)
 simp only [go_sem,byq,bC,mU,cx]
 refine ⟨q,((((((b++aa r.num 4)++aa r.ctl 1)++aa r.role 2)++aa r.kind 1)++aa r.code 1)),((((((wr||!rg r.num 4)||!rg r.ctl 1)||!rg r.role 2)||!rg r.kind 1)||!rg r.code 1)),(hW4).push _,?_⟩
 rw [cN ?_ ?_]
 rotate_left
 ·exact hid
 ·exact hq
 rw [bP hW.ne]
 have hl5:(((((((b++aa r.num 4)++aa r.ctl 1)++aa r.role 2)++aa r.kind 1)++aa r.code 1)++aa r.fail 2)).length≤1000060:=by simp only [lAq] at *;have:=ln r.fail 2;omega
 have hW5:WOn (wrH H id q ((((((b++aa r.num 4)++aa r.ctl 1)++aa r.role 2)++aa r.kind 1)++aa r.code 1)++aa r.fail 2) ((((((wr||!rg r.num 4)||!rg r.ctl 1)||!rg r.role 2)||!rg r.kind 1)||!rg r.code 1)||!rg r.fail 2)) id q ((((((b++aa r.num 4)++aa r.ctl 1)++aa r.role 2)++aa r.kind 1)++aa r.code 1)++aa r.fail 2) ((((((wr||!rg r.num 4)||!rg r.ctl 1)||!rg r.role 2)||!rg r.kind 1)||!rg r.code 1)||!rg r.fail 2):=hW.next (by omega)
 simp only [go_sem,byq,bC,mU,cx]
 refine ⟨q,(((((((b++aa r.num 4)++aa r.ctl 1)++aa r.role 2)++aa r.kind 1)++aa r.code 1)++aa r.fail 2)),(((((((wr||!rg r.num 4)||!rg r.ctl 1)||!rg r.role 2)||!rg r.kind 1)||!rg r.code 1)||!rg r.fail 2)),(hW5).push _,?_⟩
 rw [cN ?_ ?_]
 rotate_left
 ·exact hid
 ·exact hq
 rw [bP hW.ne]
 try simp only [go_sem,byq,bC,mU,cx]
 have e1:(((((((b++aa r.num 4)++aa r.ctl 1)++aa r.role 2)++aa r.kind 1)++aa r.code 1)++aa r.fail 2)++aa r.upd 2)=b++fj r:=by simp [fj,List.append_assoc]
 have e2:(((((((wr||!rg r.num 4)||!rg r.ctl 1)||!rg r.role 2)||!rg r.kind 1)||!rg r.code 1)||!rg r.fail 2)||!rg r.upd 2)=(wr||gt r):=by simp [gt,Bool.or_assoc]
 rw [e1,e2]
 try simp (disch:=first|exact Zd|omega) [↓zmo,beq,ybc,ybd,ybe,ag,wk,wk2,wk1,wkM,wkL,ak,ybf,hcl1]
 first|done|repeat first|exact .refl _|refine .push ?_ _
def lc (e:SEntry):List UInt8:=if rgE e then eO e else []
def kn (b:Bool):List UInt8:=[if b then 1 else 0]
def sX (r:SResp):List UInt8:=aa r.code 1++aa r.fail 2++kn r.prim++aa r.ents.length 2
def yO (r:SResp):List UInt8:=kn r.drop++aa r.reas 1++aa r.port 2++ge r.data
def jO (r:SResp):List UInt8:=sX r++r.ents.flatMap lc++aa r.recs.length 2++r.recs.flatMap fj++yO r
def yq (r:SResp):Bool:=!rg r.code 1||!rg r.fail 2||!rg r.ents.length 2||(r.ents.any fun e=>!rgE e)||!rg r.recs.length 2||r.recs.any gt||!rg r.reas 1||!rg r.port 2
def nh (r:SResp):List UInt8 × Int :=
 if 24<r.recs.length∨1000<r.data.length then ([],3) else if yq r=true then ([],4) else (jO r,0)
structure PE (r:SResp):Prop where
 el:r.ents.length≤40
 rl:r.recs.length≤140737488355328
 dl:r.data.length≤140737488355328
 eo:∀ e∈r.ents,COk e
theorem PE.pc {r:SResp} (h:PE r):PC r:=⟨by have:=h.el;omega,h.rl,h.eo⟩
theorem Cm {e:SEntry} (h:COk e):(lc e).length≤400:=by
 unfold lc
 split
 ·rename_i hr
  obtain ⟨r1,r2⟩:=wC hr
  exact nJ h r1 r2
 ·simp
theorem mu:∀ (l:List SEntry),(∀ u∈l,COk u)→(l.flatMap lc).length≤400*l.length
 |[],_=>by simp
 |u::l,h=>by
  rw [List.flatMap_cons,lAq,yaz]
  have:=Cm (h u List.mem_cons_self)
  have:=mu l fun x hx=>h x (List.mem_cons_of_mem _ hx)
  omega
theorem yM (x:SRec):(fj x).length≤40:=by
 have ln:=fun n w=>bW n w
 have a1:=ln x.num 4
 have a2:=ln x.ctl 1
 have a3:=ln x.role 2
 have a4:=ln x.kind 1
 have a5:=ln x.code 1
 have a6:=ln x.fail 2
 have a7:=ln x.upd 2
 unfold fj
 simp only [lAq]
 omega
theorem j8:∀ (l:List SRec),(l.flatMap fj).length≤40*l.length
 |[]=>by simp
 |u::l=>by
  rw [List.flatMap_cons,lAq,yaz]
  have:=yM u
  have:=j8 l
  omega
def eN (s:RS):SRec × RS:=let q0:=aq s 4;let q1:=aq q0.2 1;let q2:=aq q1.2 2;let q3:=aq q2.2 1;let q4:=aq q3.2 1;let q5:=aq q4.2 2;let q6:=aq q5.2 2;(⟨q0.1,q1.1,q2.1,q3.1,q4.1,q5.1,q6.1⟩,q6.2)
theorem yg {m m':Mark} {l l':List UInt8} {e:Int} {v:Bool} {e':Int} (h:dq (m,l,e)=(v,m',l',e')):eD m m':=by
 have a1:=wA m l e
 rw [h] at a1;exact a1
theorem Da {m m':Mark} {l l':List UInt8} {e w:Int} {v:List UInt8} {e':Int} (h:cW (m,l,e) w=(v,m',l',e')):eD m m':=by
 have a1:=tf m l e w
 rw [h] at a1;exact a1
theorem tS (s:RS):(eN s).2.2.1.length≤s.2.1.length∧eD s.1 (eN s).2.1:=by
 obtain ⟨m,l,e⟩:=s
 unfold eN
 dsimp only
 have l0':=bz m l e 4
 have n0:=bG m l e 4
 generalize aq (m,l,e) 4=q0 at *
 obtain ⟨v0,m0,l0,e0⟩:=q0
 dsimp only at l0' n0 ⊢
 have l1':=bz m0 l0 e0 1
 have n1:=bG m0 l0 e0 1
 generalize aq (m0,l0,e0) 1=q1 at *
 obtain ⟨v1,m1,l1,e1⟩:=q1
 dsimp only at l1' n1 ⊢
 replace n1:=au n0 n1
 have l2':=bz m1 l1 e1 2
 have n2:=bG m1 l1 e1 2
 generalize aq (m1,l1,e1) 2=q2 at *
 obtain ⟨v2,m2,l2,e2⟩:=q2
 dsimp only at l2' n2 ⊢
 replace n2:=au n1 n2
 have l3':=bz m2 l2 e2 1
 have n3:=bG m2 l2 e2 1
 generalize aq (m2,l2,e2) 1=q3 at *
 obtain ⟨v3,m3,l3,e3⟩:=q3
 dsimp only at l3' n3 ⊢
 replace n3:=au n2 n3
 have l4':=bz m3 l3 e3 1
 have n4:=bG m3 l3 e3 1
 generalize aq (m3,l3,e3) 1=q4 at *
 obtain ⟨v4,m4,l4,e4⟩:=q4
 dsimp only at l4' n4 ⊢
 replace n4:=au n3 n4
 have l5':=bz m4 l4 e4 2
 have n5:=bG m4 l4 e4 2
 generalize aq (m4,l4,e4) 2=q5 at *
 obtain ⟨v5,m5,l5,e5⟩:=q5
 dsimp only at l5' n5 ⊢
 replace n5:=au n4 n5
 have l6':=bz m5 l5 e5 2
 have n6:=bG m5 l5 e5 2
 generalize aq (m5,l5,e5) 2=q6 at *
 obtain ⟨v6,m6,l6,e6⟩:=q6
 dsimp only at l6' n6 ⊢
 replace n6:=au n5 n6
 exact ⟨by omega,n6⟩
def iF:Nat→RS→List SEntry × RS
 |0,s=>([],s)
 |n+1,s=>((eK s).1::(iF n (eK s).2).1,(iF n (eK s).2).2)
def iq:Nat→RS→List SRec × RS
 |0,s=>([],s)
 |n+1,s=>((eN s).1::(iq n (eN s).2).1,(iq n (eN s).2).2)
theorem ym (s:RS):(eK s).2.2.1.length≤s.2.1.length∧eD s.1 (eK s).2.1:=by
 have a:=qs s
 have b:=qh s
 rw [← n9] at a b
 exact ⟨a,b⟩
theorem vB:∀ (n:Nat) (s:RS),(iF n s).2.2.1.length≤s.2.1.length∧eD s.1 (iF n s).2.1
 |0,s=>⟨nrq _,.inl rfl⟩
 |n+1,s=>by
  obtain ⟨a1,a2⟩:=ym s
  obtain ⟨b1,b2⟩:=vB n (eK s).2
  exact ⟨Nat.le_trans b1 a1,au a2 b2⟩
theorem vr:∀ (n:Nat) (s:RS),(iq n s).2.2.1.length≤s.2.1.length∧eD s.1 (iq n s).2.1
 |0,s=>⟨nrq _,.inl rfl⟩
 |n+1,s=>by
  obtain ⟨a1,a2⟩:=tS s
  obtain ⟨b1,b2⟩:=vr n (eN s).2
  exact ⟨Nat.le_trans b1 a1,au a2 b2⟩
def D8:SResp:=⟨0,0,false,[],[],false,0,0,[]⟩
def dpF (s:RS):SResp × RS :=
 let q0:=aq s 1;let q1:=aq q0.2 2;let q2:=dq q1.2;let q3:=bf q2.2 512;let q4:=iF q3.1.toNat q3.2;let q5:=bf q4.2 24;let q6:=iq q5.1.toNat q5.2
 let q7:=dq q6.2;let q8:=aq q7.2 1;let q9:=aq q8.2 2;let q10:=cW q9.2 1000
 (⟨q0.1,q1.1,q2.1,q4.1,q6.1,q7.1,q8.1,q9.1,q10.1⟩,q10.2)
def rd (b:List UInt8):SResp × Int:=if gO (dpF (.any,b,0)).2≠0 then (D8,gO (dpF (.any,b,0)).2) else ((dpF (.any,b,0)).1,0)
def pi:List AV→AHeap→(AEnd→AHeap→Prop)→Prop
 |[.ptr id 0],H,K=>onR H id fun m l e=>True∧K (.ret (dT (eN (m,l,e)).1)) (H.set id (.cells (aJ (eN (m,l,e)).2)))
 |_,_,_=>False
theorem zd:EntOk Tryz.prog 48 (Ent.effect pi):=by
 refine EntOk.effect fun args H K h=>?_
 unfold pi at h
 split at h
 rotate_left
 ·exact h.elim
 rename_i id
 obtain ⟨m,l,e,hid,hle,h⟩:=dw h
 obtain ⟨hpre,hK⟩:=h
 refine ⟨_,_,hK,?_⟩
 clear hK
 have hl0:=glq hid
 have hne:=dd hl0
 have hss:=cL hid
 have hcs:=aM hid
 have hcm:=fun cs=>@bd H id cs hl0
 have hgm:=fun o=>@bA H id o hl0
 obtain ⟨Q,hQ⟩:∃ Q,eN (m,l,e)=Q:=⟨_,rfl⟩
 rw [hQ]
 unfold eN at hQ
 try dsimp only at hQ
 have hl0:=bz m l e 4
 have hm0:=bG m l e 4
 generalize h0:aq (m,l,e) 4=q0 at *
 obtain ⟨v0,m0,l0,e0⟩:=q0
 dsimp only at hQ hl0 hm0
 have hl1:=bz m0 l0 e0 1
 have hm1:=bG m0 l0 e0 1
 generalize h1:aq (m0,l0,e0) 1=q1 at *
 obtain ⟨v1,m1,l1,e1⟩:=q1
 dsimp only at hQ hl1 hm1
 replace hm1:=au hm0 hm1
 have hl2:=bz m1 l1 e1 2
 have hm2:=bG m1 l1 e1 2
 generalize h2:aq (m1,l1,e1) 2=q2 at *
 obtain ⟨v2,m2,l2,e2⟩:=q2
 dsimp only at hQ hl2 hm2
 replace hm2:=au hm1 hm2
 have hl3:=bz m2 l2 e2 1
 have hm3:=bG m2 l2 e2 1
 generalize h3:aq (m2,l2,e2) 1=q3 at *
 obtain ⟨v3,m3,l3,e3⟩:=q3
 dsimp only at hQ hl3 hm3
 replace hm3:=au hm2 hm3
 have hl4:=bz m3 l3 e3 1
 have hm4:=bG m3 l3 e3 1
 generalize h4:aq (m3,l3,e3) 1=q4 at *
 obtain ⟨v4,m4,l4,e4⟩:=q4
 dsimp only at hQ hl4 hm4
 replace hm4:=au hm3 hm4
 have hl5:=bz m4 l4 e4 2
 have hm5:=bG m4 l4 e4 2
 generalize h5:aq (m4,l4,e4) 2=q5 at *
 obtain ⟨v5,m5,l5,e5⟩:=q5
 dsimp only at hQ hl5 hm5
 replace hm5:=au hm4 hm5
 have hl6:=bz m5 l5 e5 2
 have hm6:=bG m5 l5 e5 2
 generalize h6:aq (m5,l5,e5) 2=q6 at *
 obtain ⟨v6,m6,l6,e6⟩:=q6
 dsimp only at hQ hl6 hm6
 replace hm6:=au hm5 hm6
 subst hQ
 dsimp only [aJ]
 refine ACalls.fW ah (tCq iM tNq) Tryz.func48 [.cell 2 97] (by simp only [zlf];omega) (T:=ae []) (h:=fun hcl hlt=>?_)
 clear hlt
 have b0:l0.length≤100000:=by omega
 have b1:l1.length≤100000:=by omega
 have b2:l2.length≤100000:=by omega
 have b3:l3.length≤100000:=by omega
 have b4:l4.length≤100000:=by omega
 have b5:l5.length≤100000:=by omega
 have b6:l6.length≤100000:=by omega
 simp only [go_sem,byq,hne,hid,hcs,hcm,hgm,onR,aj,aE,zmb,zlz,zlk,and_true,true_and,hid,onR,aj,aJ,vv,vc,fE,h0,b0,h1,b1,h2,b2,h3,b3,h4,b4,h5,b5,h6,b6]
 have hclz:(H.set id (.cells [.slice m6 1 (bys l6),.int .i64 e6])).Closed:=ax hid hcl m6 hm6 l6 e6
 refine ⟨hle,?_,by repeat first|exact .refl _|refine .push ?_ _,hclz,qN _⟩
 simp [wk,wk2,wkL,wk1,wkM,dT,mU]
def xn:List AV→AHeap→(AV→Prop)→Prop
 |[.slice _ 1 l],_,K=>∃ b:List UInt8,(l=bys b∧b.length≤100000)∧K (.tup [eA (rd b).1,.int .i64 (rd b).2])
 |_,_,_=>False
theorem Ei:EntOk Tryz.prog 12 (Ent.pure xn):=by
 refine Ype fun _ H K h=>?_
 unfold xn at h
 split at h
 rotate_left
 ·exact h.elim
 rename_i m l
 obtain ⟨b,⟨rfl,hb⟩,hK⟩:=h
 refine ⟨_,hK,?_⟩
 clear hK
 obtain ⟨D,hD⟩:∃ D,rd b=D:=⟨_,rfl⟩
 rw [hD]
 unfold rd at hD
 obtain ⟨Q,hQ⟩:∃ Q,dpF (.any,b,0)=Q:=⟨_,rfl⟩
 rw [hQ] at hD
 unfold dpF at hQ
 dsimp only at hQ
 have hl0:=bz .any b 0 1
 generalize h0':aq (.any,b,0) 1=q0 at *
 obtain ⟨v0,m0,l0,e0⟩:=q0
 have hm0:=jg (pP h0')
 subst hm0
 dsimp only at hQ hl0
 have b0:l0.length≤100000:=by omega
 have hl1:=bz .any l0 e0 2
 generalize h1':aq (.any,l0,e0) 2=q1 at *
 obtain ⟨v1,m1,l1,e1⟩:=q1
 have hm1:=jg (pP h1')
 subst hm1
 dsimp only at hQ hl1
 have b1:l1.length≤100000:=by omega
 have hl2:=qn .any l1 e1
 generalize h2':dq (.any,l1,e1)=q2 at *
 obtain ⟨v2,m2,l2,e2⟩:=q2
 have hm2:=jg (yg h2')
 subst hm2
 dsimp only at hQ hl2
 have b2:l2.length≤100000:=by omega
 have hl3:=jx .any l2 e2 512
 have hc3:=nD (.any,l2,e2) 512 (by decide)
 generalize h3':bf (.any,l2,e2) 512=q3 at *
 obtain ⟨v3,m3,l3,e3⟩:=q3
 have hm3:=jg (vO h3')
 subst hm3
 dsimp only at hQ hl3 hc3
 obtain ⟨k3,rfl⟩:∃ kc:Nat,v3=(kc:Int):=⟨v3.toNat,by omega⟩
 rw [iNq] at hQ
 have b3:l3.length≤100000:=by omega
 have hg4:=vB k3 (.any,l3,e3)
 obtain ⟨v4,m4,l4,e4,h4'⟩:∃ a b c d,iF k3 (.any,l3,e3)=(a,b,c,d):=⟨_,_,_,_,rfl⟩
 rw [h4'] at hQ hg4
 obtain ⟨hl4,hm4⟩:=hg4
 have hm4:=jg hm4
 subst hm4
 dsimp only at hQ hl4
 have b4:l4.length≤100000:=by omega
 have hl5:=jx .any l4 e4 24
 have hc5:=nD (.any,l4,e4) 24 (by decide)
 generalize h5':bf (.any,l4,e4) 24=q5 at *
 obtain ⟨v5,m5,l5,e5⟩:=q5
 have hm5:=jg (vO h5')
 subst hm5
 dsimp only at hQ hl5 hc5
 obtain ⟨k5,rfl⟩:∃ kc:Nat,v5=(kc:Int):=⟨v5.toNat,by omega⟩
 rw [iNq] at hQ
 have b5:l5.length≤100000:=by omega
 have hg6:=vr k5 (.any,l5,e5)
 obtain ⟨v6,m6,l6,e6,h6'⟩:∃ a b c d,iq k5 (.any,l5,e5)=(a,b,c,d):=⟨_,_,_,_,rfl⟩
 rw [h6'] at hQ hg6
 obtain ⟨hl6,hm6⟩:=hg6
 have hm6:=jg hm6
 subst hm6
 dsimp only at hQ hl6
 have b6:l6.length≤100000:=by omega
 have hl7:=qn .any l6 e6
 generalize h7':dq (.any,l6,e6)=q7 at *
 obtain ⟨v7,m7,l7,e7⟩:=q7
 have hm7:=jg (yg h7')
 subst hm7
 dsimp only at hQ hl7
 have b7:l7.length≤100000:=by omega
 have hl8:=bz .any l7 e7 1
 generalize h8':aq (.any,l7,e7) 1=q8 at *
 obtain ⟨v8,m8,l8,e8⟩:=q8
 have hm8:=jg (pP h8')
 subst hm8
 dsimp only at hQ hl8
 have b8:l8.length≤100000:=by omega
 have hl9:=bz .any l8 e8 2
 generalize h9':aq (.any,l8,e8) 2=q9 at *
 obtain ⟨v9,m9,l9,e9⟩:=q9
 have hm9:=jg (pP h9')
 subst hm9
 dsimp only at hQ hl9
 have b9:l9.length≤100000:=by omega
 have hl10:=uk .any l9 e9 1000
 generalize h10':cW (.any,l9,e9) 1000=q10 at *
 obtain ⟨v10,m10,l10,e10⟩:=q10
 have hm10:=jg (Da h10')
 subst hm10
 dsimp only at hQ hl10
 have b10:l10.length≤100000:=by omega
 subst hQ
 dsimp only at hD
 obtain ⟨F,hF'⟩:∃ F,gO (.any,l10,e10)=F:=⟨_,rfl⟩
 rw [hF'] at hD
 have ht:=fun (e:Int) (r:SResp)=>(show ∀ n,AV.lt n (.tup [eA r,.int .i64 e]) from fun n=>by rw [zns];exact ⟨pM _,by rw [znf];trivial,trivial⟩)
 have d1:decide ((b.length:Int) > 1048576)=false:=dfq (by omega)
 refine ACalls.fW ah (tCq wE (tCq iM (tCq tc (tCq rz (tCq yx (tCq zd (tCq u4 (tCq fD tNq)))))))) Tryz.func12 [.cell 2 49,.tmp 3] (nrq _) (T:=ae [(9,[[],[],[],[],[3],[1,3],[],[1,3]]),(13,[[],[],[],[],[3],[1,3],[],[1,3]]),(7,[[1]]),(11,[[1]])]) (h:=fun hcl hlt=>?_)
 clear hlt
 simp only [bk,bh,bhq,Nat.reduceMod,Nat.reduceDiv,aA,az,aB,aZ,aC,aY,aS,aU,aV,yaq,yar,yao,yap,go_sem,byq,d1,onR,aj,aJ,Int.reduceBEq,vv,vc,List.set_cons_succ,List.set_cons_zero,hb,b0,b1,b2,b3,b4,b5,b6,b7,b8,b9,b10,h0',h1',h2',h3',h5',h7',h8',h9',h10',fE,iP,fC,il,bv,hF',ybb,yG]
 refine ⟨by omega,?_⟩
 refine jq 5 3 5 (cs:=[.int .i64 v0,.int .i64 v1,.bool v2,.slice .nil 1 [],.slice .nil 1 [],.bool false,.int .i64 0,.int .i64 0,.slice .nil 1 []]) rfl (by simp only [go_sem]) rfl ?_
 simp only [bk,bh,bhq,Nat.reduceMod,Nat.reduceDiv,aA,az,aB,aZ,aC,aY,aS,aU,aV,yaq,yar,yao,yap,go_sem,byq,d1,onR,aj,aJ,Int.reduceBEq,vv,vc,List.set_cons_succ,List.set_cons_zero,hb,b0,b1,b2,b3,b4,b5,b6,b7,b8,b9,b10,h0',h1',h2',h3',h5',h7',h8',h9',h10',fE,iP,fC,il,bv,hF',ybb]
 have hc1:∀ (l':List UInt8) (e':Int) (es:List SEntry),(((((H.push (.cells [.int .i64 0,.int .i64 0,.bool false,.slice .nil 1 [],.slice .nil 1 [],.bool false,.int .i64 0,.int .i64 0,.slice .nil 1 []]))).push (.cells [.slice .any 1 (bys l'),.int .i64 e'])).push (.cells [.int .i64 v0,.int .i64 v1,.bool v2,.slice (.own (H.nx+1+1+1)) 5 (es.map bc),.slice .nil 1 [],.bool false,.int .i64 0,.int .i64 0,.slice .nil 1 []])).push (.buf 5 es.length)).Closed:=fun l' e' es=>by
  have h0:(((((H.push (.cells [.int .i64 0,.int .i64 0,.bool false,.slice .nil 1 [],.slice .nil 1 [],.bool false,.int .i64 0,.int .i64 0,.slice .nil 1 []]))).push (.cells [.slice .any 1 (bys l'),.int .i64 e'])).push (.cells [])).push (.buf 5 es.length)).Closed:=by
   repeat' (first|exact hcl|refine bj ?_|refine aD ?_ ?_)
   all_goals first|trivial|simp [lt_sliceL,znu,znv,znf,zng,zmp]
  have h1:=aP (i:=H.nx+1+1) (cs:=[.int .i64 v0,.int .i64 v1,.bool v2,.slice (.own (H.nx+1+1+1)) 5 (es.map bc),.slice .nil 1 [],.bool false,.int .i64 0,.int .i64 0,.slice .nil 1 []]) h0 (by
   simp [znu,znv,znf,zng,zle,zlf,lt_sliceL]
   exact ltL_iff.2 fun j hj=>by rw [List.getElem_map];exact dJ _)
  simp only [go_sem] at h1
  exact h1
 refine aK (A:=List SEntry × (List UInt8 × Int)) (fun x=>[(2,.ptr H.nx 0),(4,.ptr (H.nx+1) 0),(5,.ptr (H.nx+1+1) 0),(23,.int .i64 (k3:Int)),(24,.int .i64 (x.1.length:Int))]) (fun x=>(((((H.push (.cells [.int .i64 0,.int .i64 0,.bool false,.slice .nil 1 [],.slice .nil 1 [],.bool false,.int .i64 0,.int .i64 0,.slice .nil 1 []]))).push (.cells [.slice .any 1 (bys x.2.1),.int .i64 x.2.2])).push (.cells [.int .i64 v0,.int .i64 v1,.bool v2,.slice (.own (H.nx+1+1+1)) 5 (x.1.map bc),.slice .nil 1 [],.bool false,.int .i64 0,.int .i64 0,.slice .nil 1 []])).push (.buf 5 x.1.length))) (fun x=>x.1.length≤k3∧(x.1++(iF (k3 - x.1.length) (.any,x.2.1,x.2.2)).1,(iF (k3 - x.1.length) (.any,x.2.1,x.2.2)).2)=(v4,.any,l4,e4)∧x.2.1.length≤100000) (fun x=>k3 - x.1.length) ([],(l3,e3)) ⟨Nat.zero_le _,by rw [yba,Nat.sub_zero,h4',yak],b3⟩ ?_ fun x hx=>?_
 ·refine ⟨by simp only [zkq,zkv,zle,zlf];omega,lRq _,hc1 _ _ _,?_,?_⟩
  ·simp [ltF,znf,znn,zle,zlf]
   try omega
  ·simp [cf,wk2,wk1,wkM,Fr.get]
 obtain ⟨us,lx,ex⟩:=x
 obtain ⟨hx1,hx2,hx3⟩:=hx
 dsimp only at hx1 hx2 hx3 ⊢
 simp only [go_sem]
 refine af (fun hc=>?_) (fun hc=>?_)
 ·have hk':us.length<k3:=by simp at hc;omega
  have e5:IntKind.i64.wrap ((us.length:Int)+1)=((us.length+1:Nat):Int):=by rw [wrap_i64]<;>omega
  have hk2:k3 - us.length=(k3 - (us.length+1))+1:=by omega
  have hu:iF (k3 - us.length) (.any,lx,ex)=((eK (.any,lx,ex)).1::(iF (k3 - (us.length+1)) (eK (.any,lx,ex)).2).1,(iF (k3 - (us.length+1)) (eK (.any,lx,ex)).2).2):=by rw [hk2];rfl
  rw [hu] at hx2
  have hg3:=ym (.any,lx,ex)
  generalize hq3:eK (.any,lx,ex)=q3 at *
  obtain ⟨en,m3,lz,ez⟩:=q3
  obtain ⟨hlz,hmz⟩:=hg3
  have hmz:=jg hmz
  subst hmz
  dsimp only at hx2 hlz
  have b3:lz.length≤100000:=by omega
  have hlen:(us++[en]).length=us.length+1:=by simp
  simp only [bk,bh,bhq,Nat.reduceMod,Nat.reduceDiv,aA,az,aB,aZ,aC,aY,aS,aU,aV,yaq,yar,yao,yap,go_sem,byq,d1,onR,aj,aJ,Int.reduceBEq,vv,vc,List.set_cons_succ,List.set_cons_zero,hb,b0,b1,b2,b3,b4,b5,b6,b7,b8,b9,b10,h0',h1',h2',h3',h5',h7',h8',h9',h10',fE,iP,fC,il,bv,hF',ybb,hx3,hq3,sy,b3,e5,bc,aN]
  refine ⟨⟨by omega,by omega,fun z hz=>by rw [List.mem_singleton] at hz;subst hz;rfl⟩,(us++[en],(lz,ez)),⟨by dsimp only;omega,by dsimp only;rw [hlen,← hx2];simp [List.append_assoc],by dsimp only;omega⟩,by dsimp only;omega,?_⟩
  refine ⟨by simp only [zle,zlf];omega,?_,hc1 _ _ _,?_,?_⟩
  ·simp only [List.map_append,yae,yaf,bc,aN,lAq,yaz,yba,yal,yak]
   repeat first|exact .refl _|refine .push ?_ _
  ·simp [ltF,znf,znn,zle,zlf]
   try omega
  ·simp [cf,wk2,wk1,wkM,Fr.get]
 have hk':us.length=k3:=by simp at hc;omega
 rw [hk',Nat.sub_self] at hx2
 simp only [iF,yaj,Prod.mk.injEq,true_and] at hx2
 obtain ⟨rfl,rfl,rfl⟩:=hx2
 clear hc hx3
 rename List SEntry=>es0
 simp only [bk,bh,bhq,Nat.reduceMod,Nat.reduceDiv,aA,az,aB,aZ,aC,aY,aS,aU,aV,yaq,yar,yao,yap,go_sem,byq,d1,onR,aj,aJ,Int.reduceBEq,vv,vc,List.set_cons_succ,List.set_cons_zero,hb,b0,b1,b2,b3,b4,b5,b6,b7,b8,b9,b10,h0',h1',h2',h3',h5',h7',h8',h9',h10',fE,iP,fC,il,bv,hF',ybb]
 refine jq 5 4 7 (cs:=[.int .i64 v0,.int .i64 v1,.bool v2,.slice (.own (H.nx+1+1+1)) 5 (es0.map bc),.slice .nil 1 [],.bool false,.int .i64 0,.int .i64 0,.slice .nil 1 []]) rfl (by simp only [go_sem]) rfl ?_
 simp only [bk,bh,bhq,Nat.reduceMod,Nat.reduceDiv,aA,az,aB,aZ,aC,aY,aS,aU,aV,yaq,yar,yao,yap,go_sem,byq,d1,onR,aj,aJ,Int.reduceBEq,vv,vc,List.set_cons_succ,List.set_cons_zero,hb,b0,b1,b2,b3,b4,b5,b6,b7,b8,b9,b10,h0',h1',h2',h3',h5',h7',h8',h9',h10',fE,iP,fC,il,bv,hF',ybb]
 have hc2:∀ (l':List UInt8) (e':Int) (rs:List SRec),((((((H.push (.cells [.int .i64 0,.int .i64 0,.bool false,.slice .nil 1 [],.slice .nil 1 [],.bool false,.int .i64 0,.int .i64 0,.slice .nil 1 []]))).push (.cells [.slice .any 1 (bys l'),.int .i64 e'])).push (.cells [.int .i64 v0,.int .i64 v1,.bool v2,.slice (.own (H.nx+1+1+1)) 5 (es0.map bc),.slice (.own (H.nx+1+1+1+1)) 7 (rs.map dT),.bool false,.int .i64 0,.int .i64 0,.slice .nil 1 []])).push (.buf 5 es0.length)).push (.buf 7 rs.length)).Closed:=fun l' e' rs=>by
  have h0:((((((H.push (.cells [.int .i64 0,.int .i64 0,.bool false,.slice .nil 1 [],.slice .nil 1 [],.bool false,.int .i64 0,.int .i64 0,.slice .nil 1 []]))).push (.cells [.slice .any 1 (bys l'),.int .i64 e'])).push (.cells [])).push (.buf 5 es0.length)).push (.buf 7 rs.length)).Closed:=by
   repeat' (first|exact hcl|refine bj ?_|refine aD ?_ ?_)
   all_goals first|trivial|simp [lt_sliceL,znu,znv,znf,zng,zmp]
  have h1:=aP (i:=H.nx+1+1) (cs:=[.int .i64 v0,.int .i64 v1,.bool v2,.slice (.own (H.nx+1+1+1)) 5 (es0.map bc),.slice (.own (H.nx+1+1+1+1)) 7 (rs.map dT),.bool false,.int .i64 0,.int .i64 0,.slice .nil 1 []]) h0 (by
   simp [znu,znv,znf,zng,zle,zlf,lt_sliceL]
   exact ⟨ltL_iff.2 fun j hj=>by rw [List.getElem_map];exact dJ _,ltL_iff.2 fun j hj=>by rw [List.getElem_map];exact qN _⟩)
  simp only [go_sem] at h1
  exact h1
 refine aK (A:=List SRec × (List UInt8 × Int)) (fun x=>[(2,.ptr H.nx 0),(4,.ptr (H.nx+1) 0),(5,.ptr (H.nx+1+1) 0),(35,.int .i64 (k5:Int)),(36,.int .i64 (x.1.length:Int))]) (fun x=>((((((H.push (.cells [.int .i64 0,.int .i64 0,.bool false,.slice .nil 1 [],.slice .nil 1 [],.bool false,.int .i64 0,.int .i64 0,.slice .nil 1 []]))).push (.cells [.slice .any 1 (bys x.2.1),.int .i64 x.2.2])).push (.cells [.int .i64 v0,.int .i64 v1,.bool v2,.slice (.own (H.nx+1+1+1)) 5 (es0.map bc),.slice (.own (H.nx+1+1+1+1)) 7 (x.1.map dT),.bool false,.int .i64 0,.int .i64 0,.slice .nil 1 []])).push (.buf 5 es0.length)).push (.buf 7 x.1.length))) (fun x=>x.1.length≤k5∧(x.1++(iq (k5 - x.1.length) (.any,x.2.1,x.2.2)).1,(iq (k5 - x.1.length) (.any,x.2.1,x.2.2)).2)=(v6,.any,l6,e6)∧x.2.1.length≤100000) (fun x=>k5 - x.1.length) ([],(l5,e5)) ⟨Nat.zero_le _,by rw [yba,Nat.sub_zero,h6',yak],b5⟩ ?_ fun x hx=>?_
 ·refine ⟨by simp only [zkq,zkv,zle,zlf];omega,lRq _,hc2 _ _ _,?_,?_⟩
  ·simp [ltF,znf,znn,zle,zlf]
   try omega
  ·simp [cf,wk2,wk1,wkM,Fr.get]
 obtain ⟨us,lx,ex⟩:=x
 obtain ⟨hx1,hx2,hx3⟩:=hx
 dsimp only at hx1 hx2 hx3 ⊢
 simp only [go_sem]
 refine af (fun hc=>?_) (fun hc=>?_)
 ·have hk':us.length<k5:=by simp at hc;omega
  have e5:IntKind.i64.wrap ((us.length:Int)+1)=((us.length+1:Nat):Int):=by rw [wrap_i64]<;>omega
  have hk2:k5 - us.length=(k5 - (us.length+1))+1:=by omega
  have hu:iq (k5 - us.length) (.any,lx,ex)=((eN (.any,lx,ex)).1::(iq (k5 - (us.length+1)) (eN (.any,lx,ex)).2).1,(iq (k5 - (us.length+1)) (eN (.any,lx,ex)).2).2):=by rw [hk2];rfl
  rw [hu] at hx2
  have hg3:=tS (.any,lx,ex)
  generalize hq3:eN (.any,lx,ex)=q3 at *
  obtain ⟨en,m3,lz,ez⟩:=q3
  obtain ⟨hlz,hmz⟩:=hg3
  have hmz:=jg hmz
  subst hmz
  dsimp only at hx2 hlz
  have b3:lz.length≤100000:=by omega
  have hlen:(us++[en]).length=us.length+1:=by simp
  simp only [bk,bh,bhq,Nat.reduceMod,Nat.reduceDiv,aA,az,aB,aZ,aC,aY,aS,aU,aV,yaq,yar,yao,yap,go_sem,byq,d1,onR,aj,aJ,Int.reduceBEq,vv,vc,List.set_cons_succ,List.set_cons_zero,hb,b0,b1,b2,b3,b4,b5,b6,b7,b8,b9,b10,h0',h1',h2',h3',h5',h7',h8',h9',h10',fE,iP,fC,il,bv,hF',ybb,hx3,hq3,pi,b3,e5,dT,mU]
  refine ⟨⟨by omega,by omega,fun z hz=>by rw [List.mem_singleton] at hz;subst hz;rfl⟩,(us++[en],(lz,ez)),⟨by dsimp only;omega,by dsimp only;rw [hlen,← hx2];simp [List.append_assoc],by dsimp only;omega⟩,by dsimp only;omega,?_⟩
  refine ⟨by simp only [zle,zlf];omega,?_,hc2 _ _ _,?_,?_⟩
  ·simp only [List.map_append,yae,yaf,dT,mU,lAq,yaz,yba,yal,yak]
   repeat first|exact .refl _|refine .push ?_ _
  ·simp [ltF,znf,znn,zle,zlf]
   try omega
  ·simp [cf,wk2,wk1,wkM,Fr.get]
 have hk':us.length=k5:=by simp at hc;omega
 rw [hk',Nat.sub_self] at hx2
 simp only [iq,yaj,Prod.mk.injEq,true_and] at hx2
 obtain ⟨rfl,rfl,rfl⟩:=hx2
 clear hc hx3
 simp only [bk,bh,bhq,Nat.reduceMod,Nat.reduceDiv,aA,az,aB,aZ,aC,aY,aS,aU,aV,yaq,yar,yao,yap,go_sem,byq,d1,onR,aj,aJ,Int.reduceBEq,vv,vc,List.set_cons_succ,List.set_cons_zero,hb,b0,b1,b2,b3,b4,b5,b6,b7,b8,b9,b10,h0',h1',h2',h3',h5',h7',h8',h9',h10',fE,iP,fC,il,bv,hF',ybb]
 refine af (fun hf=>?_) (fun hf=>?_)
 ·have hf':F≠0:=by simpa using hf
  rw [if_pos hf'] at hD
  subst hD
  simp only [go_sem,byq]
  refine ⟨?_,by repeat first|exact .refl _|refine .push ?_ _,hcl,ht _ _ _⟩
  simp [wk,ak,wk2,wkL,wk1,wkM,eA,bR,D8,zll]
 ·have hf':F=0:=by simpa using hf
  rw [if_neg (by rw [hf'];decide)] at hD
  subst hD
  simp only [go_sem,byq]
  refine ⟨?_,by repeat first|exact .refl _|refine .push ?_ _,hcl,ht _ _ _⟩
  simp [wk,ak,wk2,wkL,wk1,wkM,eA,bR,D8,zll]
end Go.AL
