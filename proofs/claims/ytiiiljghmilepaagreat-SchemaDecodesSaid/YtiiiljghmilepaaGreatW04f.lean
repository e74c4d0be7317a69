/- Contracts and plain laws, a part of the proof; no condition of its own. -/
import Derived.Test.YtiiiljghmilepaaGreatW04c
set_option maxHeartbeats 32000000
open List renaming length_cons → yaz, length_nil → yba, cons_append → yal, nil_append → yak, take_succ_cons → yaq, take_zero → yar, drop_succ_cons → yao, drop_zero → yap, length_map → ybb, map_cons → yae, map_nil → yaf, append_nil → yaj
open Go Go.AL Go.Proofs
namespace Go.AL
set_option linter.all false
set_option maxRecDepth 10000
def At:List AV→AHeap→(AV→Prop)→Prop
 |[.slice _ 1 l],_,K=>∃ b:List UInt8,(l=bys b∧b.length≤100000)∧K (.tup [cN (tS b).1,.int .i64 (tS b).2])
 |_,_,_=>False
def uP:List AV→AHeap→(AV→Prop)→Prop:=At
theorem pE {n:Nat} (x:Sch) (e:Int):AV.lt n (.tup [cN x,.int .i64 e]):=by rw [znm];exact ⟨ks x,by rw [zmz];trivial,trivial⟩
theorem EQ:EntOk Tryz.prog 11 (Ent.pure uP):=by
 unfold uP
 refine EntOk.pure fun args H K h=>?_
 unfold At at h
 split at h
 rotate_left
 ·exact h.elim
 rename_i m l
 obtain ⟨b,⟨rfl,hb⟩,hK⟩:=h
 refine ⟨_,hK,?_⟩
 clear hK
 obtain ⟨D,hD⟩:∃ D,tS b=D:=⟨_,rfl⟩
 rw [hD]
 unfold tS at hD
 by_cases hlen:8000<b.length
 ·have d1:decide ((b.length:Int) > 8000)=true:=decide_eq_true (by omega)
  rw [if_pos hlen] at hD
  subst hD
  refine ACalls.fW aB (TblOk.cons BW (TblOk.cons gy (TblOk.cons pV (TblOk.cons sc (TblOk.cons ww (TblOk.cons qY (TblOk.cons wb (TblOk.cons sj (TblOk.cons wl (TblOk.cons sk (TblOk.cons wm (TblOk.cons rH (TblOk.cons u3 (TblOk.cons rJ (TblOk.cons wd (TblOk.cons ri (TblOk.cons vt (TblOk.cons sv (TblOk.cons vY TblOk.nil))))))))))))))))))) Tryz.func11 [.cell 2 35,.tmp 3] (Nat.le_refl _) (T:=ay []) (h:=fun hcl hlt=>?_)
  clear hlt
  try simp only [List.append_eq,yal,yak]
  simp only [bhq,Nat.reduceMod,Nat.reduceDiv,aY,aZ,a0,cb,a9,bY,ca,bV,bW,yaq,yar,yao,yap,go_sem,byq,d1]
  refine ⟨?_,by repeat first|exact .refl _|refine .push ?_ _,hcl,pE _ _⟩
  simp [wk,aG,wk2,wkL,wk1,wkM,cN,bL,wz]
 have d1:decide ((b.length:Int) > 8000)=false:=decide_eq_false (by omega)
 rw [if_neg hlen,← zL] at hD
 unfold xB at hD
 obtain ⟨Q,hQ⟩:∃ Q,kI LP (.any,b,0)=Q:=⟨_,rfl⟩
 rw [hQ] at hD
 unfold kI at hQ
 dsimp only [rap,cZ,rU,nX,mkS] at hQ
 have hl0:=bm .any b 0 2
 generalize h0:bB (.any,b,0) 2=q0 at *
 obtain ⟨v0,m0,l0,e0⟩:=q0
 dsimp only [rU,rV,rB] at hQ hl0
 have b0:l0.length≤100000:=by omega
 have hl1:=bm m0 l0 e0 2
 generalize h1:bB (m0,l0,e0) 2=q1 at *
 obtain ⟨v1,m1,l1,e1⟩:=q1
 dsimp only [rU,rV,rB] at hQ hl1
 have b1:l1.length≤100000:=by omega
 have hl2:=(eH rdFld_go 32).l (m1,l1,e1)
 generalize h2:rlP dB 32 (m1,l1,e1)=q2 at *
 obtain ⟨v2,m2,l2,e2⟩:=q2
 dsimp only [rU,rV,rB] at hQ hl2
 have b2:l2.length≤100000:=by omega
 have hl3:=(eH (dV gX) 8).l (m2,l2,e2)
 generalize h3:rlP (dl LP) 8 (m2,l2,e2)=q3 at *
 obtain ⟨v3,m3,l3,e3⟩:=q3
 dsimp only [rU,rV,rB] at hQ hl3
 have b3:l3.length≤100000:=by omega
 have hl4:=(eH (eu gX) 12).l (m3,l3,e3)
 generalize h4:rlP (dx LP) 12 (m3,l3,e3)=q4 at *
 obtain ⟨v4,m4,l4,e4⟩:=q4
 dsimp only [rU,rV,rB] at hQ hl4
 have b4:l4.length≤100000:=by omega
 have hl5:=(eH (eC gX) 12).l (m4,l4,e4)
 generalize h5:rlP (dJ LP) 12 (m4,l4,e4)=q5 at *
 obtain ⟨v5,m5,l5,e5⟩:=q5
 dsimp only [rU,rV,rB] at hQ hl5
 have b5:l5.length≤100000:=by omega
 have hl6:=(eH (eU gX) 8).l (m5,l5,e5)
 generalize h6:rlP (dH LP) 8 (m5,l5,e5)=q6 at *
 obtain ⟨v6,m6,l6,e6⟩:=q6
 dsimp only [rU,rV,rB] at hQ hl6
 have b6:l6.length≤100000:=by omega
 have hl7:=(eH rdStg_go 12).l (m6,l6,e6)
 generalize h7:rlP eX 12 (m6,l6,e6)=q7 at *
 obtain ⟨v7,m7,l7,e7⟩:=q7
 dsimp only [rU,rV,rB] at hQ hl7
 have b7:l7.length≤100000:=by omega
 have hl8:=(eH (fy gX) 6).l (m7,l7,e7)
 generalize h8:rlP (dK LP) 6 (m7,l7,e7)=q8 at *
 obtain ⟨v8,m8,l8,e8⟩:=q8
 dsimp only [rU,rV,rB] at hQ hl8
 have b8:l8.length≤100000:=by omega
 have hl9:=(eH rdRef_go 8).l (m8,l8,e8)
 generalize h9:rlP eR 8 (m8,l8,e8)=q9 at *
 obtain ⟨v9,m9,l9,e9⟩:=q9
 dsimp only [rU,rV,rB] at hQ hl9
 have b9:l9.length≤100000:=by omega
 subst hQ
 dsimp only at hD
 obtain ⟨F,hF'⟩:∃ F,fj (m9,l9,e9)=F:=⟨_,rfl⟩
 rw [hF'] at hD
 refine ACalls.fW aB (TblOk.cons BW (TblOk.cons gy (TblOk.cons pV (TblOk.cons sc (TblOk.cons ww (TblOk.cons qY (TblOk.cons wb (TblOk.cons sj (TblOk.cons wl (TblOk.cons sk (TblOk.cons wm (TblOk.cons rH (TblOk.cons u3 (TblOk.cons rJ (TblOk.cons wd (TblOk.cons ri (TblOk.cons vt (TblOk.cons sv (TblOk.cons vY TblOk.nil))))))))))))))))))) Tryz.func11 [.cell 2 35,.tmp 3] (Nat.le_refl _) (T:=ay []) (h:=fun hcl hlt=>?_)
 clear hlt
 try simp only [List.append_eq,yal,yak]
 simp only [cm,cl,bhq,Nat.reduceMod,Nat.reduceDiv,aY,aZ,a0,cb,a9,bY,ca,bV,bW,yaq,yar,yao,yap,go_sem,byq,d1,onR,ae,aE,List.set_cons_succ,List.set_cons_zero,hb,yE,nN,lj,hF',hM,im,bM,qk,ip,qn,hP,qi,ii,qv,ig,qs,io,qr,hU,qD,ic,qx,h0,b0,h1,b1,h2,b2,h3,b3,h4,b4,h5,b5,h6,b6,h7,b7,h8,b8,h9,b9]
 refine ⟨by omega,?_⟩
 try simp only [cm,cl,bhq,Nat.reduceMod,Nat.reduceDiv,aY,aZ,a0,cb,a9,bY,ca,bV,bW,yaq,yar,yao,yap,go_sem,byq,d1,onR,ae,aE,List.set_cons_succ,List.set_cons_zero,hb,yE,nN,lj,hF',hM,im,bM,qk,ip,qn,hP,qi,ii,qv,ig,qs,io,qr,hU,qD,ic,qx,h0,b0,h1,b1,h2,b2,h3,b3,h4,b4,h5,b5,h6,b6,h7,b7,h8,b8,h9,b9]
 refine ai (fun hf=>?_) (fun hf=>?_)
 ·have hf':F≠0:=by simpa using hf
  rw [if_pos hf'] at hD
  subst hD
  simp only [bhq,Nat.reduceMod,Nat.reduceDiv,aY,aZ,a0,cb,a9,bY,ca,bV,bW,yaq,yar,yao,yap,go_sem]
  refine ⟨?_,by repeat first|exact .refl _|refine .push ?_ _,hcl,pE _ _⟩
  simp [wk,aG,wk2,wkL,wk1,wkM,cN,bL,wz]
 ·have hf':F=0:=by simpa using hf
  rw [if_neg (by rw [hf'];decide)] at hD
  subst hD
  simp only [bhq,Nat.reduceMod,Nat.reduceDiv,aY,aZ,a0,cb,a9,bY,ca,bV,bW,yaq,yar,yao,yap,go_sem]
  refine ⟨?_,by repeat first|exact .refl _|refine .push ?_ _,hcl,pE _ _⟩
  simp [wk,aG,wk2,wkL,wk1,wkM,cN,bL]
end Go.AL
open Go Go.AL Go.Proofs
namespace Go.AL
set_option linter.all false
set_option maxRecDepth 10000
def fN:List AV→AHeap→(AEnd→AHeap→Prop)→Prop
 |[.ptr id 0,.int .i64 most],H,K=>onR H id fun m l e=>True∧K (.ret (.slice .any 1 ((rlX (rU 2) most (m,l,e)).1.map (.int .i64)))) (H.set id (.cells (aE (rlX (rU 2) most (m,l,e)).2)))
 |_,_,_=>False
theorem rh:EntOk Tryz.prog 179 (Ent.effect fN):=by
 refine EntOk.effect fun args H K h=>?_
 unfold fN at h
 split at h
 rotate_left
 ·exact h.elim
 rename_i id most
 obtain ⟨m,l,e,hid,hle,h⟩:=bU h
 obtain ⟨hpre,hK⟩:=h
 refine ⟨_,_,hK,?_⟩
 clear hK
 have hl0:=AHeap.get_lt hid
 have hne:=aU hl0
 have hss:=bo hid
 have hcs:=aI hid
 have hcm:=fun cs=>@av H id cs hl0
 have hgm:=fun o=>@aN H id o hl0
 have hl1:=cu m l e most
 have hm1:=ct m l e most
 have hc1:=cJ (m,l,e) most
 obtain ⟨Q,hQ⟩:∃ Q,rlX (rU 2) most (m,l,e)=Q:=⟨_,rfl⟩
 rw [hQ]
 unfold rlX at hQ
 generalize h1:aX (m,l,e) most=q1 at *
 obtain ⟨cc,m1,l1,e1⟩:=q1
 dsimp only at hl1 hm1 hc1 hQ
 obtain ⟨kc,rfl⟩:∃ kc:Nat,cc=(kc:Int):=⟨cc.toNat,by omega⟩
 rw [Int.toNat_natCast] at hQ
 have hgo:=gz (fe 2) kc (m1,l1,e1)
 obtain ⟨GO,gm,gl,ge⟩:=Q
 rw [hQ] at hgo
 obtain ⟨hg1,hg2,_⟩:=hgo
 dsimp only at hg1 hg2
 refine ACalls.fW aB (TblOk.cons jO (TblOk.cons iC TblOk.nil)) Tryz.func179 [.tmp 4] (by simp only [zkz];omega) (T:=ay []) (h:=fun hcl hlt=>?_)
 clear hlt
 have b1:l1.length≤100000:=by omega
 simp only [cm,cl,bhq,Nat.reduceMod,Nat.reduceDiv,aY,aZ,a0,cb,a9,bY,ca,bV,bW,yaq,yar,yao,yap,go_sem,byq,hne,hid,hcs,hcm,hgm,onR,ae,au,zlv,zlt,zle,and_true,true_and,hid,bj,h1,b1,aE]
 refine ⟨hle,?_⟩
 have hclL:∀ (s:RS) (k:Nat),cw m s.1→(((H.set id (.cells [.slice s.1 1 (bys s.2.1),.int .i64 s.2.2])).push (.buf 1 0)).push (.buf 1 k)).Closed:=fun s k hs=>aP (aP (am hid hcl s.1 hs s.2.1 s.2.2))
 refine aA (A:=Nat × RS × List Int) (fun x=>[(0,.ptr id 0),(5,.slice (.own (H.nx+1)) 1 (x.2.2.map (.int .i64))),(6,.int .i64 (x.1:Int))]) (fun x=>((H.set id (.cells [.slice x.2.1.1 1 (bys x.2.1.2.1),.int .i64 x.2.1.2.2])).push (.buf 1 0)).push (.buf 1 x.2.2.length)) (fun x=>x.2.2.length+x.1≤65535∧(x.2.2++(goX (rU 2) x.1 x.2.1).1,(goX (rU 2) x.1 x.2.1).2)=(GO,gm,gl,ge)∧x.2.1.2.1.length≤100000∧cw m x.2.1.1) (fun x=>x.1) (kc,(m1,l1,e1),[]) ⟨by simp;omega,by rw [← hQ];rfl,b1,hm1⟩ ?_ fun x hx=>?_
 ·refine ⟨by (try simp only [zkk,zkp,zky,zkz]);omega,by repeat first|exact .refl _|refine .push ?_ _,hclL (m1,l1,e1) 0 hm1,?_,?_⟩
  ·simp [ltF,zmz,znh,aH,znp,zky,zkz]
   try omega
  ·simp [bf,wk2,wk1,wkM,Fr.get]
 obtain ⟨n,⟨mx,lx,ex⟩,us⟩:=x
 obtain ⟨hx1,hx2,hx3,hx4⟩:=hx
 dsimp only at hx1 hx2 hx3 hx4 ⊢
 simp only [go_sem]
 refine ai (fun hc=>?_) (fun hc=>?_)
 ·obtain ⟨n,rfl⟩:∃ m,n=m+1:=⟨n - 1,by simp at hc;omega⟩
  have e5:IntKind.i64.wrap (((n+1:Nat):Int) - 1)=((n:Nat):Int):=by rw [wrap_i64]<;>omega
  have hge:goX (rU 2) (n+1) (mx,lx,ex)=((bB (mx,lx,ex) 2).1::(goX (rU 2) n (bB (mx,lx,ex) 2).2).1,(goX (rU 2) n (bB (mx,lx,ex) 2).2).2):=rfl
  rw [hge] at hx2
  have hl3:=bm mx lx ex 2
  have hm3:=bn mx lx ex 2
  generalize hq3:bB (mx,lx,ex) 2=q3 at *
  obtain ⟨n3,m3,l3,e3⟩:=q3
  dsimp only at hl3 hm3 hx2
  have b3:l3.length≤100000:=by omega
  have hmm:cw m m3:=aC hx4 hm3
  simp only [go_sem,byq,hne,hid,hcs,hcm,hgm,onR,ae,au,zlv,zlt,zle,and_true,true_and,hid,bR,hq3,hx3,b3,aE,e5,ybb]
  refine ⟨⟨by omega,by omega,fun z hz=>by rw [List.mem_singleton] at hz;subst hz;rfl⟩,(n,(m3,l3,e3),us++[n3]),⟨by simp only [List.length_append,yaz,yba];omega,by rw [← hx2];simp [List.append_assoc],b3,hmm⟩,by dsimp only;omega,?_⟩
  refine ⟨by simp only [zky,zkz];omega,?_,hclL (m3,l3,e3) _ hmm,?_,?_⟩
  ·simp only [List.map_append,yae,yaf,List.length_append,yaz,yba]
   repeat first|exact .refl _|refine .push ?_ _
  ·simp [ltF,zmz,znh,aH,zky,zkz]
   refine ⟨by omega,ltL_iff.2 fun j hj=>?_⟩
   have hmem:=List.getElem_mem hj
   rw [List.mem_append,List.mem_map,List.mem_singleton] at hmem
   rcases hmem with ⟨x,_,e⟩|e
   ·rw [← e];exact of_eq_true zmz
   ·rw [e];exact of_eq_true zmz
  ·simp [bf,wk2,wk1,wkM,Fr.get]
 ·have hn0:n=0:=by simp at hc;omega
  subst hn0
  simp only [goX,yaj,Prod.mk.injEq] at hx2
  obtain ⟨rfl,rfl,rfl,rfl⟩:=hx2
  simp only [go_sem,byq]
  exact ⟨by simp [wk,wk2,wk1,wkM],by repeat first|exact .refl _|refine .push ?_ _,am hid hcl _ hx4 _ _,aa (fun x=>of_eq_true zmz)⟩
end Go.AL
open Go Go.AL Go.Proofs
namespace Go.AL
set_option linter.all false
set_option maxRecDepth 10000
theorem gk {n:Nat} {l:List Int}:ltL n (l.map (.int .i64)):=ltL_iff.2 fun j hj=>by rw [List.getElem_map];exact (fun x=>of_eq_true zmz) _
theorem fX {n:Nat} {l:List Nat}:ltL n (l.map (vv)):=ltL_iff.2 fun j hj=>by rw [List.getElem_map];exact (fun x=>ff) _
theorem fV {n:Nat} {l:List Bool}:ltL n (l.map (.bool)):=ltL_iff.2 fun j hj=>by rw [List.getElem_map];exact (fun x=>of_eq_true zna) _
theorem gb {n:Nat} {l:List SField}:ltL n (l.map (ar)):=ltL_iff.2 fun j hj=>by rw [List.getElem_map];exact (fun x=>bO x) _
theorem gg {n:Nat} {l:List SCase}:ltL n (l.map (aK)):=ltL_iff.2 fun j hj=>by rw [List.getElem_map];exact (fun x=>bX x) _
theorem ga {n:Nat} {l:List SParam}:ltL n (l.map (aD)):=ltL_iff.2 fun j hj=>by rw [List.getElem_map];exact (fun x=>bC x) _
theorem gh {n:Nat} {l:List SPrim}:ltL n (l.map (aL)):=ltL_iff.2 fun j hj=>by rw [List.getElem_map];exact (fun x=>bZ x) _
theorem f4 {n:Nat} {l:List SKey}:ltL n (l.map (aQ)):=ltL_iff.2 fun j hj=>by rw [List.getElem_map];exact (fun x=>ck x) _
theorem fZ {n:Nat} {l:List SStage}:ltL n (l.map (az)):=ltL_iff.2 fun j hj=>by rw [List.getElem_map];exact (fun x=>bN x) _
theorem f7 {n:Nat} {l:List SRef}:ltL n (l.map (aR)):=ltL_iff.2 fun j hj=>by rw [List.getElem_map];exact (fun x=>cn x) _
theorem gd {n:Nat} {l:List SHeader}:ltL n (l.map (aj)):=ltL_iff.2 fun j hj=>by rw [List.getElem_map];exact (fun x=>bg x) _
theorem fU {n:Nat} {l:List SState}:ltL n (l.map (ak)):=ltL_iff.2 fun j hj=>by rw [List.getElem_map];exact (fun x=>bk x) _
theorem fY {n:Nat} {l:List SAction}:ltL n (l.map (ah)):=ltL_iff.2 fun j hj=>by rw [List.getElem_map];exact (fun x=>aW x) _
theorem gp {n:Nat} {l:List SGrant}:ltL n (l.map (ax)):=ltL_iff.2 fun j hj=>by rw [List.getElem_map];exact (fun x=>aS x) _
theorem f9 {n:Nat} {l:List STable}:ltL n (l.map (aq)):=ltL_iff.2 fun j hj=>by rw [List.getElem_map];exact (fun x=>bh x) _
theorem gf {n:Nat} {l:List SRole}:ltL n (l.map (aJ)):=ltL_iff.2 fun j hj=>by rw [List.getElem_map];exact (fun x=>aV x) _
def yc:List AV→AHeap→(AEnd→AHeap→Prop)→Prop
 |[.ptr id 0],H,K=>onR H id fun m l e=>True∧K (.ret (ah ((dJ LX) (m,l,e)).1)) (H.set id (.cells (aE ((dJ LX) (m,l,e)).2)))
 |_,_,_=>False
theorem y3:EntOk Tryz.prog 65 (Ent.effect yc):=by
 refine EntOk.effect fun args H K h=>?_
 unfold yc at h
 split at h
 rotate_left
 ·exact h.elim
 rename_i id
 obtain ⟨m,l,e,hid,hle,h⟩:=bU h
 obtain ⟨hpre,hK⟩:=h
 refine ⟨_,_,hK,?_⟩
 clear hK
 have hl0:=AHeap.get_lt hid
 have hne:=aU hl0
 have hss:=bo hid
 have hcs:=aI hid
 have hcm:=fun cs=>@av H id cs hl0
 have hgm:=fun o=>@aN H id o hl0
 obtain ⟨Q,hQ⟩:∃ Q,(dJ LX) (m,l,e)=Q:=⟨_,rfl⟩
 rw [hQ]
 unfold dJ at hQ
 try dsimp only [rap,cZ,rU,rT,rV,rB,kv] at hQ
 have hl0:=bm m l e 2
 have hm0:=bn m l e 2
 generalize h0:bB (m,l,e) 2=q0 at *
 obtain ⟨v0,m0,l0,e0⟩:=q0
 dsimp only [rU,rV,rB] at hQ hl0 hm0
 replace hm0:=aC (.inl rfl) hm0
 have b0:l0.length≤100000:=by omega
 have hl1:=fD m0 l0 e0 24
 have hm1:=fB m0 l0 e0 24
 generalize h1:dM (m0,l0,e0) 24=q1 at *
 obtain ⟨v1,m1,l1,e1⟩:=q1
 dsimp only [rU,rV,rB] at hQ hl1 hm1
 replace hm1:=aC hm0 hm1
 have b1:l1.length≤100000:=by omega
 rw [show rlX eY 4 (m1,l1,e1)=goX eY (aX (m1,l1,e1) 4).1.toNat (aX (m1,l1,e1) 4).2 from rfl] at hQ
 have hlc2:=cu m1 l1 e1 4
 have hmc2:=ct m1 l1 e1 4
 have hcb2:=cJ (m1,l1,e1) 4
 generalize hc2:aX (m1,l1,e1) 4=q2 at *
 obtain ⟨c2,mc2,lc2,ec2⟩:=q2
 dsimp only at hlc2 hmc2 hcb2 hQ
 obtain ⟨k2,rfl⟩:∃ k:Nat,c2=(k:Int):=⟨c2.toNat,by omega⟩
 rw [Int.toNat_natCast] at hQ
 replace hmc2:=aC hm1 hmc2
 have bc2:lc2.length≤100000:=by omega
 have hg2:=gz rdPar_go k2 (mc2,lc2,ec2)
 obtain ⟨⟨v2,m2,l2,e2⟩,hU2⟩:∃ G,goX eY k2 (mc2,lc2,ec2)=G:=⟨_,rfl⟩
 rw [hU2] at hg2 hQ
 obtain ⟨hl2,hm2,_⟩:=hg2
 dsimp only [rU,rV,rB] at hQ hl2 hm2
 replace hm2:=aC hmc2 hm2
 have b2:l2.length≤100000:=by omega
 rw [show rlX eS 12 (m2,l2,e2)=goX eS (aX (m2,l2,e2) 12).1.toNat (aX (m2,l2,e2) 12).2 from rfl] at hQ
 have hlc3:=cu m2 l2 e2 12
 have hmc3:=ct m2 l2 e2 12
 have hcb3:=cJ (m2,l2,e2) 12
 generalize hc3:aX (m2,l2,e2) 12=q3 at *
 obtain ⟨c3,mc3,lc3,ec3⟩:=q3
 dsimp only at hlc3 hmc3 hcb3 hQ
 obtain ⟨k3,rfl⟩:∃ k:Nat,c3=(k:Int):=⟨c3.toNat,by omega⟩
 rw [Int.toNat_natCast] at hQ
 replace hmc3:=aC hm2 hmc3
 have bc3:lc3.length≤100000:=by omega
 have hg3:=gz rdPri_go k3 (mc3,lc3,ec3)
 obtain ⟨⟨v3,m3,l3,e3⟩,hU3⟩:∃ G,goX eS k3 (mc3,lc3,ec3)=G:=⟨_,rfl⟩
 rw [hU3] at hg3 hQ
 obtain ⟨hl3,hm3,_⟩:=hg3
 dsimp only [rU,rV,rB] at hQ hl3 hm3
 replace hm3:=aC hmc3 hm3
 have b3:l3.length≤100000:=by omega
 have hl4:=fD m3 l3 e3 400
 have hm4:=fB m3 l3 e3 400
 generalize h4:dM (m3,l3,e3) 400=q4 at *
 obtain ⟨v4,m4,l4,e4⟩:=q4
 dsimp only [rU,rV,rB] at hQ hl4 hm4
 replace hm4:=aC hm3 hm4
 have b4:l4.length≤100000:=by omega
 subst hQ
 dsimp only [aE]
 refine ACalls.fW aB (TblOk.cons iC (TblOk.cons oK (TblOk.cons jO (TblOk.cons pA TblOk.nil)))) Tryz.func65 [.cell 2 58] (by simp only [zkz];omega) (T:=ay [(3,[[1]]),(9,[[1]])]) (h:=fun hcl hlt=>?_)
 clear hlt
 try simp only [List.append_eq,yal,yak]
 simp only [cm,cl,bhq,Nat.reduceMod,Nat.reduceDiv,aY,aZ,a0,cb,a9,bY,ca,bV,bW,yaq,yar,yao,yap,go_sem,byq,hne,hid,hcs,hcm,hgm,onR,ae,au,zlv,zlt,zle,and_true,true_and,hid,onR,ae,aE,vv,vc,List.set_cons_succ,List.set_cons_zero,bR,dN,bj,h0,b0,h1,b1,hc2,bc2,b2,hc3,bc3,b3,h4,b4,ybb]
 refine ⟨hle,?_⟩
 refine ey 3 2 2 (cs:=[.int .i64 v0,.str v1,.slice .nil 1 [],.slice .nil 1 [],.str []]) rfl (by simp only [go_sem]) rfl ?_
 simp only [cm,cl,bhq,Nat.reduceMod,Nat.reduceDiv,aY,aZ,a0,cb,a9,bY,ca,bV,bW,yaq,yar,yao,yap,go_sem,byq,hne,hid,hcs,hcm,hgm,onR,ae,au,zlv,zlt,zle,and_true,true_and,hid,onR,ae,aE,vv,vc,List.set_cons_succ,List.set_cons_zero,bR,dN,bj,h0,b0,h1,b1,hc2,bc2,b2,hc3,bc3,b3,h4,b4,ybb]
 have hcl2:∀ (s:RS) (us:List SParam),cw m s.1→((((H.set id (.cells [.slice s.1 1 (bys s.2.1),.int .i64 s.2.2])).push (.cells [.int .i64 0,.str [],.slice .nil 1 [],.slice .nil 1 [],.str []])).push (.cells [.int .i64 v0,.str v1,.slice (.own (H.nx+1+1)) 2 (us.map (aD)),.slice .nil 1 [],.str []])).push (.buf 2 us.length)).Closed:=fun s us hs=>by
  have h0:((((H.set id (.cells [.slice s.1 1 (bys s.2.1),.int .i64 s.2.2])).push (.cells [.int .i64 0,.str [],.slice .nil 1 [],.slice .nil 1 [],.str []])).push (.cells [])).push (.buf 2 us.length)).Closed:=by
   repeat' (first|exact am hid hcl _ hs _ _|refine aP ?_|refine ag ?_ ?_)
   all_goals first|trivial|simp [aH,zno,znp,zmz,zna,znb,zmj]
  have h0:=bS (i:=H.nx+1) (cs:=[.int .i64 v0,.str v1,.slice (.own (H.nx+1+1)) 2 (us.map (aD)),.slice .nil 1 [],.str []]) h0 (by
   simp [zno,znp,zmz,zna,znb,zky,zkz,aH,gk,fX,fV,gb,gg,ga,gh,f4,fZ,f7,gd,fU,fY,gp,f9,gf]
   try omega)
  simp only [go_sem] at h0
  exact h0
 refine aA (A:=Nat × RS × List SParam) (fun x=>[(0,.ptr id 0),(2,.ptr H.nx 0),(3,.ptr (H.nx+1) 0),(4,.int .i64 (x.1:Int))]) (fun x=>(((H.set id (.cells [.slice x.2.1.1 1 (bys x.2.1.2.1),.int .i64 x.2.1.2.2])).push (.cells [.int .i64 0,.str [],.slice .nil 1 [],.slice .nil 1 [],.str []])).push (.cells [.int .i64 v0,.str v1,.slice (.own (H.nx+1+1)) 2 (x.2.2.map (aD)),.slice .nil 1 [],.str []])).push (.buf 2 x.2.2.length)) (fun x=>x.2.2.length+x.1≤65535∧(x.2.2++(goX eY x.1 x.2.1).1,(goX eY x.1 x.2.1).2)=(v2,m2,l2,e2)∧x.2.1.2.1.length≤100000∧cw m x.2.1.1) (fun x=>x.1) (k2,(mc2,lc2,ec2),[]) ⟨by simp;omega,by rw [← hU2];rfl,bc2,hmc2⟩ ?_ fun x hx=>?_
 ·refine ⟨by (try simp only [zkk,zkp,zky,zkz]);omega,by repeat first|exact .refl _|refine .push ?_ _,hcl2 _ _ hmc2,?_,?_⟩
  ·simp [ltF,zmz,znh,zky,zkz]
   try omega
  ·simp [bf,wk2,wk1,wkM,Fr.get]
 obtain ⟨n2,⟨mx2,lx2,ex2⟩,us2⟩:=x
 obtain ⟨ha2,hb2,hd2,he2⟩:=hx
 dsimp only at ha2 hb2 hd2 he2 ⊢
 simp only [go_sem]
 refine ai (fun hc=>?_) (fun hc=>?_)
 ·obtain ⟨n2,rfl⟩:∃ m,n2=m+1:=⟨n2 - 1,by simp at hc;omega⟩
  have e52:IntKind.i64.wrap (((n2+1:Nat):Int) - 1)=((n2:Nat):Int):=by rw [wrap_i64]<;>omega
  have hge:goX eY (n2+1) (mx2,lx2,ex2)=((eY (mx2,lx2,ex2)).1::(goX eY n2 (eY (mx2,lx2,ex2)).2).1,(goX eY n2 (eY (mx2,lx2,ex2)).2).2):=rfl
  rw [hge] at hb2
  clear hge
  obtain ⟨E2,hE2⟩:∃ E,eY (mx2,lx2,ex2)=E:=⟨_,rfl⟩
  rw [hE2] at hb2
  unfold eY at hE2
  try dsimp only [rap,cZ,rU,rT,rV,rB,kv] at hE2
  have hly20:=fD mx2 lx2 ex2 24
  have hmy20:=fB mx2 lx2 ex2 24
  generalize hy20:dM (mx2,lx2,ex2) 24=qy20 at *
  obtain ⟨vy20,my20,ly20,ey20⟩:=qy20
  dsimp only [rU,rV,rB] at hE2 hly20 hmy20
  replace hmy20:=aC he2 hmy20
  have by20:ly20.length≤100000:=by omega
  have hly21:=bm my20 ly20 ey20 1
  have hmy21:=bn my20 ly20 ey20 1
  generalize hy21:bB (my20,ly20,ey20) 1=qy21 at *
  obtain ⟨vy21,my21,ly21,ey21⟩:=qy21
  dsimp only [rU,rV,rB] at hE2 hly21 hmy21
  replace hmy21:=aC hmy20 hmy21
  have by21:ly21.length≤100000:=by omega
  subst hE2
  dsimp only at hb2
  simp only [cm,cl,bhq,Nat.reduceMod,Nat.reduceDiv,aY,aZ,a0,cb,a9,bY,ca,bV,bW,yaq,yar,yao,yap,go_sem,byq,hne,hid,hcs,hcm,hgm,onR,ae,au,zlv,zlt,zle,and_true,true_and,hid,onR,ae,aE,vv,vc,List.set_cons_succ,List.set_cons_zero,bR,dN,bj,h0,b0,h1,b1,hc2,bc2,b2,hc3,bc3,b3,h4,b4,hd2,e52,hy20,by20,hy21,by21,ybb,aD]
  refine ⟨⟨by omega,by omega,fun z hz=>by rw [List.mem_singleton] at hz;subst hz;rfl⟩,(n2,(my21,ly21,ey21),us2++[(⟨vy20,vy21⟩:SParam)]),⟨by simp only [List.length_append,yaz,yba];omega,by rw [← hb2];simp [List.append_assoc],by21,hmy21⟩,by dsimp only;omega,?_⟩
  refine ⟨by (try simp only [zky,zkz]);omega,?_,hcl2 _ _ hmy21,?_,?_⟩
  ·simp only [List.map_append,yae,yaf,aD,inL,boL,List.length_append,yaz,yba,yal,yak]
   repeat first|exact .refl _|refine .push ?_ _
  ·simp [ltF,zmz,znh,zky,zkz]
   try omega
  ·simp [bf,wk2,wk1,wkM,Fr.get]
 have hn0:n2=0:=by simp at hc;omega
 subst hn0
 simp only [goX,yaj,Prod.mk.injEq] at hb2
 obtain ⟨z1,z2,z3,z4⟩:=hb2
 replace z1:=z1.symm
 replace z2:=z2.symm
 replace z3:=z3.symm
 replace z4:=z4.symm
 subst z1 z2 z3 z4
 simp only [cm,cl,bhq,Nat.reduceMod,Nat.reduceDiv,aY,aZ,a0,cb,a9,bY,ca,bV,bW,yaq,yar,yao,yap,go_sem,byq,hne,hid,hcs,hcm,hgm,onR,ae,au,zlv,zlt,zle,and_true,true_and,hid,onR,ae,aE,vv,vc,List.set_cons_succ,List.set_cons_zero,bR,dN,bj,h0,b0,h1,b1,hc2,bc2,b2,hc3,bc3,b3,h4,b4,ybb]
 refine ey 3 3 6 (cs:=[.int .i64 v0,.str v1,.slice (.own (H.nx+1+1)) 2 (v2.map (aD)),.slice .nil 1 [],.str []]) rfl (by simp only [go_sem]) rfl ?_
 simp only [cm,cl,bhq,Nat.reduceMod,Nat.reduceDiv,aY,aZ,a0,cb,a9,bY,ca,bV,bW,yaq,yar,yao,yap,go_sem,byq,hne,hid,hcs,hcm,hgm,onR,ae,au,zlv,zlt,zle,and_true,true_and,hid,onR,ae,aE,vv,vc,List.set_cons_succ,List.set_cons_zero,bR,dN,bj,h0,b0,h1,b1,hc2,bc2,b2,hc3,bc3,b3,h4,b4,ybb]
 have hcl3:∀ (s:RS) (us:List SPrim),cw m s.1→(((((H.set id (.cells [.slice s.1 1 (bys s.2.1),.int .i64 s.2.2])).push (.cells [.int .i64 0,.str [],.slice .nil 1 [],.slice .nil 1 [],.str []])).push (.cells [.int .i64 v0,.str v1,.slice (.own (H.nx+1+1)) 2 (v2.map (aD)),.slice (.own (H.nx+1+1+1)) 6 (us.map (aL)),.str []])).push (.buf 2 v2.length)).push (.buf 6 us.length)).Closed:=fun s us hs=>by
  have h0:(((((H.set id (.cells [.slice s.1 1 (bys s.2.1),.int .i64 s.2.2])).push (.cells [.int .i64 0,.str [],.slice .nil 1 [],.slice .nil 1 [],.str []])).push (.cells [])).push (.buf 2 v2.length)).push (.buf 6 us.length)).Closed:=by
   repeat' (first|exact am hid hcl _ hs _ _|refine aP ?_|refine ag ?_ ?_)
   all_goals first|trivial|simp [aH,zno,znp,zmz,zna,znb,zmj]
  have h0:=bS (i:=H.nx+1) (cs:=[.int .i64 v0,.str v1,.slice (.own (H.nx+1+1)) 2 (v2.map (aD)),.slice (.own (H.nx+1+1+1)) 6 (us.map (aL)),.str []]) h0 (by
   simp [zno,znp,zmz,zna,znb,zky,zkz,aH,gk,fX,fV,gb,gg,ga,gh,f4,fZ,f7,gd,fU,fY,gp,f9,gf]
   try omega)
  simp only [go_sem] at h0
  exact h0
 refine aA (A:=Nat × RS × List SPrim) (fun x=>[(0,.ptr id 0),(2,.ptr H.nx 0),(3,.ptr (H.nx+1) 0),(6,.int .i64 (x.1:Int))]) (fun x=>((((H.set id (.cells [.slice x.2.1.1 1 (bys x.2.1.2.1),.int .i64 x.2.1.2.2])).push (.cells [.int .i64 0,.str [],.slice .nil 1 [],.slice .nil 1 [],.str []])).push (.cells [.int .i64 v0,.str v1,.slice (.own (H.nx+1+1)) 2 (v2.map (aD)),.slice (.own (H.nx+1+1+1)) 6 (x.2.2.map (aL)),.str []])).push (.buf 2 v2.length)).push (.buf 6 x.2.2.length)) (fun x=>x.2.2.length+x.1≤65535∧(x.2.2++(goX eS x.1 x.2.1).1,(goX eS x.1 x.2.1).2)=(v3,m3,l3,e3)∧x.2.1.2.1.length≤100000∧cw m x.2.1.1) (fun x=>x.1) (k3,(mc3,lc3,ec3),[]) ⟨by simp;omega,by rw [← hU3];rfl,bc3,hmc3⟩ ?_ fun x hx=>?_
 ·refine ⟨by (try simp only [zkk,zkp,zky,zkz]);omega,by repeat first|exact .refl _|refine .push ?_ _,hcl3 _ _ hmc3,?_,?_⟩
  ·simp [ltF,zmz,znh,zky,zkz]
   try omega
  ·simp [bf,wk2,wk1,wkM,Fr.get]
 obtain ⟨n3,⟨mx3,lx3,ex3⟩,us3⟩:=x
 obtain ⟨ha3,hb3,hd3,he3⟩:=hx
 dsimp only at ha3 hb3 hd3 he3 ⊢
 simp only [go_sem]
 refine ai (fun hc=>?_) (fun hc=>?_)
 ·obtain ⟨n3,rfl⟩:∃ m,n3=m+1:=⟨n3 - 1,by simp at hc;omega⟩
  have e53:IntKind.i64.wrap (((n3+1:Nat):Int) - 1)=((n3:Nat):Int):=by rw [wrap_i64]<;>omega
  have hge:goX eS (n3+1) (mx3,lx3,ex3)=((eS (mx3,lx3,ex3)).1::(goX eS n3 (eS (mx3,lx3,ex3)).2).1,(goX eS n3 (eS (mx3,lx3,ex3)).2).2):=rfl
  rw [hge] at hb3
  clear hge
  obtain ⟨E3,hE3⟩:∃ E,eS (mx3,lx3,ex3)=E:=⟨_,rfl⟩
  rw [hE3] at hb3
  unfold eS at hE3
  try dsimp only [rap,cZ,rU,rT,rV,rB,kv] at hE3
  have hly30:=bm mx3 lx3 ex3 1
  have hmy30:=bn mx3 lx3 ex3 1
  generalize hy30:bB (mx3,lx3,ex3) 1=qy30 at *
  obtain ⟨vy30,my30,ly30,ey30⟩:=qy30
  dsimp only [rU,rV,rB] at hE3 hly30 hmy30
  replace hmy30:=aC he3 hmy30
  have by30:ly30.length≤100000:=by omega
  have hly31:=bm my30 ly30 ey30 2
  have hmy31:=bn my30 ly30 ey30 2
  generalize hy31:bB (my30,ly30,ey30) 2=qy31 at *
  obtain ⟨vy31,my31,ly31,ey31⟩:=qy31
  dsimp only [rU,rV,rB] at hE3 hly31 hmy31
  replace hmy31:=aC hmy30 hmy31
  have by31:ly31.length≤100000:=by omega
  have hly32:=bm my31 ly31 ey31 1
  have hmy32:=bn my31 ly31 ey31 1
  generalize hy32:bB (my31,ly31,ey31) 1=qy32 at *
  obtain ⟨vy32,my32,ly32,ey32⟩:=qy32
  dsimp only [rU,rV,rB] at hE3 hly32 hmy32
  replace hmy32:=aC hmy31 hmy32
  have by32:ly32.length≤100000:=by omega
  have hly33:=bm my32 ly32 ey32 2
  have hmy33:=bn my32 ly32 ey32 2
  generalize hy33:bB (my32,ly32,ey32) 2=qy33 at *
  obtain ⟨vy33,my33,ly33,ey33⟩:=qy33
  dsimp only [rU,rV,rB] at hE3 hly33 hmy33
  replace hmy33:=aC hmy32 hmy33
  have by33:ly33.length≤100000:=by omega
  have hly34:=jZ my33 ly33 ey33
  have hmy34:=jX my33 ly33 ey33
  generalize hy34:cO (my33,ly33,ey33)=qy34 at *
  obtain ⟨vy34,my34,ly34,ey34⟩:=qy34
  dsimp only [rU,rV,rB] at hE3 hly34 hmy34
  replace hmy34:=aC hmy33 hmy34
  have by34:ly34.length≤100000:=by omega
  subst hE3
  dsimp only at hb3
  simp only [cm,cl,bhq,Nat.reduceMod,Nat.reduceDiv,aY,aZ,a0,cb,a9,bY,ca,bV,bW,yaq,yar,yao,yap,go_sem,byq,hne,hid,hcs,hcm,hgm,onR,ae,au,zlv,zlt,zle,and_true,true_and,hid,onR,ae,aE,vv,vc,List.set_cons_succ,List.set_cons_zero,bR,dN,bj,mn,h0,b0,h1,b1,hc2,bc2,b2,hc3,bc3,b3,h4,b4,hd3,e53,hy30,by30,hy31,by31,hy32,by32,hy33,by33,hy34,by34,ybb,aL,vc,yal,yak]
  refine ⟨⟨by omega,by omega,fun z hz=>by rw [List.mem_singleton] at hz;subst hz;rfl⟩,(n3,(my34,ly34,ey34),us3++[(⟨vy30,vy31,vy32,vy33,vy34⟩:SPrim)]),⟨by simp only [List.length_append,yaz,yba];omega,by rw [← hb3];simp [List.append_assoc],by34,hmy34⟩,by dsimp only;omega,?_⟩
  refine ⟨by (try simp only [zky,zkz]);omega,?_,hcl3 _ _ hmy34,?_,?_⟩
  ·simp only [List.map_append,yae,yaf,aL,vc,yal,yak,inL,boL,List.length_append,yaz,yba,yal,yak]
   repeat first|exact .refl _|refine .push ?_ _
  ·simp [ltF,zmz,znh,zky,zkz]
   try omega
  ·simp [bf,wk2,wk1,wkM,Fr.get]
 have hn0:n3=0:=by simp at hc;omega
 subst hn0
 simp only [goX,yaj,Prod.mk.injEq] at hb3
 obtain ⟨z1,z2,z3,z4⟩:=hb3
 replace z1:=z1.symm
 replace z2:=z2.symm
 replace z3:=z3.symm
 replace z4:=z4.symm
 subst z1 z2 z3 z4
 simp only [cm,cl,bhq,Nat.reduceMod,Nat.reduceDiv,aY,aZ,a0,cb,a9,bY,ca,bV,bW,yaq,yar,yao,yap,go_sem,byq,hne,hid,hcs,hcm,hgm,onR,ae,au,zlv,zlt,zle,and_true,true_and,hid,onR,ae,aE,vv,vc,List.set_cons_succ,List.set_cons_zero,bR,dN,bj,h0,b0,h1,b1,hc2,bc2,b2,hc3,bc3,b3,h4,b4,ybb]
 refine ⟨?_,by repeat first|exact .refl _|refine .push ?_ _,am hid hcl m4 hm4 l4 e4,(fun x=>aW x) _⟩
 simp [wk,wk2,wkL,wk1,wkM,ah,inL,boL]
def x5:List AV→AHeap→(AEnd→AHeap→Prop)→Prop
 |[.ptr id 0],H,K=>onR H id fun m l e=>True∧K (.ret (aq ((dH LX) (m,l,e)).1)) (H.set id (.cells (aE ((dH LX) (m,l,e)).2)))
 |_,_,_=>False
theorem yG:EntOk Tryz.prog 66 (Ent.effect x5):=by
 refine EntOk.effect fun args H K h=>?_
 unfold x5 at h
 split at h
 rotate_left
 ·exact h.elim
 rename_i id
 obtain ⟨m,l,e,hid,hle,h⟩:=bU h
 obtain ⟨hpre,hK⟩:=h
 refine ⟨_,_,hK,?_⟩
 clear hK
 have hl0:=AHeap.get_lt hid
 have hne:=aU hl0
 have hss:=bo hid
 have hcs:=aI hid
 have hcm:=fun cs=>@av H id cs hl0
 have hgm:=fun o=>@aN H id o hl0
 obtain ⟨Q,hQ⟩:∃ Q,(dH LX) (m,l,e)=Q:=⟨_,rfl⟩
 rw [hQ]
 unfold dH at hQ
 try dsimp only [rap,cZ,rU,rT,rV,rB,kv] at hQ
 have hl0:=bm m l e 2
 have hm0:=bn m l e 2
 generalize h0:bB (m,l,e) 2=q0 at *
 obtain ⟨v0,m0,l0,e0⟩:=q0
 dsimp only [rU,rV,rB] at hQ hl0 hm0
 replace hm0:=aC (.inl rfl) hm0
 have b0:l0.length≤100000:=by omega
 have hl1:=fD m0 l0 e0 24
 have hm1:=fB m0 l0 e0 24
 generalize h1:dM (m0,l0,e0) 24=q1 at *
 obtain ⟨v1,m1,l1,e1⟩:=q1
 dsimp only [rU,rV,rB] at hQ hl1 hm1
 replace hm1:=aC hm0 hm1
 have b1:l1.length≤100000:=by omega
 rw [show rlX eV 4 (m1,l1,e1)=goX eV (aX (m1,l1,e1) 4).1.toNat (aX (m1,l1,e1) 4).2 from rfl] at hQ
 have hlc2:=cu m1 l1 e1 4
 have hmc2:=ct m1 l1 e1 4
 have hcb2:=cJ (m1,l1,e1) 4
 generalize hc2:aX (m1,l1,e1) 4=q2 at *
 obtain ⟨c2,mc2,lc2,ec2⟩:=q2
 dsimp only at hlc2 hmc2 hcb2 hQ
 obtain ⟨k2,rfl⟩:∃ k:Nat,c2=(k:Int):=⟨c2.toNat,by omega⟩
 rw [Int.toNat_natCast] at hQ
 replace hmc2:=aC hm1 hmc2
 have bc2:lc2.length≤100000:=by omega
 have hg2:=gz rdKey_go k2 (mc2,lc2,ec2)
 obtain ⟨⟨v2,m2,l2,e2⟩,hU2⟩:∃ G,goX eV k2 (mc2,lc2,ec2)=G:=⟨_,rfl⟩
 rw [hU2] at hg2 hQ
 obtain ⟨hl2,hm2,_⟩:=hg2
 dsimp only [rU,rV,rB] at hQ hl2 hm2
 replace hm2:=aC hmc2 hm2
 have b2:l2.length≤100000:=by omega
 have hl3:=(eZ (fe 2) 12).l (m2,l2,e2)
 have hm3:=(eZ (fe 2) 12).m (m2,l2,e2)
 generalize h3:rlX (rU 2) 12 (m2,l2,e2)=q3 at *
 obtain ⟨v3,m3,l3,e3⟩:=q3
 dsimp only [rU,rV,rB] at hQ hl3 hm3
 replace hm3:=aC hm2 hm3
 have b3:l3.length≤100000:=by omega
 have hl4:=bm m3 l3 e3 2
 have hm4:=bn m3 l3 e3 2
 generalize h4:bB (m3,l3,e3) 2=q4 at *
 obtain ⟨v4,m4,l4,e4⟩:=q4
 dsimp only [rU,rV,rB] at hQ hl4 hm4
 replace hm4:=aC hm3 hm4
 have b4:l4.length≤100000:=by omega
 rw [show rlX rV 4 (m4,l4,e4)=goX rV (aX (m4,l4,e4) 4).1.toNat (aX (m4,l4,e4) 4).2 from rfl] at hQ
 have hlc5:=cu m4 l4 e4 4
 have hmc5:=ct m4 l4 e4 4
 have hcb5:=cJ (m4,l4,e4) 4
 generalize hc5:aX (m4,l4,e4) 4=q5 at *
 obtain ⟨c5,mc5,lc5,ec5⟩:=q5
 dsimp only at hlc5 hmc5 hcb5 hQ
 obtain ⟨k5,rfl⟩:∃ k:Nat,c5=(k:Int):=⟨c5.toNat,by omega⟩
 rw [Int.toNat_natCast] at hQ
 replace hmc5:=aC hm4 hmc5
 have bc5:lc5.length≤100000:=by omega
 have hg5:=gz rV_go k5 (mc5,lc5,ec5)
 obtain ⟨⟨v5,m5,l5,e5⟩,hU5⟩:∃ G,goX rV k5 (mc5,lc5,ec5)=G:=⟨_,rfl⟩
 rw [hU5] at hg5 hQ
 obtain ⟨hl5,hm5,_⟩:=hg5
 dsimp only [rU,rV,rB] at hQ hl5 hm5
 replace hm5:=aC hmc5 hm5
 have b5:l5.length≤100000:=by omega
 have hl6:=bm m5 l5 e5 2
 have hm6:=bn m5 l5 e5 2
 generalize h6:bB (m5,l5,e5) 2=q6 at *
 obtain ⟨v6,m6,l6,e6⟩:=q6
 dsimp only [rU,rV,rB] at hQ hl6 hm6
 replace hm6:=aC hm5 hm6
 have b6:l6.length≤100000:=by omega
 have hl7:=fD m6 l6 e6 400
 have hm7:=fB m6 l6 e6 400
 generalize h7:dM (m6,l6,e6) 400=q7 at *
 obtain ⟨v7,m7,l7,e7⟩:=q7
 dsimp only [rU,rV,rB] at hQ hl7 hm7
 replace hm7:=aC hm6 hm7
 have b7:l7.length≤100000:=by omega
 subst hQ
 dsimp only [aE]
 refine ACalls.fW aB (TblOk.cons iC (TblOk.cons oK (TblOk.cons jO (TblOk.cons rh (TblOk.cons pA TblOk.nil))))) Tryz.func66 [.cell 2 54] (by simp only [zkz];omega) (T:=ay [(15,[[],[],[],[],[3],[1,3],[],[1,3]]),(3,[[1]]),(12,[[1]])]) (h:=fun hcl hlt=>?_)
 clear hlt
 try simp only [List.append_eq,yal,yak]
 simp only [cm,cl,bhq,Nat.reduceMod,Nat.reduceDiv,aY,aZ,a0,cb,a9,bY,ca,bV,bW,yaq,yar,yao,yap,go_sem,byq,hne,hid,hcs,hcm,hgm,onR,ae,au,zlv,zlt,zle,and_true,true_and,hid,onR,ae,aE,vv,vc,List.set_cons_succ,List.set_cons_zero,bR,dN,bj,fN,h0,b0,h1,b1,hc2,bc2,b2,h3,b3,h4,b4,hc5,bc5,b5,h6,b6,h7,b7,ybb]
 refine ⟨hle,?_⟩
 refine ey 3 2 3 (cs:=[.int .i64 v0,.str v1,.slice .nil 1 [],.slice .nil 1 [],.int .i64 0,.slice .nil 1 [],.int .i64 0,.str []]) rfl (by simp only [go_sem]) rfl ?_
 simp only [cm,cl,bhq,Nat.reduceMod,Nat.reduceDiv,aY,aZ,a0,cb,a9,bY,ca,bV,bW,yaq,yar,yao,yap,go_sem,byq,hne,hid,hcs,hcm,hgm,onR,ae,au,zlv,zlt,zle,and_true,true_and,hid,onR,ae,aE,vv,vc,List.set_cons_succ,List.set_cons_zero,bR,dN,bj,fN,h0,b0,h1,b1,hc2,bc2,b2,h3,b3,h4,b4,hc5,bc5,b5,h6,b6,h7,b7,ybb]
 have hcl2:∀ (s:RS) (us:List SKey),cw m s.1→((((H.set id (.cells [.slice s.1 1 (bys s.2.1),.int .i64 s.2.2])).push (.cells [.int .i64 0,.str [],.slice .nil 1 [],.slice .nil 1 [],.int .i64 0,.slice .nil 1 [],.int .i64 0,.str []])).push (.cells [.int .i64 v0,.str v1,.slice (.own (H.nx+1+1)) 3 (us.map (aQ)),.slice .nil 1 [],.int .i64 0,.slice .nil 1 [],.int .i64 0,.str []])).push (.buf 3 us.length)).Closed:=fun s us hs=>by
  have h0:((((H.set id (.cells [.slice s.1 1 (bys s.2.1),.int .i64 s.2.2])).push (.cells [.int .i64 0,.str [],.slice .nil 1 [],.slice .nil 1 [],.int .i64 0,.slice .nil 1 [],.int .i64 0,.str []])).push (.cells [])).push (.buf 3 us.length)).Closed:=by
   repeat' (first|exact am hid hcl _ hs _ _|refine aP ?_|refine ag ?_ ?_)
   all_goals first|trivial|simp [aH,zno,znp,zmz,zna,znb,zmj]
  have h0:=bS (i:=H.nx+1) (cs:=[.int .i64 v0,.str v1,.slice (.own (H.nx+1+1)) 3 (us.map (aQ)),.slice .nil 1 [],.int .i64 0,.slice .nil 1 [],.int .i64 0,.str []]) h0 (by
   simp [zno,znp,zmz,zna,znb,zky,zkz,aH,gk,fX,fV,gb,gg,ga,gh,f4,fZ,f7,gd,fU,fY,gp,f9,gf]
   try omega)
  simp only [go_sem] at h0
  exact h0
 refine aA (A:=Nat × RS × List SKey) (fun x=>[(0,.ptr id 0),(2,.ptr H.nx 0),(3,.ptr (H.nx+1) 0),(4,.int .i64 (x.1:Int))]) (fun x=>(((H.set id (.cells [.slice x.2.1.1 1 (bys x.2.1.2.1),.int .i64 x.2.1.2.2])).push (.cells [.int .i64 0,.str [],.slice .nil 1 [],.slice .nil 1 [],.int .i64 0,.slice .nil 1 [],.int .i64 0,.str []])).push (.cells [.int .i64 v0,.str v1,.slice (.own (H.nx+1+1)) 3 (x.2.2.map (aQ)),.slice .nil 1 [],.int .i64 0,.slice .nil 1 [],.int .i64 0,.str []])).push (.buf 3 x.2.2.length)) (fun x=>x.2.2.length+x.1≤65535∧(x.2.2++(goX eV x.1 x.2.1).1,(goX eV x.1 x.2.1).2)=(v2,m2,l2,e2)∧x.2.1.2.1.length≤100000∧cw m x.2.1.1) (fun x=>x.1) (k2,(mc2,lc2,ec2),[]) ⟨by simp;omega,by rw [← hU2];rfl,bc2,hmc2⟩ ?_ fun x hx=>?_
 ·refine ⟨by (try simp only [zkk,zkp,zky,zkz]);omega,by repeat first|exact .refl _|refine .push ?_ _,hcl2 _ _ hmc2,?_,?_⟩
  ·simp [ltF,zmz,znh,zky,zkz]
   try omega
  ·simp [bf,wk2,wk1,wkM,Fr.get]
 obtain ⟨n2,⟨mx2,lx2,ex2⟩,us2⟩:=x
 obtain ⟨ha2,hb2,hd2,he2⟩:=hx
 dsimp only at ha2 hb2 hd2 he2 ⊢
 simp only [go_sem]
 refine ai (fun hc=>?_) (fun hc=>?_)
 ·obtain ⟨n2,rfl⟩:∃ m,n2=m+1:=⟨n2 - 1,by simp at hc;omega⟩
  have e52:IntKind.i64.wrap (((n2+1:Nat):Int) - 1)=((n2:Nat):Int):=by rw [wrap_i64]<;>omega
  have hge:goX eV (n2+1) (mx2,lx2,ex2)=((eV (mx2,lx2,ex2)).1::(goX eV n2 (eV (mx2,lx2,ex2)).2).1,(goX eV n2 (eV (mx2,lx2,ex2)).2).2):=rfl
  rw [hge] at hb2
  clear hge
  obtain ⟨E2,hE2⟩:∃ E,eV (mx2,lx2,ex2)=E:=⟨_,rfl⟩
  rw [hE2] at hb2
  unfold eV at hE2
  try dsimp only [rap,cZ,rU,rT,rV,rB,kv] at hE2
  have hly20:=fD mx2 lx2 ex2 24
  have hmy20:=fB mx2 lx2 ex2 24
  generalize hy20:dM (mx2,lx2,ex2) 24=qy20 at *
  obtain ⟨vy20,my20,ly20,ey20⟩:=qy20
  dsimp only [rU,rV,rB] at hE2 hly20 hmy20
  replace hmy20:=aC he2 hmy20
  have by20:ly20.length≤100000:=by omega
  have hly21:=bm my20 ly20 ey20 2
  have hmy21:=bn my20 ly20 ey20 2
  generalize hy21:bB (my20,ly20,ey20) 2=qy21 at *
  obtain ⟨vy21,my21,ly21,ey21⟩:=qy21
  dsimp only [rU,rV,rB] at hE2 hly21 hmy21
  replace hmy21:=aC hmy20 hmy21
  have by21:ly21.length≤100000:=by omega
  have hly22:=bm my21 ly21 ey21 1
  have hmy22:=bn my21 ly21 ey21 1
  generalize hy22:bB (my21,ly21,ey21) 1=qy22 at *
  obtain ⟨vy22,my22,ly22,ey22⟩:=qy22
  dsimp only [rU,rV,rB] at hE2 hly22 hmy22
  replace hmy22:=aC hmy21 hmy22
  have by22:ly22.length≤100000:=by omega
  subst hE2
  dsimp only at hb2
  simp only [cm,cl,bhq,Nat.reduceMod,Nat.reduceDiv,aY,aZ,a0,cb,a9,bY,ca,bV,bW,yaq,yar,yao,yap,go_sem,byq,hne,hid,hcs,hcm,hgm,onR,ae,au,zlv,zlt,zle,and_true,true_and,hid,onR,ae,aE,vv,vc,List.set_cons_succ,List.set_cons_zero,bR,dN,bj,fN,h0,b0,h1,b1,hc2,bc2,b2,h3,b3,h4,b4,hc5,bc5,b5,h6,b6,h7,b7,hd2,e52,hy20,by20,hy21,by21,hy22,by22,ybb,aQ]
  refine ⟨⟨by omega,by omega,fun z hz=>by rw [List.mem_singleton] at hz;subst hz;rfl⟩,(n2,(my22,ly22,ey22),us2++[(⟨vy20,vy21,vy22⟩:SKey)]),⟨by simp only [List.length_append,yaz,yba];omega,by rw [← hb2];simp [List.append_assoc],by22,hmy22⟩,by dsimp only;omega,?_⟩
  refine ⟨by (try simp only [zky,zkz]);omega,?_,hcl2 _ _ hmy22,?_,?_⟩
  ·simp only [List.map_append,yae,yaf,aQ,inL,boL,List.length_append,yaz,yba,yal,yak]
   repeat first|exact .refl _|refine .push ?_ _
  ·simp [ltF,zmz,znh,zky,zkz]
   try omega
  ·simp [bf,wk2,wk1,wkM,Fr.get]
 have hn0:n2=0:=by simp at hc;omega
 subst hn0
 simp only [goX,yaj,Prod.mk.injEq] at hb2
 obtain ⟨z1,z2,z3,z4⟩:=hb2
 replace z1:=z1.symm
 replace z2:=z2.symm
 replace z3:=z3.symm
 replace z4:=z4.symm
 subst z1 z2 z3 z4
 simp only [cm,cl,bhq,Nat.reduceMod,Nat.reduceDiv,aY,aZ,a0,cb,a9,bY,ca,bV,bW,yaq,yar,yao,yap,go_sem,byq,hne,hid,hcs,hcm,hgm,onR,ae,au,zlv,zlt,zle,and_true,true_and,hid,onR,ae,aE,vv,vc,List.set_cons_succ,List.set_cons_zero,bR,dN,bj,fN,h0,b0,h1,b1,hc2,bc2,b2,h3,b3,h4,b4,hc5,bc5,b5,h6,b6,h7,b7,ybb]
 refine ey 3 5 2 (cs:=[.int .i64 v0,.str v1,.slice (.own (H.nx+1+1)) 3 (v2.map (aQ)),.slice .any 1 (v3.map (.int .i64)),.int .i64 v4,.slice .nil 1 [],.int .i64 0,.str []]) rfl (by simp only [go_sem]) rfl ?_
 simp only [cm,cl,bhq,Nat.reduceMod,Nat.reduceDiv,aY,aZ,a0,cb,a9,bY,ca,bV,bW,yaq,yar,yao,yap,go_sem,byq,hne,hid,hcs,hcm,hgm,onR,ae,au,zlv,zlt,zle,and_true,true_and,hid,onR,ae,aE,vv,vc,List.set_cons_succ,List.set_cons_zero,bR,dN,bj,fN,h0,b0,h1,b1,hc2,bc2,b2,h3,b3,h4,b4,hc5,bc5,b5,h6,b6,h7,b7,ybb]
 have hcl5:∀ (s:RS) (us:List Nat),cw m s.1→(((((H.set id (.cells [.slice s.1 1 (bys s.2.1),.int .i64 s.2.2])).push (.cells [.int .i64 0,.str [],.slice .nil 1 [],.slice .nil 1 [],.int .i64 0,.slice .nil 1 [],.int .i64 0,.str []])).push (.cells [.int .i64 v0,.str v1,.slice (.own (H.nx+1+1)) 3 (v2.map (aQ)),.slice .any 1 (v3.map (.int .i64)),.int .i64 v4,.slice (.own (H.nx+1+1+1)) 2 (us.map (vv)),.int .i64 0,.str []])).push (.buf 3 v2.length)).push (.buf 2 us.length)).Closed:=fun s us hs=>by
  have h0:(((((H.set id (.cells [.slice s.1 1 (bys s.2.1),.int .i64 s.2.2])).push (.cells [.int .i64 0,.str [],.slice .nil 1 [],.slice .nil 1 [],.int .i64 0,.slice .nil 1 [],.int .i64 0,.str []])).push (.cells [])).push (.buf 3 v2.length)).push (.buf 2 us.length)).Closed:=by
   repeat' (first|exact am hid hcl _ hs _ _|refine aP ?_|refine ag ?_ ?_)
   all_goals first|trivial|simp [aH,zno,znp,zmz,zna,znb,zmj]
  have h0:=bS (i:=H.nx+1) (cs:=[.int .i64 v0,.str v1,.slice (.own (H.nx+1+1)) 3 (v2.map (aQ)),.slice .any 1 (v3.map (.int .i64)),.int .i64 v4,.slice (.own (H.nx+1+1+1)) 2 (us.map (vv)),.int .i64 0,.str []]) h0 (by
   simp [zno,znp,zmz,zna,znb,zky,zkz,aH,gk,fX,fV,gb,gg,ga,gh,f4,fZ,f7,gd,fU,fY,gp,f9,gf]
   try omega)
  simp only [go_sem] at h0
  exact h0
 refine aA (A:=Nat × RS × List Nat) (fun x=>[(0,.ptr id 0),(2,.ptr H.nx 0),(3,.ptr (H.nx+1) 0),(6,.int .i64 (x.1:Int))]) (fun x=>((((H.set id (.cells [.slice x.2.1.1 1 (bys x.2.1.2.1),.int .i64 x.2.1.2.2])).push (.cells [.int .i64 0,.str [],.slice .nil 1 [],.slice .nil 1 [],.int .i64 0,.slice .nil 1 [],.int .i64 0,.str []])).push (.cells [.int .i64 v0,.str v1,.slice (.own (H.nx+1+1)) 3 (v2.map (aQ)),.slice .any 1 (v3.map (.int .i64)),.int .i64 v4,.slice (.own (H.nx+1+1+1)) 2 (x.2.2.map (vv)),.int .i64 0,.str []])).push (.buf 3 v2.length)).push (.buf 2 x.2.2.length)) (fun x=>x.2.2.length+x.1≤65535∧(x.2.2++(goX rV x.1 x.2.1).1,(goX rV x.1 x.2.1).2)=(v5,m5,l5,e5)∧x.2.1.2.1.length≤100000∧cw m x.2.1.1) (fun x=>x.1) (k5,(mc5,lc5,ec5),[]) ⟨by simp;omega,by rw [← hU5];rfl,bc5,hmc5⟩ ?_ fun x hx=>?_
 ·refine ⟨by (try simp only [zkk,zkp,zky,zkz]);omega,by repeat first|exact .refl _|refine .push ?_ _,hcl5 _ _ hmc5,?_,?_⟩
  ·simp [ltF,zmz,znh,zky,zkz]
   try omega
  ·simp [bf,wk2,wk1,wkM,Fr.get]
 obtain ⟨n5,⟨mx5,lx5,ex5⟩,us5⟩:=x
 obtain ⟨ha5,hb5,hd5,he5⟩:=hx
 dsimp only at ha5 hb5 hd5 he5 ⊢
 simp only [go_sem]
 refine ai (fun hc=>?_) (fun hc=>?_)
 ·obtain ⟨n5,rfl⟩:∃ m,n5=m+1:=⟨n5 - 1,by simp at hc;omega⟩
  have e55:IntKind.i64.wrap (((n5+1:Nat):Int) - 1)=((n5:Nat):Int):=by rw [wrap_i64]<;>omega
  have hge:goX rV (n5+1) (mx5,lx5,ex5)=((rV (mx5,lx5,ex5)).1::(goX rV n5 (rV (mx5,lx5,ex5)).2).1,(goX rV n5 (rV (mx5,lx5,ex5)).2).2):=rfl
  rw [hge] at hb5
  clear hge
  obtain ⟨E5,hE5⟩:∃ E,rV (mx5,lx5,ex5)=E:=⟨_,rfl⟩
  rw [hE5] at hb5
  unfold rV at hE5
  try dsimp only [rap,cZ,rU,rT,rV,rB,kv] at hE5
  have hly50:=jZ mx5 lx5 ex5
  have hmy50:=jX mx5 lx5 ex5
  generalize hy50:cO (mx5,lx5,ex5)=qy50 at *
  obtain ⟨vy50,my50,ly50,ey50⟩:=qy50
  dsimp only [rU,rV,rB] at hE5 hly50 hmy50
  replace hmy50:=aC he5 hmy50
  have by50:ly50.length≤100000:=by omega
  subst hE5
  dsimp only at hb5
  simp only [cm,cl,bhq,Nat.reduceMod,Nat.reduceDiv,aY,aZ,a0,cb,a9,bY,ca,bV,bW,yaq,yar,yao,yap,go_sem,byq,hne,hid,hcs,hcm,hgm,onR,ae,au,zlv,zlt,zle,and_true,true_and,hid,onR,ae,aE,vv,vc,List.set_cons_succ,List.set_cons_zero,bR,dN,bj,fN,mn,h0,b0,h1,b1,hc2,bc2,b2,h3,b3,h4,b4,hc5,bc5,b5,h6,b6,h7,b7,hd5,e55,hy50,by50,ybb,vv,vc]
  refine ⟨⟨by omega,by omega,fun z hz=>by rw [List.mem_singleton] at hz;subst hz;rfl⟩,(n5,(my50,ly50,ey50),us5++[vy50]),⟨by simp only [List.length_append,yaz,yba];omega,by rw [← hb5];simp [List.append_assoc],by50,hmy50⟩,by dsimp only;omega,?_⟩
  refine ⟨by (try simp only [zky,zkz]);omega,?_,hcl5 _ _ hmy50,?_,?_⟩
  ·simp only [List.map_append,yae,yaf,vv,vc,inL,boL,List.length_append,yaz,yba,yal,yak]
   repeat first|exact .refl _|refine .push ?_ _
  ·simp [ltF,zmz,znh,zky,zkz]
   try omega
  ·simp [bf,wk2,wk1,wkM,Fr.get]
 have hn0:n5=0:=by simp at hc;omega
 subst hn0
 simp only [goX,yaj,Prod.mk.injEq] at hb5
 obtain ⟨z1,z2,z3,z4⟩:=hb5
 replace z1:=z1.symm
 replace z2:=z2.symm
 replace z3:=z3.symm
 replace z4:=z4.symm
 subst z1 z2 z3 z4
 simp only [cm,cl,bhq,Nat.reduceMod,Nat.reduceDiv,aY,aZ,a0,cb,a9,bY,ca,bV,bW,yaq,yar,yao,yap,go_sem,byq,hne,hid,hcs,hcm,hgm,onR,ae,au,zlv,zlt,zle,and_true,true_and,hid,onR,ae,aE,vv,vc,List.set_cons_succ,List.set_cons_zero,bR,dN,bj,fN,h0,b0,h1,b1,hc2,bc2,b2,h3,b3,h4,b4,hc5,bc5,b5,h6,b6,h7,b7,ybb]
 refine ⟨?_,by repeat first|exact .refl _|refine .push ?_ _,am hid hcl m7 hm7 l7 e7,(fun x=>bh x) _⟩
 simp [wk,wk2,wkL,wk1,wkM,aq,inL,boL]
end Go.AL
