/- Contracts and plain laws, a part of the proof; no condition of its own. -/
import Derived.Test.YtiiiljghmilepaaGreatW03x
import Derived.Test.YtiiiljghmilepaaGreatLRdS
set_option maxHeartbeats 32000000
open List renaming length_cons → yaz, length_nil → yba, take_succ_cons → yaq, take_zero → yar, drop_succ_cons → yao, drop_zero → yap, length_map → ybb, map_cons → yae, map_nil → yaf, append_nil → yaj, cons_append → yal, nil_append → yak
open Go Go.AL Go.Proofs
namespace Go.AL
set_option linter.all false
set_option maxRecDepth 10000
theorem nX {α:Type} {rd:RM α} {m:Int}:LP.l rd m=rlP rd m:=rfl
theorem kv {α:Type} {rd:RM α} {m:Int}:LX.l rd m=rlX rd m:=rfl
theorem cJ (s:RS) (n:Int):0≤(aX s n).1∧(aX s n).1≤65535:=by
 unfold aX
 split
 ·exact ⟨Int.le_refl _,(show (0:Int)≤65535 by decide)⟩
 ·split
  ·exact ⟨Int.le_refl _,(show (0:Int)≤65535 by decide)⟩
  ·split
   ·exact ⟨Int.le_refl _,(show (0:Int)≤65535 by decide)⟩
   ·rename_i h1 h2
    have h:=lC (s.2.1.take 2)
    rw [List.length_take,show min 2 s.2.1.length=2 by omega] at h
    exact ⟨Int.natCast_nonneg _,by dsimp only;omega⟩
def qH:List AV→AHeap→(AEnd→AHeap→Prop)→Prop
 |[.ptr id 0],H,K=>onR H id fun m l e=>True∧K (.ret (.int .i64 ((rU 2) (m,l,e)).1)) (H.set id (.cells (aE ((rU 2) (m,l,e)).2)))
 |_,_,_=>False
theorem BB:EntOk Tryz.prog 230 (Ent.effect qH):=by
 refine EntOk.effect fun args H K h=>?_
 unfold qH at h
 split at h
 rotate_left
 ·exact h.elim
 rename_i id
 obtain ⟨m,l,e,hid,hle,h⟩:=bU h
 obtain ⟨hpre,hK⟩:=h
 refine ⟨_,_,hK,?_⟩
 clear hK
 have hl0:=AHeap.get_lt hid
 have hne:=aU hl0
 have hss:=bo hid
 have hcs:=aI hid
 have hcm:=fun cs=>@av H id cs hl0
 have hgm:=fun o=>@aN H id o hl0
 obtain ⟨Q,hQ⟩:∃ Q,(rU 2) (m,l,e)=Q:=⟨_,rfl⟩
 rw [hQ]
 unfold rU at hQ
 try dsimp only [rap,cZ,rU,rT,rV,rB,nX] at hQ
 have hl0:=bm m l e 2
 have hm0:=bn m l e 2
 generalize h0:bB (m,l,e) 2=q0 at *
 obtain ⟨v0,m0,l0,e0⟩:=q0
 dsimp only [rU,rV,rB] at hQ hl0 hm0
 subst hQ
 dsimp only [aE]
 refine ACalls.fW aB (TblOk.cons gy TblOk.nil) Tryz.func230 [.tmp 2] (by simp only [zkz];omega) (T:=ay []) (h:=fun hcl hlt=>?_)
 clear hlt
 have b0:l0.length≤100000:=by omega
 simp only [go_sem,byq,hne,hid,hcs,hcm,hgm,onR,ae,au,zlv,zlt,zle,and_true,true_and,hid,onR,ae,aE,vv,vc,hM,h0,b0]
 have hclz:(H.set id (.cells [.slice m0 1 (bys l0),.int .i64 e0])).Closed:=am hid hcl m0 hm0 l0 e0
 refine ⟨hle,?_,by repeat first|exact .refl _|refine .push ?_ _,hclz,(fun x=>of_eq_true zmz) _⟩
 simp [wk,wk2,wkL,wk1,wkM,wkM]
def oA:List AV→AHeap→(AEnd→AHeap→Prop)→Prop
 |[.ptr id 0,.agg [.int .i64 most,.func (.func f) [] [],.func (.func 230) [] []]],H,K=>onR H id fun m l e=>True∧K (.ret (.slice .any 1 ((rlP (rU 2) most (m,l,e)).1.map (.int .i64)))) (H.set id (.cells (aE (rlP (rU 2) most (m,l,e)).2)))
 |_,_,_=>False
theorem rQ:EntOk Tryz.prog 144 (Ent.effect oA):=by
 refine EntOk.effect fun args H K h=>?_
 unfold oA at h
 split at h
 rotate_left
 ·exact h.elim
 rename_i id most f
 obtain ⟨m,l,e,hid,hle,h⟩:=bU h
 obtain ⟨hpre,hK⟩:=h
 refine ⟨_,_,hK,?_⟩
 clear hK
 have hl0:=AHeap.get_lt hid
 have hne:=aU hl0
 have hss:=bo hid
 have hcs:=aI hid
 have hcm:=fun cs=>@av H id cs hl0
 have hgm:=fun o=>@aN H id o hl0
 have hl1:=cu m l e most
 have hm1:=ct m l e most
 have hc1:=cJ (m,l,e) most
 obtain ⟨Q,hQ⟩:∃ Q,rlP (rU 2) most (m,l,e)=Q:=⟨_,rfl⟩
 rw [hQ]
 unfold rlP at hQ
 generalize h1:aX (m,l,e) most=q1 at *
 obtain ⟨cc,m1,l1,e1⟩:=q1
 dsimp only at hl1 hm1 hc1 hQ
 obtain ⟨kc,rfl⟩:∃ kc:Nat,cc=(kc:Int):=⟨cc.toNat,by omega⟩
 rw [Int.toNat_natCast] at hQ
 obtain ⟨⟨GO,gs⟩,hG⟩:∃ G,goP (rU 2) kc (m1,l1,e1)=G:=⟨_,rfl⟩
 have hgo:=gS (fe 2) kc (m1,l1,e1)
 rw [hG] at hQ hgo
 obtain ⟨hg1,hg2,_⟩:=hgo
 obtain ⟨gm,gl,ge⟩:=gs
 dsimp only at hQ hg1 hg2
 subst hQ
 refine ACalls.fW aB (TblOk.cons eJ (TblOk.cons BB (TblOk.cons fv TblOk.nil))) Tryz.func144 [.tmp 4] (by simp only [zkz];omega) (T:=ay []) (h:=fun hcl hlt=>?_)
 clear hlt
 have b1:l1.length≤100000:=by omega
 simp only [cm,cl,bhq,Nat.reduceMod,Nat.reduceDiv,aY,aZ,a0,cb,a9,bY,ca,bV,bW,yaq,yar,yao,yap,go_sem,byq,hne,hid,hcs,hcm,hgm,onR,ae,au,zlv,zlt,zle,and_true,true_and,hid,eQ,h1,b1,aE]
 refine ⟨hle,?_⟩
 have hltC:ltL (H.nx+1) [.int .i64 most,.func (.func f) [] [],.func (.func 230) [] []]:=by simp [zno,znp,zmz,cy]
 have hclL:∀ (s:RS) (k:Nat),cw m s.1→((((H.set id (.cells [.slice s.1 1 (bys s.2.1),.int .i64 s.2.2])).push (.cells [.int .i64 most,.func (.func f) [] [],.func (.func 230) [] []])).push (.buf 1 0)).push (.buf 1 k)).Closed:=fun s k hs=>aP (aP (ag (am hid hcl s.1 hs s.2.1 s.2.2) (by simpa only [zkz] using hltC)))
 refine aA (A:=List Int × RS) (fun x=>[(0,.ptr id 0),(3,.ptr H.nx 0),(5,.slice (.own (H.nx+1+1)) 1 (x.1.map (.int .i64))),(10,.int .i64 (kc:Int)),(11,.int .i64 (x.1.length:Int))]) (fun x=>(((H.set id (.cells [.slice x.2.1 1 (bys x.2.2.1),.int .i64 x.2.2.2])).push (.cells [.int .i64 most,.func (.func f) [] [],.func (.func 230) [] []])).push (.buf 1 0)).push (.buf 1 x.1.length)) (fun x=>x.1.length≤kc∧((goP (rU 2) (kc - x.1.length) x.2).1.map (x.1++·),(goP (rU 2) (kc - x.1.length) x.2).2)=(GO,gm,gl,ge)∧x.2.2.1.length≤l1.length∧cw m x.2.1) (fun x=>kc - x.1.length) ([],(m1,l1,e1)) ⟨Nat.zero_le _,by rw [← hG];simp,Nat.le_refl _,hm1⟩ ?_ fun x hx=>?_
 ·refine ⟨by simp only [zkk,zkp,zky,zkz];omega,by repeat first|exact .refl _|refine .push ?_ _,hclL (m1,l1,e1) 0 hm1,?_,?_⟩
  ·simp [ltF,zmz,znh,aH,znp,zky,zkz]
   try omega
  ·simp [bf,wk2,wk1,wkM,Fr.get]
 obtain ⟨us,m2,l2,e2⟩:=x
 obtain ⟨hx1,hx2,hx3,hx4⟩:=hx
 dsimp only at hx1 hx2 hx3 hx4 ⊢
 have b2:l2.length≤100000:=by omega
 have ne1:(H.nx+1=id)=False:=eq_false (by omega)
 simp only [go_sem]
 refine ai (fun hc=>?_) (fun hc=>?_)
 ·have hk':us.length<kc:=by simp at hc;omega
  have e5:IntKind.i64.wrap ((us.length:Int)+1)=((us.length+1:Nat):Int):=by rw [wrap_i64]<;>omega
  have hu:goP (rU 2) (kc - us.length) (m2,l2,e2)=if ((rU 2) (m2,l2,e2)).2.2.2≠0 then (none,((rU 2) (m2,l2,e2)).2) else ((goP (rU 2) (kc - (us.length+1)) ((rU 2) (m2,l2,e2)).2).1.map (((rU 2) (m2,l2,e2)).1::·),(goP (rU 2) (kc - (us.length+1)) ((rU 2) (m2,l2,e2)).2).2):=by
   rw [show kc - us.length=(kc - (us.length+1))+1 by omega];rfl
  rw [hu] at hx2
  have hl3:=(fe 2).l (m2,l2,e2)
  have hm3:=(fe 2).m (m2,l2,e2)
  generalize hq3:(rU 2) (m2,l2,e2)=q3 at *
  obtain ⟨n3,m3,l3,e3⟩:=q3
  dsimp only at hl3 hm3 hx2
  have b3:l3.length≤100000:=by omega
  have hmm:cw m m3:=aC hx4 hm3
  cases hz:(e3 != 0)
  ·have hz':e3=0:=by simpa using hz
   rw [if_neg (by rw [hz'];decide)] at hx2
   simp only [go_sem,byq,hne,hid,hcs,hcm,hgm,onR,ae,au,zlv,zlt,zle,and_true,true_and,hid,qH,di,cW,hq3,hz,b2,b3,aE,e5,ybb]
   have hlen:(us++[n3]).length=us.length+1:=by simp
   refine ⟨⟨by omega,by omega,fun z hz=>by rw [List.mem_singleton] at hz;subst hz;rfl⟩,(us++[n3],(m3,l3,e3)),⟨by dsimp only;omega,?_,by dsimp only;omega,hmm⟩,by dsimp only;omega,?_⟩
   ·dsimp only
    rw [hlen,← hx2]
    generalize goP (rU 2) (kc - (us.length+1)) (m3,l3,e3)=q5
    obtain ⟨o,t⟩:=q5
    cases o
    ·rfl
    ·simp [List.append_assoc]
   ·refine ⟨by simp only [zky,zkz];omega,?_,hclL (m3,l3,e3) _ hmm,?_,?_⟩
    ·simp only [List.map_append,yae,yaf,List.length_append,yaz,yba]
     repeat first|exact .refl _|refine .push ?_ _
    ·simp [ltF,zmz,znh,aH,zky,zkz]
     refine ⟨by omega,by omega,ltL_iff.2 fun j hj=>?_⟩
     have hmem:=List.getElem_mem hj
     rw [List.mem_append,List.mem_map,List.mem_singleton] at hmem
     rcases hmem with ⟨x,_,e⟩|e
     ·rw [← e];exact (fun x=>of_eq_true zmz) x
     ·rw [e];exact (fun x=>of_eq_true zmz) _
    ·simp [bf,wk2,wk1,wkM,Fr.get,wkM]
  ·have hz':e3≠0:=by simpa using hz
   rw [if_pos hz'] at hx2
   simp only [Option.map,Prod.mk.injEq] at hx2
   obtain ⟨rfl,rfl,rfl,rfl⟩:=hx2
   simp only [go_sem,byq,hne,hid,hcs,hcm,hgm,onR,ae,au,zlv,zlt,zle,and_true,true_and,hid,qH,di,cW,hq3,hz,b2,b3,aE,Option.getD_none,yaf]
   exact ⟨by simp [wk,wk2,wk1,wkM],by repeat first|exact .refl _|refine .push ?_ _,am hid hcl _ hmm _ _,by simp [aH,znp]⟩
 ·have hk':us.length=kc:=by simp at hc;omega
  subst hk'
  rw [Nat.sub_self] at hx2
  simp only [goP,Option.map,yaj,Prod.mk.injEq] at hx2
  obtain ⟨rfl,rfl,rfl,rfl⟩:=hx2
  simp only [go_sem,byq,Option.getD_some]
  exact ⟨by simp [wk,wk2,wk1,wkM],by repeat first|exact .refl _|refine .push ?_ _,am hid hcl _ hx4 _ _,aa (fun x=>of_eq_true zmz)⟩
def uq:List AV→AHeap→(AEnd→AHeap→Prop)→Prop
 |[.ptr id 0,.agg [.int .i64 most,.func (.func f) [] [],.func (.func 234) [] []]],H,K=>onR H id fun m l e=>True∧K (.ret (.slice .any 2 ((rlP rV most (m,l,e)).1.map (vv)))) (H.set id (.cells (aE (rlP rV most (m,l,e)).2)))
 |_,_,_=>False
theorem DN:EntOk Tryz.prog 165 (Ent.effect uq):=by
 refine EntOk.effect fun args H K h=>?_
 unfold uq at h
 split at h
 rotate_left
 ·exact h.elim
 rename_i id most f
 obtain ⟨m,l,e,hid,hle,h⟩:=bU h
 obtain ⟨hpre,hK⟩:=h
 refine ⟨_,_,hK,?_⟩
 clear hK
 have hl0:=AHeap.get_lt hid
 have hne:=aU hl0
 have hss:=bo hid
 have hcs:=aI hid
 have hcm:=fun cs=>@av H id cs hl0
 have hgm:=fun o=>@aN H id o hl0
 have hl1:=cu m l e most
 have hm1:=ct m l e most
 have hc1:=cJ (m,l,e) most
 obtain ⟨Q,hQ⟩:∃ Q,rlP rV most (m,l,e)=Q:=⟨_,rfl⟩
 rw [hQ]
 unfold rlP at hQ
 generalize h1:aX (m,l,e) most=q1 at *
 obtain ⟨cc,m1,l1,e1⟩:=q1
 dsimp only at hl1 hm1 hc1 hQ
 obtain ⟨kc,rfl⟩:∃ kc:Nat,cc=(kc:Int):=⟨cc.toNat,by omega⟩
 rw [Int.toNat_natCast] at hQ
 obtain ⟨⟨GO,gs⟩,hG⟩:∃ G,goP rV kc (m1,l1,e1)=G:=⟨_,rfl⟩
 have hgo:=gS rV_go kc (m1,l1,e1)
 rw [hG] at hQ hgo
 obtain ⟨hg1,hg2,_⟩:=hgo
 obtain ⟨gm,gl,ge⟩:=gs
 dsimp only at hQ hg1 hg2
 subst hQ
 refine ACalls.fW aB (TblOk.cons eJ (TblOk.cons pI (TblOk.cons fv TblOk.nil))) Tryz.func165 [.tmp 4] (by simp only [zkz];omega) (T:=ay []) (h:=fun hcl hlt=>?_)
 clear hlt
 have b1:l1.length≤100000:=by omega
 simp only [cm,cl,bhq,Nat.reduceMod,Nat.reduceDiv,aY,aZ,a0,cb,a9,bY,ca,bV,bW,yaq,yar,yao,yap,go_sem,byq,hne,hid,hcs,hcm,hgm,onR,ae,au,zlv,zlt,zle,and_true,true_and,hid,eQ,h1,b1,aE]
 refine ⟨hle,?_⟩
 have hltC:ltL (H.nx+1) [.int .i64 most,.func (.func f) [] [],.func (.func 234) [] []]:=by simp [zno,znp,zmz,cy]
 have hclL:∀ (s:RS) (k:Nat),cw m s.1→((((H.set id (.cells [.slice s.1 1 (bys s.2.1),.int .i64 s.2.2])).push (.cells [.int .i64 most,.func (.func f) [] [],.func (.func 234) [] []])).push (.buf 2 0)).push (.buf 2 k)).Closed:=fun s k hs=>aP (aP (ag (am hid hcl s.1 hs s.2.1 s.2.2) (by simpa only [zkz] using hltC)))
 refine aA (A:=List Nat × RS) (fun x=>[(0,.ptr id 0),(3,.ptr H.nx 0),(5,.slice (.own (H.nx+1+1)) 2 (x.1.map (vv))),(10,.int .i64 (kc:Int)),(11,.int .i64 (x.1.length:Int))]) (fun x=>(((H.set id (.cells [.slice x.2.1 1 (bys x.2.2.1),.int .i64 x.2.2.2])).push (.cells [.int .i64 most,.func (.func f) [] [],.func (.func 234) [] []])).push (.buf 2 0)).push (.buf 2 x.1.length)) (fun x=>x.1.length≤kc∧((goP rV (kc - x.1.length) x.2).1.map (x.1++·),(goP rV (kc - x.1.length) x.2).2)=(GO,gm,gl,ge)∧x.2.2.1.length≤l1.length∧cw m x.2.1) (fun x=>kc - x.1.length) ([],(m1,l1,e1)) ⟨Nat.zero_le _,by rw [← hG];simp,Nat.le_refl _,hm1⟩ ?_ fun x hx=>?_
 ·refine ⟨by simp only [zkk,zkp,zky,zkz];omega,by repeat first|exact .refl _|refine .push ?_ _,hclL (m1,l1,e1) 0 hm1,?_,?_⟩
  ·simp [ltF,zmz,znh,aH,znp,zky,zkz]
   try omega
  ·simp [bf,wk2,wk1,wkM,Fr.get]
 obtain ⟨us,m2,l2,e2⟩:=x
 obtain ⟨hx1,hx2,hx3,hx4⟩:=hx
 dsimp only at hx1 hx2 hx3 hx4 ⊢
 have b2:l2.length≤100000:=by omega
 have ne1:(H.nx+1=id)=False:=eq_false (by omega)
 simp only [go_sem]
 refine ai (fun hc=>?_) (fun hc=>?_)
 ·have hk':us.length<kc:=by simp at hc;omega
  have e5:IntKind.i64.wrap ((us.length:Int)+1)=((us.length+1:Nat):Int):=by rw [wrap_i64]<;>omega
  have hu:goP rV (kc - us.length) (m2,l2,e2)=if (rV (m2,l2,e2)).2.2.2≠0 then (none,(rV (m2,l2,e2)).2) else ((goP rV (kc - (us.length+1)) (rV (m2,l2,e2)).2).1.map ((rV (m2,l2,e2)).1::·),(goP rV (kc - (us.length+1)) (rV (m2,l2,e2)).2).2):=by
   rw [show kc - us.length=(kc - (us.length+1))+1 by omega];rfl
  rw [hu] at hx2
  have hl3:=rV_go.l (m2,l2,e2)
  have hm3:=rV_go.m (m2,l2,e2)
  generalize hq3:rV (m2,l2,e2)=q3 at *
  obtain ⟨n3,m3,l3,e3⟩:=q3
  dsimp only at hl3 hm3 hx2
  have b3:l3.length≤100000:=by omega
  have hmm:cw m m3:=aC hx4 hm3
  unfold rV at hq3
  cases hz:(e3 != 0)
  ·have hz':e3=0:=by simpa using hz
   rw [if_neg (by rw [hz'];decide)] at hx2
   simp only [go_sem,byq,hne,hid,hcs,hcm,hgm,onR,ae,au,zlv,zlt,zle,and_true,true_and,hid,lD,di,cW,hq3,hz,b2,b3,aE,vv,e5,ybb]
   have hlen:(us++[n3]).length=us.length+1:=by simp
   refine ⟨⟨by omega,by omega,fun z hz=>by rw [List.mem_singleton] at hz;subst hz;rfl⟩,(us++[n3],(m3,l3,e3)),⟨by dsimp only;omega,?_,by dsimp only;omega,hmm⟩,by dsimp only;omega,?_⟩
   ·dsimp only
    rw [hlen,← hx2]
    generalize goP rV (kc - (us.length+1)) (m3,l3,e3)=q5
    obtain ⟨o,t⟩:=q5
    cases o
    ·rfl
    ·simp [List.append_assoc]
   ·refine ⟨by simp only [zky,zkz];omega,?_,hclL (m3,l3,e3) _ hmm,?_,?_⟩
    ·simp only [List.map_append,yae,yaf,vv,List.length_append,yaz,yba]
     repeat first|exact .refl _|refine .push ?_ _
    ·simp [ltF,zmz,znh,aH,zky,zkz]
     refine ⟨by omega,by omega,ltL_iff.2 fun j hj=>?_⟩
     have hmem:=List.getElem_mem hj
     rw [List.mem_append,List.mem_map,List.mem_singleton] at hmem
     rcases hmem with ⟨x,_,e⟩|e
     ·rw [← e];exact (fun x=>ff) x
     ·rw [e];exact (fun x=>ff) _
    ·simp [bf,wk2,wk1,wkM,Fr.get,vv]
  ·have hz':e3≠0:=by simpa using hz
   rw [if_pos hz'] at hx2
   simp only [Option.map,Prod.mk.injEq] at hx2
   obtain ⟨rfl,rfl,rfl,rfl⟩:=hx2
   simp only [go_sem,byq,hne,hid,hcs,hcm,hgm,onR,ae,au,zlv,zlt,zle,and_true,true_and,hid,lD,di,cW,hq3,hz,b2,b3,aE,vv,Option.getD_none,yaf]
   exact ⟨by simp [wk,wk2,wk1,wkM],by repeat first|exact .refl _|refine .push ?_ _,am hid hcl _ hmm _ _,by simp [aH,znp]⟩
 ·have hk':us.length=kc:=by simp at hc;omega
  subst hk'
  rw [Nat.sub_self] at hx2
  simp only [goP,Option.map,yaj,Prod.mk.injEq] at hx2
  obtain ⟨rfl,rfl,rfl,rfl⟩:=hx2
  simp only [go_sem,byq,Option.getD_some]
  exact ⟨by simp [wk,wk2,wk1,wkM],by repeat first|exact .refl _|refine .push ?_ _,am hid hcl _ hx4 _ _,aa (fun x=>ff)⟩
def u2:List AV→AHeap→(AEnd→AHeap→Prop)→Prop
 |[.ptr id 0,.agg [.int .i64 most,.func (.func f) [] [],.func (.func 174) [] []]],H,K=>onR H id fun m l e=>True∧K (.ret (.slice .any 1 ((rlP rB most (m,l,e)).1.map (.bool)))) (H.set id (.cells (aE (rlP rB most (m,l,e)).2)))
 |_,_,_=>False
theorem Ci:EntOk Tryz.prog 245 (Ent.effect u2):=by
 refine EntOk.effect fun args H K h=>?_
 unfold u2 at h
 split at h
 rotate_left
 ·exact h.elim
 rename_i id most f
 obtain ⟨m,l,e,hid,hle,h⟩:=bU h
 obtain ⟨hpre,hK⟩:=h
 refine ⟨_,_,hK,?_⟩
 clear hK
 have hl0:=AHeap.get_lt hid
 have hne:=aU hl0
 have hss:=bo hid
 have hcs:=aI hid
 have hcm:=fun cs=>@av H id cs hl0
 have hgm:=fun o=>@aN H id o hl0
 have hl1:=cu m l e most
 have hm1:=ct m l e most
 have hc1:=cJ (m,l,e) most
 obtain ⟨Q,hQ⟩:∃ Q,rlP rB most (m,l,e)=Q:=⟨_,rfl⟩
 rw [hQ]
 unfold rlP at hQ
 generalize h1:aX (m,l,e) most=q1 at *
 obtain ⟨cc,m1,l1,e1⟩:=q1
 dsimp only at hl1 hm1 hc1 hQ
 obtain ⟨kc,rfl⟩:∃ kc:Nat,cc=(kc:Int):=⟨cc.toNat,by omega⟩
 rw [Int.toNat_natCast] at hQ
 obtain ⟨⟨GO,gs⟩,hG⟩:∃ G,goP rB kc (m1,l1,e1)=G:=⟨_,rfl⟩
 have hgo:=gS rB_go kc (m1,l1,e1)
 rw [hG] at hQ hgo
 obtain ⟨hg1,hg2,_⟩:=hgo
 obtain ⟨gm,gl,ge⟩:=gs
 dsimp only at hQ hg1 hg2
 subst hQ
 refine ACalls.fW aB (TblOk.cons eJ (TblOk.cons ra (TblOk.cons fv TblOk.nil))) Tryz.func245 [.tmp 4] (by simp only [zkz];omega) (T:=ay []) (h:=fun hcl hlt=>?_)
 clear hlt
 have b1:l1.length≤100000:=by omega
 simp only [cm,cl,bhq,Nat.reduceMod,Nat.reduceDiv,aY,aZ,a0,cb,a9,bY,ca,bV,bW,yaq,yar,yao,yap,go_sem,byq,hne,hid,hcs,hcm,hgm,onR,ae,au,zlv,zlt,zle,and_true,true_and,hid,eQ,h1,b1,aE]
 refine ⟨hle,?_⟩
 have hltC:ltL (H.nx+1) [.int .i64 most,.func (.func f) [] [],.func (.func 174) [] []]:=by simp [zno,znp,zmz,cy]
 have hclL:∀ (s:RS) (k:Nat),cw m s.1→((((H.set id (.cells [.slice s.1 1 (bys s.2.1),.int .i64 s.2.2])).push (.cells [.int .i64 most,.func (.func f) [] [],.func (.func 174) [] []])).push (.buf 1 0)).push (.buf 1 k)).Closed:=fun s k hs=>aP (aP (ag (am hid hcl s.1 hs s.2.1 s.2.2) (by simpa only [zkz] using hltC)))
 refine aA (A:=List Bool × RS) (fun x=>[(0,.ptr id 0),(3,.ptr H.nx 0),(5,.slice (.own (H.nx+1+1)) 1 (x.1.map (.bool))),(10,.int .i64 (kc:Int)),(11,.int .i64 (x.1.length:Int))]) (fun x=>(((H.set id (.cells [.slice x.2.1 1 (bys x.2.2.1),.int .i64 x.2.2.2])).push (.cells [.int .i64 most,.func (.func f) [] [],.func (.func 174) [] []])).push (.buf 1 0)).push (.buf 1 x.1.length)) (fun x=>x.1.length≤kc∧((goP rB (kc - x.1.length) x.2).1.map (x.1++·),(goP rB (kc - x.1.length) x.2).2)=(GO,gm,gl,ge)∧x.2.2.1.length≤l1.length∧cw m x.2.1) (fun x=>kc - x.1.length) ([],(m1,l1,e1)) ⟨Nat.zero_le _,by rw [← hG];simp,Nat.le_refl _,hm1⟩ ?_ fun x hx=>?_
 ·refine ⟨by simp only [zkk,zkp,zky,zkz];omega,by repeat first|exact .refl _|refine .push ?_ _,hclL (m1,l1,e1) 0 hm1,?_,?_⟩
  ·simp [ltF,zmz,znh,aH,znp,zky,zkz]
   try omega
  ·simp [bf,wk2,wk1,wkM,Fr.get]
 obtain ⟨us,m2,l2,e2⟩:=x
 obtain ⟨hx1,hx2,hx3,hx4⟩:=hx
 dsimp only at hx1 hx2 hx3 hx4 ⊢
 have b2:l2.length≤100000:=by omega
 have ne1:(H.nx+1=id)=False:=eq_false (by omega)
 simp only [go_sem]
 refine ai (fun hc=>?_) (fun hc=>?_)
 ·have hk':us.length<kc:=by simp at hc;omega
  have e5:IntKind.i64.wrap ((us.length:Int)+1)=((us.length+1:Nat):Int):=by rw [wrap_i64]<;>omega
  have hu:goP rB (kc - us.length) (m2,l2,e2)=if (rB (m2,l2,e2)).2.2.2≠0 then (none,(rB (m2,l2,e2)).2) else ((goP rB (kc - (us.length+1)) (rB (m2,l2,e2)).2).1.map ((rB (m2,l2,e2)).1::·),(goP rB (kc - (us.length+1)) (rB (m2,l2,e2)).2).2):=by
   rw [show kc - us.length=(kc - (us.length+1))+1 by omega];rfl
  rw [hu] at hx2
  have hl3:=rB_go.l (m2,l2,e2)
  have hm3:=rB_go.m (m2,l2,e2)
  generalize hq3:rB (m2,l2,e2)=q3 at *
  obtain ⟨n3,m3,l3,e3⟩:=q3
  dsimp only at hl3 hm3 hx2
  have b3:l3.length≤100000:=by omega
  have hmm:cw m m3:=aC hx4 hm3
  unfold rB at hq3
  cases hz:(e3 != 0)
  ·have hz':e3=0:=by simpa using hz
   rw [if_neg (by rw [hz'];decide)] at hx2
   simp only [go_sem,byq,hne,hid,hcs,hcm,hgm,onR,ae,au,zlv,zlt,zle,and_true,true_and,hid,mR,di,cW,hq3,hz,b2,b3,aE,e5,ybb]
   have hlen:(us++[n3]).length=us.length+1:=by simp
   refine ⟨⟨by omega,by omega,fun z hz=>by rw [List.mem_singleton] at hz;subst hz;rfl⟩,(us++[n3],(m3,l3,e3)),⟨by dsimp only;omega,?_,by dsimp only;omega,hmm⟩,by dsimp only;omega,?_⟩
   ·dsimp only
    rw [hlen,← hx2]
    generalize goP rB (kc - (us.length+1)) (m3,l3,e3)=q5
    obtain ⟨o,t⟩:=q5
    cases o
    ·rfl
    ·simp [List.append_assoc]
   ·refine ⟨by simp only [zky,zkz];omega,?_,hclL (m3,l3,e3) _ hmm,?_,?_⟩
    ·simp only [List.map_append,yae,yaf,List.length_append,yaz,yba]
     repeat first|exact .refl _|refine .push ?_ _
    ·simp [ltF,zmz,znh,aH,zky,zkz]
     refine ⟨by omega,by omega,ltL_iff.2 fun j hj=>?_⟩
     have hmem:=List.getElem_mem hj
     rw [List.mem_append,List.mem_map,List.mem_singleton] at hmem
     rcases hmem with ⟨x,_,e⟩|e
     ·rw [← e];exact (fun x=>of_eq_true zna) x
     ·rw [e];exact (fun x=>of_eq_true zna) _
    ·simp [bf,wk2,wk1,wkM,Fr.get,wkM]
  ·have hz':e3≠0:=by simpa using hz
   rw [if_pos hz'] at hx2
   simp only [Option.map,Prod.mk.injEq] at hx2
   obtain ⟨rfl,rfl,rfl,rfl⟩:=hx2
   simp only [go_sem,byq,hne,hid,hcs,hcm,hgm,onR,ae,au,zlv,zlt,zle,and_true,true_and,hid,mR,di,cW,hq3,hz,b2,b3,aE,Option.getD_none,yaf]
   exact ⟨by simp [wk,wk2,wk1,wkM],by repeat first|exact .refl _|refine .push ?_ _,am hid hcl _ hmm _ _,by simp [aH,znp]⟩
 ·have hk':us.length=kc:=by simp at hc;omega
  subst hk'
  rw [Nat.sub_self] at hx2
  simp only [goP,Option.map,yaj,Prod.mk.injEq] at hx2
  obtain ⟨rfl,rfl,rfl,rfl⟩:=hx2
  simp only [go_sem,byq,Option.getD_some]
  exact ⟨by simp [wk,wk2,wk1,wkM],by repeat first|exact .refl _|refine .push ?_ _,am hid hcl _ hx4 _ _,aa (fun x=>of_eq_true zna)⟩
def qI:List AV→AHeap→(AEnd→AHeap→Prop)→Prop
 |[.ptr id 0],H,K=>onR H id fun m l e=>True∧K (.ret (ar (dB (m,l,e)).1)) (H.set id (.cells (aE (dB (m,l,e)).2)))
 |_,_,_=>False
theorem Di:EntOk Tryz.prog 138 (Ent.effect qI):=by
 refine EntOk.effect fun args H K h=>?_
 unfold qI at h
 split at h
 rotate_left
 ·exact h.elim
 rename_i id
 obtain ⟨m,l,e,hid,hle,h⟩:=bU h
 obtain ⟨hpre,hK⟩:=h
 refine ⟨_,_,hK,?_⟩
 clear hK
 have hl0:=AHeap.get_lt hid
 have hne:=aU hl0
 have hss:=bo hid
 have hcs:=aI hid
 have hcm:=fun cs=>@av H id cs hl0
 have hgm:=fun o=>@aN H id o hl0
 obtain ⟨Q,hQ⟩:∃ Q,dB (m,l,e)=Q:=⟨_,rfl⟩
 rw [hQ]
 unfold dB at hQ
 try dsimp only [rap,cZ,rU,rT,rV,rB,nX] at hQ
 have hl0:=bm m l e 2
 have hm0:=bn m l e 2
 generalize h0:bB (m,l,e) 2=q0 at *
 obtain ⟨v0,m0,l0,e0⟩:=q0
 dsimp only [rU,rV,rB] at hQ hl0 hm0
 have hl1:=fD m0 l0 e0 24
 have hm1:=fB m0 l0 e0 24
 generalize h1:dM (m0,l0,e0) 24=q1 at *
 obtain ⟨v1,m1,l1,e1⟩:=q1
 dsimp only [rU,rV,rB] at hQ hl1 hm1
 replace hm1:=aC hm0 hm1
 have hl2:=bm m1 l1 e1 1
 have hm2:=bn m1 l1 e1 1
 generalize h2:bB (m1,l1,e1) 1=q2 at *
 obtain ⟨v2,m2,l2,e2⟩:=q2
 dsimp only [rU,rV,rB] at hQ hl2 hm2
 replace hm2:=aC hm1 hm2
 subst hQ
 dsimp only [aE]
 refine ACalls.fW aB (TblOk.cons gy (TblOk.cons kq TblOk.nil)) Tryz.func138 [.cell 2 95] (by simp only [zkz];omega) (T:=ay []) (h:=fun hcl hlt=>?_)
 clear hlt
 have b0:l0.length≤100000:=by omega
 have b1:l1.length≤100000:=by omega
 have b2:l2.length≤100000:=by omega
 simp only [go_sem,byq,hne,hid,hcs,hcm,hgm,onR,ae,au,zlv,zlt,zle,and_true,true_and,hid,onR,ae,aE,vv,vc,hM,kf,h0,b0,h1,b1,h2,b2]
 have hclz:(H.set id (.cells [.slice m2 1 (bys l2),.int .i64 e2])).Closed:=am hid hcl m2 hm2 l2 e2
 refine ⟨hle,?_,by repeat first|exact .refl _|refine .push ?_ _,hclz,(fun x=>bO x) _⟩
 simp [wk,wk2,wkL,wk1,wkM,ar]
def qk:List AV→AHeap→(AEnd→AHeap→Prop)→Prop
 |[.ptr id 0,.agg [.int .i64 most,.func (.func f) [] [],.func (.func 138) [] []]],H,K=>onR H id fun m l e=>True∧K (.ret (.slice .any 3 ((rlP dB most (m,l,e)).1.map (ar)))) (H.set id (.cells (aE (rlP dB most (m,l,e)).2)))
 |_,_,_=>False
theorem ww:EntOk Tryz.prog 45 (Ent.effect qk):=by
 refine EntOk.effect fun args H K h=>?_
 unfold qk at h
 split at h
 rotate_left
 ·exact h.elim
 rename_i id most f
 obtain ⟨m,l,e,hid,hle,h⟩:=bU h
 obtain ⟨hpre,hK⟩:=h
 refine ⟨_,_,hK,?_⟩
 clear hK
 have hl0:=AHeap.get_lt hid
 have hne:=aU hl0
 have hss:=bo hid
 have hcs:=aI hid
 have hcm:=fun cs=>@av H id cs hl0
 have hgm:=fun o=>@aN H id o hl0
 have hl1:=cu m l e most
 have hm1:=ct m l e most
 have hc1:=cJ (m,l,e) most
 obtain ⟨Q,hQ⟩:∃ Q,rlP dB most (m,l,e)=Q:=⟨_,rfl⟩
 rw [hQ]
 unfold rlP at hQ
 generalize h1:aX (m,l,e) most=q1 at *
 obtain ⟨cc,m1,l1,e1⟩:=q1
 dsimp only at hl1 hm1 hc1 hQ
 obtain ⟨kc,rfl⟩:∃ kc:Nat,cc=(kc:Int):=⟨cc.toNat,by omega⟩
 rw [Int.toNat_natCast] at hQ
 obtain ⟨⟨GO,gs⟩,hG⟩:∃ G,goP dB kc (m1,l1,e1)=G:=⟨_,rfl⟩
 have hgo:=gS rdFld_go kc (m1,l1,e1)
 rw [hG] at hQ hgo
 obtain ⟨hg1,hg2,_⟩:=hgo
 obtain ⟨gm,gl,ge⟩:=gs
 dsimp only at hQ hg1 hg2
 subst hQ
 refine ACalls.fW aB (TblOk.cons eJ (TblOk.cons Di (TblOk.cons fv TblOk.nil))) Tryz.func45 [.tmp 4] (by simp only [zkz];omega) (T:=ay []) (h:=fun hcl hlt=>?_)
 clear hlt
 have b1:l1.length≤100000:=by omega
 simp only [cm,cl,bhq,Nat.reduceMod,Nat.reduceDiv,aY,aZ,a0,cb,a9,bY,ca,bV,bW,yaq,yar,yao,yap,go_sem,byq,hne,hid,hcs,hcm,hgm,onR,ae,au,zlv,zlt,zle,and_true,true_and,hid,eQ,h1,b1,aE]
 refine ⟨hle,?_⟩
 have hltC:ltL (H.nx+1) [.int .i64 most,.func (.func f) [] [],.func (.func 138) [] []]:=by simp [zno,znp,zmz,cy]
 have hclL:∀ (s:RS) (k:Nat),cw m s.1→((((H.set id (.cells [.slice s.1 1 (bys s.2.1),.int .i64 s.2.2])).push (.cells [.int .i64 most,.func (.func f) [] [],.func (.func 138) [] []])).push (.buf 3 0)).push (.buf 3 k)).Closed:=fun s k hs=>aP (aP (ag (am hid hcl s.1 hs s.2.1 s.2.2) (by simpa only [zkz] using hltC)))
 refine aA (A:=List SField × RS) (fun x=>[(0,.ptr id 0),(3,.ptr H.nx 0),(5,.slice (.own (H.nx+1+1)) 3 (x.1.map (ar))),(10,.int .i64 (kc:Int)),(11,.int .i64 (x.1.length:Int))]) (fun x=>(((H.set id (.cells [.slice x.2.1 1 (bys x.2.2.1),.int .i64 x.2.2.2])).push (.cells [.int .i64 most,.func (.func f) [] [],.func (.func 138) [] []])).push (.buf 3 0)).push (.buf 3 x.1.length)) (fun x=>x.1.length≤kc∧((goP dB (kc - x.1.length) x.2).1.map (x.1++·),(goP dB (kc - x.1.length) x.2).2)=(GO,gm,gl,ge)∧x.2.2.1.length≤l1.length∧cw m x.2.1) (fun x=>kc - x.1.length) ([],(m1,l1,e1)) ⟨Nat.zero_le _,by rw [← hG];simp,Nat.le_refl _,hm1⟩ ?_ fun x hx=>?_
 ·refine ⟨by simp only [zkk,zkp,zky,zkz];omega,by repeat first|exact .refl _|refine .push ?_ _,hclL (m1,l1,e1) 0 hm1,?_,?_⟩
  ·simp [ltF,zmz,znh,aH,znp,zky,zkz]
   try omega
  ·simp [bf,wk2,wk1,wkM,Fr.get]
 obtain ⟨us,m2,l2,e2⟩:=x
 obtain ⟨hx1,hx2,hx3,hx4⟩:=hx
 dsimp only at hx1 hx2 hx3 hx4 ⊢
 have b2:l2.length≤100000:=by omega
 have ne1:(H.nx+1=id)=False:=eq_false (by omega)
 simp only [go_sem]
 refine ai (fun hc=>?_) (fun hc=>?_)
 ·have hk':us.length<kc:=by simp at hc;omega
  have e5:IntKind.i64.wrap ((us.length:Int)+1)=((us.length+1:Nat):Int):=by rw [wrap_i64]<;>omega
  have hu:goP dB (kc - us.length) (m2,l2,e2)=if (dB (m2,l2,e2)).2.2.2≠0 then (none,(dB (m2,l2,e2)).2) else ((goP dB (kc - (us.length+1)) (dB (m2,l2,e2)).2).1.map ((dB (m2,l2,e2)).1::·),(goP dB (kc - (us.length+1)) (dB (m2,l2,e2)).2).2):=by
   rw [show kc - us.length=(kc - (us.length+1))+1 by omega];rfl
  rw [hu] at hx2
  have hl3:=rdFld_go.l (m2,l2,e2)
  have hm3:=rdFld_go.m (m2,l2,e2)
  generalize hq3:dB (m2,l2,e2)=q3 at *
  obtain ⟨n3,m3,l3,e3⟩:=q3
  dsimp only at hl3 hm3 hx2
  have b3:l3.length≤100000:=by omega
  have hmm:cw m m3:=aC hx4 hm3
  cases hz:(e3 != 0)
  ·have hz':e3=0:=by simpa using hz
   rw [if_neg (by rw [hz'];decide)] at hx2
   simp only [go_sem,byq,hne,hid,hcs,hcm,hgm,onR,ae,au,zlv,zlt,zle,and_true,true_and,hid,qI,di,cW,hq3,hz,b2,b3,aE,ar,e5,ybb]
   have hlen:(us++[n3]).length=us.length+1:=by simp
   refine ⟨⟨by omega,by omega,fun z hz=>by rw [List.mem_singleton] at hz;subst hz;rfl⟩,(us++[n3],(m3,l3,e3)),⟨by dsimp only;omega,?_,by dsimp only;omega,hmm⟩,by dsimp only;omega,?_⟩
   ·dsimp only
    rw [hlen,← hx2]
    generalize goP dB (kc - (us.length+1)) (m3,l3,e3)=q5
    obtain ⟨o,t⟩:=q5
    cases o
    ·rfl
    ·simp [List.append_assoc]
   ·refine ⟨by simp only [zky,zkz];omega,?_,hclL (m3,l3,e3) _ hmm,?_,?_⟩
    ·simp only [List.map_append,yae,yaf,ar,List.length_append,yaz,yba]
     repeat first|exact .refl _|refine .push ?_ _
    ·simp [ltF,zmz,znh,aH,zky,zkz]
     refine ⟨by omega,by omega,ltL_iff.2 fun j hj=>?_⟩
     have hmem:=List.getElem_mem hj
     rw [List.mem_append,List.mem_map,List.mem_singleton] at hmem
     rcases hmem with ⟨x,_,e⟩|e
     ·rw [← e];exact (fun x=>bO x) x
     ·rw [e];exact (fun x=>bO x) _
    ·simp [bf,wk2,wk1,wkM,Fr.get,ar]
  ·have hz':e3≠0:=by simpa using hz
   rw [if_pos hz'] at hx2
   simp only [Option.map,Prod.mk.injEq] at hx2
   obtain ⟨rfl,rfl,rfl,rfl⟩:=hx2
   simp only [go_sem,byq,hne,hid,hcs,hcm,hgm,onR,ae,au,zlv,zlt,zle,and_true,true_and,hid,qI,di,cW,hq3,hz,b2,b3,aE,ar,Option.getD_none,yaf]
   exact ⟨by simp [wk,wk2,wk1,wkM],by repeat first|exact .refl _|refine .push ?_ _,am hid hcl _ hmm _ _,by simp [aH,znp]⟩
 ·have hk':us.length=kc:=by simp at hc;omega
  subst hk'
  rw [Nat.sub_self] at hx2
  simp only [goP,Option.map,yaj,Prod.mk.injEq] at hx2
  obtain ⟨rfl,rfl,rfl,rfl⟩:=hx2
  simp only [go_sem,byq,Option.getD_some]
  exact ⟨by simp [wk,wk2,wk1,wkM],by repeat first|exact .refl _|refine .push ?_ _,am hid hcl _ hx4 _ _,aa (fun x=>bO x)⟩
def qj:List AV→AHeap→(AEnd→AHeap→Prop)→Prop
 |[.ptr id 0],H,K=>onR H id fun m l e=>True∧K (.ret (aK (eT (m,l,e)).1)) (H.set id (.cells (aE (eT (m,l,e)).2)))
 |_,_,_=>False
theorem Eg:EntOk Tryz.prog 233 (Ent.effect qj):=by
 refine EntOk.effect fun args H K h=>?_
 unfold qj at h
 split at h
 rotate_left
 ·exact h.elim
 rename_i id
 obtain ⟨m,l,e,hid,hle,h⟩:=bU h
 obtain ⟨hpre,hK⟩:=h
 refine ⟨_,_,hK,?_⟩
 clear hK
 have hl0:=AHeap.get_lt hid
 have hne:=aU hl0
 have hss:=bo hid
 have hcs:=aI hid
 have hcm:=fun cs=>@av H id cs hl0
 have hgm:=fun o=>@aN H id o hl0
 obtain ⟨Q,hQ⟩:∃ Q,eT (m,l,e)=Q:=⟨_,rfl⟩
 rw [hQ]
 unfold eT at hQ
 try dsimp only [rap,cZ,rU,rT,rV,rB,nX] at hQ
 have hl0:=jZ m l e
 have hm0:=jX m l e
 generalize h0:cO (m,l,e)=q0 at *
 obtain ⟨v0,m0,l0,e0⟩:=q0
 dsimp only [rU,rV,rB] at hQ hl0 hm0
 have hl1:=jZ m0 l0 e0
 have hm1:=jX m0 l0 e0
 generalize h1:cO (m0,l0,e0)=q1 at *
 obtain ⟨v1,m1,l1,e1⟩:=q1
 dsimp only [rU,rV,rB] at hQ hl1 hm1
 replace hm1:=aC hm0 hm1
 have hl2:=bm m1 l1 e1 2
 have hm2:=bn m1 l1 e1 2
 generalize h2:bB (m1,l1,e1) 2=q2 at *
 obtain ⟨v2,m2,l2,e2⟩:=q2
 dsimp only [rU,rV,rB] at hQ hl2 hm2
 replace hm2:=aC hm1 hm2
 subst hQ
 dsimp only [aE]
 refine ACalls.fW aB (TblOk.cons pI (TblOk.cons gy TblOk.nil)) Tryz.func233 [.cell 2 244] (by simp only [zkz];omega) (T:=ay []) (h:=fun hcl hlt=>?_)
 clear hlt
 have b0:l0.length≤100000:=by omega
 have b1:l1.length≤100000:=by omega
 have b2:l2.length≤100000:=by omega
 simp only [go_sem,byq,hne,hid,hcs,hcm,hgm,onR,ae,au,zlv,zlt,zle,and_true,true_and,hid,onR,ae,aE,vv,vc,lD,hM,h0,b0,h1,b1,h2,b2]
 have hclz:(H.set id (.cells [.slice m2 1 (bys l2),.int .i64 e2])).Closed:=am hid hcl m2 hm2 l2 e2
 refine ⟨hle,?_,by repeat first|exact .refl _|refine .push ?_ _,hclz,(fun x=>bX x) _⟩
 simp [wk,wk2,wkL,wk1,wkM,aK,vc]
def uW:List AV→AHeap→(AEnd→AHeap→Prop)→Prop
 |[.ptr id 0,.agg [.int .i64 most,.func (.func f) [] [],.func (.func 233) [] []]],H,K=>onR H id fun m l e=>True∧K (.ret (.slice .any 5 ((rlP eT most (m,l,e)).1.map (aK)))) (H.set id (.cells (aE (rlP eT most (m,l,e)).2)))
 |_,_,_=>False
theorem En:EntOk Tryz.prog 149 (Ent.effect uW):=by
 refine EntOk.effect fun args H K h=>?_
 unfold uW at h
 split at h
 rotate_left
 ·exact h.elim
 rename_i id most f
 obtain ⟨m,l,e,hid,hle,h⟩:=bU h
 obtain ⟨hpre,hK⟩:=h
 refine ⟨_,_,hK,?_⟩
 clear hK
 have hl0:=AHeap.get_lt hid
 have hne:=aU hl0
 have hss:=bo hid
 have hcs:=aI hid
 have hcm:=fun cs=>@av H id cs hl0
 have hgm:=fun o=>@aN H id o hl0
 have hl1:=cu m l e most
 have hm1:=ct m l e most
 have hc1:=cJ (m,l,e) most
 obtain ⟨Q,hQ⟩:∃ Q,rlP eT most (m,l,e)=Q:=⟨_,rfl⟩
 rw [hQ]
 unfold rlP at hQ
 generalize h1:aX (m,l,e) most=q1 at *
 obtain ⟨cc,m1,l1,e1⟩:=q1
 dsimp only at hl1 hm1 hc1 hQ
 obtain ⟨kc,rfl⟩:∃ kc:Nat,cc=(kc:Int):=⟨cc.toNat,by omega⟩
 rw [Int.toNat_natCast] at hQ
 obtain ⟨⟨GO,gs⟩,hG⟩:∃ G,goP eT kc (m1,l1,e1)=G:=⟨_,rfl⟩
 have hgo:=gS rdCas_go kc (m1,l1,e1)
 rw [hG] at hQ hgo
 obtain ⟨hg1,hg2,_⟩:=hgo
 obtain ⟨gm,gl,ge⟩:=gs
 dsimp only at hQ hg1 hg2
 subst hQ
 refine ACalls.fW aB (TblOk.cons eJ (TblOk.cons Eg (TblOk.cons fv TblOk.nil))) Tryz.func149 [.tmp 4] (by simp only [zkz];omega) (T:=ay []) (h:=fun hcl hlt=>?_)
 clear hlt
 have b1:l1.length≤100000:=by omega
 simp only [cm,cl,bhq,Nat.reduceMod,Nat.reduceDiv,aY,aZ,a0,cb,a9,bY,ca,bV,bW,yaq,yar,yao,yap,go_sem,byq,hne,hid,hcs,hcm,hgm,onR,ae,au,zlv,zlt,zle,and_true,true_and,hid,eQ,h1,b1,aE]
 refine ⟨hle,?_⟩
 have hltC:ltL (H.nx+1) [.int .i64 most,.func (.func f) [] [],.func (.func 233) [] []]:=by simp [zno,znp,zmz,cy]
 have hclL:∀ (s:RS) (k:Nat),cw m s.1→((((H.set id (.cells [.slice s.1 1 (bys s.2.1),.int .i64 s.2.2])).push (.cells [.int .i64 most,.func (.func f) [] [],.func (.func 233) [] []])).push (.buf 5 0)).push (.buf 5 k)).Closed:=fun s k hs=>aP (aP (ag (am hid hcl s.1 hs s.2.1 s.2.2) (by simpa only [zkz] using hltC)))
 refine aA (A:=List SCase × RS) (fun x=>[(0,.ptr id 0),(3,.ptr H.nx 0),(5,.slice (.own (H.nx+1+1)) 5 (x.1.map (aK))),(10,.int .i64 (kc:Int)),(11,.int .i64 (x.1.length:Int))]) (fun x=>(((H.set id (.cells [.slice x.2.1 1 (bys x.2.2.1),.int .i64 x.2.2.2])).push (.cells [.int .i64 most,.func (.func f) [] [],.func (.func 233) [] []])).push (.buf 5 0)).push (.buf 5 x.1.length)) (fun x=>x.1.length≤kc∧((goP eT (kc - x.1.length) x.2).1.map (x.1++·),(goP eT (kc - x.1.length) x.2).2)=(GO,gm,gl,ge)∧x.2.2.1.length≤l1.length∧cw m x.2.1) (fun x=>kc - x.1.length) ([],(m1,l1,e1)) ⟨Nat.zero_le _,by rw [← hG];simp,Nat.le_refl _,hm1⟩ ?_ fun x hx=>?_
 ·refine ⟨by simp only [zkk,zkp,zky,zkz];omega,by repeat first|exact .refl _|refine .push ?_ _,hclL (m1,l1,e1) 0 hm1,?_,?_⟩
  ·simp [ltF,zmz,znh,aH,znp,zky,zkz]
   try omega
  ·simp [bf,wk2,wk1,wkM,Fr.get]
 obtain ⟨us,m2,l2,e2⟩:=x
 obtain ⟨hx1,hx2,hx3,hx4⟩:=hx
 dsimp only at hx1 hx2 hx3 hx4 ⊢
 have b2:l2.length≤100000:=by omega
 have ne1:(H.nx+1=id)=False:=eq_false (by omega)
 simp only [go_sem]
 refine ai (fun hc=>?_) (fun hc=>?_)
 ·have hk':us.length<kc:=by simp at hc;omega
  have e5:IntKind.i64.wrap ((us.length:Int)+1)=((us.length+1:Nat):Int):=by rw [wrap_i64]<;>omega
  have hu:goP eT (kc - us.length) (m2,l2,e2)=if (eT (m2,l2,e2)).2.2.2≠0 then (none,(eT (m2,l2,e2)).2) else ((goP eT (kc - (us.length+1)) (eT (m2,l2,e2)).2).1.map ((eT (m2,l2,e2)).1::·),(goP eT (kc - (us.length+1)) (eT (m2,l2,e2)).2).2):=by
   rw [show kc - us.length=(kc - (us.length+1))+1 by omega];rfl
  rw [hu] at hx2
  have hl3:=rdCas_go.l (m2,l2,e2)
  have hm3:=rdCas_go.m (m2,l2,e2)
  generalize hq3:eT (m2,l2,e2)=q3 at *
  obtain ⟨n3,m3,l3,e3⟩:=q3
  dsimp only at hl3 hm3 hx2
  have b3:l3.length≤100000:=by omega
  have hmm:cw m m3:=aC hx4 hm3
  cases hz:(e3 != 0)
  ·have hz':e3=0:=by simpa using hz
   rw [if_neg (by rw [hz'];decide)] at hx2
   simp only [go_sem,byq,hne,hid,hcs,hcm,hgm,onR,ae,au,zlv,zlt,zle,and_true,true_and,hid,qj,di,cW,hq3,hz,b2,b3,aE,aK,vc,yal,yak,e5,ybb]
   have hlen:(us++[n3]).length=us.length+1:=by simp
   refine ⟨⟨by omega,by omega,fun z hz=>by rw [List.mem_singleton] at hz;subst hz;rfl⟩,(us++[n3],(m3,l3,e3)),⟨by dsimp only;omega,?_,by dsimp only;omega,hmm⟩,by dsimp only;omega,?_⟩
   ·dsimp only
    rw [hlen,← hx2]
    generalize goP eT (kc - (us.length+1)) (m3,l3,e3)=q5
    obtain ⟨o,t⟩:=q5
    cases o
    ·rfl
    ·simp [List.append_assoc]
   ·refine ⟨by simp only [zky,zkz];omega,?_,hclL (m3,l3,e3) _ hmm,?_,?_⟩
    ·simp only [List.map_append,yae,yaf,aK,vc,yal,yak,List.length_append,yaz,yba]
     repeat first|exact .refl _|refine .push ?_ _
    ·simp [ltF,zmz,znh,aH,zky,zkz]
     refine ⟨by omega,by omega,ltL_iff.2 fun j hj=>?_⟩
     have hmem:=List.getElem_mem hj
     rw [List.mem_append,List.mem_map,List.mem_singleton] at hmem
     rcases hmem with ⟨x,_,e⟩|e
     ·rw [← e];exact (fun x=>bX x) x
     ·rw [e];exact (fun x=>bX x) _
    ·simp [bf,wk2,wk1,wkM,Fr.get,aK,vc,yal,yak]
  ·have hz':e3≠0:=by simpa using hz
   rw [if_pos hz'] at hx2
   simp only [Option.map,Prod.mk.injEq] at hx2
   obtain ⟨rfl,rfl,rfl,rfl⟩:=hx2
   simp only [go_sem,byq,hne,hid,hcs,hcm,hgm,onR,ae,au,zlv,zlt,zle,and_true,true_and,hid,qj,di,cW,hq3,hz,b2,b3,aE,aK,vc,yal,yak,Option.getD_none,yaf]
   exact ⟨by simp [wk,wk2,wk1,wkM],by repeat first|exact .refl _|refine .push ?_ _,am hid hcl _ hmm _ _,by simp [aH,znp]⟩
 ·have hk':us.length=kc:=by simp at hc;omega
  subst hk'
  rw [Nat.sub_self] at hx2
  simp only [goP,Option.map,yaj,Prod.mk.injEq] at hx2
  obtain ⟨rfl,rfl,rfl,rfl⟩:=hx2
  simp only [go_sem,byq,Option.getD_some]
  exact ⟨by simp [wk,wk2,wk1,wkM],by repeat first|exact .refl _|refine .push ?_ _,am hid hcl _ hx4 _ _,aa (fun x=>bX x)⟩
end Go.AL
open Go Go.AL Go.Proofs
namespace Go.AL
set_option linter.all false
set_option maxRecDepth 10000
def qq:List AV→AHeap→(AEnd→AHeap→Prop)→Prop
 |[.ptr id 0],H,K=>onR H id fun m l e=>True∧K (.ret (aD (eY (m,l,e)).1)) (H.set id (.cells (aE (eY (m,l,e)).2)))
 |_,_,_=>False
theorem Bq:EntOk Tryz.prog 236 (Ent.effect qq):=by
 refine EntOk.effect fun args H K h=>?_
 unfold qq at h
 split at h
 rotate_left
 ·exact h.elim
 rename_i id
 obtain ⟨m,l,e,hid,hle,h⟩:=bU h
 obtain ⟨hpre,hK⟩:=h
 refine ⟨_,_,hK,?_⟩
 clear hK
 have hl0:=AHeap.get_lt hid
 have hne:=aU hl0
 have hss:=bo hid
 have hcs:=aI hid
 have hcm:=fun cs=>@av H id cs hl0
 have hgm:=fun o=>@aN H id o hl0
 obtain ⟨Q,hQ⟩:∃ Q,eY (m,l,e)=Q:=⟨_,rfl⟩
 rw [hQ]
 unfold eY at hQ
 try dsimp only [rap,cZ,rU,rT,rV,rB,nX] at hQ
 have hl0:=fD m l e 24
 have hm0:=fB m l e 24
 generalize h0:dM (m,l,e) 24=q0 at *
 obtain ⟨v0,m0,l0,e0⟩:=q0
 dsimp only [rU,rV,rB] at hQ hl0 hm0
 have hl1:=bm m0 l0 e0 1
 have hm1:=bn m0 l0 e0 1
 generalize h1:bB (m0,l0,e0) 1=q1 at *
 obtain ⟨v1,m1,l1,e1⟩:=q1
 dsimp only [rU,rV,rB] at hQ hl1 hm1
 replace hm1:=aC hm0 hm1
 subst hQ
 dsimp only [aE]
 refine ACalls.fW aB (TblOk.cons kq (TblOk.cons gy TblOk.nil)) Tryz.func236 [.cell 2 247] (by simp only [zkz];omega) (T:=ay []) (h:=fun hcl hlt=>?_)
 clear hlt
 have b0:l0.length≤100000:=by omega
 have b1:l1.length≤100000:=by omega
 simp only [go_sem,byq,hne,hid,hcs,hcm,hgm,onR,ae,au,zlv,zlt,zle,and_true,true_and,hid,onR,ae,aE,vv,vc,kf,hM,h0,b0,h1,b1]
 have hclz:(H.set id (.cells [.slice m1 1 (bys l1),.int .i64 e1])).Closed:=am hid hcl m1 hm1 l1 e1
 refine ⟨hle,?_,by repeat first|exact .refl _|refine .push ?_ _,hclz,(fun x=>bC x) _⟩
 simp [wk,wk2,wkL,wk1,wkM,aD]
def t9:List AV→AHeap→(AEnd→AHeap→Prop)→Prop
 |[.ptr id 0,.agg [.int .i64 most,.func (.func f) [] [],.func (.func 236) [] []]],H,K=>onR H id fun m l e=>True∧K (.ret (.slice .any 2 ((rlP eY most (m,l,e)).1.map (aD)))) (H.set id (.cells (aE (rlP eY most (m,l,e)).2)))
 |_,_,_=>False
theorem El:EntOk Tryz.prog 156 (Ent.effect t9):=by
 refine EntOk.effect fun args H K h=>?_
 unfold t9 at h
 split at h
 rotate_left
 ·exact h.elim
 rename_i id most f
 obtain ⟨m,l,e,hid,hle,h⟩:=bU h
 obtain ⟨hpre,hK⟩:=h
 refine ⟨_,_,hK,?_⟩
 clear hK
 have hl0:=AHeap.get_lt hid
 have hne:=aU hl0
 have hss:=bo hid
 have hcs:=aI hid
 have hcm:=fun cs=>@av H id cs hl0
 have hgm:=fun o=>@aN H id o hl0
 have hl1:=cu m l e most
 have hm1:=ct m l e most
 have hc1:=cJ (m,l,e) most
 obtain ⟨Q,hQ⟩:∃ Q,rlP eY most (m,l,e)=Q:=⟨_,rfl⟩
 rw [hQ]
 unfold rlP at hQ
 generalize h1:aX (m,l,e) most=q1 at *
 obtain ⟨cc,m1,l1,e1⟩:=q1
 dsimp only at hl1 hm1 hc1 hQ
 obtain ⟨kc,rfl⟩:∃ kc:Nat,cc=(kc:Int):=⟨cc.toNat,by omega⟩
 rw [Int.toNat_natCast] at hQ
 obtain ⟨⟨GO,gs⟩,hG⟩:∃ G,goP eY kc (m1,l1,e1)=G:=⟨_,rfl⟩
 have hgo:=gS rdPar_go kc (m1,l1,e1)
 rw [hG] at hQ hgo
 obtain ⟨hg1,hg2,_⟩:=hgo
 obtain ⟨gm,gl,ge⟩:=gs
 dsimp only at hQ hg1 hg2
 subst hQ
 refine ACalls.fW aB (TblOk.cons eJ (TblOk.cons Bq (TblOk.cons fv TblOk.nil))) Tryz.func156 [.tmp 4] (by simp only [zkz];omega) (T:=ay []) (h:=fun hcl hlt=>?_)
 clear hlt
 have b1:l1.length≤100000:=by omega
 simp only [cm,cl,bhq,Nat.reduceMod,Nat.reduceDiv,aY,aZ,a0,cb,a9,bY,ca,bV,bW,yaq,yar,yao,yap,go_sem,byq,hne,hid,hcs,hcm,hgm,onR,ae,au,zlv,zlt,zle,and_true,true_and,hid,eQ,h1,b1,aE]
 refine ⟨hle,?_⟩
 have hltC:ltL (H.nx+1) [.int .i64 most,.func (.func f) [] [],.func (.func 236) [] []]:=by simp [zno,znp,zmz,cy]
 have hclL:∀ (s:RS) (k:Nat),cw m s.1→((((H.set id (.cells [.slice s.1 1 (bys s.2.1),.int .i64 s.2.2])).push (.cells [.int .i64 most,.func (.func f) [] [],.func (.func 236) [] []])).push (.buf 2 0)).push (.buf 2 k)).Closed:=fun s k hs=>aP (aP (ag (am hid hcl s.1 hs s.2.1 s.2.2) (by simpa only [zkz] using hltC)))
 refine aA (A:=List SParam × RS) (fun x=>[(0,.ptr id 0),(3,.ptr H.nx 0),(5,.slice (.own (H.nx+1+1)) 2 (x.1.map (aD))),(10,.int .i64 (kc:Int)),(11,.int .i64 (x.1.length:Int))]) (fun x=>(((H.set id (.cells [.slice x.2.1 1 (bys x.2.2.1),.int .i64 x.2.2.2])).push (.cells [.int .i64 most,.func (.func f) [] [],.func (.func 236) [] []])).push (.buf 2 0)).push (.buf 2 x.1.length)) (fun x=>x.1.length≤kc∧((goP eY (kc - x.1.length) x.2).1.map (x.1++·),(goP eY (kc - x.1.length) x.2).2)=(GO,gm,gl,ge)∧x.2.2.1.length≤l1.length∧cw m x.2.1) (fun x=>kc - x.1.length) ([],(m1,l1,e1)) ⟨Nat.zero_le _,by rw [← hG];simp,Nat.le_refl _,hm1⟩ ?_ fun x hx=>?_
 ·refine ⟨by simp only [zkk,zkp,zky,zkz];omega,by repeat first|exact .refl _|refine .push ?_ _,hclL (m1,l1,e1) 0 hm1,?_,?_⟩
  ·simp [ltF,zmz,znh,aH,znp,zky,zkz]
   try omega
  ·simp [bf,wk2,wk1,wkM,Fr.get]
 obtain ⟨us,m2,l2,e2⟩:=x
 obtain ⟨hx1,hx2,hx3,hx4⟩:=hx
 dsimp only at hx1 hx2 hx3 hx4 ⊢
 have b2:l2.length≤100000:=by omega
 have ne1:(H.nx+1=id)=False:=eq_false (by omega)
 simp only [go_sem]
 refine ai (fun hc=>?_) (fun hc=>?_)
 ·have hk':us.length<kc:=by simp at hc;omega
  have e5:IntKind.i64.wrap ((us.length:Int)+1)=((us.length+1:Nat):Int):=by rw [wrap_i64]<;>omega
  have hu:goP eY (kc - us.length) (m2,l2,e2)=if (eY (m2,l2,e2)).2.2.2≠0 then (none,(eY (m2,l2,e2)).2) else ((goP eY (kc - (us.length+1)) (eY (m2,l2,e2)).2).1.map ((eY (m2,l2,e2)).1::·),(goP eY (kc - (us.length+1)) (eY (m2,l2,e2)).2).2):=by
   rw [show kc - us.length=(kc - (us.length+1))+1 by omega];rfl
  rw [hu] at hx2
  have hl3:=rdPar_go.l (m2,l2,e2)
  have hm3:=rdPar_go.m (m2,l2,e2)
  generalize hq3:eY (m2,l2,e2)=q3 at *
  obtain ⟨n3,m3,l3,e3⟩:=q3
  dsimp only at hl3 hm3 hx2
  have b3:l3.length≤100000:=by omega
  have hmm:cw m m3:=aC hx4 hm3
  cases hz:(e3 != 0)
  ·have hz':e3=0:=by simpa using hz
   rw [if_neg (by rw [hz'];decide)] at hx2
   simp only [go_sem,byq,hne,hid,hcs,hcm,hgm,onR,ae,au,zlv,zlt,zle,and_true,true_and,hid,qq,di,cW,hq3,hz,b2,b3,aE,aD,e5,ybb]
   have hlen:(us++[n3]).length=us.length+1:=by simp
   refine ⟨⟨by omega,by omega,fun z hz=>by rw [List.mem_singleton] at hz;subst hz;rfl⟩,(us++[n3],(m3,l3,e3)),⟨by dsimp only;omega,?_,by dsimp only;omega,hmm⟩,by dsimp only;omega,?_⟩
   ·dsimp only
    rw [hlen,← hx2]
    generalize goP eY (kc - (us.length+1)) (m3,l3,e3)=q5
    obtain ⟨o,t⟩:=q5
    cases o
    ·rfl
    ·simp [List.append_assoc]
   ·refine ⟨by simp only [zky,zkz];omega,?_,hclL (m3,l3,e3) _ hmm,?_,?_⟩
    ·simp only [List.map_append,yae,yaf,aD,List.length_append,yaz,yba]
     repeat first|exact .refl _|refine .push ?_ _
    ·simp [ltF,zmz,znh,aH,zky,zkz]
     refine ⟨by omega,by omega,ltL_iff.2 fun j hj=>?_⟩
     have hmem:=List.getElem_mem hj
     rw [List.mem_append,List.mem_map,List.mem_singleton] at hmem
     rcases hmem with ⟨x,_,e⟩|e
     ·rw [← e];exact (fun x=>bC x) x
     ·rw [e];exact (fun x=>bC x) _
    ·simp [bf,wk2,wk1,wkM,Fr.get,aD]
  ·have hz':e3≠0:=by simpa using hz
   rw [if_pos hz'] at hx2
   simp only [Option.map,Prod.mk.injEq] at hx2
   obtain ⟨rfl,rfl,rfl,rfl⟩:=hx2
   simp only [go_sem,byq,hne,hid,hcs,hcm,hgm,onR,ae,au,zlv,zlt,zle,and_true,true_and,hid,qq,di,cW,hq3,hz,b2,b3,aE,aD,Option.getD_none,yaf]
   exact ⟨by simp [wk,wk2,wk1,wkM],by repeat first|exact .refl _|refine .push ?_ _,am hid hcl _ hmm _ _,by simp [aH,znp]⟩
 ·have hk':us.length=kc:=by simp at hc;omega
  subst hk'
  rw [Nat.sub_self] at hx2
  simp only [goP,Option.map,yaj,Prod.mk.injEq] at hx2
  obtain ⟨rfl,rfl,rfl,rfl⟩:=hx2
  simp only [go_sem,byq,Option.getD_some]
  exact ⟨by simp [wk,wk2,wk1,wkM],by repeat first|exact .refl _|refine .push ?_ _,am hid hcl _ hx4 _ _,aa (fun x=>bC x)⟩
def qd:List AV→AHeap→(AEnd→AHeap→Prop)→Prop
 |[.ptr id 0],H,K=>onR H id fun m l e=>True∧K (.ret (aL (eS (m,l,e)).1)) (H.set id (.cells (aE (eS (m,l,e)).2)))
 |_,_,_=>False
theorem Ev:EntOk Tryz.prog 238 (Ent.effect qd):=by
 refine EntOk.effect fun args H K h=>?_
 unfold qd at h
 split at h
 rotate_left
 ·exact h.elim
 rename_i id
 obtain ⟨m,l,e,hid,hle,h⟩:=bU h
 obtain ⟨hpre,hK⟩:=h
 refine ⟨_,_,hK,?_⟩
 clear hK
 have hl0:=AHeap.get_lt hid
 have hne:=aU hl0
 have hss:=bo hid
 have hcs:=aI hid
 have hcm:=fun cs=>@av H id cs hl0
 have hgm:=fun o=>@aN H id o hl0
 obtain ⟨Q,hQ⟩:∃ Q,eS (m,l,e)=Q:=⟨_,rfl⟩
 rw [hQ]
 unfold eS at hQ
 try dsimp only [rap,cZ,rU,rT,rV,rB,nX] at hQ
 have hl0:=bm m l e 1
 have hm0:=bn m l e 1
 generalize h0:bB (m,l,e) 1=q0 at *
 obtain ⟨v0,m0,l0,e0⟩:=q0
 dsimp only [rU,rV,rB] at hQ hl0 hm0
 have hl1:=bm m0 l0 e0 2
 have hm1:=bn m0 l0 e0 2
 generalize h1:bB (m0,l0,e0) 2=q1 at *
 obtain ⟨v1,m1,l1,e1⟩:=q1
 dsimp only [rU,rV,rB] at hQ hl1 hm1
 replace hm1:=aC hm0 hm1
 have hl2:=bm m1 l1 e1 1
 have hm2:=bn m1 l1 e1 1
 generalize h2:bB (m1,l1,e1) 1=q2 at *
 obtain ⟨v2,m2,l2,e2⟩:=q2
 dsimp only [rU,rV,rB] at hQ hl2 hm2
 replace hm2:=aC hm1 hm2
 have hl3:=bm m2 l2 e2 2
 have hm3:=bn m2 l2 e2 2
 generalize h3:bB (m2,l2,e2) 2=q3 at *
 obtain ⟨v3,m3,l3,e3⟩:=q3
 dsimp only [rU,rV,rB] at hQ hl3 hm3
 replace hm3:=aC hm2 hm3
 have hl4:=jZ m3 l3 e3
 have hm4:=jX m3 l3 e3
 generalize h4:cO (m3,l3,e3)=q4 at *
 obtain ⟨v4,m4,l4,e4⟩:=q4
 dsimp only [rU,rV,rB] at hQ hl4 hm4
 replace hm4:=aC hm3 hm4
 subst hQ
 dsimp only [aE]
 refine ACalls.fW aB (TblOk.cons gy (TblOk.cons pI TblOk.nil)) Tryz.func238 [.cell 2 251] (by simp only [zkz];omega) (T:=ay []) (h:=fun hcl hlt=>?_)
 clear hlt
 have b0:l0.length≤100000:=by omega
 have b1:l1.length≤100000:=by omega
 have b2:l2.length≤100000:=by omega
 have b3:l3.length≤100000:=by omega
 have b4:l4.length≤100000:=by omega
 simp only [go_sem,byq,hne,hid,hcs,hcm,hgm,onR,ae,au,zlv,zlt,zle,and_true,true_and,hid,onR,ae,aE,vv,vc,hM,lD,h0,b0,h1,b1,h2,b2,h3,b3,h4,b4]
 have hclz:(H.set id (.cells [.slice m4 1 (bys l4),.int .i64 e4])).Closed:=am hid hcl m4 hm4 l4 e4
 refine ⟨hle,?_,by repeat first|exact .refl _|refine .push ?_ _,hclz,(fun x=>bZ x) _⟩
 simp [wk,wk2,wkL,wk1,wkM,aL,vc]
def um:List AV→AHeap→(AEnd→AHeap→Prop)→Prop
 |[.ptr id 0,.agg [.int .i64 most,.func (.func f) [] [],.func (.func 238) [] []]],H,K=>onR H id fun m l e=>True∧K (.ret (.slice .any 6 ((rlP eS most (m,l,e)).1.map (aL)))) (H.set id (.cells (aE (rlP eS most (m,l,e)).2)))
 |_,_,_=>False
theorem CA:EntOk Tryz.prog 157 (Ent.effect um):=by
 refine EntOk.effect fun args H K h=>?_
 unfold um at h
 split at h
 rotate_left
 ·exact h.elim
 rename_i id most f
 obtain ⟨m,l,e,hid,hle,h⟩:=bU h
 obtain ⟨hpre,hK⟩:=h
 refine ⟨_,_,hK,?_⟩
 clear hK
 have hl0:=AHeap.get_lt hid
 have hne:=aU hl0
 have hss:=bo hid
 have hcs:=aI hid
 have hcm:=fun cs=>@av H id cs hl0
 have hgm:=fun o=>@aN H id o hl0
 have hl1:=cu m l e most
 have hm1:=ct m l e most
 have hc1:=cJ (m,l,e) most
 obtain ⟨Q,hQ⟩:∃ Q,rlP eS most (m,l,e)=Q:=⟨_,rfl⟩
 rw [hQ]
 unfold rlP at hQ
 generalize h1:aX (m,l,e) most=q1 at *
 obtain ⟨cc,m1,l1,e1⟩:=q1
 dsimp only at hl1 hm1 hc1 hQ
 obtain ⟨kc,rfl⟩:∃ kc:Nat,cc=(kc:Int):=⟨cc.toNat,by omega⟩
 rw [Int.toNat_natCast] at hQ
 obtain ⟨⟨GO,gs⟩,hG⟩:∃ G,goP eS kc (m1,l1,e1)=G:=⟨_,rfl⟩
 have hgo:=gS rdPri_go kc (m1,l1,e1)
 rw [hG] at hQ hgo
 obtain ⟨hg1,hg2,_⟩:=hgo
 obtain ⟨gm,gl,ge⟩:=gs
 dsimp only at hQ hg1 hg2
 subst hQ
 refine ACalls.fW aB (TblOk.cons eJ (TblOk.cons Ev (TblOk.cons fv TblOk.nil))) Tryz.func157 [.tmp 4] (by simp only [zkz];omega) (T:=ay []) (h:=fun hcl hlt=>?_)
 clear hlt
 have b1:l1.length≤100000:=by omega
 simp only [cm,cl,bhq,Nat.reduceMod,Nat.reduceDiv,aY,aZ,a0,cb,a9,bY,ca,bV,bW,yaq,yar,yao,yap,go_sem,byq,hne,hid,hcs,hcm,hgm,onR,ae,au,zlv,zlt,zle,and_true,true_and,hid,eQ,h1,b1,aE]
 refine ⟨hle,?_⟩
 have hltC:ltL (H.nx+1) [.int .i64 most,.func (.func f) [] [],.func (.func 238) [] []]:=by simp [zno,znp,zmz,cy]
 have hclL:∀ (s:RS) (k:Nat),cw m s.1→((((H.set id (.cells [.slice s.1 1 (bys s.2.1),.int .i64 s.2.2])).push (.cells [.int .i64 most,.func (.func f) [] [],.func (.func 238) [] []])).push (.buf 6 0)).push (.buf 6 k)).Closed:=fun s k hs=>aP (aP (ag (am hid hcl s.1 hs s.2.1 s.2.2) (by simpa only [zkz] using hltC)))
 refine aA (A:=List SPrim × RS) (fun x=>[(0,.ptr id 0),(3,.ptr H.nx 0),(5,.slice (.own (H.nx+1+1)) 6 (x.1.map (aL))),(10,.int .i64 (kc:Int)),(11,.int .i64 (x.1.length:Int))]) (fun x=>(((H.set id (.cells [.slice x.2.1 1 (bys x.2.2.1),.int .i64 x.2.2.2])).push (.cells [.int .i64 most,.func (.func f) [] [],.func (.func 238) [] []])).push (.buf 6 0)).push (.buf 6 x.1.length)) (fun x=>x.1.length≤kc∧((goP eS (kc - x.1.length) x.2).1.map (x.1++·),(goP eS (kc - x.1.length) x.2).2)=(GO,gm,gl,ge)∧x.2.2.1.length≤l1.length∧cw m x.2.1) (fun x=>kc - x.1.length) ([],(m1,l1,e1)) ⟨Nat.zero_le _,by rw [← hG];simp,Nat.le_refl _,hm1⟩ ?_ fun x hx=>?_
 ·refine ⟨by simp only [zkk,zkp,zky,zkz];omega,by repeat first|exact .refl _|refine .push ?_ _,hclL (m1,l1,e1) 0 hm1,?_,?_⟩
  ·simp [ltF,zmz,znh,aH,znp,zky,zkz]
   try omega
  ·simp [bf,wk2,wk1,wkM,Fr.get]
 obtain ⟨us,m2,l2,e2⟩:=x
 obtain ⟨hx1,hx2,hx3,hx4⟩:=hx
 dsimp only at hx1 hx2 hx3 hx4 ⊢
 have b2:l2.length≤100000:=by omega
 have ne1:(H.nx+1=id)=False:=eq_false (by omega)
 simp only [go_sem]
 refine ai (fun hc=>?_) (fun hc=>?_)
 ·have hk':us.length<kc:=by simp at hc;omega
  have e5:IntKind.i64.wrap ((us.length:Int)+1)=((us.length+1:Nat):Int):=by rw [wrap_i64]<;>omega
  have hu:goP eS (kc - us.length) (m2,l2,e2)=if (eS (m2,l2,e2)).2.2.2≠0 then (none,(eS (m2,l2,e2)).2) else ((goP eS (kc - (us.length+1)) (eS (m2,l2,e2)).2).1.map ((eS (m2,l2,e2)).1::·),(goP eS (kc - (us.length+1)) (eS (m2,l2,e2)).2).2):=by
   rw [show kc - us.length=(kc - (us.length+1))+1 by omega];rfl
  rw [hu] at hx2
  have hl3:=rdPri_go.l (m2,l2,e2)
  have hm3:=rdPri_go.m (m2,l2,e2)
  generalize hq3:eS (m2,l2,e2)=q3 at *
  obtain ⟨n3,m3,l3,e3⟩:=q3
  dsimp only at hl3 hm3 hx2
  have b3:l3.length≤100000:=by omega
  have hmm:cw m m3:=aC hx4 hm3
  cases hz:(e3 != 0)
  ·have hz':e3=0:=by simpa using hz
   rw [if_neg (by rw [hz'];decide)] at hx2
   simp only [go_sem,byq,hne,hid,hcs,hcm,hgm,onR,ae,au,zlv,zlt,zle,and_true,true_and,hid,qd,di,cW,hq3,hz,b2,b3,aE,aL,vc,yal,yak,e5,ybb]
   have hlen:(us++[n3]).length=us.length+1:=by simp
   refine ⟨⟨by omega,by omega,fun z hz=>by rw [List.mem_singleton] at hz;subst hz;rfl⟩,(us++[n3],(m3,l3,e3)),⟨by dsimp only;omega,?_,by dsimp only;omega,hmm⟩,by dsimp only;omega,?_⟩
   ·dsimp only
    rw [hlen,← hx2]
    generalize goP eS (kc - (us.length+1)) (m3,l3,e3)=q5
    obtain ⟨o,t⟩:=q5
    cases o
    ·rfl
    ·simp [List.append_assoc]
   ·refine ⟨by simp only [zky,zkz];omega,?_,hclL (m3,l3,e3) _ hmm,?_,?_⟩
    ·simp only [List.map_append,yae,yaf,aL,vc,yal,yak,List.length_append,yaz,yba]
     repeat first|exact .refl _|refine .push ?_ _
    ·simp [ltF,zmz,znh,aH,zky,zkz]
     refine ⟨by omega,by omega,ltL_iff.2 fun j hj=>?_⟩
     have hmem:=List.getElem_mem hj
     rw [List.mem_append,List.mem_map,List.mem_singleton] at hmem
     rcases hmem with ⟨x,_,e⟩|e
     ·rw [← e];exact (fun x=>bZ x) x
     ·rw [e];exact (fun x=>bZ x) _
    ·simp [bf,wk2,wk1,wkM,Fr.get,aL,vc,yal,yak]
  ·have hz':e3≠0:=by simpa using hz
   rw [if_pos hz'] at hx2
   simp only [Option.map,Prod.mk.injEq] at hx2
   obtain ⟨rfl,rfl,rfl,rfl⟩:=hx2
   simp only [go_sem,byq,hne,hid,hcs,hcm,hgm,onR,ae,au,zlv,zlt,zle,and_true,true_and,hid,qd,di,cW,hq3,hz,b2,b3,aE,aL,vc,yal,yak,Option.getD_none,yaf]
   exact ⟨by simp [wk,wk2,wk1,wkM],by repeat first|exact .refl _|refine .push ?_ _,am hid hcl _ hmm _ _,by simp [aH,znp]⟩
 ·have hk':us.length=kc:=by simp at hc;omega
  subst hk'
  rw [Nat.sub_self] at hx2
  simp only [goP,Option.map,yaj,Prod.mk.injEq] at hx2
  obtain ⟨rfl,rfl,rfl,rfl⟩:=hx2
  simp only [go_sem,byq,Option.getD_some]
  exact ⟨by simp [wk,wk2,wk1,wkM],by repeat first|exact .refl _|refine .push ?_ _,am hid hcl _ hx4 _ _,aa (fun x=>bZ x)⟩
def qy:List AV→AHeap→(AEnd→AHeap→Prop)→Prop
 |[.ptr id 0],H,K=>onR H id fun m l e=>True∧K (.ret (aQ (eV (m,l,e)).1)) (H.set id (.cells (aE (eV (m,l,e)).2)))
 |_,_,_=>False
theorem BR:EntOk Tryz.prog 240 (Ent.effect qy):=by
 refine EntOk.effect fun args H K h=>?_
 unfold qy at h
 split at h
 rotate_left
 ·exact h.elim
 rename_i id
 obtain ⟨m,l,e,hid,hle,h⟩:=bU h
 obtain ⟨hpre,hK⟩:=h
 refine ⟨_,_,hK,?_⟩
 clear hK
 have hl0:=AHeap.get_lt hid
 have hne:=aU hl0
 have hss:=bo hid
 have hcs:=aI hid
 have hcm:=fun cs=>@av H id cs hl0
 have hgm:=fun o=>@aN H id o hl0
 obtain ⟨Q,hQ⟩:∃ Q,eV (m,l,e)=Q:=⟨_,rfl⟩
 rw [hQ]
 unfold eV at hQ
 try dsimp only [rap,cZ,rU,rT,rV,rB,nX] at hQ
 have hl0:=fD m l e 24
 have hm0:=fB m l e 24
 generalize h0:dM (m,l,e) 24=q0 at *
 obtain ⟨v0,m0,l0,e0⟩:=q0
 dsimp only [rU,rV,rB] at hQ hl0 hm0
 have hl1:=bm m0 l0 e0 2
 have hm1:=bn m0 l0 e0 2
 generalize h1:bB (m0,l0,e0) 2=q1 at *
 obtain ⟨v1,m1,l1,e1⟩:=q1
 dsimp only [rU,rV,rB] at hQ hl1 hm1
 replace hm1:=aC hm0 hm1
 have hl2:=bm m1 l1 e1 1
 have hm2:=bn m1 l1 e1 1
 generalize h2:bB (m1,l1,e1) 1=q2 at *
 obtain ⟨v2,m2,l2,e2⟩:=q2
 dsimp only [rU,rV,rB] at hQ hl2 hm2
 replace hm2:=aC hm1 hm2
 subst hQ
 dsimp only [aE]
 refine ACalls.fW aB (TblOk.cons kq (TblOk.cons gy TblOk.nil)) Tryz.func240 [.cell 2 204] (by simp only [zkz];omega) (T:=ay []) (h:=fun hcl hlt=>?_)
 clear hlt
 have b0:l0.length≤100000:=by omega
 have b1:l1.length≤100000:=by omega
 have b2:l2.length≤100000:=by omega
 simp only [go_sem,byq,hne,hid,hcs,hcm,hgm,onR,ae,au,zlv,zlt,zle,and_true,true_and,hid,onR,ae,aE,vv,vc,kf,hM,h0,b0,h1,b1,h2,b2]
 have hclz:(H.set id (.cells [.slice m2 1 (bys l2),.int .i64 e2])).Closed:=am hid hcl m2 hm2 l2 e2
 refine ⟨hle,?_,by repeat first|exact .refl _|refine .push ?_ _,hclz,(fun x=>ck x) _⟩
 simp [wk,wk2,wkL,wk1,wkM,aQ]
def uV:List AV→AHeap→(AEnd→AHeap→Prop)→Prop
 |[.ptr id 0,.agg [.int .i64 most,.func (.func f) [] [],.func (.func 240) [] []]],H,K=>onR H id fun m l e=>True∧K (.ret (.slice .any 3 ((rlP eV most (m,l,e)).1.map (aQ)))) (H.set id (.cells (aE (rlP eV most (m,l,e)).2)))
 |_,_,_=>False
theorem Cb:EntOk Tryz.prog 164 (Ent.effect uV):=by
 refine EntOk.effect fun args H K h=>?_
 unfold uV at h
 split at h
 rotate_left
 ·exact h.elim
 rename_i id most f
 obtain ⟨m,l,e,hid,hle,h⟩:=bU h
 obtain ⟨hpre,hK⟩:=h
 refine ⟨_,_,hK,?_⟩
 clear hK
 have hl0:=AHeap.get_lt hid
 have hne:=aU hl0
 have hss:=bo hid
 have hcs:=aI hid
 have hcm:=fun cs=>@av H id cs hl0
 have hgm:=fun o=>@aN H id o hl0
 have hl1:=cu m l e most
 have hm1:=ct m l e most
 have hc1:=cJ (m,l,e) most
 obtain ⟨Q,hQ⟩:∃ Q,rlP eV most (m,l,e)=Q:=⟨_,rfl⟩
 rw [hQ]
 unfold rlP at hQ
 generalize h1:aX (m,l,e) most=q1 at *
 obtain ⟨cc,m1,l1,e1⟩:=q1
 dsimp only at hl1 hm1 hc1 hQ
 obtain ⟨kc,rfl⟩:∃ kc:Nat,cc=(kc:Int):=⟨cc.toNat,by omega⟩
 rw [Int.toNat_natCast] at hQ
 obtain ⟨⟨GO,gs⟩,hG⟩:∃ G,goP eV kc (m1,l1,e1)=G:=⟨_,rfl⟩
 have hgo:=gS rdKey_go kc (m1,l1,e1)
 rw [hG] at hQ hgo
 obtain ⟨hg1,hg2,_⟩:=hgo
 obtain ⟨gm,gl,ge⟩:=gs
 dsimp only at hQ hg1 hg2
 subst hQ
 refine ACalls.fW aB (TblOk.cons eJ (TblOk.cons BR (TblOk.cons fv TblOk.nil))) Tryz.func164 [.tmp 4] (by simp only [zkz];omega) (T:=ay []) (h:=fun hcl hlt=>?_)
 clear hlt
 have b1:l1.length≤100000:=by omega
 simp only [cm,cl,bhq,Nat.reduceMod,Nat.reduceDiv,aY,aZ,a0,cb,a9,bY,ca,bV,bW,yaq,yar,yao,yap,go_sem,byq,hne,hid,hcs,hcm,hgm,onR,ae,au,zlv,zlt,zle,and_true,true_and,hid,eQ,h1,b1,aE]
 refine ⟨hle,?_⟩
 have hltC:ltL (H.nx+1) [.int .i64 most,.func (.func f) [] [],.func (.func 240) [] []]:=by simp [zno,znp,zmz,cy]
 have hclL:∀ (s:RS) (k:Nat),cw m s.1→((((H.set id (.cells [.slice s.1 1 (bys s.2.1),.int .i64 s.2.2])).push (.cells [.int .i64 most,.func (.func f) [] [],.func (.func 240) [] []])).push (.buf 3 0)).push (.buf 3 k)).Closed:=fun s k hs=>aP (aP (ag (am hid hcl s.1 hs s.2.1 s.2.2) (by simpa only [zkz] using hltC)))
 refine aA (A:=List SKey × RS) (fun x=>[(0,.ptr id 0),(3,.ptr H.nx 0),(5,.slice (.own (H.nx+1+1)) 3 (x.1.map (aQ))),(10,.int .i64 (kc:Int)),(11,.int .i64 (x.1.length:Int))]) (fun x=>(((H.set id (.cells [.slice x.2.1 1 (bys x.2.2.1),.int .i64 x.2.2.2])).push (.cells [.int .i64 most,.func (.func f) [] [],.func (.func 240) [] []])).push (.buf 3 0)).push (.buf 3 x.1.length)) (fun x=>x.1.length≤kc∧((goP eV (kc - x.1.length) x.2).1.map (x.1++·),(goP eV (kc - x.1.length) x.2).2)=(GO,gm,gl,ge)∧x.2.2.1.length≤l1.length∧cw m x.2.1) (fun x=>kc - x.1.length) ([],(m1,l1,e1)) ⟨Nat.zero_le _,by rw [← hG];simp,Nat.le_refl _,hm1⟩ ?_ fun x hx=>?_
 ·refine ⟨by simp only [zkk,zkp,zky,zkz];omega,by repeat first|exact .refl _|refine .push ?_ _,hclL (m1,l1,e1) 0 hm1,?_,?_⟩
  ·simp [ltF,zmz,znh,aH,znp,zky,zkz]
   try omega
  ·simp [bf,wk2,wk1,wkM,Fr.get]
 obtain ⟨us,m2,l2,e2⟩:=x
 obtain ⟨hx1,hx2,hx3,hx4⟩:=hx
 dsimp only at hx1 hx2 hx3 hx4 ⊢
 have b2:l2.length≤100000:=by omega
 have ne1:(H.nx+1=id)=False:=eq_false (by omega)
 simp only [go_sem]
 refine ai (fun hc=>?_) (fun hc=>?_)
 ·have hk':us.length<kc:=by simp at hc;omega
  have e5:IntKind.i64.wrap ((us.length:Int)+1)=((us.length+1:Nat):Int):=by rw [wrap_i64]<;>omega
  have hu:goP eV (kc - us.length) (m2,l2,e2)=if (eV (m2,l2,e2)).2.2.2≠0 then (none,(eV (m2,l2,e2)).2) else ((goP eV (kc - (us.length+1)) (eV (m2,l2,e2)).2).1.map ((eV (m2,l2,e2)).1::·),(goP eV (kc - (us.length+1)) (eV (m2,l2,e2)).2).2):=by
   rw [show kc - us.length=(kc - (us.length+1))+1 by omega];rfl
  rw [hu] at hx2
  have hl3:=rdKey_go.l (m2,l2,e2)
  have hm3:=rdKey_go.m (m2,l2,e2)
  generalize hq3:eV (m2,l2,e2)=q3 at *
  obtain ⟨n3,m3,l3,e3⟩:=q3
  dsimp only at hl3 hm3 hx2
  have b3:l3.length≤100000:=by omega
  have hmm:cw m m3:=aC hx4 hm3
  cases hz:(e3 != 0)
  ·have hz':e3=0:=by simpa using hz
   rw [if_neg (by rw [hz'];decide)] at hx2
   simp only [go_sem,byq,hne,hid,hcs,hcm,hgm,onR,ae,au,zlv,zlt,zle,and_true,true_and,hid,qy,di,cW,hq3,hz,b2,b3,aE,aQ,e5,ybb]
   have hlen:(us++[n3]).length=us.length+1:=by simp
   refine ⟨⟨by omega,by omega,fun z hz=>by rw [List.mem_singleton] at hz;subst hz;rfl⟩,(us++[n3],(m3,l3,e3)),⟨by dsimp only;omega,?_,by dsimp only;omega,hmm⟩,by dsimp only;omega,?_⟩
   ·dsimp only
    rw [hlen,← hx2]
    generalize goP eV (kc - (us.length+1)) (m3,l3,e3)=q5
    obtain ⟨o,t⟩:=q5
    cases o
    ·rfl
    ·simp [List.append_assoc]
   ·refine ⟨by simp only [zky,zkz];omega,?_,hclL (m3,l3,e3) _ hmm,?_,?_⟩
    ·simp only [List.map_append,yae,yaf,aQ,List.length_append,yaz,yba]
     repeat first|exact .refl _|refine .push ?_ _
    ·simp [ltF,zmz,znh,aH,zky,zkz]
     refine ⟨by omega,by omega,ltL_iff.2 fun j hj=>?_⟩
     have hmem:=List.getElem_mem hj
     rw [List.mem_append,List.mem_map,List.mem_singleton] at hmem
     rcases hmem with ⟨x,_,e⟩|e
     ·rw [← e];exact (fun x=>ck x) x
     ·rw [e];exact (fun x=>ck x) _
    ·simp [bf,wk2,wk1,wkM,Fr.get,aQ]
  ·have hz':e3≠0:=by simpa using hz
   rw [if_pos hz'] at hx2
   simp only [Option.map,Prod.mk.injEq] at hx2
   obtain ⟨rfl,rfl,rfl,rfl⟩:=hx2
   simp only [go_sem,byq,hne,hid,hcs,hcm,hgm,onR,ae,au,zlv,zlt,zle,and_true,true_and,hid,qy,di,cW,hq3,hz,b2,b3,aE,aQ,Option.getD_none,yaf]
   exact ⟨by simp [wk,wk2,wk1,wkM],by repeat first|exact .refl _|refine .push ?_ _,am hid hcl _ hmm _ _,by simp [aH,znp]⟩
 ·have hk':us.length=kc:=by simp at hc;omega
  subst hk'
  rw [Nat.sub_self] at hx2
  simp only [goP,Option.map,yaj,Prod.mk.injEq] at hx2
  obtain ⟨rfl,rfl,rfl,rfl⟩:=hx2
  simp only [go_sem,byq,Option.getD_some]
  exact ⟨by simp [wk,wk2,wk1,wkM],by repeat first|exact .refl _|refine .push ?_ _,am hid hcl _ hx4 _ _,aa (fun x=>ck x)⟩
def qm:List AV→AHeap→(AEnd→AHeap→Prop)→Prop
 |[.ptr id 0],H,K=>onR H id fun m l e=>True∧K (.ret (az (eX (m,l,e)).1)) (H.set id (.cells (aE (eX (m,l,e)).2)))
 |_,_,_=>False
theorem CS:EntOk Tryz.prog 167 (Ent.effect qm):=by
 refine EntOk.effect fun args H K h=>?_
 unfold qm at h
 split at h
 rotate_left
 ·exact h.elim
 rename_i id
 obtain ⟨m,l,e,hid,hle,h⟩:=bU h
 obtain ⟨hpre,hK⟩:=h
 refine ⟨_,_,hK,?_⟩
 clear hK
 have hl0:=AHeap.get_lt hid
 have hne:=aU hl0
 have hss:=bo hid
 have hcs:=aI hid
 have hcm:=fun cs=>@av H id cs hl0
 have hgm:=fun o=>@aN H id o hl0
 obtain ⟨Q,hQ⟩:∃ Q,eX (m,l,e)=Q:=⟨_,rfl⟩
 rw [hQ]
 unfold eX at hQ
 try dsimp only [rap,cZ,rU,rT,rV,rB,nX] at hQ
 have hl0:=bm m l e 2
 have hm0:=bn m l e 2
 generalize h0:bB (m,l,e) 2=q0 at *
 obtain ⟨v0,m0,l0,e0⟩:=q0
 dsimp only [rU,rV,rB] at hQ hl0 hm0
 have hl1:=bm m0 l0 e0 2
 have hm1:=bn m0 l0 e0 2
 generalize h1:bB (m0,l0,e0) 2=q1 at *
 obtain ⟨v1,m1,l1,e1⟩:=q1
 dsimp only [rU,rV,rB] at hQ hl1 hm1
 replace hm1:=aC hm0 hm1
 subst hQ
 dsimp only [aE]
 refine ACalls.fW aB (TblOk.cons gy TblOk.nil) Tryz.func167 [.cell 2 84] (by simp only [zkz];omega) (T:=ay []) (h:=fun hcl hlt=>?_)
 clear hlt
 have b0:l0.length≤100000:=by omega
 have b1:l1.length≤100000:=by omega
 simp only [go_sem,byq,hne,hid,hcs,hcm,hgm,onR,ae,au,zlv,zlt,zle,and_true,true_and,hid,onR,ae,aE,vv,vc,hM,h0,b0,h1,b1]
 have hclz:(H.set id (.cells [.slice m1 1 (bys l1),.int .i64 e1])).Closed:=am hid hcl m1 hm1 l1 e1
 refine ⟨hle,?_,by repeat first|exact .refl _|refine .push ?_ _,hclz,(fun x=>bN x) _⟩
 simp [wk,wk2,wkL,wk1,wkM,az]
def qr:List AV→AHeap→(AEnd→AHeap→Prop)→Prop
 |[.ptr id 0,.agg [.int .i64 most,.func (.func f) [] [],.func (.func 167) [] []]],H,K=>onR H id fun m l e=>True∧K (.ret (.slice .any 2 ((rlP eX most (m,l,e)).1.map (az)))) (H.set id (.cells (aE (rlP eX most (m,l,e)).2)))
 |_,_,_=>False
theorem wd:EntOk Tryz.prog 55 (Ent.effect qr):=by
 refine EntOk.effect fun args H K h=>?_
 unfold qr at h
 split at h
 rotate_left
 ·exact h.elim
 rename_i id most f
 obtain ⟨m,l,e,hid,hle,h⟩:=bU h
 obtain ⟨hpre,hK⟩:=h
 refine ⟨_,_,hK,?_⟩
 clear hK
 have hl0:=AHeap.get_lt hid
 have hne:=aU hl0
 have hss:=bo hid
 have hcs:=aI hid
 have hcm:=fun cs=>@av H id cs hl0
 have hgm:=fun o=>@aN H id o hl0
 have hl1:=cu m l e most
 have hm1:=ct m l e most
 have hc1:=cJ (m,l,e) most
 obtain ⟨Q,hQ⟩:∃ Q,rlP eX most (m,l,e)=Q:=⟨_,rfl⟩
 rw [hQ]
 unfold rlP at hQ
 generalize h1:aX (m,l,e) most=q1 at *
 obtain ⟨cc,m1,l1,e1⟩:=q1
 dsimp only at hl1 hm1 hc1 hQ
 obtain ⟨kc,rfl⟩:∃ kc:Nat,cc=(kc:Int):=⟨cc.toNat,by omega⟩
 rw [Int.toNat_natCast] at hQ
 obtain ⟨⟨GO,gs⟩,hG⟩:∃ G,goP eX kc (m1,l1,e1)=G:=⟨_,rfl⟩
 have hgo:=gS rdStg_go kc (m1,l1,e1)
 rw [hG] at hQ hgo
 obtain ⟨hg1,hg2,_⟩:=hgo
 obtain ⟨gm,gl,ge⟩:=gs
 dsimp only at hQ hg1 hg2
 subst hQ
 refine ACalls.fW aB (TblOk.cons eJ (TblOk.cons CS (TblOk.cons fv TblOk.nil))) Tryz.func55 [.tmp 4] (by simp only [zkz];omega) (T:=ay []) (h:=fun hcl hlt=>?_)
 clear hlt
 have b1:l1.length≤100000:=by omega
 simp only [cm,cl,bhq,Nat.reduceMod,Nat.reduceDiv,aY,aZ,a0,cb,a9,bY,ca,bV,bW,yaq,yar,yao,yap,go_sem,byq,hne,hid,hcs,hcm,hgm,onR,ae,au,zlv,zlt,zle,and_true,true_and,hid,eQ,h1,b1,aE]
 refine ⟨hle,?_⟩
 have hltC:ltL (H.nx+1) [.int .i64 most,.func (.func f) [] [],.func (.func 167) [] []]:=by simp [zno,znp,zmz,cy]
 have hclL:∀ (s:RS) (k:Nat),cw m s.1→((((H.set id (.cells [.slice s.1 1 (bys s.2.1),.int .i64 s.2.2])).push (.cells [.int .i64 most,.func (.func f) [] [],.func (.func 167) [] []])).push (.buf 2 0)).push (.buf 2 k)).Closed:=fun s k hs=>aP (aP (ag (am hid hcl s.1 hs s.2.1 s.2.2) (by simpa only [zkz] using hltC)))
 refine aA (A:=List SStage × RS) (fun x=>[(0,.ptr id 0),(3,.ptr H.nx 0),(5,.slice (.own (H.nx+1+1)) 2 (x.1.map (az))),(10,.int .i64 (kc:Int)),(11,.int .i64 (x.1.length:Int))]) (fun x=>(((H.set id (.cells [.slice x.2.1 1 (bys x.2.2.1),.int .i64 x.2.2.2])).push (.cells [.int .i64 most,.func (.func f) [] [],.func (.func 167) [] []])).push (.buf 2 0)).push (.buf 2 x.1.length)) (fun x=>x.1.length≤kc∧((goP eX (kc - x.1.length) x.2).1.map (x.1++·),(goP eX (kc - x.1.length) x.2).2)=(GO,gm,gl,ge)∧x.2.2.1.length≤l1.length∧cw m x.2.1) (fun x=>kc - x.1.length) ([],(m1,l1,e1)) ⟨Nat.zero_le _,by rw [← hG];simp,Nat.le_refl _,hm1⟩ ?_ fun x hx=>?_
 ·refine ⟨by simp only [zkk,zkp,zky,zkz];omega,by repeat first|exact .refl _|refine .push ?_ _,hclL (m1,l1,e1) 0 hm1,?_,?_⟩
  ·simp [ltF,zmz,znh,aH,znp,zky,zkz]
   try omega
  ·simp [bf,wk2,wk1,wkM,Fr.get]
 obtain ⟨us,m2,l2,e2⟩:=x
 obtain ⟨hx1,hx2,hx3,hx4⟩:=hx
 dsimp only at hx1 hx2 hx3 hx4 ⊢
 have b2:l2.length≤100000:=by omega
 have ne1:(H.nx+1=id)=False:=eq_false (by omega)
 simp only [go_sem]
 refine ai (fun hc=>?_) (fun hc=>?_)
 ·have hk':us.length<kc:=by simp at hc;omega
  have e5:IntKind.i64.wrap ((us.length:Int)+1)=((us.length+1:Nat):Int):=by rw [wrap_i64]<;>omega
  have hu:goP eX (kc - us.length) (m2,l2,e2)=if (eX (m2,l2,e2)).2.2.2≠0 then (none,(eX (m2,l2,e2)).2) else ((goP eX (kc - (us.length+1)) (eX (m2,l2,e2)).2).1.map ((eX (m2,l2,e2)).1::·),(goP eX (kc - (us.length+1)) (eX (m2,l2,e2)).2).2):=by
   rw [show kc - us.length=(kc - (us.length+1))+1 by omega];rfl
  rw [hu] at hx2
  have hl3:=rdStg_go.l (m2,l2,e2)
  have hm3:=rdStg_go.m (m2,l2,e2)
  generalize hq3:eX (m2,l2,e2)=q3 at *
  obtain ⟨n3,m3,l3,e3⟩:=q3
  dsimp only at hl3 hm3 hx2
  have b3:l3.length≤100000:=by omega
  have hmm:cw m m3:=aC hx4 hm3
  cases hz:(e3 != 0)
  ·have hz':e3=0:=by simpa using hz
   rw [if_neg (by rw [hz'];decide)] at hx2
   simp only [go_sem,byq,hne,hid,hcs,hcm,hgm,onR,ae,au,zlv,zlt,zle,and_true,true_and,hid,qm,di,cW,hq3,hz,b2,b3,aE,az,e5,ybb]
   have hlen:(us++[n3]).length=us.length+1:=by simp
   refine ⟨⟨by omega,by omega,fun z hz=>by rw [List.mem_singleton] at hz;subst hz;rfl⟩,(us++[n3],(m3,l3,e3)),⟨by dsimp only;omega,?_,by dsimp only;omega,hmm⟩,by dsimp only;omega,?_⟩
   ·dsimp only
    rw [hlen,← hx2]
    generalize goP eX (kc - (us.length+1)) (m3,l3,e3)=q5
    obtain ⟨o,t⟩:=q5
    cases o
    ·rfl
    ·simp [List.append_assoc]
   ·refine ⟨by simp only [zky,zkz];omega,?_,hclL (m3,l3,e3) _ hmm,?_,?_⟩
    ·simp only [List.map_append,yae,yaf,az,List.length_append,yaz,yba]
     repeat first|exact .refl _|refine .push ?_ _
    ·simp [ltF,zmz,znh,aH,zky,zkz]
     refine ⟨by omega,by omega,ltL_iff.2 fun j hj=>?_⟩
     have hmem:=List.getElem_mem hj
     rw [List.mem_append,List.mem_map,List.mem_singleton] at hmem
     rcases hmem with ⟨x,_,e⟩|e
     ·rw [← e];exact (fun x=>bN x) x
     ·rw [e];exact (fun x=>bN x) _
    ·simp [bf,wk2,wk1,wkM,Fr.get,az]
  ·have hz':e3≠0:=by simpa using hz
   rw [if_pos hz'] at hx2
   simp only [Option.map,Prod.mk.injEq] at hx2
   obtain ⟨rfl,rfl,rfl,rfl⟩:=hx2
   simp only [go_sem,byq,hne,hid,hcs,hcm,hgm,onR,ae,au,zlv,zlt,zle,and_true,true_and,hid,qm,di,cW,hq3,hz,b2,b3,aE,az,Option.getD_none,yaf]
   exact ⟨by simp [wk,wk2,wk1,wkM],by repeat first|exact .refl _|refine .push ?_ _,am hid hcl _ hmm _ _,by simp [aH,znp]⟩
 ·have hk':us.length=kc:=by simp at hc;omega
  subst hk'
  rw [Nat.sub_self] at hx2
  simp only [goP,Option.map,yaj,Prod.mk.injEq] at hx2
  obtain ⟨rfl,rfl,rfl,rfl⟩:=hx2
  simp only [go_sem,byq,Option.getD_some]
  exact ⟨by simp [wk,wk2,wk1,wkM],by repeat first|exact .refl _|refine .push ?_ _,am hid hcl _ hx4 _ _,aa (fun x=>bN x)⟩
def qt:List AV→AHeap→(AEnd→AHeap→Prop)→Prop
 |[.ptr id 0],H,K=>onR H id fun m l e=>True∧K (.ret (aR (eR (m,l,e)).1)) (H.set id (.cells (aE (eR (m,l,e)).2)))
 |_,_,_=>False
theorem Cq:EntOk Tryz.prog 176 (Ent.effect qt):=by
 refine EntOk.effect fun args H K h=>?_
 unfold qt at h
 split at h
 rotate_left
 ·exact h.elim
 rename_i id
 obtain ⟨m,l,e,hid,hle,h⟩:=bU h
 obtain ⟨hpre,hK⟩:=h
 refine ⟨_,_,hK,?_⟩
 clear hK
 have hl0:=AHeap.get_lt hid
 have hne:=aU hl0
 have hss:=bo hid
 have hcs:=aI hid
 have hcm:=fun cs=>@av H id cs hl0
 have hgm:=fun o=>@aN H id o hl0
 obtain ⟨Q,hQ⟩:∃ Q,eR (m,l,e)=Q:=⟨_,rfl⟩
 rw [hQ]
 unfold eR at hQ
 try dsimp only [rap,cZ,rU,rT,rV,rB,nX] at hQ
 have hl0:=bm m l e 2
 have hm0:=bn m l e 2
 generalize h0:bB (m,l,e) 2=q0 at *
 obtain ⟨v0,m0,l0,e0⟩:=q0
 dsimp only [rU,rV,rB] at hQ hl0 hm0
 have hl1:=bm m0 l0 e0 1
 have hm1:=bn m0 l0 e0 1
 generalize h1:bB (m0,l0,e0) 1=q1 at *
 obtain ⟨v1,m1,l1,e1⟩:=q1
 dsimp only [rU,rV,rB] at hQ hl1 hm1
 replace hm1:=aC hm0 hm1
 have hl2:=bm m1 l1 e1 2
 have hm2:=bn m1 l1 e1 2
 generalize h2:bB (m1,l1,e1) 2=q2 at *
 obtain ⟨v2,m2,l2,e2⟩:=q2
 dsimp only [rU,rV,rB] at hQ hl2 hm2
 replace hm2:=aC hm1 hm2
 have hl3:=bm m2 l2 e2 1
 have hm3:=bn m2 l2 e2 1
 generalize h3:bB (m2,l2,e2) 1=q3 at *
 obtain ⟨v3,m3,l3,e3⟩:=q3
 dsimp only [rU,rV,rB] at hQ hl3 hm3
 replace hm3:=aC hm2 hm3
 have hl4:=bm m3 l3 e3 2
 have hm4:=bn m3 l3 e3 2
 generalize h4:bB (m3,l3,e3) 2=q4 at *
 obtain ⟨v4,m4,l4,e4⟩:=q4
 dsimp only [rU,rV,rB] at hQ hl4 hm4
 replace hm4:=aC hm3 hm4
 have hl5:=bm m4 l4 e4 1
 have hm5:=bn m4 l4 e4 1
 generalize h5:bB (m4,l4,e4) 1=q5 at *
 obtain ⟨v5,m5,l5,e5⟩:=q5
 dsimp only [rU,rV,rB] at hQ hl5 hm5
 replace hm5:=aC hm4 hm5
 subst hQ
 dsimp only [aE]
 refine ACalls.fW aB (TblOk.cons gy TblOk.nil) Tryz.func176 [.cell 2 90] (by simp only [zkz];omega) (T:=ay []) (h:=fun hcl hlt=>?_)
 clear hlt
 have b0:l0.length≤100000:=by omega
 have b1:l1.length≤100000:=by omega
 have b2:l2.length≤100000:=by omega
 have b3:l3.length≤100000:=by omega
 have b4:l4.length≤100000:=by omega
 have b5:l5.length≤100000:=by omega
 simp only [go_sem,byq,hne,hid,hcs,hcm,hgm,onR,ae,au,zlv,zlt,zle,and_true,true_and,hid,onR,ae,aE,vv,vc,hM,h0,b0,h1,b1,h2,b2,h3,b3,h4,b4,h5,b5]
 have hclz:(H.set id (.cells [.slice m5 1 (bys l5),.int .i64 e5])).Closed:=am hid hcl m5 hm5 l5 e5
 refine ⟨hle,?_,by repeat first|exact .refl _|refine .push ?_ _,hclz,(fun x=>cn x) _⟩
 simp [wk,wk2,wkL,wk1,wkM,aR]
def qx:List AV→AHeap→(AEnd→AHeap→Prop)→Prop
 |[.ptr id 0,.agg [.int .i64 most,.func (.func f) [] [],.func (.func 176) [] []]],H,K=>onR H id fun m l e=>True∧K (.ret (.slice .any 6 ((rlP eR most (m,l,e)).1.map (aR)))) (H.set id (.cells (aE (rlP eR most (m,l,e)).2)))
 |_,_,_=>False
theorem vY:EntOk Tryz.prog 59 (Ent.effect qx):=by
 refine EntOk.effect fun args H K h=>?_
 unfold qx at h
 split at h
 rotate_left
 ·exact h.elim
 rename_i id most f
 obtain ⟨m,l,e,hid,hle,h⟩:=bU h
 obtain ⟨hpre,hK⟩:=h
 refine ⟨_,_,hK,?_⟩
 clear hK
 have hl0:=AHeap.get_lt hid
 have hne:=aU hl0
 have hss:=bo hid
 have hcs:=aI hid
 have hcm:=fun cs=>@av H id cs hl0
 have hgm:=fun o=>@aN H id o hl0
 have hl1:=cu m l e most
 have hm1:=ct m l e most
 have hc1:=cJ (m,l,e) most
 obtain ⟨Q,hQ⟩:∃ Q,rlP eR most (m,l,e)=Q:=⟨_,rfl⟩
 rw [hQ]
 unfold rlP at hQ
 generalize h1:aX (m,l,e) most=q1 at *
 obtain ⟨cc,m1,l1,e1⟩:=q1
 dsimp only at hl1 hm1 hc1 hQ
 obtain ⟨kc,rfl⟩:∃ kc:Nat,cc=(kc:Int):=⟨cc.toNat,by omega⟩
 rw [Int.toNat_natCast] at hQ
 obtain ⟨⟨GO,gs⟩,hG⟩:∃ G,goP eR kc (m1,l1,e1)=G:=⟨_,rfl⟩
 have hgo:=gS rdRef_go kc (m1,l1,e1)
 rw [hG] at hQ hgo
 obtain ⟨hg1,hg2,_⟩:=hgo
 obtain ⟨gm,gl,ge⟩:=gs
 dsimp only at hQ hg1 hg2
 subst hQ
 refine ACalls.fW aB (TblOk.cons eJ (TblOk.cons Cq (TblOk.cons fv TblOk.nil))) Tryz.func59 [.tmp 4] (by simp only [zkz];omega) (T:=ay []) (h:=fun hcl hlt=>?_)
 clear hlt
 have b1:l1.length≤100000:=by omega
 simp only [cm,cl,bhq,Nat.reduceMod,Nat.reduceDiv,aY,aZ,a0,cb,a9,bY,ca,bV,bW,yaq,yar,yao,yap,go_sem,byq,hne,hid,hcs,hcm,hgm,onR,ae,au,zlv,zlt,zle,and_true,true_and,hid,eQ,h1,b1,aE]
 refine ⟨hle,?_⟩
 have hltC:ltL (H.nx+1) [.int .i64 most,.func (.func f) [] [],.func (.func 176) [] []]:=by simp [zno,znp,zmz,cy]
 have hclL:∀ (s:RS) (k:Nat),cw m s.1→((((H.set id (.cells [.slice s.1 1 (bys s.2.1),.int .i64 s.2.2])).push (.cells [.int .i64 most,.func (.func f) [] [],.func (.func 176) [] []])).push (.buf 6 0)).push (.buf 6 k)).Closed:=fun s k hs=>aP (aP (ag (am hid hcl s.1 hs s.2.1 s.2.2) (by simpa only [zkz] using hltC)))
 refine aA (A:=List SRef × RS) (fun x=>[(0,.ptr id 0),(3,.ptr H.nx 0),(5,.slice (.own (H.nx+1+1)) 6 (x.1.map (aR))),(10,.int .i64 (kc:Int)),(11,.int .i64 (x.1.length:Int))]) (fun x=>(((H.set id (.cells [.slice x.2.1 1 (bys x.2.2.1),.int .i64 x.2.2.2])).push (.cells [.int .i64 most,.func (.func f) [] [],.func (.func 176) [] []])).push (.buf 6 0)).push (.buf 6 x.1.length)) (fun x=>x.1.length≤kc∧((goP eR (kc - x.1.length) x.2).1.map (x.1++·),(goP eR (kc - x.1.length) x.2).2)=(GO,gm,gl,ge)∧x.2.2.1.length≤l1.length∧cw m x.2.1) (fun x=>kc - x.1.length) ([],(m1,l1,e1)) ⟨Nat.zero_le _,by rw [← hG];simp,Nat.le_refl _,hm1⟩ ?_ fun x hx=>?_
 ·refine ⟨by simp only [zkk,zkp,zky,zkz];omega,by repeat first|exact .refl _|refine .push ?_ _,hclL (m1,l1,e1) 0 hm1,?_,?_⟩
  ·simp [ltF,zmz,znh,aH,znp,zky,zkz]
   try omega
  ·simp [bf,wk2,wk1,wkM,Fr.get]
 obtain ⟨us,m2,l2,e2⟩:=x
 obtain ⟨hx1,hx2,hx3,hx4⟩:=hx
 dsimp only at hx1 hx2 hx3 hx4 ⊢
 have b2:l2.length≤100000:=by omega
 have ne1:(H.nx+1=id)=False:=eq_false (by omega)
 simp only [go_sem]
 refine ai (fun hc=>?_) (fun hc=>?_)
 ·have hk':us.length<kc:=by simp at hc;omega
  have e5:IntKind.i64.wrap ((us.length:Int)+1)=((us.length+1:Nat):Int):=by rw [wrap_i64]<;>omega
  have hu:goP eR (kc - us.length) (m2,l2,e2)=if (eR (m2,l2,e2)).2.2.2≠0 then (none,(eR (m2,l2,e2)).2) else ((goP eR (kc - (us.length+1)) (eR (m2,l2,e2)).2).1.map ((eR (m2,l2,e2)).1::·),(goP eR (kc - (us.length+1)) (eR (m2,l2,e2)).2).2):=by
   rw [show kc - us.length=(kc - (us.length+1))+1 by omega];rfl
  rw [hu] at hx2
  have hl3:=rdRef_go.l (m2,l2,e2)
  have hm3:=rdRef_go.m (m2,l2,e2)
  generalize hq3:eR (m2,l2,e2)=q3 at *
  obtain ⟨n3,m3,l3,e3⟩:=q3
  dsimp only at hl3 hm3 hx2
  have b3:l3.length≤100000:=by omega
  have hmm:cw m m3:=aC hx4 hm3
  cases hz:(e3 != 0)
  ·have hz':e3=0:=by simpa using hz
   rw [if_neg (by rw [hz'];decide)] at hx2
   simp only [go_sem,byq,hne,hid,hcs,hcm,hgm,onR,ae,au,zlv,zlt,zle,and_true,true_and,hid,qt,di,cW,hq3,hz,b2,b3,aE,aR,e5,ybb]
   have hlen:(us++[n3]).length=us.length+1:=by simp
   refine ⟨⟨by omega,by omega,fun z hz=>by rw [List.mem_singleton] at hz;subst hz;rfl⟩,(us++[n3],(m3,l3,e3)),⟨by dsimp only;omega,?_,by dsimp only;omega,hmm⟩,by dsimp only;omega,?_⟩
   ·dsimp only
    rw [hlen,← hx2]
    generalize goP eR (kc - (us.length+1)) (m3,l3,e3)=q5
    obtain ⟨o,t⟩:=q5
    cases o
    ·rfl
    ·simp [List.append_assoc]
   ·refine ⟨by simp only [zky,zkz];omega,?_,hclL (m3,l3,e3) _ hmm,?_,?_⟩
    ·simp only [List.map_append,yae,yaf,aR,List.length_append,yaz,yba]
     repeat first|exact .refl _|refine .push ?_ _
    ·simp [ltF,zmz,znh,aH,zky,zkz]
     refine ⟨by omega,by omega,ltL_iff.2 fun j hj=>?_⟩
     have hmem:=List.getElem_mem hj
     rw [List.mem_append,List.mem_map,List.mem_singleton] at hmem
     rcases hmem with ⟨x,_,e⟩|e
     ·rw [← e];exact (fun x=>cn x) x
     ·rw [e];exact (fun x=>cn x) _
    ·simp [bf,wk2,wk1,wkM,Fr.get,aR]
  ·have hz':e3≠0:=by simpa using hz
   rw [if_pos hz'] at hx2
   simp only [Option.map,Prod.mk.injEq] at hx2
   obtain ⟨rfl,rfl,rfl,rfl⟩:=hx2
   simp only [go_sem,byq,hne,hid,hcs,hcm,hgm,onR,ae,au,zlv,zlt,zle,and_true,true_and,hid,qt,di,cW,hq3,hz,b2,b3,aE,aR,Option.getD_none,yaf]
   exact ⟨by simp [wk,wk2,wk1,wkM],by repeat first|exact .refl _|refine .push ?_ _,am hid hcl _ hmm _ _,by simp [aH,znp]⟩
 ·have hk':us.length=kc:=by simp at hc;omega
  subst hk'
  rw [Nat.sub_self] at hx2
  simp only [goP,Option.map,yaj,Prod.mk.injEq] at hx2
  obtain ⟨rfl,rfl,rfl,rfl⟩:=hx2
  simp only [go_sem,byq,Option.getD_some]
  exact ⟨by simp [wk,wk2,wk1,wkM],by repeat first|exact .refl _|refine .push ?_ _,am hid hcl _ hx4 _ _,aa (fun x=>cn x)⟩
def qA:List AV→AHeap→(AEnd→AHeap→Prop)→Prop
 |[.ptr id 0],H,K=>onR H id fun m l e=>True∧K (.ret (aj ((dl LP) (m,l,e)).1)) (H.set id (.cells (aE ((dl LP) (m,l,e)).2)))
 |_,_,_=>False
theorem Ew:EntOk Tryz.prog 143 (Ent.effect qA):=by
 refine EntOk.effect fun args H K h=>?_
 unfold qA at h
 split at h
 rotate_left
 ·exact h.elim
 rename_i id
 obtain ⟨m,l,e,hid,hle,h⟩:=bU h
 obtain ⟨hpre,hK⟩:=h
 refine ⟨_,_,hK,?_⟩
 clear hK
 have hl0:=AHeap.get_lt hid
 have hne:=aU hl0
 have hss:=bo hid
 have hcs:=aI hid
 have hcm:=fun cs=>@av H id cs hl0
 have hgm:=fun o=>@aN H id o hl0
 obtain ⟨Q,hQ⟩:∃ Q,(dl LP) (m,l,e)=Q:=⟨_,rfl⟩
 rw [hQ]
 unfold dl at hQ
 try dsimp only [rap,cZ,rU,rT,rV,rB,nX] at hQ
 have hl0:=bm m l e 2
 have hm0:=bn m l e 2
 generalize h0:bB (m,l,e) 2=q0 at *
 obtain ⟨v0,m0,l0,e0⟩:=q0
 dsimp only [rU,rV,rB] at hQ hl0 hm0
 have hl1:=fD m0 l0 e0 24
 have hm1:=fB m0 l0 e0 24
 generalize h1:dM (m0,l0,e0) 24=q1 at *
 obtain ⟨v1,m1,l1,e1⟩:=q1
 dsimp only [rU,rV,rB] at hQ hl1 hm1
 replace hm1:=aC hm0 hm1
 have hl2:=(eH (fe 2) 32).l (m1,l1,e1)
 have hm2:=(eH (fe 2) 32).m (m1,l1,e1)
 generalize h2:rlP (rU 2) 32 (m1,l1,e1)=q2 at *
 obtain ⟨v2,m2,l2,e2⟩:=q2
 dsimp only [rU,rV,rB] at hQ hl2 hm2
 replace hm2:=aC hm1 hm2
 subst hQ
 dsimp only [aE]
 refine ACalls.fW aB (TblOk.cons gy (TblOk.cons kq (TblOk.cons ln (TblOk.cons rQ TblOk.nil)))) Tryz.func143 [.cell 2 97] (by simp only [zkz];omega) (T:=ay []) (h:=fun hcl hlt=>?_)
 clear hlt
 have b0:l0.length≤100000:=by omega
 have b1:l1.length≤100000:=by omega
 have b2:l2.length≤100000:=by omega
 simp only [go_sem,byq,hne,hid,hcs,hcm,hgm,onR,ae,au,zlv,zlt,zle,and_true,true_and,hid,onR,ae,aE,vv,vc,hM,kf,dY,bM,oA,h0,b0,h1,b1,h2,b2]
 have hclz:(H.set id (.cells [.slice m2 1 (bys l2),.int .i64 e2])).Closed:=am hid hcl m2 hm2 l2 e2
 refine ⟨hle,?_,by repeat first|exact .refl _|refine .push ?_ _,hclz,(fun x=>bg x) _⟩
 simp [wk,wk2,wkL,wk1,wkM,aj,inL,boL]
def qn:List AV→AHeap→(AEnd→AHeap→Prop)→Prop
 |[.ptr id 0,.agg [.int .i64 most,.func (.func f) [] [],.func (.func 143) [] []]],H,K=>onR H id fun m l e=>True∧K (.ret (.slice .any 3 ((rlP (dl LP) most (m,l,e)).1.map (aj)))) (H.set id (.cells (aE (rlP (dl LP) most (m,l,e)).2)))
 |_,_,_=>False
theorem wb:EntOk Tryz.prog 47 (Ent.effect qn):=by
 refine EntOk.effect fun args H K h=>?_
 unfold qn at h
 split at h
 rotate_left
 ·exact h.elim
 rename_i id most f
 obtain ⟨m,l,e,hid,hle,h⟩:=bU h
 obtain ⟨hpre,hK⟩:=h
 refine ⟨_,_,hK,?_⟩
 clear hK
 have hl0:=AHeap.get_lt hid
 have hne:=aU hl0
 have hss:=bo hid
 have hcs:=aI hid
 have hcm:=fun cs=>@av H id cs hl0
 have hgm:=fun o=>@aN H id o hl0
 have hl1:=cu m l e most
 have hm1:=ct m l e most
 have hc1:=cJ (m,l,e) most
 obtain ⟨Q,hQ⟩:∃ Q,rlP (dl LP) most (m,l,e)=Q:=⟨_,rfl⟩
 rw [hQ]
 unfold rlP at hQ
 generalize h1:aX (m,l,e) most=q1 at *
 obtain ⟨cc,m1,l1,e1⟩:=q1
 dsimp only at hl1 hm1 hc1 hQ
 obtain ⟨kc,rfl⟩:∃ kc:Nat,cc=(kc:Int):=⟨cc.toNat,by omega⟩
 rw [Int.toNat_natCast] at hQ
 obtain ⟨⟨GO,gs⟩,hG⟩:∃ G,goP (dl LP) kc (m1,l1,e1)=G:=⟨_,rfl⟩
 have hgo:=gS (dV gX) kc (m1,l1,e1)
 rw [hG] at hQ hgo
 obtain ⟨hg1,hg2,_⟩:=hgo
 obtain ⟨gm,gl,ge⟩:=gs
 dsimp only at hQ hg1 hg2
 subst hQ
 refine ACalls.fW aB (TblOk.cons eJ (TblOk.cons Ew (TblOk.cons fv TblOk.nil))) Tryz.func47 [.tmp 4] (by simp only [zkz];omega) (T:=ay []) (h:=fun hcl hlt=>?_)
 clear hlt
 have b1:l1.length≤100000:=by omega
 simp only [cm,cl,bhq,Nat.reduceMod,Nat.reduceDiv,aY,aZ,a0,cb,a9,bY,ca,bV,bW,yaq,yar,yao,yap,go_sem,byq,hne,hid,hcs,hcm,hgm,onR,ae,au,zlv,zlt,zle,and_true,true_and,hid,eQ,h1,b1,aE]
 refine ⟨hle,?_⟩
 have hltC:ltL (H.nx+1) [.int .i64 most,.func (.func f) [] [],.func (.func 143) [] []]:=by simp [zno,znp,zmz,cy]
 have hclL:∀ (s:RS) (k:Nat),cw m s.1→((((H.set id (.cells [.slice s.1 1 (bys s.2.1),.int .i64 s.2.2])).push (.cells [.int .i64 most,.func (.func f) [] [],.func (.func 143) [] []])).push (.buf 3 0)).push (.buf 3 k)).Closed:=fun s k hs=>aP (aP (ag (am hid hcl s.1 hs s.2.1 s.2.2) (by simpa only [zkz] using hltC)))
 refine aA (A:=List SHeader × RS) (fun x=>[(0,.ptr id 0),(3,.ptr H.nx 0),(5,.slice (.own (H.nx+1+1)) 3 (x.1.map (aj))),(10,.int .i64 (kc:Int)),(11,.int .i64 (x.1.length:Int))]) (fun x=>(((H.set id (.cells [.slice x.2.1 1 (bys x.2.2.1),.int .i64 x.2.2.2])).push (.cells [.int .i64 most,.func (.func f) [] [],.func (.func 143) [] []])).push (.buf 3 0)).push (.buf 3 x.1.length)) (fun x=>x.1.length≤kc∧((goP (dl LP) (kc - x.1.length) x.2).1.map (x.1++·),(goP (dl LP) (kc - x.1.length) x.2).2)=(GO,gm,gl,ge)∧x.2.2.1.length≤l1.length∧cw m x.2.1) (fun x=>kc - x.1.length) ([],(m1,l1,e1)) ⟨Nat.zero_le _,by rw [← hG];simp,Nat.le_refl _,hm1⟩ ?_ fun x hx=>?_
 ·refine ⟨by simp only [zkk,zkp,zky,zkz];omega,by repeat first|exact .refl _|refine .push ?_ _,hclL (m1,l1,e1) 0 hm1,?_,?_⟩
  ·simp [ltF,zmz,znh,aH,znp,zky,zkz]
   try omega
  ·simp [bf,wk2,wk1,wkM,Fr.get]
 obtain ⟨us,m2,l2,e2⟩:=x
 obtain ⟨hx1,hx2,hx3,hx4⟩:=hx
 dsimp only at hx1 hx2 hx3 hx4 ⊢
 have b2:l2.length≤100000:=by omega
 have ne1:(H.nx+1=id)=False:=eq_false (by omega)
 simp only [go_sem]
 refine ai (fun hc=>?_) (fun hc=>?_)
 ·have hk':us.length<kc:=by simp at hc;omega
  have e5:IntKind.i64.wrap ((us.length:Int)+1)=((us.length+1:Nat):Int):=by rw [wrap_i64]<;>omega
  have hu:goP (dl LP) (kc - us.length) (m2,l2,e2)=if ((dl LP) (m2,l2,e2)).2.2.2≠0 then (none,((dl LP) (m2,l2,e2)).2) else ((goP (dl LP) (kc - (us.length+1)) ((dl LP) (m2,l2,e2)).2).1.map (((dl LP) (m2,l2,e2)).1::·),(goP (dl LP) (kc - (us.length+1)) ((dl LP) (m2,l2,e2)).2).2):=by
   rw [show kc - us.length=(kc - (us.length+1))+1 by omega];rfl
  rw [hu] at hx2
  have hl3:=(dV gX).l (m2,l2,e2)
  have hm3:=(dV gX).m (m2,l2,e2)
  generalize hq3:(dl LP) (m2,l2,e2)=q3 at *
  obtain ⟨n3,m3,l3,e3⟩:=q3
  dsimp only at hl3 hm3 hx2
  have b3:l3.length≤100000:=by omega
  have hmm:cw m m3:=aC hx4 hm3
  cases hz:(e3 != 0)
  ·have hz':e3=0:=by simpa using hz
   rw [if_neg (by rw [hz'];decide)] at hx2
   simp only [go_sem,byq,hne,hid,hcs,hcm,hgm,onR,ae,au,zlv,zlt,zle,and_true,true_and,hid,qA,di,cW,hq3,hz,b2,b3,aE,aj,e5,ybb]
   have hlen:(us++[n3]).length=us.length+1:=by simp
   refine ⟨⟨by omega,by omega,fun z hz=>by rw [List.mem_singleton] at hz;subst hz;rfl⟩,(us++[n3],(m3,l3,e3)),⟨by dsimp only;omega,?_,by dsimp only;omega,hmm⟩,by dsimp only;omega,?_⟩
   ·dsimp only
    rw [hlen,← hx2]
    generalize goP (dl LP) (kc - (us.length+1)) (m3,l3,e3)=q5
    obtain ⟨o,t⟩:=q5
    cases o
    ·rfl
    ·simp [List.append_assoc]
   ·refine ⟨by simp only [zky,zkz];omega,?_,hclL (m3,l3,e3) _ hmm,?_,?_⟩
    ·simp only [List.map_append,yae,yaf,aj,List.length_append,yaz,yba]
     repeat first|exact .refl _|refine .push ?_ _
    ·simp [ltF,zmz,znh,aH,zky,zkz]
     refine ⟨by omega,by omega,ltL_iff.2 fun j hj=>?_⟩
     have hmem:=List.getElem_mem hj
     rw [List.mem_append,List.mem_map,List.mem_singleton] at hmem
     rcases hmem with ⟨x,_,e⟩|e
     ·rw [← e];exact (fun x=>bg x) x
     ·rw [e];exact (fun x=>bg x) _
    ·simp [bf,wk2,wk1,wkM,Fr.get,aj]
  ·have hz':e3≠0:=by simpa using hz
   rw [if_pos hz'] at hx2
   simp only [Option.map,Prod.mk.injEq] at hx2
   obtain ⟨rfl,rfl,rfl,rfl⟩:=hx2
   simp only [go_sem,byq,hne,hid,hcs,hcm,hgm,onR,ae,au,zlv,zlt,zle,and_true,true_and,hid,qA,di,cW,hq3,hz,b2,b3,aE,aj,Option.getD_none,yaf]
   exact ⟨by simp [wk,wk2,wk1,wkM],by repeat first|exact .refl _|refine .push ?_ _,am hid hcl _ hmm _ _,by simp [aH,znp]⟩
 ·have hk':us.length=kc:=by simp at hc;omega
  subst hk'
  rw [Nat.sub_self] at hx2
  simp only [goP,Option.map,yaj,Prod.mk.injEq] at hx2
  obtain ⟨rfl,rfl,rfl,rfl⟩:=hx2
  simp only [go_sem,byq,Option.getD_some]
  exact ⟨by simp [wk,wk2,wk1,wkM],by repeat first|exact .refl _|refine .push ?_ _,am hid hcl _ hx4 _ _,aa (fun x=>bg x)⟩
end Go.AL
open Go Go.AL Go.Proofs
namespace Go.AL
set_option linter.all false
set_option maxRecDepth 10000
def qf:List AV→AHeap→(AEnd→AHeap→Prop)→Prop
 |[.ptr id 0],H,K=>onR H id fun m l e=>True∧K (.ret (ak ((dx LP) (m,l,e)).1)) (H.set id (.cells (aE ((dx LP) (m,l,e)).2)))
 |_,_,_=>False
theorem CD:EntOk Tryz.prog 148 (Ent.effect qf):=by
 refine EntOk.effect fun args H K h=>?_
 unfold qf at h
 split at h
 rotate_left
 ·exact h.elim
 rename_i id
 obtain ⟨m,l,e,hid,hle,h⟩:=bU h
 obtain ⟨hpre,hK⟩:=h
 refine ⟨_,_,hK,?_⟩
 clear hK
 have hl0:=AHeap.get_lt hid
 have hne:=aU hl0
 have hss:=bo hid
 have hcs:=aI hid
 have hcm:=fun cs=>@av H id cs hl0
 have hgm:=fun o=>@aN H id o hl0
 obtain ⟨Q,hQ⟩:∃ Q,(dx LP) (m,l,e)=Q:=⟨_,rfl⟩
 rw [hQ]
 unfold dx at hQ
 try dsimp only [rap,cZ,rU,rT,rV,rB,nX] at hQ
 have hl0:=bm m l e 2
 have hm0:=bn m l e 2
 generalize h0:bB (m,l,e) 2=q0 at *
 obtain ⟨v0,m0,l0,e0⟩:=q0
 dsimp only [rU,rV,rB] at hQ hl0 hm0
 have hl1:=bm m0 l0 e0 2
 have hm1:=bn m0 l0 e0 2
 generalize h1:bB (m0,l0,e0) 2=q1 at *
 obtain ⟨v1,m1,l1,e1⟩:=q1
 dsimp only [rU,rV,rB] at hQ hl1 hm1
 replace hm1:=aC hm0 hm1
 have hl2:=bm m1 l1 e1 2
 have hm2:=bn m1 l1 e1 2
 generalize h2:bB (m1,l1,e1) 2=q2 at *
 obtain ⟨v2,m2,l2,e2⟩:=q2
 dsimp only [rU,rV,rB] at hQ hl2 hm2
 replace hm2:=aC hm1 hm2
 have hl3:=(eH rdCas_go 6).l (m2,l2,e2)
 have hm3:=(eH rdCas_go 6).m (m2,l2,e2)
 generalize h3:rlP eT 6 (m2,l2,e2)=q3 at *
 obtain ⟨v3,m3,l3,e3⟩:=q3
 dsimp only [rU,rV,rB] at hQ hl3 hm3
 replace hm3:=aC hm2 hm3
 have hl4:=bm m3 l3 e3 2
 have hm4:=bn m3 l3 e3 2
 generalize h4:bB (m3,l3,e3) 2=q4 at *
 obtain ⟨v4,m4,l4,e4⟩:=q4
 dsimp only [rU,rV,rB] at hQ hl4 hm4
 replace hm4:=aC hm3 hm4
 subst hQ
 dsimp only [aE]
 refine ACalls.fW aB (TblOk.cons gy (TblOk.cons wq (TblOk.cons En TblOk.nil))) Tryz.func148 [.cell 2 119] (by simp only [zkz];omega) (T:=ay []) (h:=fun hcl hlt=>?_)
 clear hlt
 have b0:l0.length≤100000:=by omega
 have b1:l1.length≤100000:=by omega
 have b2:l2.length≤100000:=by omega
 have b3:l3.length≤100000:=by omega
 have b4:l4.length≤100000:=by omega
 simp only [go_sem,byq,hne,hid,hcs,hcm,hgm,onR,ae,au,zlv,zlt,zle,and_true,true_and,hid,onR,ae,aE,vv,vc,hM,ke,bM,uW,h0,b0,h1,b1,h2,b2,h3,b3,h4,b4]
 have hclz:(H.set id (.cells [.slice m4 1 (bys l4),.int .i64 e4])).Closed:=am hid hcl m4 hm4 l4 e4
 refine ⟨hle,?_,by repeat first|exact .refl _|refine .push ?_ _,hclz,(fun x=>bk x) _⟩
 simp [wk,wk2,wkL,wk1,wkM,ak,inL,boL]
def qi:List AV→AHeap→(AEnd→AHeap→Prop)→Prop
 |[.ptr id 0,.agg [.int .i64 most,.func (.func f) [] [],.func (.func 148) [] []]],H,K=>onR H id fun m l e=>True∧K (.ret (.slice .any 5 ((rlP (dx LP) most (m,l,e)).1.map (ak)))) (H.set id (.cells (aE (rlP (dx LP) most (m,l,e)).2)))
 |_,_,_=>False
theorem wl:EntOk Tryz.prog 49 (Ent.effect qi):=by
 refine EntOk.effect fun args H K h=>?_
 unfold qi at h
 split at h
 rotate_left
 ·exact h.elim
 rename_i id most f
 obtain ⟨m,l,e,hid,hle,h⟩:=bU h
 obtain ⟨hpre,hK⟩:=h
 refine ⟨_,_,hK,?_⟩
 clear hK
 have hl0:=AHeap.get_lt hid
 have hne:=aU hl0
 have hss:=bo hid
 have hcs:=aI hid
 have hcm:=fun cs=>@av H id cs hl0
 have hgm:=fun o=>@aN H id o hl0
 have hl1:=cu m l e most
 have hm1:=ct m l e most
 have hc1:=cJ (m,l,e) most
 obtain ⟨Q,hQ⟩:∃ Q,rlP (dx LP) most (m,l,e)=Q:=⟨_,rfl⟩
 rw [hQ]
 unfold rlP at hQ
 generalize h1:aX (m,l,e) most=q1 at *
 obtain ⟨cc,m1,l1,e1⟩:=q1
 dsimp only at hl1 hm1 hc1 hQ
 obtain ⟨kc,rfl⟩:∃ kc:Nat,cc=(kc:Int):=⟨cc.toNat,by omega⟩
 rw [Int.toNat_natCast] at hQ
 obtain ⟨⟨GO,gs⟩,hG⟩:∃ G,goP (dx LP) kc (m1,l1,e1)=G:=⟨_,rfl⟩
 have hgo:=gS (eu gX) kc (m1,l1,e1)
 rw [hG] at hQ hgo
 obtain ⟨hg1,hg2,_⟩:=hgo
 obtain ⟨gm,gl,ge⟩:=gs
 dsimp only at hQ hg1 hg2
 subst hQ
 refine ACalls.fW aB (TblOk.cons eJ (TblOk.cons CD (TblOk.cons fv TblOk.nil))) Tryz.func49 [.tmp 4] (by simp only [zkz];omega) (T:=ay []) (h:=fun hcl hlt=>?_)
 clear hlt
 have b1:l1.length≤100000:=by omega
 simp only [cm,cl,bhq,Nat.reduceMod,Nat.reduceDiv,aY,aZ,a0,cb,a9,bY,ca,bV,bW,yaq,yar,yao,yap,go_sem,byq,hne,hid,hcs,hcm,hgm,onR,ae,au,zlv,zlt,zle,and_true,true_and,hid,eQ,h1,b1,aE]
 refine ⟨hle,?_⟩
 have hltC:ltL (H.nx+1) [.int .i64 most,.func (.func f) [] [],.func (.func 148) [] []]:=by simp [zno,znp,zmz,cy]
 have hclL:∀ (s:RS) (k:Nat),cw m s.1→((((H.set id (.cells [.slice s.1 1 (bys s.2.1),.int .i64 s.2.2])).push (.cells [.int .i64 most,.func (.func f) [] [],.func (.func 148) [] []])).push (.buf 5 0)).push (.buf 5 k)).Closed:=fun s k hs=>aP (aP (ag (am hid hcl s.1 hs s.2.1 s.2.2) (by simpa only [zkz] using hltC)))
 refine aA (A:=List SState × RS) (fun x=>[(0,.ptr id 0),(3,.ptr H.nx 0),(5,.slice (.own (H.nx+1+1)) 5 (x.1.map (ak))),(10,.int .i64 (kc:Int)),(11,.int .i64 (x.1.length:Int))]) (fun x=>(((H.set id (.cells [.slice x.2.1 1 (bys x.2.2.1),.int .i64 x.2.2.2])).push (.cells [.int .i64 most,.func (.func f) [] [],.func (.func 148) [] []])).push (.buf 5 0)).push (.buf 5 x.1.length)) (fun x=>x.1.length≤kc∧((goP (dx LP) (kc - x.1.length) x.2).1.map (x.1++·),(goP (dx LP) (kc - x.1.length) x.2).2)=(GO,gm,gl,ge)∧x.2.2.1.length≤l1.length∧cw m x.2.1) (fun x=>kc - x.1.length) ([],(m1,l1,e1)) ⟨Nat.zero_le _,by rw [← hG];simp,Nat.le_refl _,hm1⟩ ?_ fun x hx=>?_
 ·refine ⟨by simp only [zkk,zkp,zky,zkz];omega,by repeat first|exact .refl _|refine .push ?_ _,hclL (m1,l1,e1) 0 hm1,?_,?_⟩
  ·simp [ltF,zmz,znh,aH,znp,zky,zkz]
   try omega
  ·simp [bf,wk2,wk1,wkM,Fr.get]
 obtain ⟨us,m2,l2,e2⟩:=x
 obtain ⟨hx1,hx2,hx3,hx4⟩:=hx
 dsimp only at hx1 hx2 hx3 hx4 ⊢
 have b2:l2.length≤100000:=by omega
 have ne1:(H.nx+1=id)=False:=eq_false (by omega)
 simp only [go_sem]
 refine ai (fun hc=>?_) (fun hc=>?_)
 ·have hk':us.length<kc:=by simp at hc;omega
  have e5:IntKind.i64.wrap ((us.length:Int)+1)=((us.length+1:Nat):Int):=by rw [wrap_i64]<;>omega
  have hu:goP (dx LP) (kc - us.length) (m2,l2,e2)=if ((dx LP) (m2,l2,e2)).2.2.2≠0 then (none,((dx LP) (m2,l2,e2)).2) else ((goP (dx LP) (kc - (us.length+1)) ((dx LP) (m2,l2,e2)).2).1.map (((dx LP) (m2,l2,e2)).1::·),(goP (dx LP) (kc - (us.length+1)) ((dx LP) (m2,l2,e2)).2).2):=by
   rw [show kc - us.length=(kc - (us.length+1))+1 by omega];rfl
  rw [hu] at hx2
  have hl3:=(eu gX).l (m2,l2,e2)
  have hm3:=(eu gX).m (m2,l2,e2)
  generalize hq3:(dx LP) (m2,l2,e2)=q3 at *
  obtain ⟨n3,m3,l3,e3⟩:=q3
  dsimp only at hl3 hm3 hx2
  have b3:l3.length≤100000:=by omega
  have hmm:cw m m3:=aC hx4 hm3
  cases hz:(e3 != 0)
  ·have hz':e3=0:=by simpa using hz
   rw [if_neg (by rw [hz'];decide)] at hx2
   simp only [go_sem,byq,hne,hid,hcs,hcm,hgm,onR,ae,au,zlv,zlt,zle,and_true,true_and,hid,qf,di,cW,hq3,hz,b2,b3,aE,ak,e5,ybb]
   have hlen:(us++[n3]).length=us.length+1:=by simp
   refine ⟨⟨by omega,by omega,fun z hz=>by rw [List.mem_singleton] at hz;subst hz;rfl⟩,(us++[n3],(m3,l3,e3)),⟨by dsimp only;omega,?_,by dsimp only;omega,hmm⟩,by dsimp only;omega,?_⟩
   ·dsimp only
    rw [hlen,← hx2]
    generalize goP (dx LP) (kc - (us.length+1)) (m3,l3,e3)=q5
    obtain ⟨o,t⟩:=q5
    cases o
    ·rfl
    ·simp [List.append_assoc]
   ·refine ⟨by simp only [zky,zkz];omega,?_,hclL (m3,l3,e3) _ hmm,?_,?_⟩
    ·simp only [List.map_append,yae,yaf,ak,List.length_append,yaz,yba]
     repeat first|exact .refl _|refine .push ?_ _
    ·simp [ltF,zmz,znh,aH,zky,zkz]
     refine ⟨by omega,by omega,ltL_iff.2 fun j hj=>?_⟩
     have hmem:=List.getElem_mem hj
     rw [List.mem_append,List.mem_map,List.mem_singleton] at hmem
     rcases hmem with ⟨x,_,e⟩|e
     ·rw [← e];exact (fun x=>bk x) x
     ·rw [e];exact (fun x=>bk x) _
    ·simp [bf,wk2,wk1,wkM,Fr.get,ak]
  ·have hz':e3≠0:=by simpa using hz
   rw [if_pos hz'] at hx2
   simp only [Option.map,Prod.mk.injEq] at hx2
   obtain ⟨rfl,rfl,rfl,rfl⟩:=hx2
   simp only [go_sem,byq,hne,hid,hcs,hcm,hgm,onR,ae,au,zlv,zlt,zle,and_true,true_and,hid,qf,di,cW,hq3,hz,b2,b3,aE,ak,Option.getD_none,yaf]
   exact ⟨by simp [wk,wk2,wk1,wkM],by repeat first|exact .refl _|refine .push ?_ _,am hid hcl _ hmm _ _,by simp [aH,znp]⟩
 ·have hk':us.length=kc:=by simp at hc;omega
  subst hk'
  rw [Nat.sub_self] at hx2
  simp only [goP,Option.map,yaj,Prod.mk.injEq] at hx2
  obtain ⟨rfl,rfl,rfl,rfl⟩:=hx2
  simp only [go_sem,byq,Option.getD_some]
  exact ⟨by simp [wk,wk2,wk1,wkM],by repeat first|exact .refl _|refine .push ?_ _,am hid hcl _ hx4 _ _,aa (fun x=>bk x)⟩
def qu:List AV→AHeap→(AEnd→AHeap→Prop)→Prop
 |[.ptr id 0],H,K=>onR H id fun m l e=>True∧K (.ret (ah ((dJ LP) (m,l,e)).1)) (H.set id (.cells (aE ((dJ LP) (m,l,e)).2)))
 |_,_,_=>False
theorem Dh:EntOk Tryz.prog 155 (Ent.effect qu):=by
 refine EntOk.effect fun args H K h=>?_
 unfold qu at h
 split at h
 rotate_left
 ·exact h.elim
 rename_i id
 obtain ⟨m,l,e,hid,hle,h⟩:=bU h
 obtain ⟨hpre,hK⟩:=h
 refine ⟨_,_,hK,?_⟩
 clear hK
 have hl0:=AHeap.get_lt hid
 have hne:=aU hl0
 have hss:=bo hid
 have hcs:=aI hid
 have hcm:=fun cs=>@av H id cs hl0
 have hgm:=fun o=>@aN H id o hl0
 obtain ⟨Q,hQ⟩:∃ Q,(dJ LP) (m,l,e)=Q:=⟨_,rfl⟩
 rw [hQ]
 unfold dJ at hQ
 try dsimp only [rap,cZ,rU,rT,rV,rB,nX] at hQ
 have hl0:=bm m l e 2
 have hm0:=bn m l e 2
 generalize h0:bB (m,l,e) 2=q0 at *
 obtain ⟨v0,m0,l0,e0⟩:=q0
 dsimp only [rU,rV,rB] at hQ hl0 hm0
 have hl1:=fD m0 l0 e0 24
 have hm1:=fB m0 l0 e0 24
 generalize h1:dM (m0,l0,e0) 24=q1 at *
 obtain ⟨v1,m1,l1,e1⟩:=q1
 dsimp only [rU,rV,rB] at hQ hl1 hm1
 replace hm1:=aC hm0 hm1
 have hl2:=(eH rdPar_go 4).l (m1,l1,e1)
 have hm2:=(eH rdPar_go 4).m (m1,l1,e1)
 generalize h2:rlP eY 4 (m1,l1,e1)=q2 at *
 obtain ⟨v2,m2,l2,e2⟩:=q2
 dsimp only [rU,rV,rB] at hQ hl2 hm2
 replace hm2:=aC hm1 hm2
 have hl3:=(eH rdPri_go 12).l (m2,l2,e2)
 have hm3:=(eH rdPri_go 12).m (m2,l2,e2)
 generalize h3:rlP eS 12 (m2,l2,e2)=q3 at *
 obtain ⟨v3,m3,l3,e3⟩:=q3
 dsimp only [rU,rV,rB] at hQ hl3 hm3
 replace hm3:=aC hm2 hm3
 have hl4:=fD m3 l3 e3 400
 have hm4:=fB m3 l3 e3 400
 generalize h4:dM (m3,l3,e3) 400=q4 at *
 obtain ⟨v4,m4,l4,e4⟩:=q4
 dsimp only [rU,rV,rB] at hQ hl4 hm4
 replace hm4:=aC hm3 hm4
 subst hQ
 dsimp only [aE]
 refine ACalls.fW aB (TblOk.cons gy (TblOk.cons kq (TblOk.cons wS (TblOk.cons El (TblOk.cons wF (TblOk.cons CA TblOk.nil)))))) Tryz.func155 [.cell 2 58] (by simp only [zkz];omega) (T:=ay []) (h:=fun hcl hlt=>?_)
 clear hlt
 have b0:l0.length≤100000:=by omega
 have b1:l1.length≤100000:=by omega
 have b2:l2.length≤100000:=by omega
 have b3:l3.length≤100000:=by omega
 have b4:l4.length≤100000:=by omega
 simp only [go_sem,byq,hne,hid,hcs,hcm,hgm,onR,ae,au,zlv,zlt,zle,and_true,true_and,hid,onR,ae,aE,vv,vc,hM,kf,kb,bM,t9,ki,um,h0,b0,h1,b1,h2,b2,h3,b3,h4,b4]
 have hclz:(H.set id (.cells [.slice m4 1 (bys l4),.int .i64 e4])).Closed:=am hid hcl m4 hm4 l4 e4
 refine ⟨hle,?_,by repeat first|exact .refl _|refine .push ?_ _,hclz,(fun x=>aW x) _⟩
 simp [wk,wk2,wkL,wk1,wkM,ah,inL,boL]
def qv:List AV→AHeap→(AEnd→AHeap→Prop)→Prop
 |[.ptr id 0,.agg [.int .i64 most,.func (.func f) [] [],.func (.func 155) [] []]],H,K=>onR H id fun m l e=>True∧K (.ret (.slice .any 5 ((rlP (dJ LP) most (m,l,e)).1.map (ah)))) (H.set id (.cells (aE (rlP (dJ LP) most (m,l,e)).2)))
 |_,_,_=>False
theorem wm:EntOk Tryz.prog 51 (Ent.effect qv):=by
 refine EntOk.effect fun args H K h=>?_
 unfold qv at h
 split at h
 rotate_left
 ·exact h.elim
 rename_i id most f
 obtain ⟨m,l,e,hid,hle,h⟩:=bU h
 obtain ⟨hpre,hK⟩:=h
 refine ⟨_,_,hK,?_⟩
 clear hK
 have hl0:=AHeap.get_lt hid
 have hne:=aU hl0
 have hss:=bo hid
 have hcs:=aI hid
 have hcm:=fun cs=>@av H id cs hl0
 have hgm:=fun o=>@aN H id o hl0
 have hl1:=cu m l e most
 have hm1:=ct m l e most
 have hc1:=cJ (m,l,e) most
 obtain ⟨Q,hQ⟩:∃ Q,rlP (dJ LP) most (m,l,e)=Q:=⟨_,rfl⟩
 rw [hQ]
 unfold rlP at hQ
 generalize h1:aX (m,l,e) most=q1 at *
 obtain ⟨cc,m1,l1,e1⟩:=q1
 dsimp only at hl1 hm1 hc1 hQ
 obtain ⟨kc,rfl⟩:∃ kc:Nat,cc=(kc:Int):=⟨cc.toNat,by omega⟩
 rw [Int.toNat_natCast] at hQ
 obtain ⟨⟨GO,gs⟩,hG⟩:∃ G,goP (dJ LP) kc (m1,l1,e1)=G:=⟨_,rfl⟩
 have hgo:=gS (eC gX) kc (m1,l1,e1)
 rw [hG] at hQ hgo
 obtain ⟨hg1,hg2,_⟩:=hgo
 obtain ⟨gm,gl,ge⟩:=gs
 dsimp only at hQ hg1 hg2
 subst hQ
 refine ACalls.fW aB (TblOk.cons eJ (TblOk.cons Dh (TblOk.cons fv TblOk.nil))) Tryz.func51 [.tmp 4] (by simp only [zkz];omega) (T:=ay []) (h:=fun hcl hlt=>?_)
 clear hlt
 have b1:l1.length≤100000:=by omega
 simp only [cm,cl,bhq,Nat.reduceMod,Nat.reduceDiv,aY,aZ,a0,cb,a9,bY,ca,bV,bW,yaq,yar,yao,yap,go_sem,byq,hne,hid,hcs,hcm,hgm,onR,ae,au,zlv,zlt,zle,and_true,true_and,hid,eQ,h1,b1,aE]
 refine ⟨hle,?_⟩
 have hltC:ltL (H.nx+1) [.int .i64 most,.func (.func f) [] [],.func (.func 155) [] []]:=by simp [zno,znp,zmz,cy]
 have hclL:∀ (s:RS) (k:Nat),cw m s.1→((((H.set id (.cells [.slice s.1 1 (bys s.2.1),.int .i64 s.2.2])).push (.cells [.int .i64 most,.func (.func f) [] [],.func (.func 155) [] []])).push (.buf 5 0)).push (.buf 5 k)).Closed:=fun s k hs=>aP (aP (ag (am hid hcl s.1 hs s.2.1 s.2.2) (by simpa only [zkz] using hltC)))
 refine aA (A:=List SAction × RS) (fun x=>[(0,.ptr id 0),(3,.ptr H.nx 0),(5,.slice (.own (H.nx+1+1)) 5 (x.1.map (ah))),(10,.int .i64 (kc:Int)),(11,.int .i64 (x.1.length:Int))]) (fun x=>(((H.set id (.cells [.slice x.2.1 1 (bys x.2.2.1),.int .i64 x.2.2.2])).push (.cells [.int .i64 most,.func (.func f) [] [],.func (.func 155) [] []])).push (.buf 5 0)).push (.buf 5 x.1.length)) (fun x=>x.1.length≤kc∧((goP (dJ LP) (kc - x.1.length) x.2).1.map (x.1++·),(goP (dJ LP) (kc - x.1.length) x.2).2)=(GO,gm,gl,ge)∧x.2.2.1.length≤l1.length∧cw m x.2.1) (fun x=>kc - x.1.length) ([],(m1,l1,e1)) ⟨Nat.zero_le _,by rw [← hG];simp,Nat.le_refl _,hm1⟩ ?_ fun x hx=>?_
 ·refine ⟨by simp only [zkk,zkp,zky,zkz];omega,by repeat first|exact .refl _|refine .push ?_ _,hclL (m1,l1,e1) 0 hm1,?_,?_⟩
  ·simp [ltF,zmz,znh,aH,znp,zky,zkz]
   try omega
  ·simp [bf,wk2,wk1,wkM,Fr.get]
 obtain ⟨us,m2,l2,e2⟩:=x
 obtain ⟨hx1,hx2,hx3,hx4⟩:=hx
 dsimp only at hx1 hx2 hx3 hx4 ⊢
 have b2:l2.length≤100000:=by omega
 have ne1:(H.nx+1=id)=False:=eq_false (by omega)
 simp only [go_sem]
 refine ai (fun hc=>?_) (fun hc=>?_)
 ·have hk':us.length<kc:=by simp at hc;omega
  have e5:IntKind.i64.wrap ((us.length:Int)+1)=((us.length+1:Nat):Int):=by rw [wrap_i64]<;>omega
  have hu:goP (dJ LP) (kc - us.length) (m2,l2,e2)=if ((dJ LP) (m2,l2,e2)).2.2.2≠0 then (none,((dJ LP) (m2,l2,e2)).2) else ((goP (dJ LP) (kc - (us.length+1)) ((dJ LP) (m2,l2,e2)).2).1.map (((dJ LP) (m2,l2,e2)).1::·),(goP (dJ LP) (kc - (us.length+1)) ((dJ LP) (m2,l2,e2)).2).2):=by
   rw [show kc - us.length=(kc - (us.length+1))+1 by omega];rfl
  rw [hu] at hx2
  have hl3:=(eC gX).l (m2,l2,e2)
  have hm3:=(eC gX).m (m2,l2,e2)
  generalize hq3:(dJ LP) (m2,l2,e2)=q3 at *
  obtain ⟨n3,m3,l3,e3⟩:=q3
  dsimp only at hl3 hm3 hx2
  have b3:l3.length≤100000:=by omega
  have hmm:cw m m3:=aC hx4 hm3
  cases hz:(e3 != 0)
  ·have hz':e3=0:=by simpa using hz
   rw [if_neg (by rw [hz'];decide)] at hx2
   simp only [go_sem,byq,hne,hid,hcs,hcm,hgm,onR,ae,au,zlv,zlt,zle,and_true,true_and,hid,qu,di,cW,hq3,hz,b2,b3,aE,ah,e5,ybb]
   have hlen:(us++[n3]).length=us.length+1:=by simp
   refine ⟨⟨by omega,by omega,fun z hz=>by rw [List.mem_singleton] at hz;subst hz;rfl⟩,(us++[n3],(m3,l3,e3)),⟨by dsimp only;omega,?_,by dsimp only;omega,hmm⟩,by dsimp only;omega,?_⟩
   ·dsimp only
    rw [hlen,← hx2]
    generalize goP (dJ LP) (kc - (us.length+1)) (m3,l3,e3)=q5
    obtain ⟨o,t⟩:=q5
    cases o
    ·rfl
    ·simp [List.append_assoc]
   ·refine ⟨by simp only [zky,zkz];omega,?_,hclL (m3,l3,e3) _ hmm,?_,?_⟩
    ·simp only [List.map_append,yae,yaf,ah,List.length_append,yaz,yba]
     repeat first|exact .refl _|refine .push ?_ _
    ·simp [ltF,zmz,znh,aH,zky,zkz]
     refine ⟨by omega,by omega,ltL_iff.2 fun j hj=>?_⟩
     have hmem:=List.getElem_mem hj
     rw [List.mem_append,List.mem_map,List.mem_singleton] at hmem
     rcases hmem with ⟨x,_,e⟩|e
     ·rw [← e];exact (fun x=>aW x) x
     ·rw [e];exact (fun x=>aW x) _
    ·simp [bf,wk2,wk1,wkM,Fr.get,ah]
  ·have hz':e3≠0:=by simpa using hz
   rw [if_pos hz'] at hx2
   simp only [Option.map,Prod.mk.injEq] at hx2
   obtain ⟨rfl,rfl,rfl,rfl⟩:=hx2
   simp only [go_sem,byq,hne,hid,hcs,hcm,hgm,onR,ae,au,zlv,zlt,zle,and_true,true_and,hid,qu,di,cW,hq3,hz,b2,b3,aE,ah,Option.getD_none,yaf]
   exact ⟨by simp [wk,wk2,wk1,wkM],by repeat first|exact .refl _|refine .push ?_ _,am hid hcl _ hmm _ _,by simp [aH,znp]⟩
 ·have hk':us.length=kc:=by simp at hc;omega
  subst hk'
  rw [Nat.sub_self] at hx2
  simp only [goP,Option.map,yaj,Prod.mk.injEq] at hx2
  obtain ⟨rfl,rfl,rfl,rfl⟩:=hx2
  simp only [go_sem,byq,Option.getD_some]
  exact ⟨by simp [wk,wk2,wk1,wkM],by repeat first|exact .refl _|refine .push ?_ _,am hid hcl _ hx4 _ _,aa (fun x=>aW x)⟩
def qg:List AV→AHeap→(AEnd→AHeap→Prop)→Prop
 |[.ptr id 0],H,K=>onR H id fun m l e=>True∧K (.ret (ax ((eg LP) (m,l,e)).1)) (H.set id (.cells (aE ((eg LP) (m,l,e)).2)))
 |_,_,_=>False
theorem DV:EntOk Tryz.prog 244 (Ent.effect qg):=by
 refine EntOk.effect fun args H K h=>?_
 unfold qg at h
 split at h
 rotate_left
 ·exact h.elim
 rename_i id
 obtain ⟨m,l,e,hid,hle,h⟩:=bU h
 obtain ⟨hpre,hK⟩:=h
 refine ⟨_,_,hK,?_⟩
 clear hK
 have hl0:=AHeap.get_lt hid
 have hne:=aU hl0
 have hss:=bo hid
 have hcs:=aI hid
 have hcm:=fun cs=>@av H id cs hl0
 have hgm:=fun o=>@aN H id o hl0
 obtain ⟨Q,hQ⟩:∃ Q,(eg LP) (m,l,e)=Q:=⟨_,rfl⟩
 rw [hQ]
 unfold eg at hQ
 try dsimp only [rap,cZ,rU,rT,rV,rB,nX] at hQ
 have hl0:=bm m l e 2
 have hm0:=bn m l e 2
 generalize h0:bB (m,l,e) 2=q0 at *
 obtain ⟨v0,m0,l0,e0⟩:=q0
 dsimp only [rU,rV,rB] at hQ hl0 hm0
 have hl1:=kU m0 l0 e0
 have hm1:=kL m0 l0 e0
 generalize h1:fu (m0,l0,e0)=q1 at *
 obtain ⟨v1,m1,l1,e1⟩:=q1
 dsimp only [rU,rV,rB] at hQ hl1 hm1
 replace hm1:=aC hm0 hm1
 have hl2:=kU m1 l1 e1
 have hm2:=kL m1 l1 e1
 generalize h2:fu (m1,l1,e1)=q2 at *
 obtain ⟨v2,m2,l2,e2⟩:=q2
 dsimp only [rU,rV,rB] at hQ hl2 hm2
 replace hm2:=aC hm1 hm2
 have hl3:=(eH rB_go 4).l (m2,l2,e2)
 have hm3:=(eH rB_go 4).m (m2,l2,e2)
 generalize h3:rlP rB 4 (m2,l2,e2)=q3 at *
 obtain ⟨v3,m3,l3,e3⟩:=q3
 dsimp only [rU,rV,rB] at hQ hl3 hm3
 replace hm3:=aC hm2 hm3
 subst hQ
 dsimp only [aE]
 refine ACalls.fW aB (TblOk.cons gy (TblOk.cons ra (TblOk.cons wV (TblOk.cons Ci TblOk.nil)))) Tryz.func244 [.cell 2 169] (by simp only [zkz];omega) (T:=ay []) (h:=fun hcl hlt=>?_)
 clear hlt
 have b0:l0.length≤100000:=by omega
 have b1:l1.length≤100000:=by omega
 have b2:l2.length≤100000:=by omega
 have b3:l3.length≤100000:=by omega
 simp only [go_sem,byq,hne,hid,hcs,hcm,hgm,onR,ae,au,zlv,zlt,zle,and_true,true_and,hid,onR,ae,aE,vv,vc,hM,mR,kS,bM,u2,h0,b0,h1,b1,h2,b2,h3,b3]
 have hclz:(H.set id (.cells [.slice m3 1 (bys l3),.int .i64 e3])).Closed:=am hid hcl m3 hm3 l3 e3
 refine ⟨hle,?_,by repeat first|exact .refl _|refine .push ?_ _,hclz,(fun x=>aS x) _⟩
 simp [wk,wk2,wkL,wk1,wkM,ax,inL,boL]
def u0:List AV→AHeap→(AEnd→AHeap→Prop)→Prop
 |[.ptr id 0,.agg [.int .i64 most,.func (.func f) [] [],.func (.func 244) [] []]],H,K=>onR H id fun m l e=>True∧K (.ret (.slice .any 4 ((rlP (eg LP) most (m,l,e)).1.map (ax)))) (H.set id (.cells (aE (rlP (eg LP) most (m,l,e)).2)))
 |_,_,_=>False
theorem DX:EntOk Tryz.prog 173 (Ent.effect u0):=by
 refine EntOk.effect fun args H K h=>?_
 unfold u0 at h
 split at h
 rotate_left
 ·exact h.elim
 rename_i id most f
 obtain ⟨m,l,e,hid,hle,h⟩:=bU h
 obtain ⟨hpre,hK⟩:=h
 refine ⟨_,_,hK,?_⟩
 clear hK
 have hl0:=AHeap.get_lt hid
 have hne:=aU hl0
 have hss:=bo hid
 have hcs:=aI hid
 have hcm:=fun cs=>@av H id cs hl0
 have hgm:=fun o=>@aN H id o hl0
 have hl1:=cu m l e most
 have hm1:=ct m l e most
 have hc1:=cJ (m,l,e) most
 obtain ⟨Q,hQ⟩:∃ Q,rlP (eg LP) most (m,l,e)=Q:=⟨_,rfl⟩
 rw [hQ]
 unfold rlP at hQ
 generalize h1:aX (m,l,e) most=q1 at *
 obtain ⟨cc,m1,l1,e1⟩:=q1
 dsimp only at hl1 hm1 hc1 hQ
 obtain ⟨kc,rfl⟩:∃ kc:Nat,cc=(kc:Int):=⟨cc.toNat,by omega⟩
 rw [Int.toNat_natCast] at hQ
 obtain ⟨⟨GO,gs⟩,hG⟩:∃ G,goP (eg LP) kc (m1,l1,e1)=G:=⟨_,rfl⟩
 have hgo:=gS (f5 gX) kc (m1,l1,e1)
 rw [hG] at hQ hgo
 obtain ⟨hg1,hg2,_⟩:=hgo
 obtain ⟨gm,gl,ge⟩:=gs
 dsimp only at hQ hg1 hg2
 subst hQ
 refine ACalls.fW aB (TblOk.cons eJ (TblOk.cons DV (TblOk.cons fv TblOk.nil))) Tryz.func173 [.tmp 4] (by simp only [zkz];omega) (T:=ay []) (h:=fun hcl hlt=>?_)
 clear hlt
 have b1:l1.length≤100000:=by omega
 simp only [cm,cl,bhq,Nat.reduceMod,Nat.reduceDiv,aY,aZ,a0,cb,a9,bY,ca,bV,bW,yaq,yar,yao,yap,go_sem,byq,hne,hid,hcs,hcm,hgm,onR,ae,au,zlv,zlt,zle,and_true,true_and,hid,eQ,h1,b1,aE]
 refine ⟨hle,?_⟩
 have hltC:ltL (H.nx+1) [.int .i64 most,.func (.func f) [] [],.func (.func 244) [] []]:=by simp [zno,znp,zmz,cy]
 have hclL:∀ (s:RS) (k:Nat),cw m s.1→((((H.set id (.cells [.slice s.1 1 (bys s.2.1),.int .i64 s.2.2])).push (.cells [.int .i64 most,.func (.func f) [] [],.func (.func 244) [] []])).push (.buf 4 0)).push (.buf 4 k)).Closed:=fun s k hs=>aP (aP (ag (am hid hcl s.1 hs s.2.1 s.2.2) (by simpa only [zkz] using hltC)))
 refine aA (A:=List SGrant × RS) (fun x=>[(0,.ptr id 0),(3,.ptr H.nx 0),(5,.slice (.own (H.nx+1+1)) 4 (x.1.map (ax))),(10,.int .i64 (kc:Int)),(11,.int .i64 (x.1.length:Int))]) (fun x=>(((H.set id (.cells [.slice x.2.1 1 (bys x.2.2.1),.int .i64 x.2.2.2])).push (.cells [.int .i64 most,.func (.func f) [] [],.func (.func 244) [] []])).push (.buf 4 0)).push (.buf 4 x.1.length)) (fun x=>x.1.length≤kc∧((goP (eg LP) (kc - x.1.length) x.2).1.map (x.1++·),(goP (eg LP) (kc - x.1.length) x.2).2)=(GO,gm,gl,ge)∧x.2.2.1.length≤l1.length∧cw m x.2.1) (fun x=>kc - x.1.length) ([],(m1,l1,e1)) ⟨Nat.zero_le _,by rw [← hG];simp,Nat.le_refl _,hm1⟩ ?_ fun x hx=>?_
 ·refine ⟨by simp only [zkk,zkp,zky,zkz];omega,by repeat first|exact .refl _|refine .push ?_ _,hclL (m1,l1,e1) 0 hm1,?_,?_⟩
  ·simp [ltF,zmz,znh,aH,znp,zky,zkz]
   try omega
  ·simp [bf,wk2,wk1,wkM,Fr.get]
 obtain ⟨us,m2,l2,e2⟩:=x
 obtain ⟨hx1,hx2,hx3,hx4⟩:=hx
 dsimp only at hx1 hx2 hx3 hx4 ⊢
 have b2:l2.length≤100000:=by omega
 have ne1:(H.nx+1=id)=False:=eq_false (by omega)
 simp only [go_sem]
 refine ai (fun hc=>?_) (fun hc=>?_)
 ·have hk':us.length<kc:=by simp at hc;omega
  have e5:IntKind.i64.wrap ((us.length:Int)+1)=((us.length+1:Nat):Int):=by rw [wrap_i64]<;>omega
  have hu:goP (eg LP) (kc - us.length) (m2,l2,e2)=if ((eg LP) (m2,l2,e2)).2.2.2≠0 then (none,((eg LP) (m2,l2,e2)).2) else ((goP (eg LP) (kc - (us.length+1)) ((eg LP) (m2,l2,e2)).2).1.map (((eg LP) (m2,l2,e2)).1::·),(goP (eg LP) (kc - (us.length+1)) ((eg LP) (m2,l2,e2)).2).2):=by
   rw [show kc - us.length=(kc - (us.length+1))+1 by omega];rfl
  rw [hu] at hx2
  have hl3:=(f5 gX).l (m2,l2,e2)
  have hm3:=(f5 gX).m (m2,l2,e2)
  generalize hq3:(eg LP) (m2,l2,e2)=q3 at *
  obtain ⟨n3,m3,l3,e3⟩:=q3
  dsimp only at hl3 hm3 hx2
  have b3:l3.length≤100000:=by omega
  have hmm:cw m m3:=aC hx4 hm3
  cases hz:(e3 != 0)
  ·have hz':e3=0:=by simpa using hz
   rw [if_neg (by rw [hz'];decide)] at hx2
   simp only [go_sem,byq,hne,hid,hcs,hcm,hgm,onR,ae,au,zlv,zlt,zle,and_true,true_and,hid,qg,di,cW,hq3,hz,b2,b3,aE,ax,e5,ybb]
   have hlen:(us++[n3]).length=us.length+1:=by simp
   refine ⟨⟨by omega,by omega,fun z hz=>by rw [List.mem_singleton] at hz;subst hz;rfl⟩,(us++[n3],(m3,l3,e3)),⟨by dsimp only;omega,?_,by dsimp only;omega,hmm⟩,by dsimp only;omega,?_⟩
   ·dsimp only
    rw [hlen,← hx2]
    generalize goP (eg LP) (kc - (us.length+1)) (m3,l3,e3)=q5
    obtain ⟨o,t⟩:=q5
    cases o
    ·rfl
    ·simp [List.append_assoc]
   ·refine ⟨by simp only [zky,zkz];omega,?_,hclL (m3,l3,e3) _ hmm,?_,?_⟩
    ·simp only [List.map_append,yae,yaf,ax,List.length_append,yaz,yba]
     repeat first|exact .refl _|refine .push ?_ _
    ·simp [ltF,zmz,znh,aH,zky,zkz]
     refine ⟨by omega,by omega,ltL_iff.2 fun j hj=>?_⟩
     have hmem:=List.getElem_mem hj
     rw [List.mem_append,List.mem_map,List.mem_singleton] at hmem
     rcases hmem with ⟨x,_,e⟩|e
     ·rw [← e];exact (fun x=>aS x) x
     ·rw [e];exact (fun x=>aS x) _
    ·simp [bf,wk2,wk1,wkM,Fr.get,ax]
  ·have hz':e3≠0:=by simpa using hz
   rw [if_pos hz'] at hx2
   simp only [Option.map,Prod.mk.injEq] at hx2
   obtain ⟨rfl,rfl,rfl,rfl⟩:=hx2
   simp only [go_sem,byq,hne,hid,hcs,hcm,hgm,onR,ae,au,zlv,zlt,zle,and_true,true_and,hid,qg,di,cW,hq3,hz,b2,b3,aE,ax,Option.getD_none,yaf]
   exact ⟨by simp [wk,wk2,wk1,wkM],by repeat first|exact .refl _|refine .push ?_ _,am hid hcl _ hmm _ _,by simp [aH,znp]⟩
 ·have hk':us.length=kc:=by simp at hc;omega
  subst hk'
  rw [Nat.sub_self] at hx2
  simp only [goP,Option.map,yaj,Prod.mk.injEq] at hx2
  obtain ⟨rfl,rfl,rfl,rfl⟩:=hx2
  simp only [go_sem,byq,Option.getD_some]
  exact ⟨by simp [wk,wk2,wk1,wkM],by repeat first|exact .refl _|refine .push ?_ _,am hid hcl _ hx4 _ _,aa (fun x=>aS x)⟩
def qE:List AV→AHeap→(AEnd→AHeap→Prop)→Prop
 |[.ptr id 0],H,K=>onR H id fun m l e=>True∧K (.ret (aq ((dH LP) (m,l,e)).1)) (H.set id (.cells (aE ((dH LP) (m,l,e)).2)))
 |_,_,_=>False
theorem Cv:EntOk Tryz.prog 163 (Ent.effect qE):=by
 refine EntOk.effect fun args H K h=>?_
 unfold qE at h
 split at h
 rotate_left
 ·exact h.elim
 rename_i id
 obtain ⟨m,l,e,hid,hle,h⟩:=bU h
 obtain ⟨hpre,hK⟩:=h
 refine ⟨_,_,hK,?_⟩
 clear hK
 have hl0:=AHeap.get_lt hid
 have hne:=aU hl0
 have hss:=bo hid
 have hcs:=aI hid
 have hcm:=fun cs=>@av H id cs hl0
 have hgm:=fun o=>@aN H id o hl0
 obtain ⟨Q,hQ⟩:∃ Q,(dH LP) (m,l,e)=Q:=⟨_,rfl⟩
 rw [hQ]
 unfold dH at hQ
 try dsimp only [rap,cZ,rU,rT,rV,rB,nX] at hQ
 have hl0:=bm m l e 2
 have hm0:=bn m l e 2
 generalize h0:bB (m,l,e) 2=q0 at *
 obtain ⟨v0,m0,l0,e0⟩:=q0
 dsimp only [rU,rV,rB] at hQ hl0 hm0
 have hl1:=fD m0 l0 e0 24
 have hm1:=fB m0 l0 e0 24
 generalize h1:dM (m0,l0,e0) 24=q1 at *
 obtain ⟨v1,m1,l1,e1⟩:=q1
 dsimp only [rU,rV,rB] at hQ hl1 hm1
 replace hm1:=aC hm0 hm1
 have hl2:=(eH rdKey_go 4).l (m1,l1,e1)
 have hm2:=(eH rdKey_go 4).m (m1,l1,e1)
 generalize h2:rlP eV 4 (m1,l1,e1)=q2 at *
 obtain ⟨v2,m2,l2,e2⟩:=q2
 dsimp only [rU,rV,rB] at hQ hl2 hm2
 replace hm2:=aC hm1 hm2
 have hl3:=(eH (fe 2) 12).l (m2,l2,e2)
 have hm3:=(eH (fe 2) 12).m (m2,l2,e2)
 generalize h3:rlP (rU 2) 12 (m2,l2,e2)=q3 at *
 obtain ⟨v3,m3,l3,e3⟩:=q3
 dsimp only [rU,rV,rB] at hQ hl3 hm3
 replace hm3:=aC hm2 hm3
 have hl4:=bm m3 l3 e3 2
 have hm4:=bn m3 l3 e3 2
 generalize h4:bB (m3,l3,e3) 2=q4 at *
 obtain ⟨v4,m4,l4,e4⟩:=q4
 dsimp only [rU,rV,rB] at hQ hl4 hm4
 replace hm4:=aC hm3 hm4
 have hl5:=(eH rV_go 4).l (m4,l4,e4)
 have hm5:=(eH rV_go 4).m (m4,l4,e4)
 generalize h5:rlP rV 4 (m4,l4,e4)=q5 at *
 obtain ⟨v5,m5,l5,e5⟩:=q5
 dsimp only [rU,rV,rB] at hQ hl5 hm5
 replace hm5:=aC hm4 hm5
 have hl6:=bm m5 l5 e5 2
 have hm6:=bn m5 l5 e5 2
 generalize h6:bB (m5,l5,e5) 2=q6 at *
 obtain ⟨v6,m6,l6,e6⟩:=q6
 dsimp only [rU,rV,rB] at hQ hl6 hm6
 replace hm6:=aC hm5 hm6
 have hl7:=fD m6 l6 e6 400
 have hm7:=fB m6 l6 e6 400
 generalize h7:dM (m6,l6,e6) 400=q7 at *
 obtain ⟨v7,m7,l7,e7⟩:=q7
 dsimp only [rU,rV,rB] at hQ hl7 hm7
 replace hm7:=aC hm6 hm7
 subst hQ
 dsimp only [aE]
 refine ACalls.fW aB (TblOk.cons gy (TblOk.cons kq (TblOk.cons vP (TblOk.cons Cb (TblOk.cons ln (TblOk.cons rQ (TblOk.cons wI (TblOk.cons DN TblOk.nil)))))))) Tryz.func163 [.cell 2 54] (by simp only [zkz];omega) (T:=ay []) (h:=fun hcl hlt=>?_)
 clear hlt
 have b0:l0.length≤100000:=by omega
 have b1:l1.length≤100000:=by omega
 have b2:l2.length≤100000:=by omega
 have b3:l3.length≤100000:=by omega
 have b4:l4.length≤100000:=by omega
 have b5:l5.length≤100000:=by omega
 have b6:l6.length≤100000:=by omega
 have b7:l7.length≤100000:=by omega
 simp only [go_sem,byq,hne,hid,hcs,hcm,hgm,onR,ae,au,zlv,zlt,zle,and_true,true_and,hid,onR,ae,aE,vv,vc,hM,kf,iX,bM,uV,dY,oA,iV,uq,h0,b0,h1,b1,h2,b2,h3,b3,h4,b4,h5,b5,h6,b6,h7,b7]
 have hclz:(H.set id (.cells [.slice m7 1 (bys l7),.int .i64 e7])).Closed:=am hid hcl m7 hm7 l7 e7
 refine ⟨hle,?_,by repeat first|exact .refl _|refine .push ?_ _,hclz,(fun x=>bh x) _⟩
 simp [wk,wk2,wkL,wk1,wkM,aq,inL,boL]
def qs:List AV→AHeap→(AEnd→AHeap→Prop)→Prop
 |[.ptr id 0,.agg [.int .i64 most,.func (.func f) [] [],.func (.func 163) [] []]],H,K=>onR H id fun m l e=>True∧K (.ret (.slice .any 8 ((rlP (dH LP) most (m,l,e)).1.map (aq)))) (H.set id (.cells (aE (rlP (dH LP) most (m,l,e)).2)))
 |_,_,_=>False
theorem u3:EntOk Tryz.prog 53 (Ent.effect qs):=by
 refine EntOk.effect fun args H K h=>?_
 unfold qs at h
 split at h
 rotate_left
 ·exact h.elim
 rename_i id most f
 obtain ⟨m,l,e,hid,hle,h⟩:=bU h
 obtain ⟨hpre,hK⟩:=h
 refine ⟨_,_,hK,?_⟩
 clear hK
 have hl0:=AHeap.get_lt hid
 have hne:=aU hl0
 have hss:=bo hid
 have hcs:=aI hid
 have hcm:=fun cs=>@av H id cs hl0
 have hgm:=fun o=>@aN H id o hl0
 have hl1:=cu m l e most
 have hm1:=ct m l e most
 have hc1:=cJ (m,l,e) most
 obtain ⟨Q,hQ⟩:∃ Q,rlP (dH LP) most (m,l,e)=Q:=⟨_,rfl⟩
 rw [hQ]
 unfold rlP at hQ
 generalize h1:aX (m,l,e) most=q1 at *
 obtain ⟨cc,m1,l1,e1⟩:=q1
 dsimp only at hl1 hm1 hc1 hQ
 obtain ⟨kc,rfl⟩:∃ kc:Nat,cc=(kc:Int):=⟨cc.toNat,by omega⟩
 rw [Int.toNat_natCast] at hQ
 obtain ⟨⟨GO,gs⟩,hG⟩:∃ G,goP (dH LP) kc (m1,l1,e1)=G:=⟨_,rfl⟩
 have hgo:=gS (eU gX) kc (m1,l1,e1)
 rw [hG] at hQ hgo
 obtain ⟨hg1,hg2,_⟩:=hgo
 obtain ⟨gm,gl,ge⟩:=gs
 dsimp only at hQ hg1 hg2
 subst hQ
 refine ACalls.fW aB (TblOk.cons eJ (TblOk.cons Cv (TblOk.cons fv TblOk.nil))) Tryz.func53 [.tmp 4] (by simp only [zkz];omega) (T:=ay []) (h:=fun hcl hlt=>?_)
 clear hlt
 have b1:l1.length≤100000:=by omega
 simp only [cm,cl,bhq,Nat.reduceMod,Nat.reduceDiv,aY,aZ,a0,cb,a9,bY,ca,bV,bW,yaq,yar,yao,yap,go_sem,byq,hne,hid,hcs,hcm,hgm,onR,ae,au,zlv,zlt,zle,and_true,true_and,hid,eQ,h1,b1,aE]
 refine ⟨hle,?_⟩
 have hltC:ltL (H.nx+1) [.int .i64 most,.func (.func f) [] [],.func (.func 163) [] []]:=by simp [zno,znp,zmz,cy]
 have hclL:∀ (s:RS) (k:Nat),cw m s.1→((((H.set id (.cells [.slice s.1 1 (bys s.2.1),.int .i64 s.2.2])).push (.cells [.int .i64 most,.func (.func f) [] [],.func (.func 163) [] []])).push (.buf 8 0)).push (.buf 8 k)).Closed:=fun s k hs=>aP (aP (ag (am hid hcl s.1 hs s.2.1 s.2.2) (by simpa only [zkz] using hltC)))
 refine aA (A:=List STable × RS) (fun x=>[(0,.ptr id 0),(3,.ptr H.nx 0),(5,.slice (.own (H.nx+1+1)) 8 (x.1.map (aq))),(10,.int .i64 (kc:Int)),(11,.int .i64 (x.1.length:Int))]) (fun x=>(((H.set id (.cells [.slice x.2.1 1 (bys x.2.2.1),.int .i64 x.2.2.2])).push (.cells [.int .i64 most,.func (.func f) [] [],.func (.func 163) [] []])).push (.buf 8 0)).push (.buf 8 x.1.length)) (fun x=>x.1.length≤kc∧((goP (dH LP) (kc - x.1.length) x.2).1.map (x.1++·),(goP (dH LP) (kc - x.1.length) x.2).2)=(GO,gm,gl,ge)∧x.2.2.1.length≤l1.length∧cw m x.2.1) (fun x=>kc - x.1.length) ([],(m1,l1,e1)) ⟨Nat.zero_le _,by rw [← hG];simp,Nat.le_refl _,hm1⟩ ?_ fun x hx=>?_
 ·refine ⟨by simp only [zkk,zkp,zky,zkz];omega,by repeat first|exact .refl _|refine .push ?_ _,hclL (m1,l1,e1) 0 hm1,?_,?_⟩
  ·simp [ltF,zmz,znh,aH,znp,zky,zkz]
   try omega
  ·simp [bf,wk2,wk1,wkM,Fr.get]
 obtain ⟨us,m2,l2,e2⟩:=x
 obtain ⟨hx1,hx2,hx3,hx4⟩:=hx
 dsimp only at hx1 hx2 hx3 hx4 ⊢
 have b2:l2.length≤100000:=by omega
 have ne1:(H.nx+1=id)=False:=eq_false (by omega)
 simp only [go_sem]
 refine ai (fun hc=>?_) (fun hc=>?_)
 ·have hk':us.length<kc:=by simp at hc;omega
  have e5:IntKind.i64.wrap ((us.length:Int)+1)=((us.length+1:Nat):Int):=by rw [wrap_i64]<;>omega
  have hu:goP (dH LP) (kc - us.length) (m2,l2,e2)=if ((dH LP) (m2,l2,e2)).2.2.2≠0 then (none,((dH LP) (m2,l2,e2)).2) else ((goP (dH LP) (kc - (us.length+1)) ((dH LP) (m2,l2,e2)).2).1.map (((dH LP) (m2,l2,e2)).1::·),(goP (dH LP) (kc - (us.length+1)) ((dH LP) (m2,l2,e2)).2).2):=by
   rw [show kc - us.length=(kc - (us.length+1))+1 by omega];rfl
  rw [hu] at hx2
  have hl3:=(eU gX).l (m2,l2,e2)
  have hm3:=(eU gX).m (m2,l2,e2)
  generalize hq3:(dH LP) (m2,l2,e2)=q3 at *
  obtain ⟨n3,m3,l3,e3⟩:=q3
  dsimp only at hl3 hm3 hx2
  have b3:l3.length≤100000:=by omega
  have hmm:cw m m3:=aC hx4 hm3
  cases hz:(e3 != 0)
  ·have hz':e3=0:=by simpa using hz
   rw [if_neg (by rw [hz'];decide)] at hx2
   simp only [go_sem,byq,hne,hid,hcs,hcm,hgm,onR,ae,au,zlv,zlt,zle,and_true,true_and,hid,qE,di,cW,hq3,hz,b2,b3,aE,aq,e5,ybb]
   have hlen:(us++[n3]).length=us.length+1:=by simp
   refine ⟨⟨by omega,by omega,fun z hz=>by rw [List.mem_singleton] at hz;subst hz;rfl⟩,(us++[n3],(m3,l3,e3)),⟨by dsimp only;omega,?_,by dsimp only;omega,hmm⟩,by dsimp only;omega,?_⟩
   ·dsimp only
    rw [hlen,← hx2]
    generalize goP (dH LP) (kc - (us.length+1)) (m3,l3,e3)=q5
    obtain ⟨o,t⟩:=q5
    cases o
    ·rfl
    ·simp [List.append_assoc]
   ·refine ⟨by simp only [zky,zkz];omega,?_,hclL (m3,l3,e3) _ hmm,?_,?_⟩
    ·simp only [List.map_append,yae,yaf,aq,List.length_append,yaz,yba]
     repeat first|exact .refl _|refine .push ?_ _
    ·simp [ltF,zmz,znh,aH,zky,zkz]
     refine ⟨by omega,by omega,ltL_iff.2 fun j hj=>?_⟩
     have hmem:=List.getElem_mem hj
     rw [List.mem_append,List.mem_map,List.mem_singleton] at hmem
     rcases hmem with ⟨x,_,e⟩|e
     ·rw [← e];exact (fun x=>bh x) x
     ·rw [e];exact (fun x=>bh x) _
    ·simp [bf,wk2,wk1,wkM,Fr.get,aq]
  ·have hz':e3≠0:=by simpa using hz
   rw [if_pos hz'] at hx2
   simp only [Option.map,Prod.mk.injEq] at hx2
   obtain ⟨rfl,rfl,rfl,rfl⟩:=hx2
   simp only [go_sem,byq,hne,hid,hcs,hcm,hgm,onR,ae,au,zlv,zlt,zle,and_true,true_and,hid,qE,di,cW,hq3,hz,b2,b3,aE,aq,Option.getD_none,yaf]
   exact ⟨by simp [wk,wk2,wk1,wkM],by repeat first|exact .refl _|refine .push ?_ _,am hid hcl _ hmm _ _,by simp [aH,znp]⟩
 ·have hk':us.length=kc:=by simp at hc;omega
  subst hk'
  rw [Nat.sub_self] at hx2
  simp only [goP,Option.map,yaj,Prod.mk.injEq] at hx2
  obtain ⟨rfl,rfl,rfl,rfl⟩:=hx2
  simp only [go_sem,byq,Option.getD_some]
  exact ⟨by simp [wk,wk2,wk1,wkM],by repeat first|exact .refl _|refine .push ?_ _,am hid hcl _ hx4 _ _,aa (fun x=>bh x)⟩
def qo:List AV→AHeap→(AEnd→AHeap→Prop)→Prop
 |[.ptr id 0],H,K=>onR H id fun m l e=>True∧K (.ret (aJ ((dK LP) (m,l,e)).1)) (H.set id (.cells (aE ((dK LP) (m,l,e)).2)))
 |_,_,_=>False
theorem Co:EntOk Tryz.prog 172 (Ent.effect qo):=by
 refine EntOk.effect fun args H K h=>?_
 unfold qo at h
 split at h
 rotate_left
 ·exact h.elim
 rename_i id
 obtain ⟨m,l,e,hid,hle,h⟩:=bU h
 obtain ⟨hpre,hK⟩:=h
 refine ⟨_,_,hK,?_⟩
 clear hK
 have hl0:=AHeap.get_lt hid
 have hne:=aU hl0
 have hss:=bo hid
 have hcs:=aI hid
 have hcm:=fun cs=>@av H id cs hl0
 have hgm:=fun o=>@aN H id o hl0
 obtain ⟨Q,hQ⟩:∃ Q,(dK LP) (m,l,e)=Q:=⟨_,rfl⟩
 rw [hQ]
 unfold dK at hQ
 try dsimp only [rap,cZ,rU,rT,rV,rB,nX] at hQ
 have hl0:=bm m l e 2
 have hm0:=bn m l e 2
 generalize h0:bB (m,l,e) 2=q0 at *
 obtain ⟨v0,m0,l0,e0⟩:=q0
 dsimp only [rU,rV,rB] at hQ hl0 hm0
 have hl1:=fD m0 l0 e0 24
 have hm1:=fB m0 l0 e0 24
 generalize h1:dM (m0,l0,e0) 24=q1 at *
 obtain ⟨v1,m1,l1,e1⟩:=q1
 dsimp only [rU,rV,rB] at hQ hl1 hm1
 replace hm1:=aC hm0 hm1
 have hl2:=(eH (f5 gX) 8).l (m1,l1,e1)
 have hm2:=(eH (f5 gX) 8).m (m1,l1,e1)
 generalize h2:rlP (eg LP) 8 (m1,l1,e1)=q2 at *
 obtain ⟨v2,m2,l2,e2⟩:=q2
 dsimp only [rU,rV,rB] at hQ hl2 hm2
 replace hm2:=aC hm1 hm2
 have hl3:=(eH (fe 2) 12).l (m2,l2,e2)
 have hm3:=(eH (fe 2) 12).m (m2,l2,e2)
 generalize h3:rlP (rU 2) 12 (m2,l2,e2)=q3 at *
 obtain ⟨v3,m3,l3,e3⟩:=q3
 dsimp only [rU,rV,rB] at hQ hl3 hm3
 replace hm3:=aC hm2 hm3
 have hl4:=bm m3 l3 e3 2
 have hm4:=bn m3 l3 e3 2
 generalize h4:bB (m3,l3,e3) 2=q4 at *
 obtain ⟨v4,m4,l4,e4⟩:=q4
 dsimp only [rU,rV,rB] at hQ hl4 hm4
 replace hm4:=aC hm3 hm4
 have hl5:=kU m4 l4 e4
 have hm5:=kL m4 l4 e4
 generalize h5:fu (m4,l4,e4)=q5 at *
 obtain ⟨v5,m5,l5,e5⟩:=q5
 dsimp only [rU,rV,rB] at hQ hl5 hm5
 replace hm5:=aC hm4 hm5
 subst hQ
 dsimp only [aE]
 refine ACalls.fW aB (TblOk.cons gy (TblOk.cons kq (TblOk.cons wo (TblOk.cons DX (TblOk.cons ln (TblOk.cons rQ (TblOk.cons ra TblOk.nil))))))) Tryz.func172 [.cell 2 87] (by simp only [zkz];omega) (T:=ay []) (h:=fun hcl hlt=>?_)
 clear hlt
 have b0:l0.length≤100000:=by omega
 have b1:l1.length≤100000:=by omega
 have b2:l2.length≤100000:=by omega
 have b3:l3.length≤100000:=by omega
 have b4:l4.length≤100000:=by omega
 have b5:l5.length≤100000:=by omega
 simp only [go_sem,byq,hne,hid,hcs,hcm,hgm,onR,ae,au,zlv,zlt,zle,and_true,true_and,hid,onR,ae,aE,vv,vc,hM,kf,jS,bM,u0,dY,oA,mR,h0,b0,h1,b1,h2,b2,h3,b3,h4,b4,h5,b5]
 have hclz:(H.set id (.cells [.slice m5 1 (bys l5),.int .i64 e5])).Closed:=am hid hcl m5 hm5 l5 e5
 refine ⟨hle,?_,by repeat first|exact .refl _|refine .push ?_ _,hclz,(fun x=>aV x) _⟩
 simp [wk,wk2,wkL,wk1,wkM,aJ,inL,boL]
def qD:List AV→AHeap→(AEnd→AHeap→Prop)→Prop
 |[.ptr id 0,.agg [.int .i64 most,.func (.func f) [] [],.func (.func 172) [] []]],H,K=>onR H id fun m l e=>True∧K (.ret (.slice .any 6 ((rlP (dK LP) most (m,l,e)).1.map (aJ)))) (H.set id (.cells (aE (rlP (dK LP) most (m,l,e)).2)))
 |_,_,_=>False
theorem vt:EntOk Tryz.prog 57 (Ent.effect qD):=by
 refine EntOk.effect fun args H K h=>?_
 unfold qD at h
 split at h
 rotate_left
 ·exact h.elim
 rename_i id most f
 obtain ⟨m,l,e,hid,hle,h⟩:=bU h
 obtain ⟨hpre,hK⟩:=h
 refine ⟨_,_,hK,?_⟩
 clear hK
 have hl0:=AHeap.get_lt hid
 have hne:=aU hl0
 have hss:=bo hid
 have hcs:=aI hid
 have hcm:=fun cs=>@av H id cs hl0
 have hgm:=fun o=>@aN H id o hl0
 have hl1:=cu m l e most
 have hm1:=ct m l e most
 have hc1:=cJ (m,l,e) most
 obtain ⟨Q,hQ⟩:∃ Q,rlP (dK LP) most (m,l,e)=Q:=⟨_,rfl⟩
 rw [hQ]
 unfold rlP at hQ
 generalize h1:aX (m,l,e) most=q1 at *
 obtain ⟨cc,m1,l1,e1⟩:=q1
 dsimp only at hl1 hm1 hc1 hQ
 obtain ⟨kc,rfl⟩:∃ kc:Nat,cc=(kc:Int):=⟨cc.toNat,by omega⟩
 rw [Int.toNat_natCast] at hQ
 obtain ⟨⟨GO,gs⟩,hG⟩:∃ G,goP (dK LP) kc (m1,l1,e1)=G:=⟨_,rfl⟩
 have hgo:=gS (fy gX) kc (m1,l1,e1)
 rw [hG] at hQ hgo
 obtain ⟨hg1,hg2,_⟩:=hgo
 obtain ⟨gm,gl,ge⟩:=gs
 dsimp only at hQ hg1 hg2
 subst hQ
 refine ACalls.fW aB (TblOk.cons eJ (TblOk.cons Co (TblOk.cons fv TblOk.nil))) Tryz.func57 [.tmp 4] (by simp only [zkz];omega) (T:=ay []) (h:=fun hcl hlt=>?_)
 clear hlt
 have b1:l1.length≤100000:=by omega
 simp only [cm,cl,bhq,Nat.reduceMod,Nat.reduceDiv,aY,aZ,a0,cb,a9,bY,ca,bV,bW,yaq,yar,yao,yap,go_sem,byq,hne,hid,hcs,hcm,hgm,onR,ae,au,zlv,zlt,zle,and_true,true_and,hid,eQ,h1,b1,aE]
 refine ⟨hle,?_⟩
 have hltC:ltL (H.nx+1) [.int .i64 most,.func (.func f) [] [],.func (.func 172) [] []]:=by simp [zno,znp,zmz,cy]
 have hclL:∀ (s:RS) (k:Nat),cw m s.1→((((H.set id (.cells [.slice s.1 1 (bys s.2.1),.int .i64 s.2.2])).push (.cells [.int .i64 most,.func (.func f) [] [],.func (.func 172) [] []])).push (.buf 6 0)).push (.buf 6 k)).Closed:=fun s k hs=>aP (aP (ag (am hid hcl s.1 hs s.2.1 s.2.2) (by simpa only [zkz] using hltC)))
 refine aA (A:=List SRole × RS) (fun x=>[(0,.ptr id 0),(3,.ptr H.nx 0),(5,.slice (.own (H.nx+1+1)) 6 (x.1.map (aJ))),(10,.int .i64 (kc:Int)),(11,.int .i64 (x.1.length:Int))]) (fun x=>(((H.set id (.cells [.slice x.2.1 1 (bys x.2.2.1),.int .i64 x.2.2.2])).push (.cells [.int .i64 most,.func (.func f) [] [],.func (.func 172) [] []])).push (.buf 6 0)).push (.buf 6 x.1.length)) (fun x=>x.1.length≤kc∧((goP (dK LP) (kc - x.1.length) x.2).1.map (x.1++·),(goP (dK LP) (kc - x.1.length) x.2).2)=(GO,gm,gl,ge)∧x.2.2.1.length≤l1.length∧cw m x.2.1) (fun x=>kc - x.1.length) ([],(m1,l1,e1)) ⟨Nat.zero_le _,by rw [← hG];simp,Nat.le_refl _,hm1⟩ ?_ fun x hx=>?_
 ·refine ⟨by simp only [zkk,zkp,zky,zkz];omega,by repeat first|exact .refl _|refine .push ?_ _,hclL (m1,l1,e1) 0 hm1,?_,?_⟩
  ·simp [ltF,zmz,znh,aH,znp,zky,zkz]
   try omega
  ·simp [bf,wk2,wk1,wkM,Fr.get]
 obtain ⟨us,m2,l2,e2⟩:=x
 obtain ⟨hx1,hx2,hx3,hx4⟩:=hx
 dsimp only at hx1 hx2 hx3 hx4 ⊢
 have b2:l2.length≤100000:=by omega
 have ne1:(H.nx+1=id)=False:=eq_false (by omega)
 simp only [go_sem]
 refine ai (fun hc=>?_) (fun hc=>?_)
 ·have hk':us.length<kc:=by simp at hc;omega
  have e5:IntKind.i64.wrap ((us.length:Int)+1)=((us.length+1:Nat):Int):=by rw [wrap_i64]<;>omega
  have hu:goP (dK LP) (kc - us.length) (m2,l2,e2)=if ((dK LP) (m2,l2,e2)).2.2.2≠0 then (none,((dK LP) (m2,l2,e2)).2) else ((goP (dK LP) (kc - (us.length+1)) ((dK LP) (m2,l2,e2)).2).1.map (((dK LP) (m2,l2,e2)).1::·),(goP (dK LP) (kc - (us.length+1)) ((dK LP) (m2,l2,e2)).2).2):=by
   rw [show kc - us.length=(kc - (us.length+1))+1 by omega];rfl
  rw [hu] at hx2
  have hl3:=(fy gX).l (m2,l2,e2)
  have hm3:=(fy gX).m (m2,l2,e2)
  generalize hq3:(dK LP) (m2,l2,e2)=q3 at *
  obtain ⟨n3,m3,l3,e3⟩:=q3
  dsimp only at hl3 hm3 hx2
  have b3:l3.length≤100000:=by omega
  have hmm:cw m m3:=aC hx4 hm3
  cases hz:(e3 != 0)
  ·have hz':e3=0:=by simpa using hz
   rw [if_neg (by rw [hz'];decide)] at hx2
   simp only [go_sem,byq,hne,hid,hcs,hcm,hgm,onR,ae,au,zlv,zlt,zle,and_true,true_and,hid,qo,di,cW,hq3,hz,b2,b3,aE,aJ,e5,ybb]
   have hlen:(us++[n3]).length=us.length+1:=by simp
   refine ⟨⟨by omega,by omega,fun z hz=>by rw [List.mem_singleton] at hz;subst hz;rfl⟩,(us++[n3],(m3,l3,e3)),⟨by dsimp only;omega,?_,by dsimp only;omega,hmm⟩,by dsimp only;omega,?_⟩
   ·dsimp only
    rw [hlen,← hx2]
    generalize goP (dK LP) (kc - (us.length+1)) (m3,l3,e3)=q5
    obtain ⟨o,t⟩:=q5
    cases o
    ·rfl
    ·simp [List.append_assoc]
   ·refine ⟨by simp only [zky,zkz];omega,?_,hclL (m3,l3,e3) _ hmm,?_,?_⟩
    ·simp only [List.map_append,yae,yaf,aJ,List.length_append,yaz,yba]
     repeat first|exact .refl _|refine .push ?_ _
    ·simp [ltF,zmz,znh,aH,zky,zkz]
     refine ⟨by omega,by omega,ltL_iff.2 fun j hj=>?_⟩
     have hmem:=List.getElem_mem hj
     rw [List.mem_append,List.mem_map,List.mem_singleton] at hmem
     rcases hmem with ⟨x,_,e⟩|e
     ·rw [← e];exact (fun x=>aV x) x
     ·rw [e];exact (fun x=>aV x) _
    ·simp [bf,wk2,wk1,wkM,Fr.get,aJ]
  ·have hz':e3≠0:=by simpa using hz
   rw [if_pos hz'] at hx2
   simp only [Option.map,Prod.mk.injEq] at hx2
   obtain ⟨rfl,rfl,rfl,rfl⟩:=hx2
   simp only [go_sem,byq,hne,hid,hcs,hcm,hgm,onR,ae,au,zlv,zlt,zle,and_true,true_and,hid,qo,di,cW,hq3,hz,b2,b3,aE,aJ,Option.getD_none,yaf]
   exact ⟨by simp [wk,wk2,wk1,wkM],by repeat first|exact .refl _|refine .push ?_ _,am hid hcl _ hmm _ _,by simp [aH,znp]⟩
 ·have hk':us.length=kc:=by simp at hc;omega
  subst hk'
  rw [Nat.sub_self] at hx2
  simp only [goP,Option.map,yaj,Prod.mk.injEq] at hx2
  obtain ⟨rfl,rfl,rfl,rfl⟩:=hx2
  simp only [go_sem,byq,Option.getD_some]
  exact ⟨by simp [wk,wk2,wk1,wkM],by repeat first|exact .refl _|refine .push ?_ _,am hid hcl _ hx4 _ _,aa (fun x=>aV x)⟩
end Go.AL
