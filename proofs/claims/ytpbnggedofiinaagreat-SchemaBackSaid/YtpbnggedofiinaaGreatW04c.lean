/- Lemmas of the proof; no condition. -/
import Derived.Test.YtpbnggedofiinaaGreatW03x
import Derived.Test.YtpbnggedofiinaaGreatLRdS
set_option linter.all false
set_option maxRecDepth 10000
set_option maxHeartbeats 32000000
open List renaming length_cons → yaz, length_nil → yba, take_succ_cons → yaq, take_zero → yar, drop_succ_cons → yao, drop_zero → yap, length_map → ybb, map_cons → yae, map_nil → yaf, append_nil → yaj, cons_append → yal, nil_append → yak
open Go Go.AL Go.Proofs
namespace Go.AL
theorem nF {α:Type} {rd:RM α} {m:Int}:LP.l rd m=rlP rd m:=rfl
theorem yc {α:Type} {rd:RM α} {m:Int}:LX.l rd m=rlX rd m:=rfl
theorem eI (s:RS) (n:Int):0≤(bq s n).1∧(bq s n).1≤65535:=by
 unfold bq
 split
 ·exact ⟨Int.le_refl _,(show (0:Int)≤65535 by decide)⟩
 ·split
  ·exact ⟨Int.le_refl _,(show (0:Int)≤65535 by decide)⟩
  ·split
   ·exact ⟨Int.le_refl _,(show (0:Int)≤65535 by decide)⟩
   ·rename_i h1 h2
    have h:=kB (s.2.1.take 2)
    rw [List.length_take,show min 2 s.2.1.length=2 by omega] at h
    exact ⟨Int.natCast_nonneg _,by dsimp only;omega⟩
def qp:List AV→AHeap→(AEnd→AHeap→Prop)→Prop
 |[.ptr id 0],H,K=>onR H id fun m l e=>True∧K (.ret (.int .i64 ((rU 2) (m,l,e)).1)) (H.set id (.cells (az ((rU 2) (m,l,e)).2)))
 |_,_,_=>False
theorem CF:EntOk Tryz.prog 221 (Ent.effect qp):=by
 refine EntOk.effect fun args H K h=>?_
 unfold qp at h
 split at h
 rotate_left
 ·exact h.elim
 rename_i id
 obtain ⟨m,l,e,hid,hle,h⟩:=bB h
 obtain ⟨hpre,hK⟩:=h
 refine ⟨_,_,hK,?_⟩
 clear hK
 have hl0:=glq hid
 have hne:=aL hl0
 have hss:=bd hid
 have hcs:=ax hid
 have hcm:=fun cs=>@al H id cs hl0
 have hgm:=fun o=>@aB H id o hl0
 obtain ⟨Q,hQ⟩:∃ Q,(rU 2) (m,l,e)=Q:=⟨_,rfl⟩
 rw [hQ]
 unfold rU at hQ
 try dsimp only [rap,dD,rU,rT,rV,rB,nF] at hQ
 have hl0:=ca m l e 2
 have hm0:=co m l e 2
 generalize h0:cm (m,l,e) 2=q0 at *
 obtain ⟨v0,m0,l0,e0⟩:=q0
 dsimp only [rU,rV,rB] at hQ hl0 hm0
 subst hQ
 dsimp only [az]
 refine ACalls.fW ag (tCq fG tNq) Tryz.func221 [.tmp 2] (by simp only [zlf];omega) (T:=af []) (h:=fun hcl hlt=>?_)
 clear hlt
 have b0:l0.length≤100000:=by omega
 simp only [go_sem,byq,hne,hid,hcs,hcm,hgm,onR,ah,ar,zmb,zlz,zlk,and_true,true_and,hid,onR,ah,az,vv,vc,gv,h0,b0]
 have hclz:(H.set id (.cells [.slice m0 1 (bys l0),.int .i64 e0])).Closed:=ap hid hcl m0 hm0 l0 e0
 refine ⟨hle,?_,by repeat first|exact .refl _|refine .push ?_ _,hclz,(fun x=>of_eq_true znf) _⟩
 simp [wk,wk2,wkL,wk1,wkM,wkM]
def nT:List AV→AHeap→(AEnd→AHeap→Prop)→Prop
 |[.ptr id 0,.agg [.int .i64 most,.func (.func f) [] [],.func (.func 221) [] []]],H,K=>onR H id fun m l e=>True∧K (.ret (.slice .any 1 ((rlP (rU 2) most (m,l,e)).1.map (.int .i64)))) (H.set id (.cells (az (rlP (rU 2) most (m,l,e)).2)))
 |_,_,_=>False
theorem qM:EntOk Tryz.prog 159 (Ent.effect nT):=by
 refine EntOk.effect fun args H K h=>?_
 unfold nT at h
 split at h
 rotate_left
 ·exact h.elim
 rename_i id most f
 obtain ⟨m,l,e,hid,hle,h⟩:=bB h
 obtain ⟨hpre,hK⟩:=h
 refine ⟨_,_,hK,?_⟩
 clear hK
 have hl0:=glq hid
 have hne:=aL hl0
 have hss:=bd hid
 have hcs:=ax hid
 have hcm:=fun cs=>@al H id cs hl0
 have hgm:=fun o=>@aB H id o hl0
 have hl1:=dO m l e most
 have hm1:=dT m l e most
 have hc1:=eI (m,l,e) most
 obtain ⟨Q,hQ⟩:∃ Q,rlP (rU 2) most (m,l,e)=Q:=⟨_,rfl⟩
 rw [hQ]
 unfold rlP at hQ
 generalize h1:bq (m,l,e) most=q1 at *
 obtain ⟨cc,m1,l1,e1⟩:=q1
 dsimp only at hl1 hm1 hc1 hQ
 obtain ⟨kc,rfl⟩:∃ kc:Nat,cc=(kc:Int):=⟨cc.toNat,by omega⟩
 rw [iNq] at hQ
 obtain ⟨⟨GO,gs⟩,hG⟩:∃ G,goP (rU 2) kc (m1,l1,e1)=G:=⟨_,rfl⟩
 have hgo:=gb (ff 2) kc (m1,l1,e1)
 rw [hG] at hQ hgo
 obtain ⟨hg1,hg2,_⟩:=hgo
 obtain ⟨gm,gl,ge⟩:=gs
 dsimp only at hQ hg1 hg2
 subst hQ
 refine ACalls.fW ag (tCq dJ (tCq CF (tCq eJ tNq))) Tryz.func159 [.tmp 4] (by simp only [zlf];omega) (T:=af []) (h:=fun hcl hlt=>?_)
 clear hlt
 have b1:l1.length≤100000:=by omega
 simp only [dt,du,bhq,Nat.reduceMod,Nat.reduceDiv,bh,bg,bm,cz,bk,cy,cr,cx,cu,yaq,yar,yao,yap,go_sem,byq,hne,hid,hcs,hcm,hgm,onR,ah,ar,zmb,zlz,zlk,and_true,true_and,hid,dU,h1,b1,az]
 refine ⟨hle,?_⟩
 have hltC:ltL (H.nx+1) [.int .i64 most,.func (.func f) [] [],.func (.func 221) [] []]:=by simp [znu,znv,znf,bG]
 have hclL:∀ (s:RS) (k:Nat),cW m s.1→((((H.set id (.cells [.slice s.1 1 (bys s.2.1),.int .i64 s.2.2])).push (.cells [.int .i64 most,.func (.func f) [] [],.func (.func 221) [] []])).push (.buf 1 0)).push (.buf 1 k)).Closed:=fun s k hs=>aF (aF (aj (ap hid hcl s.1 hs s.2.1 s.2.2) (by simpa only [zlf] using hltC)))
 refine aq (A:=List Int × RS) (fun x=>[(0,.ptr id 0),(3,.ptr H.nx 0),(5,.slice (.own (H.nx+1+1)) 1 (x.1.map (.int .i64))),(10,.int .i64 (kc:Int)),(11,.int .i64 (x.1.length:Int))]) (fun x=>(((H.set id (.cells [.slice x.2.1 1 (bys x.2.2.1),.int .i64 x.2.2.2])).push (.cells [.int .i64 most,.func (.func f) [] [],.func (.func 221) [] []])).push (.buf 1 0)).push (.buf 1 x.1.length)) (fun x=>x.1.length≤kc∧((goP (rU 2) (kc - x.1.length) x.2).1.map (x.1++·),(goP (rU 2) (kc - x.1.length) x.2).2)=(GO,gm,gl,ge)∧x.2.2.1.length≤l1.length∧cW m x.2.1) (fun x=>kc - x.1.length) ([],(m1,l1,e1)) ⟨Nat.zero_le _,by rw [← hG];simp,nrq _,hm1⟩ ?_ fun x hx=>?_
 ·refine ⟨by simp only [zkq,zkv,zle,zlf];omega,by repeat first|exact .refl _|refine .push ?_ _,hclL (m1,l1,e1) 0 hm1,?_,?_⟩
  ·simp [ltF,znf,znn,aC,znv,zle,zlf]
   try omega
  ·simp [aM,wk2,wk1,wkM,Fr.get]
 obtain ⟨us,m2,l2,e2⟩:=x
 obtain ⟨hx1,hx2,hx3,hx4⟩:=hx
 dsimp only at hx1 hx2 hx3 hx4 ⊢
 have b2:l2.length≤100000:=by omega
 have ne1:(H.nx+1=id)=False:=eq_false (by omega)
 simp only [go_sem]
 refine ae (fun hc=>?_) (fun hc=>?_)
 ·have hk':us.length<kc:=by simp at hc;omega
  have e5:IntKind.i64.wrap ((us.length:Int)+1)=((us.length+1:Nat):Int):=by rw [wrap_i64]<;>omega
  have hu:goP (rU 2) (kc - us.length) (m2,l2,e2)=if ((rU 2) (m2,l2,e2)).2.2.2≠0 then (none,((rU 2) (m2,l2,e2)).2) else ((goP (rU 2) (kc - (us.length+1)) ((rU 2) (m2,l2,e2)).2).1.map (((rU 2) (m2,l2,e2)).1::·),(goP (rU 2) (kc - (us.length+1)) ((rU 2) (m2,l2,e2)).2).2):=by
   rw [show kc - us.length=(kc - (us.length+1))+1 by omega];rfl
  rw [hu] at hx2
  have hl3:=(ff 2).l (m2,l2,e2)
  have hm3:=(ff 2).m (m2,l2,e2)
  generalize hq3:(rU 2) (m2,l2,e2)=q3 at *
  obtain ⟨n3,m3,l3,e3⟩:=q3
  dsimp only at hl3 hm3 hx2
  have b3:l3.length≤100000:=by omega
  have hmm:cW m m3:=aJ hx4 hm3
  cases hz:(e3 != 0)
  ·have hz':e3=0:=by simpa using hz
   rw [if_neg (by rw [hz'];decide)] at hx2
   simp only [go_sem,byq,hne,hid,hcs,hcm,hgm,onR,ah,ar,zmb,zlz,zlk,and_true,true_and,hid,qp,cA,cg,hq3,hz,b2,b3,az,e5,ybb]
   have hlen:(us++[n3]).length=us.length+1:=by simp
   refine ⟨⟨by omega,by omega,fun z hz=>by rw [List.mem_singleton] at hz;subst hz;rfl⟩,(us++[n3],(m3,l3,e3)),⟨by dsimp only;omega,?_,by dsimp only;omega,hmm⟩,by dsimp only;omega,?_⟩
   ·dsimp only
    rw [hlen,← hx2]
    generalize goP (rU 2) (kc - (us.length+1)) (m3,l3,e3)=q5
    obtain ⟨o,t⟩:=q5
    cases o
    ·rfl
    ·simp [List.append_assoc]
   ·refine ⟨by simp only [zle,zlf];omega,?_,hclL (m3,l3,e3) _ hmm,?_,?_⟩
    ·simp only [List.map_append,yae,yaf,lAq,yaz,yba]
     repeat first|exact .refl _|refine .push ?_ _
    ·simp [ltF,znf,znn,aC,zle,zlf]
     refine ⟨by omega,by omega,ltL_iff.2 fun j hj=>?_⟩
     have hmem:=gMq hj
     rw [List.mem_append,List.mem_map,List.mem_singleton] at hmem
     rcases hmem with ⟨x,_,e⟩|e
     ·rw [← e];exact (fun x=>of_eq_true znf) x
     ·rw [e];exact (fun x=>of_eq_true znf) _
    ·simp [aM,wk2,wk1,wkM,Fr.get,wkM]
  ·have hz':e3≠0:=by simpa using hz
   rw [if_pos hz'] at hx2
   simp only [Option.map,Prod.mk.injEq] at hx2
   obtain ⟨rfl,rfl,rfl,rfl⟩:=hx2
   simp only [go_sem,byq,hne,hid,hcs,hcm,hgm,onR,ah,ar,zmb,zlz,zlk,and_true,true_and,hid,qp,cA,cg,hq3,hz,b2,b3,az,Option.getD_none,yaf]
   exact ⟨by simp [wk,wk2,wk1,wkM],by repeat first|exact .refl _|refine .push ?_ _,ap hid hcl _ hmm _ _,by simp [aC,znv]⟩
 ·have hk':us.length=kc:=by simp at hc;omega
  subst hk'
  rw [Nat.sub_self] at hx2
  simp only [goP,Option.map,yaj,Prod.mk.injEq] at hx2
  obtain ⟨rfl,rfl,rfl,rfl⟩:=hx2
  simp only [go_sem,byq,Option.getD_some]
  exact ⟨by simp [wk,wk2,wk1,wkM],by repeat first|exact .refl _|refine .push ?_ _,ap hid hcl _ hx4 _ _,aA (fun x=>of_eq_true znf)⟩
def tY:List AV→AHeap→(AEnd→AHeap→Prop)→Prop
 |[.ptr id 0,.agg [.int .i64 most,.func (.func f) [] [],.func (.func 117) [] []]],H,K=>onR H id fun m l e=>True∧K (.ret (.slice .any 2 ((rlP rV most (m,l,e)).1.map (vv)))) (H.set id (.cells (az (rlP rV most (m,l,e)).2)))
 |_,_,_=>False
theorem B0:EntOk Tryz.prog 180 (Ent.effect tY):=by
 refine EntOk.effect fun args H K h=>?_
 unfold tY at h
 split at h
 rotate_left
 ·exact h.elim
 rename_i id most f
 obtain ⟨m,l,e,hid,hle,h⟩:=bB h
 obtain ⟨hpre,hK⟩:=h
 refine ⟨_,_,hK,?_⟩
 clear hK
 have hl0:=glq hid
 have hne:=aL hl0
 have hss:=bd hid
 have hcs:=ax hid
 have hcm:=fun cs=>@al H id cs hl0
 have hgm:=fun o=>@aB H id o hl0
 have hl1:=dO m l e most
 have hm1:=dT m l e most
 have hc1:=eI (m,l,e) most
 obtain ⟨Q,hQ⟩:∃ Q,rlP rV most (m,l,e)=Q:=⟨_,rfl⟩
 rw [hQ]
 unfold rlP at hQ
 generalize h1:bq (m,l,e) most=q1 at *
 obtain ⟨cc,m1,l1,e1⟩:=q1
 dsimp only at hl1 hm1 hc1 hQ
 obtain ⟨kc,rfl⟩:∃ kc:Nat,cc=(kc:Int):=⟨cc.toNat,by omega⟩
 rw [iNq] at hQ
 obtain ⟨⟨GO,gs⟩,hG⟩:∃ G,goP rV kc (m1,l1,e1)=G:=⟨_,rfl⟩
 have hgo:=gb rV_go kc (m1,l1,e1)
 rw [hG] at hQ hgo
 obtain ⟨hg1,hg2,_⟩:=hgo
 obtain ⟨gm,gl,ge⟩:=gs
 dsimp only at hQ hg1 hg2
 subst hQ
 refine ACalls.fW ag (tCq dJ (tCq pL (tCq eJ tNq))) Tryz.func180 [.tmp 4] (by simp only [zlf];omega) (T:=af []) (h:=fun hcl hlt=>?_)
 clear hlt
 have b1:l1.length≤100000:=by omega
 simp only [dt,du,bhq,Nat.reduceMod,Nat.reduceDiv,bh,bg,bm,cz,bk,cy,cr,cx,cu,yaq,yar,yao,yap,go_sem,byq,hne,hid,hcs,hcm,hgm,onR,ah,ar,zmb,zlz,zlk,and_true,true_and,hid,dU,h1,b1,az]
 refine ⟨hle,?_⟩
 have hltC:ltL (H.nx+1) [.int .i64 most,.func (.func f) [] [],.func (.func 117) [] []]:=by simp [znu,znv,znf,bG]
 have hclL:∀ (s:RS) (k:Nat),cW m s.1→((((H.set id (.cells [.slice s.1 1 (bys s.2.1),.int .i64 s.2.2])).push (.cells [.int .i64 most,.func (.func f) [] [],.func (.func 117) [] []])).push (.buf 2 0)).push (.buf 2 k)).Closed:=fun s k hs=>aF (aF (aj (ap hid hcl s.1 hs s.2.1 s.2.2) (by simpa only [zlf] using hltC)))
 refine aq (A:=List Nat × RS) (fun x=>[(0,.ptr id 0),(3,.ptr H.nx 0),(5,.slice (.own (H.nx+1+1)) 2 (x.1.map (vv))),(10,.int .i64 (kc:Int)),(11,.int .i64 (x.1.length:Int))]) (fun x=>(((H.set id (.cells [.slice x.2.1 1 (bys x.2.2.1),.int .i64 x.2.2.2])).push (.cells [.int .i64 most,.func (.func f) [] [],.func (.func 117) [] []])).push (.buf 2 0)).push (.buf 2 x.1.length)) (fun x=>x.1.length≤kc∧((goP rV (kc - x.1.length) x.2).1.map (x.1++·),(goP rV (kc - x.1.length) x.2).2)=(GO,gm,gl,ge)∧x.2.2.1.length≤l1.length∧cW m x.2.1) (fun x=>kc - x.1.length) ([],(m1,l1,e1)) ⟨Nat.zero_le _,by rw [← hG];simp,nrq _,hm1⟩ ?_ fun x hx=>?_
 ·refine ⟨by simp only [zkq,zkv,zle,zlf];omega,by repeat first|exact .refl _|refine .push ?_ _,hclL (m1,l1,e1) 0 hm1,?_,?_⟩
  ·simp [ltF,znf,znn,aC,znv,zle,zlf]
   try omega
  ·simp [aM,wk2,wk1,wkM,Fr.get]
 obtain ⟨us,m2,l2,e2⟩:=x
 obtain ⟨hx1,hx2,hx3,hx4⟩:=hx
 dsimp only at hx1 hx2 hx3 hx4 ⊢
 have b2:l2.length≤100000:=by omega
 have ne1:(H.nx+1=id)=False:=eq_false (by omega)
 simp only [go_sem]
 refine ae (fun hc=>?_) (fun hc=>?_)
 ·have hk':us.length<kc:=by simp at hc;omega
  have e5:IntKind.i64.wrap ((us.length:Int)+1)=((us.length+1:Nat):Int):=by rw [wrap_i64]<;>omega
  have hu:goP rV (kc - us.length) (m2,l2,e2)=if (rV (m2,l2,e2)).2.2.2≠0 then (none,(rV (m2,l2,e2)).2) else ((goP rV (kc - (us.length+1)) (rV (m2,l2,e2)).2).1.map ((rV (m2,l2,e2)).1::·),(goP rV (kc - (us.length+1)) (rV (m2,l2,e2)).2).2):=by
   rw [show kc - us.length=(kc - (us.length+1))+1 by omega];rfl
  rw [hu] at hx2
  have hl3:=rV_go.l (m2,l2,e2)
  have hm3:=rV_go.m (m2,l2,e2)
  generalize hq3:rV (m2,l2,e2)=q3 at *
  obtain ⟨n3,m3,l3,e3⟩:=q3
  dsimp only at hl3 hm3 hx2
  have b3:l3.length≤100000:=by omega
  have hmm:cW m m3:=aJ hx4 hm3
  unfold rV at hq3
  cases hz:(e3 != 0)
  ·have hz':e3=0:=by simpa using hz
   rw [if_neg (by rw [hz'];decide)] at hx2
   simp only [go_sem,byq,hne,hid,hcs,hcm,hgm,onR,ah,ar,zmb,zlz,zlk,and_true,true_and,hid,lu,cA,cg,hq3,hz,b2,b3,az,vv,e5,ybb]
   have hlen:(us++[n3]).length=us.length+1:=by simp
   refine ⟨⟨by omega,by omega,fun z hz=>by rw [List.mem_singleton] at hz;subst hz;rfl⟩,(us++[n3],(m3,l3,e3)),⟨by dsimp only;omega,?_,by dsimp only;omega,hmm⟩,by dsimp only;omega,?_⟩
   ·dsimp only
    rw [hlen,← hx2]
    generalize goP rV (kc - (us.length+1)) (m3,l3,e3)=q5
    obtain ⟨o,t⟩:=q5
    cases o
    ·rfl
    ·simp [List.append_assoc]
   ·refine ⟨by simp only [zle,zlf];omega,?_,hclL (m3,l3,e3) _ hmm,?_,?_⟩
    ·simp only [List.map_append,yae,yaf,vv,lAq,yaz,yba]
     repeat first|exact .refl _|refine .push ?_ _
    ·simp [ltF,znf,znn,aC,zle,zlf]
     refine ⟨by omega,by omega,ltL_iff.2 fun j hj=>?_⟩
     have hmem:=gMq hj
     rw [List.mem_append,List.mem_map,List.mem_singleton] at hmem
     rcases hmem with ⟨x,_,e⟩|e
     ·rw [← e];exact (fun x=>wr) x
     ·rw [e];exact (fun x=>wr) _
    ·simp [aM,wk2,wk1,wkM,Fr.get,vv]
  ·have hz':e3≠0:=by simpa using hz
   rw [if_pos hz'] at hx2
   simp only [Option.map,Prod.mk.injEq] at hx2
   obtain ⟨rfl,rfl,rfl,rfl⟩:=hx2
   simp only [go_sem,byq,hne,hid,hcs,hcm,hgm,onR,ah,ar,zmb,zlz,zlk,and_true,true_and,hid,lu,cA,cg,hq3,hz,b2,b3,az,vv,Option.getD_none,yaf]
   exact ⟨by simp [wk,wk2,wk1,wkM],by repeat first|exact .refl _|refine .push ?_ _,ap hid hcl _ hmm _ _,by simp [aC,znv]⟩
 ·have hk':us.length=kc:=by simp at hc;omega
  subst hk'
  rw [Nat.sub_self] at hx2
  simp only [goP,Option.map,yaj,Prod.mk.injEq] at hx2
  obtain ⟨rfl,rfl,rfl,rfl⟩:=hx2
  simp only [go_sem,byq,Option.getD_some]
  exact ⟨by simp [wk,wk2,wk1,wkM],by repeat first|exact .refl _|refine .push ?_ _,ap hid hcl _ hx4 _ _,aA (fun x=>wr)⟩
def tT:List AV→AHeap→(AEnd→AHeap→Prop)→Prop
 |[.ptr id 0,.agg [.int .i64 most,.func (.func f) [] [],.func (.func 45) [] []]],H,K=>onR H id fun m l e=>True∧K (.ret (.slice .any 1 ((rlP rB most (m,l,e)).1.map (.bool)))) (H.set id (.cells (az (rlP rB most (m,l,e)).2)))
 |_,_,_=>False
theorem Em:EntOk Tryz.prog 235 (Ent.effect tT):=by
 refine EntOk.effect fun args H K h=>?_
 unfold tT at h
 split at h
 rotate_left
 ·exact h.elim
 rename_i id most f
 obtain ⟨m,l,e,hid,hle,h⟩:=bB h
 obtain ⟨hpre,hK⟩:=h
 refine ⟨_,_,hK,?_⟩
 clear hK
 have hl0:=glq hid
 have hne:=aL hl0
 have hss:=bd hid
 have hcs:=ax hid
 have hcm:=fun cs=>@al H id cs hl0
 have hgm:=fun o=>@aB H id o hl0
 have hl1:=dO m l e most
 have hm1:=dT m l e most
 have hc1:=eI (m,l,e) most
 obtain ⟨Q,hQ⟩:∃ Q,rlP rB most (m,l,e)=Q:=⟨_,rfl⟩
 rw [hQ]
 unfold rlP at hQ
 generalize h1:bq (m,l,e) most=q1 at *
 obtain ⟨cc,m1,l1,e1⟩:=q1
 dsimp only at hl1 hm1 hc1 hQ
 obtain ⟨kc,rfl⟩:∃ kc:Nat,cc=(kc:Int):=⟨cc.toNat,by omega⟩
 rw [iNq] at hQ
 obtain ⟨⟨GO,gs⟩,hG⟩:∃ G,goP rB kc (m1,l1,e1)=G:=⟨_,rfl⟩
 have hgo:=gb rB_go kc (m1,l1,e1)
 rw [hG] at hQ hgo
 obtain ⟨hg1,hg2,_⟩:=hgo
 obtain ⟨gm,gl,ge⟩:=gs
 dsimp only at hQ hg1 hg2
 subst hQ
 refine ACalls.fW ag (tCq dJ (tCq rc (tCq eJ tNq))) Tryz.func235 [.tmp 4] (by simp only [zlf];omega) (T:=af []) (h:=fun hcl hlt=>?_)
 clear hlt
 have b1:l1.length≤100000:=by omega
 simp only [dt,du,bhq,Nat.reduceMod,Nat.reduceDiv,bh,bg,bm,cz,bk,cy,cr,cx,cu,yaq,yar,yao,yap,go_sem,byq,hne,hid,hcs,hcm,hgm,onR,ah,ar,zmb,zlz,zlk,and_true,true_and,hid,dU,h1,b1,az]
 refine ⟨hle,?_⟩
 have hltC:ltL (H.nx+1) [.int .i64 most,.func (.func f) [] [],.func (.func 45) [] []]:=by simp [znu,znv,znf,bG]
 have hclL:∀ (s:RS) (k:Nat),cW m s.1→((((H.set id (.cells [.slice s.1 1 (bys s.2.1),.int .i64 s.2.2])).push (.cells [.int .i64 most,.func (.func f) [] [],.func (.func 45) [] []])).push (.buf 1 0)).push (.buf 1 k)).Closed:=fun s k hs=>aF (aF (aj (ap hid hcl s.1 hs s.2.1 s.2.2) (by simpa only [zlf] using hltC)))
 refine aq (A:=List Bool × RS) (fun x=>[(0,.ptr id 0),(3,.ptr H.nx 0),(5,.slice (.own (H.nx+1+1)) 1 (x.1.map (.bool))),(10,.int .i64 (kc:Int)),(11,.int .i64 (x.1.length:Int))]) (fun x=>(((H.set id (.cells [.slice x.2.1 1 (bys x.2.2.1),.int .i64 x.2.2.2])).push (.cells [.int .i64 most,.func (.func f) [] [],.func (.func 45) [] []])).push (.buf 1 0)).push (.buf 1 x.1.length)) (fun x=>x.1.length≤kc∧((goP rB (kc - x.1.length) x.2).1.map (x.1++·),(goP rB (kc - x.1.length) x.2).2)=(GO,gm,gl,ge)∧x.2.2.1.length≤l1.length∧cW m x.2.1) (fun x=>kc - x.1.length) ([],(m1,l1,e1)) ⟨Nat.zero_le _,by rw [← hG];simp,nrq _,hm1⟩ ?_ fun x hx=>?_
 ·refine ⟨by simp only [zkq,zkv,zle,zlf];omega,by repeat first|exact .refl _|refine .push ?_ _,hclL (m1,l1,e1) 0 hm1,?_,?_⟩
  ·simp [ltF,znf,znn,aC,znv,zle,zlf]
   try omega
  ·simp [aM,wk2,wk1,wkM,Fr.get]
 obtain ⟨us,m2,l2,e2⟩:=x
 obtain ⟨hx1,hx2,hx3,hx4⟩:=hx
 dsimp only at hx1 hx2 hx3 hx4 ⊢
 have b2:l2.length≤100000:=by omega
 have ne1:(H.nx+1=id)=False:=eq_false (by omega)
 simp only [go_sem]
 refine ae (fun hc=>?_) (fun hc=>?_)
 ·have hk':us.length<kc:=by simp at hc;omega
  have e5:IntKind.i64.wrap ((us.length:Int)+1)=((us.length+1:Nat):Int):=by rw [wrap_i64]<;>omega
  have hu:goP rB (kc - us.length) (m2,l2,e2)=if (rB (m2,l2,e2)).2.2.2≠0 then (none,(rB (m2,l2,e2)).2) else ((goP rB (kc - (us.length+1)) (rB (m2,l2,e2)).2).1.map ((rB (m2,l2,e2)).1::·),(goP rB (kc - (us.length+1)) (rB (m2,l2,e2)).2).2):=by
   rw [show kc - us.length=(kc - (us.length+1))+1 by omega];rfl
  rw [hu] at hx2
  have hl3:=rB_go.l (m2,l2,e2)
  have hm3:=rB_go.m (m2,l2,e2)
  generalize hq3:rB (m2,l2,e2)=q3 at *
  obtain ⟨n3,m3,l3,e3⟩:=q3
  dsimp only at hl3 hm3 hx2
  have b3:l3.length≤100000:=by omega
  have hmm:cW m m3:=aJ hx4 hm3
  unfold rB at hq3
  cases hz:(e3 != 0)
  ·have hz':e3=0:=by simpa using hz
   rw [if_neg (by rw [hz'];decide)] at hx2
   simp only [go_sem,byq,hne,hid,hcs,hcm,hgm,onR,ah,ar,zmb,zlz,zlk,and_true,true_and,hid,mX,cA,cg,hq3,hz,b2,b3,az,e5,ybb]
   have hlen:(us++[n3]).length=us.length+1:=by simp
   refine ⟨⟨by omega,by omega,fun z hz=>by rw [List.mem_singleton] at hz;subst hz;rfl⟩,(us++[n3],(m3,l3,e3)),⟨by dsimp only;omega,?_,by dsimp only;omega,hmm⟩,by dsimp only;omega,?_⟩
   ·dsimp only
    rw [hlen,← hx2]
    generalize goP rB (kc - (us.length+1)) (m3,l3,e3)=q5
    obtain ⟨o,t⟩:=q5
    cases o
    ·rfl
    ·simp [List.append_assoc]
   ·refine ⟨by simp only [zle,zlf];omega,?_,hclL (m3,l3,e3) _ hmm,?_,?_⟩
    ·simp only [List.map_append,yae,yaf,lAq,yaz,yba]
     repeat first|exact .refl _|refine .push ?_ _
    ·simp [ltF,znf,znn,aC,zle,zlf]
     refine ⟨by omega,by omega,ltL_iff.2 fun j hj=>?_⟩
     have hmem:=gMq hj
     rw [List.mem_append,List.mem_map,List.mem_singleton] at hmem
     rcases hmem with ⟨x,_,e⟩|e
     ·rw [← e];exact (fun x=>of_eq_true zng) x
     ·rw [e];exact (fun x=>of_eq_true zng) _
    ·simp [aM,wk2,wk1,wkM,Fr.get,wkM]
  ·have hz':e3≠0:=by simpa using hz
   rw [if_pos hz'] at hx2
   simp only [Option.map,Prod.mk.injEq] at hx2
   obtain ⟨rfl,rfl,rfl,rfl⟩:=hx2
   simp only [go_sem,byq,hne,hid,hcs,hcm,hgm,onR,ah,ar,zmb,zlz,zlk,and_true,true_and,hid,mX,cA,cg,hq3,hz,b2,b3,az,Option.getD_none,yaf]
   exact ⟨by simp [wk,wk2,wk1,wkM],by repeat first|exact .refl _|refine .push ?_ _,ap hid hcl _ hmm _ _,by simp [aC,znv]⟩
 ·have hk':us.length=kc:=by simp at hc;omega
  subst hk'
  rw [Nat.sub_self] at hx2
  simp only [goP,Option.map,yaj,Prod.mk.injEq] at hx2
  obtain ⟨rfl,rfl,rfl,rfl⟩:=hx2
  simp only [go_sem,byq,Option.getD_some]
  exact ⟨by simp [wk,wk2,wk1,wkM],by repeat first|exact .refl _|refine .push ?_ _,ap hid hcl _ hx4 _ _,aA (fun x=>of_eq_true zng)⟩
def qs:List AV→AHeap→(AEnd→AHeap→Prop)→Prop
 |[.ptr id 0],H,K=>onR H id fun m l e=>True∧K (.ret (br (gp (m,l,e)).1)) (H.set id (.cells (az (gp (m,l,e)).2)))
 |_,_,_=>False
theorem Cg:EntOk Tryz.prog 153 (Ent.effect qs):=by
 refine EntOk.effect fun args H K h=>?_
 unfold qs at h
 split at h
 rotate_left
 ·exact h.elim
 rename_i id
 obtain ⟨m,l,e,hid,hle,h⟩:=bB h
 obtain ⟨hpre,hK⟩:=h
 refine ⟨_,_,hK,?_⟩
 clear hK
 have hl0:=glq hid
 have hne:=aL hl0
 have hss:=bd hid
 have hcs:=ax hid
 have hcm:=fun cs=>@al H id cs hl0
 have hgm:=fun o=>@aB H id o hl0
 obtain ⟨Q,hQ⟩:∃ Q,gp (m,l,e)=Q:=⟨_,rfl⟩
 rw [hQ]
 unfold gp at hQ
 try dsimp only [rap,dD,rU,rT,rV,rB,nF] at hQ
 have hl0:=ca m l e 2
 have hm0:=co m l e 2
 generalize h0:cm (m,l,e) 2=q0 at *
 obtain ⟨v0,m0,l0,e0⟩:=q0
 dsimp only [rU,rV,rB] at hQ hl0 hm0
 have hl1:=jE m0 l0 e0 24
 have hm1:=jC m0 l0 e0 24
 generalize h1:eD (m0,l0,e0) 24=q1 at *
 obtain ⟨v1,m1,l1,e1⟩:=q1
 dsimp only [rU,rV,rB] at hQ hl1 hm1
 replace hm1:=aJ hm0 hm1
 have hl2:=ca m1 l1 e1 1
 have hm2:=co m1 l1 e1 1
 generalize h2:cm (m1,l1,e1) 1=q2 at *
 obtain ⟨v2,m2,l2,e2⟩:=q2
 dsimp only [rU,rV,rB] at hQ hl2 hm2
 replace hm2:=aJ hm1 hm2
 subst hQ
 dsimp only [az]
 refine ACalls.fW ag (tCq fG (tCq km tNq)) Tryz.func153 [.cell 2 72] (by simp only [zlf];omega) (T:=af []) (h:=fun hcl hlt=>?_)
 clear hlt
 have b0:l0.length≤100000:=by omega
 have b1:l1.length≤100000:=by omega
 have b2:l2.length≤100000:=by omega
 simp only [go_sem,byq,hne,hid,hcs,hcm,hgm,onR,ah,ar,zmb,zlz,zlk,and_true,true_and,hid,onR,ah,az,vv,vc,gv,j7,h0,b0,h1,b1,h2,b2]
 have hclz:(H.set id (.cells [.slice m2 1 (bys l2),.int .i64 e2])).Closed:=ap hid hcl m2 hm2 l2 e2
 refine ⟨hle,?_,by repeat first|exact .refl _|refine .push ?_ _,hclz,(fun x=>ks x) _⟩
 simp [wk,wk2,wkL,wk1,wkM,br]
def qq:List AV→AHeap→(AEnd→AHeap→Prop)→Prop
 |[.ptr id 0,.agg [.int .i64 most,.func (.func f) [] [],.func (.func 153) [] []]],H,K=>onR H id fun m l e=>True∧K (.ret (.slice .any 3 ((rlP gp most (m,l,e)).1.map (br)))) (H.set id (.cells (az (rlP gp most (m,l,e)).2)))
 |_,_,_=>False
theorem wv:EntOk Tryz.prog 78 (Ent.effect qq):=by
 refine EntOk.effect fun args H K h=>?_
 unfold qq at h
 split at h
 rotate_left
 ·exact h.elim
 rename_i id most f
 obtain ⟨m,l,e,hid,hle,h⟩:=bB h
 obtain ⟨hpre,hK⟩:=h
 refine ⟨_,_,hK,?_⟩
 clear hK
 have hl0:=glq hid
 have hne:=aL hl0
 have hss:=bd hid
 have hcs:=ax hid
 have hcm:=fun cs=>@al H id cs hl0
 have hgm:=fun o=>@aB H id o hl0
 have hl1:=dO m l e most
 have hm1:=dT m l e most
 have hc1:=eI (m,l,e) most
 obtain ⟨Q,hQ⟩:∃ Q,rlP gp most (m,l,e)=Q:=⟨_,rfl⟩
 rw [hQ]
 unfold rlP at hQ
 generalize h1:bq (m,l,e) most=q1 at *
 obtain ⟨cc,m1,l1,e1⟩:=q1
 dsimp only at hl1 hm1 hc1 hQ
 obtain ⟨kc,rfl⟩:∃ kc:Nat,cc=(kc:Int):=⟨cc.toNat,by omega⟩
 rw [iNq] at hQ
 obtain ⟨⟨GO,gs⟩,hG⟩:∃ G,goP gp kc (m1,l1,e1)=G:=⟨_,rfl⟩
 have hgo:=gb rdFld_go kc (m1,l1,e1)
 rw [hG] at hQ hgo
 obtain ⟨hg1,hg2,_⟩:=hgo
 obtain ⟨gm,gl,ge⟩:=gs
 dsimp only at hQ hg1 hg2
 subst hQ
 refine ACalls.fW ag (tCq dJ (tCq Cg (tCq eJ tNq))) Tryz.func78 [.tmp 4] (by simp only [zlf];omega) (T:=af []) (h:=fun hcl hlt=>?_)
 clear hlt
 have b1:l1.length≤100000:=by omega
 simp only [dt,du,bhq,Nat.reduceMod,Nat.reduceDiv,bh,bg,bm,cz,bk,cy,cr,cx,cu,yaq,yar,yao,yap,go_sem,byq,hne,hid,hcs,hcm,hgm,onR,ah,ar,zmb,zlz,zlk,and_true,true_and,hid,dU,h1,b1,az]
 refine ⟨hle,?_⟩
 have hltC:ltL (H.nx+1) [.int .i64 most,.func (.func f) [] [],.func (.func 153) [] []]:=by simp [znu,znv,znf,bG]
 have hclL:∀ (s:RS) (k:Nat),cW m s.1→((((H.set id (.cells [.slice s.1 1 (bys s.2.1),.int .i64 s.2.2])).push (.cells [.int .i64 most,.func (.func f) [] [],.func (.func 153) [] []])).push (.buf 3 0)).push (.buf 3 k)).Closed:=fun s k hs=>aF (aF (aj (ap hid hcl s.1 hs s.2.1 s.2.2) (by simpa only [zlf] using hltC)))
 refine aq (A:=List SField × RS) (fun x=>[(0,.ptr id 0),(3,.ptr H.nx 0),(5,.slice (.own (H.nx+1+1)) 3 (x.1.map (br))),(10,.int .i64 (kc:Int)),(11,.int .i64 (x.1.length:Int))]) (fun x=>(((H.set id (.cells [.slice x.2.1 1 (bys x.2.2.1),.int .i64 x.2.2.2])).push (.cells [.int .i64 most,.func (.func f) [] [],.func (.func 153) [] []])).push (.buf 3 0)).push (.buf 3 x.1.length)) (fun x=>x.1.length≤kc∧((goP gp (kc - x.1.length) x.2).1.map (x.1++·),(goP gp (kc - x.1.length) x.2).2)=(GO,gm,gl,ge)∧x.2.2.1.length≤l1.length∧cW m x.2.1) (fun x=>kc - x.1.length) ([],(m1,l1,e1)) ⟨Nat.zero_le _,by rw [← hG];simp,nrq _,hm1⟩ ?_ fun x hx=>?_
 ·refine ⟨by simp only [zkq,zkv,zle,zlf];omega,by repeat first|exact .refl _|refine .push ?_ _,hclL (m1,l1,e1) 0 hm1,?_,?_⟩
  ·simp [ltF,znf,znn,aC,znv,zle,zlf]
   try omega
  ·simp [aM,wk2,wk1,wkM,Fr.get]
 obtain ⟨us,m2,l2,e2⟩:=x
 obtain ⟨hx1,hx2,hx3,hx4⟩:=hx
 dsimp only at hx1 hx2 hx3 hx4 ⊢
 have b2:l2.length≤100000:=by omega
 have ne1:(H.nx+1=id)=False:=eq_false (by omega)
 simp only [go_sem]
 refine ae (fun hc=>?_) (fun hc=>?_)
 ·have hk':us.length<kc:=by simp at hc;omega
  have e5:IntKind.i64.wrap ((us.length:Int)+1)=((us.length+1:Nat):Int):=by rw [wrap_i64]<;>omega
  have hu:goP gp (kc - us.length) (m2,l2,e2)=if (gp (m2,l2,e2)).2.2.2≠0 then (none,(gp (m2,l2,e2)).2) else ((goP gp (kc - (us.length+1)) (gp (m2,l2,e2)).2).1.map ((gp (m2,l2,e2)).1::·),(goP gp (kc - (us.length+1)) (gp (m2,l2,e2)).2).2):=by
   rw [show kc - us.length=(kc - (us.length+1))+1 by omega];rfl
  rw [hu] at hx2
  have hl3:=rdFld_go.l (m2,l2,e2)
  have hm3:=rdFld_go.m (m2,l2,e2)
  generalize hq3:gp (m2,l2,e2)=q3 at *
  obtain ⟨n3,m3,l3,e3⟩:=q3
  dsimp only at hl3 hm3 hx2
  have b3:l3.length≤100000:=by omega
  have hmm:cW m m3:=aJ hx4 hm3
  cases hz:(e3 != 0)
  ·have hz':e3=0:=by simpa using hz
   rw [if_neg (by rw [hz'];decide)] at hx2
   simp only [go_sem,byq,hne,hid,hcs,hcm,hgm,onR,ah,ar,zmb,zlz,zlk,and_true,true_and,hid,qs,cA,cg,hq3,hz,b2,b3,az,br,e5,ybb]
   have hlen:(us++[n3]).length=us.length+1:=by simp
   refine ⟨⟨by omega,by omega,fun z hz=>by rw [List.mem_singleton] at hz;subst hz;rfl⟩,(us++[n3],(m3,l3,e3)),⟨by dsimp only;omega,?_,by dsimp only;omega,hmm⟩,by dsimp only;omega,?_⟩
   ·dsimp only
    rw [hlen,← hx2]
    generalize goP gp (kc - (us.length+1)) (m3,l3,e3)=q5
    obtain ⟨o,t⟩:=q5
    cases o
    ·rfl
    ·simp [List.append_assoc]
   ·refine ⟨by simp only [zle,zlf];omega,?_,hclL (m3,l3,e3) _ hmm,?_,?_⟩
    ·simp only [List.map_append,yae,yaf,br,lAq,yaz,yba]
     repeat first|exact .refl _|refine .push ?_ _
    ·simp [ltF,znf,znn,aC,zle,zlf]
     refine ⟨by omega,by omega,ltL_iff.2 fun j hj=>?_⟩
     have hmem:=gMq hj
     rw [List.mem_append,List.mem_map,List.mem_singleton] at hmem
     rcases hmem with ⟨x,_,e⟩|e
     ·rw [← e];exact (fun x=>ks x) x
     ·rw [e];exact (fun x=>ks x) _
    ·simp [aM,wk2,wk1,wkM,Fr.get,br]
  ·have hz':e3≠0:=by simpa using hz
   rw [if_pos hz'] at hx2
   simp only [Option.map,Prod.mk.injEq] at hx2
   obtain ⟨rfl,rfl,rfl,rfl⟩:=hx2
   simp only [go_sem,byq,hne,hid,hcs,hcm,hgm,onR,ah,ar,zmb,zlz,zlk,and_true,true_and,hid,qs,cA,cg,hq3,hz,b2,b3,az,br,Option.getD_none,yaf]
   exact ⟨by simp [wk,wk2,wk1,wkM],by repeat first|exact .refl _|refine .push ?_ _,ap hid hcl _ hmm _ _,by simp [aC,znv]⟩
 ·have hk':us.length=kc:=by simp at hc;omega
  subst hk'
  rw [Nat.sub_self] at hx2
  simp only [goP,Option.map,yaj,Prod.mk.injEq] at hx2
  obtain ⟨rfl,rfl,rfl,rfl⟩:=hx2
  simp only [go_sem,byq,Option.getD_some]
  exact ⟨by simp [wk,wk2,wk1,wkM],by repeat first|exact .refl _|refine .push ?_ _,ap hid hcl _ hx4 _ _,aA (fun x=>ks x)⟩
def qf:List AV→AHeap→(AEnd→AHeap→Prop)→Prop
 |[.ptr id 0],H,K=>onR H id fun m l e=>True∧K (.ret (bW (gg (m,l,e)).1)) (H.set id (.cells (az (gg (m,l,e)).2)))
 |_,_,_=>False
theorem CQ:EntOk Tryz.prog 224 (Ent.effect qf):=by
 refine EntOk.effect fun args H K h=>?_
 unfold qf at h
 split at h
 rotate_left
 ·exact h.elim
 rename_i id
 obtain ⟨m,l,e,hid,hle,h⟩:=bB h
 obtain ⟨hpre,hK⟩:=h
 refine ⟨_,_,hK,?_⟩
 clear hK
 have hl0:=glq hid
 have hne:=aL hl0
 have hss:=bd hid
 have hcs:=ax hid
 have hcm:=fun cs=>@al H id cs hl0
 have hgm:=fun o=>@aB H id o hl0
 obtain ⟨Q,hQ⟩:∃ Q,gg (m,l,e)=Q:=⟨_,rfl⟩
 rw [hQ]
 unfold gg at hQ
 try dsimp only [rap,dD,rU,rT,rV,rB,nF] at hQ
 have hl0:=oP m l e
 have hm0:=oN m l e
 generalize h0:dx (m,l,e)=q0 at *
 obtain ⟨v0,m0,l0,e0⟩:=q0
 dsimp only [rU,rV,rB] at hQ hl0 hm0
 have hl1:=oP m0 l0 e0
 have hm1:=oN m0 l0 e0
 generalize h1:dx (m0,l0,e0)=q1 at *
 obtain ⟨v1,m1,l1,e1⟩:=q1
 dsimp only [rU,rV,rB] at hQ hl1 hm1
 replace hm1:=aJ hm0 hm1
 have hl2:=ca m1 l1 e1 2
 have hm2:=co m1 l1 e1 2
 generalize h2:cm (m1,l1,e1) 2=q2 at *
 obtain ⟨v2,m2,l2,e2⟩:=q2
 dsimp only [rU,rV,rB] at hQ hl2 hm2
 replace hm2:=aJ hm1 hm2
 subst hQ
 dsimp only [az]
 refine ACalls.fW ag (tCq pL (tCq fG tNq)) Tryz.func224 [.cell 2 217] (by simp only [zlf];omega) (T:=af []) (h:=fun hcl hlt=>?_)
 clear hlt
 have b0:l0.length≤100000:=by omega
 have b1:l1.length≤100000:=by omega
 have b2:l2.length≤100000:=by omega
 simp only [go_sem,byq,hne,hid,hcs,hcm,hgm,onR,ah,ar,zmb,zlz,zlk,and_true,true_and,hid,onR,ah,az,vv,vc,lu,gv,h0,b0,h1,b1,h2,b2]
 have hclz:(H.set id (.cells [.slice m2 1 (bys l2),.int .i64 e2])).Closed:=ap hid hcl m2 hm2 l2 e2
 refine ⟨hle,?_,by repeat first|exact .refl _|refine .push ?_ _,hclz,(fun x=>ki x) _⟩
 simp [wk,wk2,wkL,wk1,wkM,bW,vc]
def tM:List AV→AHeap→(AEnd→AHeap→Prop)→Prop
 |[.ptr id 0,.agg [.int .i64 most,.func (.func f) [] [],.func (.func 224) [] []]],H,K=>onR H id fun m l e=>True∧K (.ret (.slice .any 5 ((rlP gg most (m,l,e)).1.map (bW)))) (H.set id (.cells (az (rlP gg most (m,l,e)).2)))
 |_,_,_=>False
theorem CH:EntOk Tryz.prog 164 (Ent.effect tM):=by
 refine EntOk.effect fun args H K h=>?_
 unfold tM at h
 split at h
 rotate_left
 ·exact h.elim
 rename_i id most f
 obtain ⟨m,l,e,hid,hle,h⟩:=bB h
 obtain ⟨hpre,hK⟩:=h
 refine ⟨_,_,hK,?_⟩
 clear hK
 have hl0:=glq hid
 have hne:=aL hl0
 have hss:=bd hid
 have hcs:=ax hid
 have hcm:=fun cs=>@al H id cs hl0
 have hgm:=fun o=>@aB H id o hl0
 have hl1:=dO m l e most
 have hm1:=dT m l e most
 have hc1:=eI (m,l,e) most
 obtain ⟨Q,hQ⟩:∃ Q,rlP gg most (m,l,e)=Q:=⟨_,rfl⟩
 rw [hQ]
 unfold rlP at hQ
 generalize h1:bq (m,l,e) most=q1 at *
 obtain ⟨cc,m1,l1,e1⟩:=q1
 dsimp only at hl1 hm1 hc1 hQ
 obtain ⟨kc,rfl⟩:∃ kc:Nat,cc=(kc:Int):=⟨cc.toNat,by omega⟩
 rw [iNq] at hQ
 obtain ⟨⟨GO,gs⟩,hG⟩:∃ G,goP gg kc (m1,l1,e1)=G:=⟨_,rfl⟩
 have hgo:=gb rdCas_go kc (m1,l1,e1)
 rw [hG] at hQ hgo
 obtain ⟨hg1,hg2,_⟩:=hgo
 obtain ⟨gm,gl,ge⟩:=gs
 dsimp only at hQ hg1 hg2
 subst hQ
 refine ACalls.fW ag (tCq dJ (tCq CQ (tCq eJ tNq))) Tryz.func164 [.tmp 4] (by simp only [zlf];omega) (T:=af []) (h:=fun hcl hlt=>?_)
 clear hlt
 have b1:l1.length≤100000:=by omega
 simp only [dt,du,bhq,Nat.reduceMod,Nat.reduceDiv,bh,bg,bm,cz,bk,cy,cr,cx,cu,yaq,yar,yao,yap,go_sem,byq,hne,hid,hcs,hcm,hgm,onR,ah,ar,zmb,zlz,zlk,and_true,true_and,hid,dU,h1,b1,az]
 refine ⟨hle,?_⟩
 have hltC:ltL (H.nx+1) [.int .i64 most,.func (.func f) [] [],.func (.func 224) [] []]:=by simp [znu,znv,znf,bG]
 have hclL:∀ (s:RS) (k:Nat),cW m s.1→((((H.set id (.cells [.slice s.1 1 (bys s.2.1),.int .i64 s.2.2])).push (.cells [.int .i64 most,.func (.func f) [] [],.func (.func 224) [] []])).push (.buf 5 0)).push (.buf 5 k)).Closed:=fun s k hs=>aF (aF (aj (ap hid hcl s.1 hs s.2.1 s.2.2) (by simpa only [zlf] using hltC)))
 refine aq (A:=List SCase × RS) (fun x=>[(0,.ptr id 0),(3,.ptr H.nx 0),(5,.slice (.own (H.nx+1+1)) 5 (x.1.map (bW))),(10,.int .i64 (kc:Int)),(11,.int .i64 (x.1.length:Int))]) (fun x=>(((H.set id (.cells [.slice x.2.1 1 (bys x.2.2.1),.int .i64 x.2.2.2])).push (.cells [.int .i64 most,.func (.func f) [] [],.func (.func 224) [] []])).push (.buf 5 0)).push (.buf 5 x.1.length)) (fun x=>x.1.length≤kc∧((goP gg (kc - x.1.length) x.2).1.map (x.1++·),(goP gg (kc - x.1.length) x.2).2)=(GO,gm,gl,ge)∧x.2.2.1.length≤l1.length∧cW m x.2.1) (fun x=>kc - x.1.length) ([],(m1,l1,e1)) ⟨Nat.zero_le _,by rw [← hG];simp,nrq _,hm1⟩ ?_ fun x hx=>?_
 ·refine ⟨by simp only [zkq,zkv,zle,zlf];omega,by repeat first|exact .refl _|refine .push ?_ _,hclL (m1,l1,e1) 0 hm1,?_,?_⟩
  ·simp [ltF,znf,znn,aC,znv,zle,zlf]
   try omega
  ·simp [aM,wk2,wk1,wkM,Fr.get]
 obtain ⟨us,m2,l2,e2⟩:=x
 obtain ⟨hx1,hx2,hx3,hx4⟩:=hx
 dsimp only at hx1 hx2 hx3 hx4 ⊢
 have b2:l2.length≤100000:=by omega
 have ne1:(H.nx+1=id)=False:=eq_false (by omega)
 simp only [go_sem]
 refine ae (fun hc=>?_) (fun hc=>?_)
 ·have hk':us.length<kc:=by simp at hc;omega
  have e5:IntKind.i64.wrap ((us.length:Int)+1)=((us.length+1:Nat):Int):=by rw [wrap_i64]<;>omega
  have hu:goP gg (kc - us.length) (m2,l2,e2)=if (gg (m2,l2,e2)).2.2.2≠0 then (none,(gg (m2,l2,e2)).2) else ((goP gg (kc - (us.length+1)) (gg (m2,l2,e2)).2).1.map ((gg (m2,l2,e2)).1::·),(goP gg (kc - (us.length+1)) (gg (m2,l2,e2)).2).2):=by
   rw [show kc - us.length=(kc - (us.length+1))+1 by omega];rfl
  rw [hu] at hx2
  have hl3:=rdCas_go.l (m2,l2,e2)
  have hm3:=rdCas_go.m (m2,l2,e2)
  generalize hq3:gg (m2,l2,e2)=q3 at *
  obtain ⟨n3,m3,l3,e3⟩:=q3
  dsimp only at hl3 hm3 hx2
  have b3:l3.length≤100000:=by omega
  have hmm:cW m m3:=aJ hx4 hm3
  cases hz:(e3 != 0)
  ·have hz':e3=0:=by simpa using hz
   rw [if_neg (by rw [hz'];decide)] at hx2
   simp only [go_sem,byq,hne,hid,hcs,hcm,hgm,onR,ah,ar,zmb,zlz,zlk,and_true,true_and,hid,qf,cA,cg,hq3,hz,b2,b3,az,bW,vc,yal,yak,e5,ybb]
   have hlen:(us++[n3]).length=us.length+1:=by simp
   refine ⟨⟨by omega,by omega,fun z hz=>by rw [List.mem_singleton] at hz;subst hz;rfl⟩,(us++[n3],(m3,l3,e3)),⟨by dsimp only;omega,?_,by dsimp only;omega,hmm⟩,by dsimp only;omega,?_⟩
   ·dsimp only
    rw [hlen,← hx2]
    generalize goP gg (kc - (us.length+1)) (m3,l3,e3)=q5
    obtain ⟨o,t⟩:=q5
    cases o
    ·rfl
    ·simp [List.append_assoc]
   ·refine ⟨by simp only [zle,zlf];omega,?_,hclL (m3,l3,e3) _ hmm,?_,?_⟩
    ·simp only [List.map_append,yae,yaf,bW,vc,yal,yak,lAq,yaz,yba]
     repeat first|exact .refl _|refine .push ?_ _
    ·simp [ltF,znf,znn,aC,zle,zlf]
     refine ⟨by omega,by omega,ltL_iff.2 fun j hj=>?_⟩
     have hmem:=gMq hj
     rw [List.mem_append,List.mem_map,List.mem_singleton] at hmem
     rcases hmem with ⟨x,_,e⟩|e
     ·rw [← e];exact (fun x=>ki x) x
     ·rw [e];exact (fun x=>ki x) _
    ·simp [aM,wk2,wk1,wkM,Fr.get,bW,vc,yal,yak]
  ·have hz':e3≠0:=by simpa using hz
   rw [if_pos hz'] at hx2
   simp only [Option.map,Prod.mk.injEq] at hx2
   obtain ⟨rfl,rfl,rfl,rfl⟩:=hx2
   simp only [go_sem,byq,hne,hid,hcs,hcm,hgm,onR,ah,ar,zmb,zlz,zlk,and_true,true_and,hid,qf,cA,cg,hq3,hz,b2,b3,az,bW,vc,yal,yak,Option.getD_none,yaf]
   exact ⟨by simp [wk,wk2,wk1,wkM],by repeat first|exact .refl _|refine .push ?_ _,ap hid hcl _ hmm _ _,by simp [aC,znv]⟩
 ·have hk':us.length=kc:=by simp at hc;omega
  subst hk'
  rw [Nat.sub_self] at hx2
  simp only [goP,Option.map,yaj,Prod.mk.injEq] at hx2
  obtain ⟨rfl,rfl,rfl,rfl⟩:=hx2
  simp only [go_sem,byq,Option.getD_some]
  exact ⟨by simp [wk,wk2,wk1,wkM],by repeat first|exact .refl _|refine .push ?_ _,ap hid hcl _ hx4 _ _,aA (fun x=>ki x)⟩
def qI:List AV→AHeap→(AEnd→AHeap→Prop)→Prop
 |[.ptr id 0],H,K=>onR H id fun m l e=>True∧K (.ret (bE (gt (m,l,e)).1)) (H.set id (.cells (az (gt (m,l,e)).2)))
 |_,_,_=>False
theorem DZ:EntOk Tryz.prog 226 (Ent.effect qI):=by
 refine EntOk.effect fun args H K h=>?_
 unfold qI at h
 split at h
 rotate_left
 ·exact h.elim
 rename_i id
 obtain ⟨m,l,e,hid,hle,h⟩:=bB h
 obtain ⟨hpre,hK⟩:=h
 refine ⟨_,_,hK,?_⟩
 clear hK
 have hl0:=glq hid
 have hne:=aL hl0
 have hss:=bd hid
 have hcs:=ax hid
 have hcm:=fun cs=>@al H id cs hl0
 have hgm:=fun o=>@aB H id o hl0
 obtain ⟨Q,hQ⟩:∃ Q,gt (m,l,e)=Q:=⟨_,rfl⟩
 rw [hQ]
 unfold gt at hQ
 try dsimp only [rap,dD,rU,rT,rV,rB,nF] at hQ
 have hl0:=jE m l e 24
 have hm0:=jC m l e 24
 generalize h0:eD (m,l,e) 24=q0 at *
 obtain ⟨v0,m0,l0,e0⟩:=q0
 dsimp only [rU,rV,rB] at hQ hl0 hm0
 have hl1:=ca m0 l0 e0 1
 have hm1:=co m0 l0 e0 1
 generalize h1:cm (m0,l0,e0) 1=q1 at *
 obtain ⟨v1,m1,l1,e1⟩:=q1
 dsimp only [rU,rV,rB] at hQ hl1 hm1
 replace hm1:=aJ hm0 hm1
 subst hQ
 dsimp only [az]
 refine ACalls.fW ag (tCq km (tCq fG tNq)) Tryz.func226 [.cell 2 223] (by simp only [zlf];omega) (T:=af []) (h:=fun hcl hlt=>?_)
 clear hlt
 have b0:l0.length≤100000:=by omega
 have b1:l1.length≤100000:=by omega
 simp only [go_sem,byq,hne,hid,hcs,hcm,hgm,onR,ah,ar,zmb,zlz,zlk,and_true,true_and,hid,onR,ah,az,vv,vc,j7,gv,h0,b0,h1,b1]
 have hclz:(H.set id (.cells [.slice m1 1 (bys l1),.int .i64 e1])).Closed:=ap hid hcl m1 hm1 l1 e1
 refine ⟨hle,?_,by repeat first|exact .refl _|refine .push ?_ _,hclz,(fun x=>jn x) _⟩
 simp [wk,wk2,wkL,wk1,wkM,bE]
def uI:List AV→AHeap→(AEnd→AHeap→Prop)→Prop
 |[.ptr id 0,.agg [.int .i64 most,.func (.func f) [] [],.func (.func 226) [] []]],H,K=>onR H id fun m l e=>True∧K (.ret (.slice .any 2 ((rlP gt most (m,l,e)).1.map (bE)))) (H.set id (.cells (az (rlP gt most (m,l,e)).2)))
 |_,_,_=>False
theorem Eu:EntOk Tryz.prog 171 (Ent.effect uI):=by
 refine EntOk.effect fun args H K h=>?_
 unfold uI at h
 split at h
 rotate_left
 ·exact h.elim
 rename_i id most f
 obtain ⟨m,l,e,hid,hle,h⟩:=bB h
 obtain ⟨hpre,hK⟩:=h
 refine ⟨_,_,hK,?_⟩
 clear hK
 have hl0:=glq hid
 have hne:=aL hl0
 have hss:=bd hid
 have hcs:=ax hid
 have hcm:=fun cs=>@al H id cs hl0
 have hgm:=fun o=>@aB H id o hl0
 have hl1:=dO m l e most
 have hm1:=dT m l e most
 have hc1:=eI (m,l,e) most
 obtain ⟨Q,hQ⟩:∃ Q,rlP gt most (m,l,e)=Q:=⟨_,rfl⟩
 rw [hQ]
 unfold rlP at hQ
 generalize h1:bq (m,l,e) most=q1 at *
 obtain ⟨cc,m1,l1,e1⟩:=q1
 dsimp only at hl1 hm1 hc1 hQ
 obtain ⟨kc,rfl⟩:∃ kc:Nat,cc=(kc:Int):=⟨cc.toNat,by omega⟩
 rw [iNq] at hQ
 obtain ⟨⟨GO,gs⟩,hG⟩:∃ G,goP gt kc (m1,l1,e1)=G:=⟨_,rfl⟩
 have hgo:=gb rdPar_go kc (m1,l1,e1)
 rw [hG] at hQ hgo
 obtain ⟨hg1,hg2,_⟩:=hgo
 obtain ⟨gm,gl,ge⟩:=gs
 dsimp only at hQ hg1 hg2
 subst hQ
 refine ACalls.fW ag (tCq dJ (tCq DZ (tCq eJ tNq))) Tryz.func171 [.tmp 4] (by simp only [zlf];omega) (T:=af []) (h:=fun hcl hlt=>?_)
 clear hlt
 have b1:l1.length≤100000:=by omega
 simp only [dt,du,bhq,Nat.reduceMod,Nat.reduceDiv,bh,bg,bm,cz,bk,cy,cr,cx,cu,yaq,yar,yao,yap,go_sem,byq,hne,hid,hcs,hcm,hgm,onR,ah,ar,zmb,zlz,zlk,and_true,true_and,hid,dU,h1,b1,az]
 refine ⟨hle,?_⟩
 have hltC:ltL (H.nx+1) [.int .i64 most,.func (.func f) [] [],.func (.func 226) [] []]:=by simp [znu,znv,znf,bG]
 have hclL:∀ (s:RS) (k:Nat),cW m s.1→((((H.set id (.cells [.slice s.1 1 (bys s.2.1),.int .i64 s.2.2])).push (.cells [.int .i64 most,.func (.func f) [] [],.func (.func 226) [] []])).push (.buf 2 0)).push (.buf 2 k)).Closed:=fun s k hs=>aF (aF (aj (ap hid hcl s.1 hs s.2.1 s.2.2) (by simpa only [zlf] using hltC)))
 refine aq (A:=List SParam × RS) (fun x=>[(0,.ptr id 0),(3,.ptr H.nx 0),(5,.slice (.own (H.nx+1+1)) 2 (x.1.map (bE))),(10,.int .i64 (kc:Int)),(11,.int .i64 (x.1.length:Int))]) (fun x=>(((H.set id (.cells [.slice x.2.1 1 (bys x.2.2.1),.int .i64 x.2.2.2])).push (.cells [.int .i64 most,.func (.func f) [] [],.func (.func 226) [] []])).push (.buf 2 0)).push (.buf 2 x.1.length)) (fun x=>x.1.length≤kc∧((goP gt (kc - x.1.length) x.2).1.map (x.1++·),(goP gt (kc - x.1.length) x.2).2)=(GO,gm,gl,ge)∧x.2.2.1.length≤l1.length∧cW m x.2.1) (fun x=>kc - x.1.length) ([],(m1,l1,e1)) ⟨Nat.zero_le _,by rw [← hG];simp,nrq _,hm1⟩ ?_ fun x hx=>?_
 ·refine ⟨by simp only [zkq,zkv,zle,zlf];omega,by repeat first|exact .refl _|refine .push ?_ _,hclL (m1,l1,e1) 0 hm1,?_,?_⟩
  ·simp [ltF,znf,znn,aC,znv,zle,zlf]
   try omega
  ·simp [aM,wk2,wk1,wkM,Fr.get]
 obtain ⟨us,m2,l2,e2⟩:=x
 obtain ⟨hx1,hx2,hx3,hx4⟩:=hx
 dsimp only at hx1 hx2 hx3 hx4 ⊢
 have b2:l2.length≤100000:=by omega
 have ne1:(H.nx+1=id)=False:=eq_false (by omega)
 simp only [go_sem]
 refine ae (fun hc=>?_) (fun hc=>?_)
 ·have hk':us.length<kc:=by simp at hc;omega
  have e5:IntKind.i64.wrap ((us.length:Int)+1)=((us.length+1:Nat):Int):=by rw [wrap_i64]<;>omega
  have hu:goP gt (kc - us.length) (m2,l2,e2)=if (gt (m2,l2,e2)).2.2.2≠0 then (none,(gt (m2,l2,e2)).2) else ((goP gt (kc - (us.length+1)) (gt (m2,l2,e2)).2).1.map ((gt (m2,l2,e2)).1::·),(goP gt (kc - (us.length+1)) (gt (m2,l2,e2)).2).2):=by
   rw [show kc - us.length=(kc - (us.length+1))+1 by omega];rfl
  rw [hu] at hx2
  have hl3:=rdPar_go.l (m2,l2,e2)
  have hm3:=rdPar_go.m (m2,l2,e2)
  generalize hq3:gt (m2,l2,e2)=q3 at *
  obtain ⟨n3,m3,l3,e3⟩:=q3
  dsimp only at hl3 hm3 hx2
  have b3:l3.length≤100000:=by omega
  have hmm:cW m m3:=aJ hx4 hm3
  cases hz:(e3 != 0)
  ·have hz':e3=0:=by simpa using hz
   rw [if_neg (by rw [hz'];decide)] at hx2
   simp only [go_sem,byq,hne,hid,hcs,hcm,hgm,onR,ah,ar,zmb,zlz,zlk,and_true,true_and,hid,qI,cA,cg,hq3,hz,b2,b3,az,bE,e5,ybb]
   have hlen:(us++[n3]).length=us.length+1:=by simp
   refine ⟨⟨by omega,by omega,fun z hz=>by rw [List.mem_singleton] at hz;subst hz;rfl⟩,(us++[n3],(m3,l3,e3)),⟨by dsimp only;omega,?_,by dsimp only;omega,hmm⟩,by dsimp only;omega,?_⟩
   ·dsimp only
    rw [hlen,← hx2]
    generalize goP gt (kc - (us.length+1)) (m3,l3,e3)=q5
    obtain ⟨o,t⟩:=q5
    cases o
    ·rfl
    ·simp [List.append_assoc]
   ·refine ⟨by simp only [zle,zlf];omega,?_,hclL (m3,l3,e3) _ hmm,?_,?_⟩
    ·simp only [List.map_append,yae,yaf,bE,lAq,yaz,yba]
     repeat first|exact .refl _|refine .push ?_ _
    ·simp [ltF,znf,znn,aC,zle,zlf]
     refine ⟨by omega,by omega,ltL_iff.2 fun j hj=>?_⟩
     have hmem:=gMq hj
     rw [List.mem_append,List.mem_map,List.mem_singleton] at hmem
     rcases hmem with ⟨x,_,e⟩|e
     ·rw [← e];exact (fun x=>jn x) x
     ·rw [e];exact (fun x=>jn x) _
    ·simp [aM,wk2,wk1,wkM,Fr.get,bE]
  ·have hz':e3≠0:=by simpa using hz
   rw [if_pos hz'] at hx2
   simp only [Option.map,Prod.mk.injEq] at hx2
   obtain ⟨rfl,rfl,rfl,rfl⟩:=hx2
   simp only [go_sem,byq,hne,hid,hcs,hcm,hgm,onR,ah,ar,zmb,zlz,zlk,and_true,true_and,hid,qI,cA,cg,hq3,hz,b2,b3,az,bE,Option.getD_none,yaf]
   exact ⟨by simp [wk,wk2,wk1,wkM],by repeat first|exact .refl _|refine .push ?_ _,ap hid hcl _ hmm _ _,by simp [aC,znv]⟩
 ·have hk':us.length=kc:=by simp at hc;omega
  subst hk'
  rw [Nat.sub_self] at hx2
  simp only [goP,Option.map,yaj,Prod.mk.injEq] at hx2
  obtain ⟨rfl,rfl,rfl,rfl⟩:=hx2
  simp only [go_sem,byq,Option.getD_some]
  exact ⟨by simp [wk,wk2,wk1,wkM],by repeat first|exact .refl _|refine .push ?_ _,ap hid hcl _ hx4 _ _,aA (fun x=>jn x)⟩
def qy:List AV→AHeap→(AEnd→AHeap→Prop)→Prop
 |[.ptr id 0],H,K=>onR H id fun m l e=>True∧K (.ret (bY (gq (m,l,e)).1)) (H.set id (.cells (az (gq (m,l,e)).2)))
 |_,_,_=>False
theorem Ct:EntOk Tryz.prog 228 (Ent.effect qy):=by
 refine EntOk.effect fun args H K h=>?_
 unfold qy at h
 split at h
 rotate_left
 ·exact h.elim
 rename_i id
 obtain ⟨m,l,e,hid,hle,h⟩:=bB h
 obtain ⟨hpre,hK⟩:=h
 refine ⟨_,_,hK,?_⟩
 clear hK
 have hl0:=glq hid
 have hne:=aL hl0
 have hss:=bd hid
 have hcs:=ax hid
 have hcm:=fun cs=>@al H id cs hl0
 have hgm:=fun o=>@aB H id o hl0
 obtain ⟨Q,hQ⟩:∃ Q,gq (m,l,e)=Q:=⟨_,rfl⟩
 rw [hQ]
 unfold gq at hQ
 try dsimp only [rap,dD,rU,rT,rV,rB,nF] at hQ
 have hl0:=ca m l e 1
 have hm0:=co m l e 1
 generalize h0:cm (m,l,e) 1=q0 at *
 obtain ⟨v0,m0,l0,e0⟩:=q0
 dsimp only [rU,rV,rB] at hQ hl0 hm0
 have hl1:=ca m0 l0 e0 2
 have hm1:=co m0 l0 e0 2
 generalize h1:cm (m0,l0,e0) 2=q1 at *
 obtain ⟨v1,m1,l1,e1⟩:=q1
 dsimp only [rU,rV,rB] at hQ hl1 hm1
 replace hm1:=aJ hm0 hm1
 have hl2:=ca m1 l1 e1 1
 have hm2:=co m1 l1 e1 1
 generalize h2:cm (m1,l1,e1) 1=q2 at *
 obtain ⟨v2,m2,l2,e2⟩:=q2
 dsimp only [rU,rV,rB] at hQ hl2 hm2
 replace hm2:=aJ hm1 hm2
 have hl3:=ca m2 l2 e2 2
 have hm3:=co m2 l2 e2 2
 generalize h3:cm (m2,l2,e2) 2=q3 at *
 obtain ⟨v3,m3,l3,e3⟩:=q3
 dsimp only [rU,rV,rB] at hQ hl3 hm3
 replace hm3:=aJ hm2 hm3
 have hl4:=oP m3 l3 e3
 have hm4:=oN m3 l3 e3
 generalize h4:dx (m3,l3,e3)=q4 at *
 obtain ⟨v4,m4,l4,e4⟩:=q4
 dsimp only [rU,rV,rB] at hQ hl4 hm4
 replace hm4:=aJ hm3 hm4
 subst hQ
 dsimp only [az]
 refine ACalls.fW ag (tCq fG (tCq pL tNq)) Tryz.func228 [.cell 2 221] (by simp only [zlf];omega) (T:=af []) (h:=fun hcl hlt=>?_)
 clear hlt
 have b0:l0.length≤100000:=by omega
 have b1:l1.length≤100000:=by omega
 have b2:l2.length≤100000:=by omega
 have b3:l3.length≤100000:=by omega
 have b4:l4.length≤100000:=by omega
 simp only [go_sem,byq,hne,hid,hcs,hcm,hgm,onR,ah,ar,zmb,zlz,zlk,and_true,true_and,hid,onR,ah,az,vv,vc,gv,lu,h0,b0,h1,b1,h2,b2,h3,b3,h4,b4]
 have hclz:(H.set id (.cells [.slice m4 1 (bys l4),.int .i64 e4])).Closed:=ap hid hcl m4 hm4 l4 e4
 refine ⟨hle,?_,by repeat first|exact .refl _|refine .push ?_ _,hclz,(fun x=>kg x) _⟩
 simp [wk,wk2,wkL,wk1,wkM,bY,vc]
def ur:List AV→AHeap→(AEnd→AHeap→Prop)→Prop
 |[.ptr id 0,.agg [.int .i64 most,.func (.func f) [] [],.func (.func 228) [] []]],H,K=>onR H id fun m l e=>True∧K (.ret (.slice .any 6 ((rlP gq most (m,l,e)).1.map (bY)))) (H.set id (.cells (az (rlP gq most (m,l,e)).2)))
 |_,_,_=>False
theorem BS:EntOk Tryz.prog 172 (Ent.effect ur):=by
 refine EntOk.effect fun args H K h=>?_
 unfold ur at h
 split at h
 rotate_left
 ·exact h.elim
 rename_i id most f
 obtain ⟨m,l,e,hid,hle,h⟩:=bB h
 obtain ⟨hpre,hK⟩:=h
 refine ⟨_,_,hK,?_⟩
 clear hK
 have hl0:=glq hid
 have hne:=aL hl0
 have hss:=bd hid
 have hcs:=ax hid
 have hcm:=fun cs=>@al H id cs hl0
 have hgm:=fun o=>@aB H id o hl0
 have hl1:=dO m l e most
 have hm1:=dT m l e most
 have hc1:=eI (m,l,e) most
 obtain ⟨Q,hQ⟩:∃ Q,rlP gq most (m,l,e)=Q:=⟨_,rfl⟩
 rw [hQ]
 unfold rlP at hQ
 generalize h1:bq (m,l,e) most=q1 at *
 obtain ⟨cc,m1,l1,e1⟩:=q1
 dsimp only at hl1 hm1 hc1 hQ
 obtain ⟨kc,rfl⟩:∃ kc:Nat,cc=(kc:Int):=⟨cc.toNat,by omega⟩
 rw [iNq] at hQ
 obtain ⟨⟨GO,gs⟩,hG⟩:∃ G,goP gq kc (m1,l1,e1)=G:=⟨_,rfl⟩
 have hgo:=gb rdPri_go kc (m1,l1,e1)
 rw [hG] at hQ hgo
 obtain ⟨hg1,hg2,_⟩:=hgo
 obtain ⟨gm,gl,ge⟩:=gs
 dsimp only at hQ hg1 hg2
 subst hQ
 refine ACalls.fW ag (tCq dJ (tCq Ct (tCq eJ tNq))) Tryz.func172 [.tmp 4] (by simp only [zlf];omega) (T:=af []) (h:=fun hcl hlt=>?_)
 clear hlt
 have b1:l1.length≤100000:=by omega
 simp only [dt,du,bhq,Nat.reduceMod,Nat.reduceDiv,bh,bg,bm,cz,bk,cy,cr,cx,cu,yaq,yar,yao,yap,go_sem,byq,hne,hid,hcs,hcm,hgm,onR,ah,ar,zmb,zlz,zlk,and_true,true_and,hid,dU,h1,b1,az]
 refine ⟨hle,?_⟩
 have hltC:ltL (H.nx+1) [.int .i64 most,.func (.func f) [] [],.func (.func 228) [] []]:=by simp [znu,znv,znf,bG]
 have hclL:∀ (s:RS) (k:Nat),cW m s.1→((((H.set id (.cells [.slice s.1 1 (bys s.2.1),.int .i64 s.2.2])).push (.cells [.int .i64 most,.func (.func f) [] [],.func (.func 228) [] []])).push (.buf 6 0)).push (.buf 6 k)).Closed:=fun s k hs=>aF (aF (aj (ap hid hcl s.1 hs s.2.1 s.2.2) (by simpa only [zlf] using hltC)))
 refine aq (A:=List SPrim × RS) (fun x=>[(0,.ptr id 0),(3,.ptr H.nx 0),(5,.slice (.own (H.nx+1+1)) 6 (x.1.map (bY))),(10,.int .i64 (kc:Int)),(11,.int .i64 (x.1.length:Int))]) (fun x=>(((H.set id (.cells [.slice x.2.1 1 (bys x.2.2.1),.int .i64 x.2.2.2])).push (.cells [.int .i64 most,.func (.func f) [] [],.func (.func 228) [] []])).push (.buf 6 0)).push (.buf 6 x.1.length)) (fun x=>x.1.length≤kc∧((goP gq (kc - x.1.length) x.2).1.map (x.1++·),(goP gq (kc - x.1.length) x.2).2)=(GO,gm,gl,ge)∧x.2.2.1.length≤l1.length∧cW m x.2.1) (fun x=>kc - x.1.length) ([],(m1,l1,e1)) ⟨Nat.zero_le _,by rw [← hG];simp,nrq _,hm1⟩ ?_ fun x hx=>?_
 ·refine ⟨by simp only [zkq,zkv,zle,zlf];omega,by repeat first|exact .refl _|refine .push ?_ _,hclL (m1,l1,e1) 0 hm1,?_,?_⟩
  ·simp [ltF,znf,znn,aC,znv,zle,zlf]
   try omega
  ·simp [aM,wk2,wk1,wkM,Fr.get]
 obtain ⟨us,m2,l2,e2⟩:=x
 obtain ⟨hx1,hx2,hx3,hx4⟩:=hx
 dsimp only at hx1 hx2 hx3 hx4 ⊢
 have b2:l2.length≤100000:=by omega
 have ne1:(H.nx+1=id)=False:=eq_false (by omega)
 simp only [go_sem]
 refine ae (fun hc=>?_) (fun hc=>?_)
 ·have hk':us.length<kc:=by simp at hc;omega
  have e5:IntKind.i64.wrap ((us.length:Int)+1)=((us.length+1:Nat):Int):=by rw [wrap_i64]<;>omega
  have hu:goP gq (kc - us.length) (m2,l2,e2)=if (gq (m2,l2,e2)).2.2.2≠0 then (none,(gq (m2,l2,e2)).2) else ((goP gq (kc - (us.length+1)) (gq (m2,l2,e2)).2).1.map ((gq (m2,l2,e2)).1::·),(goP gq (kc - (us.length+1)) (gq (m2,l2,e2)).2).2):=by
   rw [show kc - us.length=(kc - (us.length+1))+1 by omega];rfl
  rw [hu] at hx2
  have hl3:=rdPri_go.l (m2,l2,e2)
  have hm3:=rdPri_go.m (m2,l2,e2)
  generalize hq3:gq (m2,l2,e2)=q3 at *
  obtain ⟨n3,m3,l3,e3⟩:=q3
  dsimp only at hl3 hm3 hx2
  have b3:l3.length≤100000:=by omega
  have hmm:cW m m3:=aJ hx4 hm3
  cases hz:(e3 != 0)
  ·have hz':e3=0:=by simpa using hz
   rw [if_neg (by rw [hz'];decide)] at hx2
   simp only [go_sem,byq,hne,hid,hcs,hcm,hgm,onR,ah,ar,zmb,zlz,zlk,and_true,true_and,hid,qy,cA,cg,hq3,hz,b2,b3,az,bY,vc,yal,yak,e5,ybb]
   have hlen:(us++[n3]).length=us.length+1:=by simp
   refine ⟨⟨by omega,by omega,fun z hz=>by rw [List.mem_singleton] at hz;subst hz;rfl⟩,(us++[n3],(m3,l3,e3)),⟨by dsimp only;omega,?_,by dsimp only;omega,hmm⟩,by dsimp only;omega,?_⟩
   ·dsimp only
    rw [hlen,← hx2]
    generalize goP gq (kc - (us.length+1)) (m3,l3,e3)=q5
    obtain ⟨o,t⟩:=q5
    cases o
    ·rfl
    ·simp [List.append_assoc]
   ·refine ⟨by simp only [zle,zlf];omega,?_,hclL (m3,l3,e3) _ hmm,?_,?_⟩
    ·simp only [List.map_append,yae,yaf,bY,vc,yal,yak,lAq,yaz,yba]
     repeat first|exact .refl _|refine .push ?_ _
    ·simp [ltF,znf,znn,aC,zle,zlf]
     refine ⟨by omega,by omega,ltL_iff.2 fun j hj=>?_⟩
     have hmem:=gMq hj
     rw [List.mem_append,List.mem_map,List.mem_singleton] at hmem
     rcases hmem with ⟨x,_,e⟩|e
     ·rw [← e];exact (fun x=>kg x) x
     ·rw [e];exact (fun x=>kg x) _
    ·simp [aM,wk2,wk1,wkM,Fr.get,bY,vc,yal,yak]
  ·have hz':e3≠0:=by simpa using hz
   rw [if_pos hz'] at hx2
   simp only [Option.map,Prod.mk.injEq] at hx2
   obtain ⟨rfl,rfl,rfl,rfl⟩:=hx2
   simp only [go_sem,byq,hne,hid,hcs,hcm,hgm,onR,ah,ar,zmb,zlz,zlk,and_true,true_and,hid,qy,cA,cg,hq3,hz,b2,b3,az,bY,vc,yal,yak,Option.getD_none,yaf]
   exact ⟨by simp [wk,wk2,wk1,wkM],by repeat first|exact .refl _|refine .push ?_ _,ap hid hcl _ hmm _ _,by simp [aC,znv]⟩
 ·have hk':us.length=kc:=by simp at hc;omega
  subst hk'
  rw [Nat.sub_self] at hx2
  simp only [goP,Option.map,yaj,Prod.mk.injEq] at hx2
  obtain ⟨rfl,rfl,rfl,rfl⟩:=hx2
  simp only [go_sem,byq,Option.getD_some]
  exact ⟨by simp [wk,wk2,wk1,wkM],by repeat first|exact .refl _|refine .push ?_ _,ap hid hcl _ hx4 _ _,aA (fun x=>kg x)⟩
def qh:List AV→AHeap→(AEnd→AHeap→Prop)→Prop
 |[.ptr id 0],H,K=>onR H id fun m l e=>True∧K (.ret (cH (gr (m,l,e)).1)) (H.set id (.cells (az (gr (m,l,e)).2)))
 |_,_,_=>False
theorem Bw:EntOk Tryz.prog 230 (Ent.effect qh):=by
 refine EntOk.effect fun args H K h=>?_
 unfold qh at h
 split at h
 rotate_left
 ·exact h.elim
 rename_i id
 obtain ⟨m,l,e,hid,hle,h⟩:=bB h
 obtain ⟨hpre,hK⟩:=h
 refine ⟨_,_,hK,?_⟩
 clear hK
 have hl0:=glq hid
 have hne:=aL hl0
 have hss:=bd hid
 have hcs:=ax hid
 have hcm:=fun cs=>@al H id cs hl0
 have hgm:=fun o=>@aB H id o hl0
 obtain ⟨Q,hQ⟩:∃ Q,gr (m,l,e)=Q:=⟨_,rfl⟩
 rw [hQ]
 unfold gr at hQ
 try dsimp only [rap,dD,rU,rT,rV,rB,nF] at hQ
 have hl0:=jE m l e 24
 have hm0:=jC m l e 24
 generalize h0:eD (m,l,e) 24=q0 at *
 obtain ⟨v0,m0,l0,e0⟩:=q0
 dsimp only [rU,rV,rB] at hQ hl0 hm0
 have hl1:=ca m0 l0 e0 2
 have hm1:=co m0 l0 e0 2
 generalize h1:cm (m0,l0,e0) 2=q1 at *
 obtain ⟨v1,m1,l1,e1⟩:=q1
 dsimp only [rU,rV,rB] at hQ hl1 hm1
 replace hm1:=aJ hm0 hm1
 have hl2:=ca m1 l1 e1 1
 have hm2:=co m1 l1 e1 1
 generalize h2:cm (m1,l1,e1) 1=q2 at *
 obtain ⟨v2,m2,l2,e2⟩:=q2
 dsimp only [rU,rV,rB] at hQ hl2 hm2
 replace hm2:=aJ hm1 hm2
 subst hQ
 dsimp only [az]
 refine ACalls.fW ag (tCq km (tCq fG tNq)) Tryz.func230 [.cell 2 225] (by simp only [zlf];omega) (T:=af []) (h:=fun hcl hlt=>?_)
 clear hlt
 have b0:l0.length≤100000:=by omega
 have b1:l1.length≤100000:=by omega
 have b2:l2.length≤100000:=by omega
 simp only [go_sem,byq,hne,hid,hcs,hcm,hgm,onR,ah,ar,zmb,zlz,zlk,and_true,true_and,hid,onR,ah,az,vv,vc,j7,gv,h0,b0,h1,b1,h2,b2]
 have hclz:(H.set id (.cells [.slice m2 1 (bys l2),.int .i64 e2])).Closed:=ap hid hcl m2 hm2 l2 e2
 refine ⟨hle,?_,by repeat first|exact .refl _|refine .push ?_ _,hclz,(fun x=>lw x) _⟩
 simp [wk,wk2,wkL,wk1,wkM,cH]
def uS:List AV→AHeap→(AEnd→AHeap→Prop)→Prop
 |[.ptr id 0,.agg [.int .i64 most,.func (.func f) [] [],.func (.func 230) [] []]],H,K=>onR H id fun m l e=>True∧K (.ret (.slice .any 3 ((rlP gr most (m,l,e)).1.map (cH)))) (H.set id (.cells (az (rlP gr most (m,l,e)).2)))
 |_,_,_=>False
theorem Db:EntOk Tryz.prog 179 (Ent.effect uS):=by
 refine EntOk.effect fun args H K h=>?_
 unfold uS at h
 split at h
 rotate_left
 ·exact h.elim
 rename_i id most f
 obtain ⟨m,l,e,hid,hle,h⟩:=bB h
 obtain ⟨hpre,hK⟩:=h
 refine ⟨_,_,hK,?_⟩
 clear hK
 have hl0:=glq hid
 have hne:=aL hl0
 have hss:=bd hid
 have hcs:=ax hid
 have hcm:=fun cs=>@al H id cs hl0
 have hgm:=fun o=>@aB H id o hl0
 have hl1:=dO m l e most
 have hm1:=dT m l e most
 have hc1:=eI (m,l,e) most
 obtain ⟨Q,hQ⟩:∃ Q,rlP gr most (m,l,e)=Q:=⟨_,rfl⟩
 rw [hQ]
 unfold rlP at hQ
 generalize h1:bq (m,l,e) most=q1 at *
 obtain ⟨cc,m1,l1,e1⟩:=q1
 dsimp only at hl1 hm1 hc1 hQ
 obtain ⟨kc,rfl⟩:∃ kc:Nat,cc=(kc:Int):=⟨cc.toNat,by omega⟩
 rw [iNq] at hQ
 obtain ⟨⟨GO,gs⟩,hG⟩:∃ G,goP gr kc (m1,l1,e1)=G:=⟨_,rfl⟩
 have hgo:=gb rdKey_go kc (m1,l1,e1)
 rw [hG] at hQ hgo
 obtain ⟨hg1,hg2,_⟩:=hgo
 obtain ⟨gm,gl,ge⟩:=gs
 dsimp only at hQ hg1 hg2
 subst hQ
 refine ACalls.fW ag (tCq dJ (tCq Bw (tCq eJ tNq))) Tryz.func179 [.tmp 4] (by simp only [zlf];omega) (T:=af []) (h:=fun hcl hlt=>?_)
 clear hlt
 have b1:l1.length≤100000:=by omega
 simp only [dt,du,bhq,Nat.reduceMod,Nat.reduceDiv,bh,bg,bm,cz,bk,cy,cr,cx,cu,yaq,yar,yao,yap,go_sem,byq,hne,hid,hcs,hcm,hgm,onR,ah,ar,zmb,zlz,zlk,and_true,true_and,hid,dU,h1,b1,az]
 refine ⟨hle,?_⟩
 have hltC:ltL (H.nx+1) [.int .i64 most,.func (.func f) [] [],.func (.func 230) [] []]:=by simp [znu,znv,znf,bG]
 have hclL:∀ (s:RS) (k:Nat),cW m s.1→((((H.set id (.cells [.slice s.1 1 (bys s.2.1),.int .i64 s.2.2])).push (.cells [.int .i64 most,.func (.func f) [] [],.func (.func 230) [] []])).push (.buf 3 0)).push (.buf 3 k)).Closed:=fun s k hs=>aF (aF (aj (ap hid hcl s.1 hs s.2.1 s.2.2) (by simpa only [zlf] using hltC)))
 refine aq (A:=List SKey × RS) (fun x=>[(0,.ptr id 0),(3,.ptr H.nx 0),(5,.slice (.own (H.nx+1+1)) 3 (x.1.map (cH))),(10,.int .i64 (kc:Int)),(11,.int .i64 (x.1.length:Int))]) (fun x=>(((H.set id (.cells [.slice x.2.1 1 (bys x.2.2.1),.int .i64 x.2.2.2])).push (.cells [.int .i64 most,.func (.func f) [] [],.func (.func 230) [] []])).push (.buf 3 0)).push (.buf 3 x.1.length)) (fun x=>x.1.length≤kc∧((goP gr (kc - x.1.length) x.2).1.map (x.1++·),(goP gr (kc - x.1.length) x.2).2)=(GO,gm,gl,ge)∧x.2.2.1.length≤l1.length∧cW m x.2.1) (fun x=>kc - x.1.length) ([],(m1,l1,e1)) ⟨Nat.zero_le _,by rw [← hG];simp,nrq _,hm1⟩ ?_ fun x hx=>?_
 ·refine ⟨by simp only [zkq,zkv,zle,zlf];omega,by repeat first|exact .refl _|refine .push ?_ _,hclL (m1,l1,e1) 0 hm1,?_,?_⟩
  ·simp [ltF,znf,znn,aC,znv,zle,zlf]
   try omega
  ·simp [aM,wk2,wk1,wkM,Fr.get]
 obtain ⟨us,m2,l2,e2⟩:=x
 obtain ⟨hx1,hx2,hx3,hx4⟩:=hx
 dsimp only at hx1 hx2 hx3 hx4 ⊢
 have b2:l2.length≤100000:=by omega
 have ne1:(H.nx+1=id)=False:=eq_false (by omega)
 simp only [go_sem]
 refine ae (fun hc=>?_) (fun hc=>?_)
 ·have hk':us.length<kc:=by simp at hc;omega
  have e5:IntKind.i64.wrap ((us.length:Int)+1)=((us.length+1:Nat):Int):=by rw [wrap_i64]<;>omega
  have hu:goP gr (kc - us.length) (m2,l2,e2)=if (gr (m2,l2,e2)).2.2.2≠0 then (none,(gr (m2,l2,e2)).2) else ((goP gr (kc - (us.length+1)) (gr (m2,l2,e2)).2).1.map ((gr (m2,l2,e2)).1::·),(goP gr (kc - (us.length+1)) (gr (m2,l2,e2)).2).2):=by
   rw [show kc - us.length=(kc - (us.length+1))+1 by omega];rfl
  rw [hu] at hx2
  have hl3:=rdKey_go.l (m2,l2,e2)
  have hm3:=rdKey_go.m (m2,l2,e2)
  generalize hq3:gr (m2,l2,e2)=q3 at *
  obtain ⟨n3,m3,l3,e3⟩:=q3
  dsimp only at hl3 hm3 hx2
  have b3:l3.length≤100000:=by omega
  have hmm:cW m m3:=aJ hx4 hm3
  cases hz:(e3 != 0)
  ·have hz':e3=0:=by simpa using hz
   rw [if_neg (by rw [hz'];decide)] at hx2
   simp only [go_sem,byq,hne,hid,hcs,hcm,hgm,onR,ah,ar,zmb,zlz,zlk,and_true,true_and,hid,qh,cA,cg,hq3,hz,b2,b3,az,cH,e5,ybb]
   have hlen:(us++[n3]).length=us.length+1:=by simp
   refine ⟨⟨by omega,by omega,fun z hz=>by rw [List.mem_singleton] at hz;subst hz;rfl⟩,(us++[n3],(m3,l3,e3)),⟨by dsimp only;omega,?_,by dsimp only;omega,hmm⟩,by dsimp only;omega,?_⟩
   ·dsimp only
    rw [hlen,← hx2]
    generalize goP gr (kc - (us.length+1)) (m3,l3,e3)=q5
    obtain ⟨o,t⟩:=q5
    cases o
    ·rfl
    ·simp [List.append_assoc]
   ·refine ⟨by simp only [zle,zlf];omega,?_,hclL (m3,l3,e3) _ hmm,?_,?_⟩
    ·simp only [List.map_append,yae,yaf,cH,lAq,yaz,yba]
     repeat first|exact .refl _|refine .push ?_ _
    ·simp [ltF,znf,znn,aC,zle,zlf]
     refine ⟨by omega,by omega,ltL_iff.2 fun j hj=>?_⟩
     have hmem:=gMq hj
     rw [List.mem_append,List.mem_map,List.mem_singleton] at hmem
     rcases hmem with ⟨x,_,e⟩|e
     ·rw [← e];exact (fun x=>lw x) x
     ·rw [e];exact (fun x=>lw x) _
    ·simp [aM,wk2,wk1,wkM,Fr.get,cH]
  ·have hz':e3≠0:=by simpa using hz
   rw [if_pos hz'] at hx2
   simp only [Option.map,Prod.mk.injEq] at hx2
   obtain ⟨rfl,rfl,rfl,rfl⟩:=hx2
   simp only [go_sem,byq,hne,hid,hcs,hcm,hgm,onR,ah,ar,zmb,zlz,zlk,and_true,true_and,hid,qh,cA,cg,hq3,hz,b2,b3,az,cH,Option.getD_none,yaf]
   exact ⟨by simp [wk,wk2,wk1,wkM],by repeat first|exact .refl _|refine .push ?_ _,ap hid hcl _ hmm _ _,by simp [aC,znv]⟩
 ·have hk':us.length=kc:=by simp at hc;omega
  subst hk'
  rw [Nat.sub_self] at hx2
  simp only [goP,Option.map,yaj,Prod.mk.injEq] at hx2
  obtain ⟨rfl,rfl,rfl,rfl⟩:=hx2
  simp only [go_sem,byq,Option.getD_some]
  exact ⟨by simp [wk,wk2,wk1,wkM],by repeat first|exact .refl _|refine .push ?_ _,ap hid hcl _ hx4 _ _,aA (fun x=>lw x)⟩
def qB:List AV→AHeap→(AEnd→AHeap→Prop)→Prop
 |[.ptr id 0],H,K=>onR H id fun m l e=>True∧K (.ret (bx (gh (m,l,e)).1)) (H.set id (.cells (az (gh (m,l,e)).2)))
 |_,_,_=>False
theorem BI:EntOk Tryz.prog 182 (Ent.effect qB):=by
 refine EntOk.effect fun args H K h=>?_
 unfold qB at h
 split at h
 rotate_left
 ·exact h.elim
 rename_i id
 obtain ⟨m,l,e,hid,hle,h⟩:=bB h
 obtain ⟨hpre,hK⟩:=h
 refine ⟨_,_,hK,?_⟩
 clear hK
 have hl0:=glq hid
 have hne:=aL hl0
 have hss:=bd hid
 have hcs:=ax hid
 have hcm:=fun cs=>@al H id cs hl0
 have hgm:=fun o=>@aB H id o hl0
 obtain ⟨Q,hQ⟩:∃ Q,gh (m,l,e)=Q:=⟨_,rfl⟩
 rw [hQ]
 unfold gh at hQ
 try dsimp only [rap,dD,rU,rT,rV,rB,nF] at hQ
 have hl0:=ca m l e 2
 have hm0:=co m l e 2
 generalize h0:cm (m,l,e) 2=q0 at *
 obtain ⟨v0,m0,l0,e0⟩:=q0
 dsimp only [rU,rV,rB] at hQ hl0 hm0
 have hl1:=ca m0 l0 e0 2
 have hm1:=co m0 l0 e0 2
 generalize h1:cm (m0,l0,e0) 2=q1 at *
 obtain ⟨v1,m1,l1,e1⟩:=q1
 dsimp only [rU,rV,rB] at hQ hl1 hm1
 replace hm1:=aJ hm0 hm1
 subst hQ
 dsimp only [az]
 refine ACalls.fW ag (tCq fG tNq) Tryz.func182 [.cell 2 81] (by simp only [zlf];omega) (T:=af []) (h:=fun hcl hlt=>?_)
 clear hlt
 have b0:l0.length≤100000:=by omega
 have b1:l1.length≤100000:=by omega
 simp only [go_sem,byq,hne,hid,hcs,hcm,hgm,onR,ah,ar,zmb,zlz,zlk,and_true,true_and,hid,onR,ah,az,vv,vc,gv,h0,b0,h1,b1]
 have hclz:(H.set id (.cells [.slice m1 1 (bys l1),.int .i64 e1])).Closed:=ap hid hcl m1 hm1 l1 e1
 refine ⟨hle,?_,by repeat first|exact .refl _|refine .push ?_ _,hclz,(fun x=>kv x) _⟩
 simp [wk,wk2,wkL,wk1,wkM,bx]
def qG:List AV→AHeap→(AEnd→AHeap→Prop)→Prop
 |[.ptr id 0,.agg [.int .i64 most,.func (.func f) [] [],.func (.func 182) [] []]],H,K=>onR H id fun m l e=>True∧K (.ret (.slice .any 2 ((rlP gh most (m,l,e)).1.map (bx)))) (H.set id (.cells (az (rlP gh most (m,l,e)).2)))
 |_,_,_=>False
theorem vC:EntOk Tryz.prog 83 (Ent.effect qG):=by
 refine EntOk.effect fun args H K h=>?_
 unfold qG at h
 split at h
 rotate_left
 ·exact h.elim
 rename_i id most f
 obtain ⟨m,l,e,hid,hle,h⟩:=bB h
 obtain ⟨hpre,hK⟩:=h
 refine ⟨_,_,hK,?_⟩
 clear hK
 have hl0:=glq hid
 have hne:=aL hl0
 have hss:=bd hid
 have hcs:=ax hid
 have hcm:=fun cs=>@al H id cs hl0
 have hgm:=fun o=>@aB H id o hl0
 have hl1:=dO m l e most
 have hm1:=dT m l e most
 have hc1:=eI (m,l,e) most
 obtain ⟨Q,hQ⟩:∃ Q,rlP gh most (m,l,e)=Q:=⟨_,rfl⟩
 rw [hQ]
 unfold rlP at hQ
 generalize h1:bq (m,l,e) most=q1 at *
 obtain ⟨cc,m1,l1,e1⟩:=q1
 dsimp only at hl1 hm1 hc1 hQ
 obtain ⟨kc,rfl⟩:∃ kc:Nat,cc=(kc:Int):=⟨cc.toNat,by omega⟩
 rw [iNq] at hQ
 obtain ⟨⟨GO,gs⟩,hG⟩:∃ G,goP gh kc (m1,l1,e1)=G:=⟨_,rfl⟩
 have hgo:=gb rdStg_go kc (m1,l1,e1)
 rw [hG] at hQ hgo
 obtain ⟨hg1,hg2,_⟩:=hgo
 obtain ⟨gm,gl,ge⟩:=gs
 dsimp only at hQ hg1 hg2
 subst hQ
 refine ACalls.fW ag (tCq dJ (tCq BI (tCq eJ tNq))) Tryz.func83 [.tmp 4] (by simp only [zlf];omega) (T:=af []) (h:=fun hcl hlt=>?_)
 clear hlt
 have b1:l1.length≤100000:=by omega
 simp only [dt,du,bhq,Nat.reduceMod,Nat.reduceDiv,bh,bg,bm,cz,bk,cy,cr,cx,cu,yaq,yar,yao,yap,go_sem,byq,hne,hid,hcs,hcm,hgm,onR,ah,ar,zmb,zlz,zlk,and_true,true_and,hid,dU,h1,b1,az]
 refine ⟨hle,?_⟩
 have hltC:ltL (H.nx+1) [.int .i64 most,.func (.func f) [] [],.func (.func 182) [] []]:=by simp [znu,znv,znf,bG]
 have hclL:∀ (s:RS) (k:Nat),cW m s.1→((((H.set id (.cells [.slice s.1 1 (bys s.2.1),.int .i64 s.2.2])).push (.cells [.int .i64 most,.func (.func f) [] [],.func (.func 182) [] []])).push (.buf 2 0)).push (.buf 2 k)).Closed:=fun s k hs=>aF (aF (aj (ap hid hcl s.1 hs s.2.1 s.2.2) (by simpa only [zlf] using hltC)))
 refine aq (A:=List SStage × RS) (fun x=>[(0,.ptr id 0),(3,.ptr H.nx 0),(5,.slice (.own (H.nx+1+1)) 2 (x.1.map (bx))),(10,.int .i64 (kc:Int)),(11,.int .i64 (x.1.length:Int))]) (fun x=>(((H.set id (.cells [.slice x.2.1 1 (bys x.2.2.1),.int .i64 x.2.2.2])).push (.cells [.int .i64 most,.func (.func f) [] [],.func (.func 182) [] []])).push (.buf 2 0)).push (.buf 2 x.1.length)) (fun x=>x.1.length≤kc∧((goP gh (kc - x.1.length) x.2).1.map (x.1++·),(goP gh (kc - x.1.length) x.2).2)=(GO,gm,gl,ge)∧x.2.2.1.length≤l1.length∧cW m x.2.1) (fun x=>kc - x.1.length) ([],(m1,l1,e1)) ⟨Nat.zero_le _,by rw [← hG];simp,nrq _,hm1⟩ ?_ fun x hx=>?_
 ·refine ⟨by simp only [zkq,zkv,zle,zlf];omega,by repeat first|exact .refl _|refine .push ?_ _,hclL (m1,l1,e1) 0 hm1,?_,?_⟩
  ·simp [ltF,znf,znn,aC,znv,zle,zlf]
   try omega
  ·simp [aM,wk2,wk1,wkM,Fr.get]
 obtain ⟨us,m2,l2,e2⟩:=x
 obtain ⟨hx1,hx2,hx3,hx4⟩:=hx
 dsimp only at hx1 hx2 hx3 hx4 ⊢
 have b2:l2.length≤100000:=by omega
 have ne1:(H.nx+1=id)=False:=eq_false (by omega)
 simp only [go_sem]
 refine ae (fun hc=>?_) (fun hc=>?_)
 ·have hk':us.length<kc:=by simp at hc;omega
  have e5:IntKind.i64.wrap ((us.length:Int)+1)=((us.length+1:Nat):Int):=by rw [wrap_i64]<;>omega
  have hu:goP gh (kc - us.length) (m2,l2,e2)=if (gh (m2,l2,e2)).2.2.2≠0 then (none,(gh (m2,l2,e2)).2) else ((goP gh (kc - (us.length+1)) (gh (m2,l2,e2)).2).1.map ((gh (m2,l2,e2)).1::·),(goP gh (kc - (us.length+1)) (gh (m2,l2,e2)).2).2):=by
   rw [show kc - us.length=(kc - (us.length+1))+1 by omega];rfl
  rw [hu] at hx2
  have hl3:=rdStg_go.l (m2,l2,e2)
  have hm3:=rdStg_go.m (m2,l2,e2)
  generalize hq3:gh (m2,l2,e2)=q3 at *
  obtain ⟨n3,m3,l3,e3⟩:=q3
  dsimp only at hl3 hm3 hx2
  have b3:l3.length≤100000:=by omega
  have hmm:cW m m3:=aJ hx4 hm3
  cases hz:(e3 != 0)
  ·have hz':e3=0:=by simpa using hz
   rw [if_neg (by rw [hz'];decide)] at hx2
   simp only [go_sem,byq,hne,hid,hcs,hcm,hgm,onR,ah,ar,zmb,zlz,zlk,and_true,true_and,hid,qB,cA,cg,hq3,hz,b2,b3,az,bx,e5,ybb]
   have hlen:(us++[n3]).length=us.length+1:=by simp
   refine ⟨⟨by omega,by omega,fun z hz=>by rw [List.mem_singleton] at hz;subst hz;rfl⟩,(us++[n3],(m3,l3,e3)),⟨by dsimp only;omega,?_,by dsimp only;omega,hmm⟩,by dsimp only;omega,?_⟩
   ·dsimp only
    rw [hlen,← hx2]
    generalize goP gh (kc - (us.length+1)) (m3,l3,e3)=q5
    obtain ⟨o,t⟩:=q5
    cases o
    ·rfl
    ·simp [List.append_assoc]
   ·refine ⟨by simp only [zle,zlf];omega,?_,hclL (m3,l3,e3) _ hmm,?_,?_⟩
    ·simp only [List.map_append,yae,yaf,bx,lAq,yaz,yba]
     repeat first|exact .refl _|refine .push ?_ _
    ·simp [ltF,znf,znn,aC,zle,zlf]
     refine ⟨by omega,by omega,ltL_iff.2 fun j hj=>?_⟩
     have hmem:=gMq hj
     rw [List.mem_append,List.mem_map,List.mem_singleton] at hmem
     rcases hmem with ⟨x,_,e⟩|e
     ·rw [← e];exact (fun x=>kv x) x
     ·rw [e];exact (fun x=>kv x) _
    ·simp [aM,wk2,wk1,wkM,Fr.get,bx]
  ·have hz':e3≠0:=by simpa using hz
   rw [if_pos hz'] at hx2
   simp only [Option.map,Prod.mk.injEq] at hx2
   obtain ⟨rfl,rfl,rfl,rfl⟩:=hx2
   simp only [go_sem,byq,hne,hid,hcs,hcm,hgm,onR,ah,ar,zmb,zlz,zlk,and_true,true_and,hid,qB,cA,cg,hq3,hz,b2,b3,az,bx,Option.getD_none,yaf]
   exact ⟨by simp [wk,wk2,wk1,wkM],by repeat first|exact .refl _|refine .push ?_ _,ap hid hcl _ hmm _ _,by simp [aC,znv]⟩
 ·have hk':us.length=kc:=by simp at hc;omega
  subst hk'
  rw [Nat.sub_self] at hx2
  simp only [goP,Option.map,yaj,Prod.mk.injEq] at hx2
  obtain ⟨rfl,rfl,rfl,rfl⟩:=hx2
  simp only [go_sem,byq,Option.getD_some]
  exact ⟨by simp [wk,wk2,wk1,wkM],by repeat first|exact .refl _|refine .push ?_ _,ap hid hcl _ hx4 _ _,aA (fun x=>kv x)⟩
def qx:List AV→AHeap→(AEnd→AHeap→Prop)→Prop
 |[.ptr id 0],H,K=>onR H id fun m l e=>True∧K (.ret (cP (gk (m,l,e)).1)) (H.set id (.cells (az (gk (m,l,e)).2)))
 |_,_,_=>False
theorem Ec:EntOk Tryz.prog 190 (Ent.effect qx):=by
 refine EntOk.effect fun args H K h=>?_
 unfold qx at h
 split at h
 rotate_left
 ·exact h.elim
 rename_i id
 obtain ⟨m,l,e,hid,hle,h⟩:=bB h
 obtain ⟨hpre,hK⟩:=h
 refine ⟨_,_,hK,?_⟩
 clear hK
 have hl0:=glq hid
 have hne:=aL hl0
 have hss:=bd hid
 have hcs:=ax hid
 have hcm:=fun cs=>@al H id cs hl0
 have hgm:=fun o=>@aB H id o hl0
 obtain ⟨Q,hQ⟩:∃ Q,gk (m,l,e)=Q:=⟨_,rfl⟩
 rw [hQ]
 unfold gk at hQ
 try dsimp only [rap,dD,rU,rT,rV,rB,nF] at hQ
 have hl0:=ca m l e 2
 have hm0:=co m l e 2
 generalize h0:cm (m,l,e) 2=q0 at *
 obtain ⟨v0,m0,l0,e0⟩:=q0
 dsimp only [rU,rV,rB] at hQ hl0 hm0
 have hl1:=ca m0 l0 e0 1
 have hm1:=co m0 l0 e0 1
 generalize h1:cm (m0,l0,e0) 1=q1 at *
 obtain ⟨v1,m1,l1,e1⟩:=q1
 dsimp only [rU,rV,rB] at hQ hl1 hm1
 replace hm1:=aJ hm0 hm1
 have hl2:=ca m1 l1 e1 2
 have hm2:=co m1 l1 e1 2
 generalize h2:cm (m1,l1,e1) 2=q2 at *
 obtain ⟨v2,m2,l2,e2⟩:=q2
 dsimp only [rU,rV,rB] at hQ hl2 hm2
 replace hm2:=aJ hm1 hm2
 have hl3:=ca m2 l2 e2 1
 have hm3:=co m2 l2 e2 1
 generalize h3:cm (m2,l2,e2) 1=q3 at *
 obtain ⟨v3,m3,l3,e3⟩:=q3
 dsimp only [rU,rV,rB] at hQ hl3 hm3
 replace hm3:=aJ hm2 hm3
 have hl4:=ca m3 l3 e3 2
 have hm4:=co m3 l3 e3 2
 generalize h4:cm (m3,l3,e3) 2=q4 at *
 obtain ⟨v4,m4,l4,e4⟩:=q4
 dsimp only [rU,rV,rB] at hQ hl4 hm4
 replace hm4:=aJ hm3 hm4
 have hl5:=ca m4 l4 e4 1
 have hm5:=co m4 l4 e4 1
 generalize h5:cm (m4,l4,e4) 1=q5 at *
 obtain ⟨v5,m5,l5,e5⟩:=q5
 dsimp only [rU,rV,rB] at hQ hl5 hm5
 replace hm5:=aJ hm4 hm5
 subst hQ
 dsimp only [az]
 refine ACalls.fW ag (tCq fG tNq) Tryz.func190 [.cell 2 83] (by simp only [zlf];omega) (T:=af []) (h:=fun hcl hlt=>?_)
 clear hlt
 have b0:l0.length≤100000:=by omega
 have b1:l1.length≤100000:=by omega
 have b2:l2.length≤100000:=by omega
 have b3:l3.length≤100000:=by omega
 have b4:l4.length≤100000:=by omega
 have b5:l5.length≤100000:=by omega
 simp only [go_sem,byq,hne,hid,hcs,hcm,hgm,onR,ah,ar,zmb,zlz,zlk,and_true,true_and,hid,onR,ah,az,vv,vc,gv,h0,b0,h1,b1,h2,b2,h3,b3,h4,b4,h5,b5]
 have hclz:(H.set id (.cells [.slice m5 1 (bys l5),.int .i64 e5])).Closed:=ap hid hcl m5 hm5 l5 e5
 refine ⟨hle,?_,by repeat first|exact .refl _|refine .push ?_ _,hclz,(fun x=>mq x) _⟩
 simp [wk,wk2,wkL,wk1,wkM,cP]
def qt:List AV→AHeap→(AEnd→AHeap→Prop)→Prop
 |[.ptr id 0,.agg [.int .i64 most,.func (.func f) [] [],.func (.func 190) [] []]],H,K=>onR H id fun m l e=>True∧K (.ret (.slice .any 6 ((rlP gk most (m,l,e)).1.map (cP)))) (H.set id (.cells (az (rlP gk most (m,l,e)).2)))
 |_,_,_=>False
theorem vw:EntOk Tryz.prog 85 (Ent.effect qt):=by
 refine EntOk.effect fun args H K h=>?_
 unfold qt at h
 split at h
 rotate_left
 ·exact h.elim
 rename_i id most f
 obtain ⟨m,l,e,hid,hle,h⟩:=bB h
 obtain ⟨hpre,hK⟩:=h
 refine ⟨_,_,hK,?_⟩
 clear hK
 have hl0:=glq hid
 have hne:=aL hl0
 have hss:=bd hid
 have hcs:=ax hid
 have hcm:=fun cs=>@al H id cs hl0
 have hgm:=fun o=>@aB H id o hl0
 have hl1:=dO m l e most
 have hm1:=dT m l e most
 have hc1:=eI (m,l,e) most
 obtain ⟨Q,hQ⟩:∃ Q,rlP gk most (m,l,e)=Q:=⟨_,rfl⟩
 rw [hQ]
 unfold rlP at hQ
 generalize h1:bq (m,l,e) most=q1 at *
 obtain ⟨cc,m1,l1,e1⟩:=q1
 dsimp only at hl1 hm1 hc1 hQ
 obtain ⟨kc,rfl⟩:∃ kc:Nat,cc=(kc:Int):=⟨cc.toNat,by omega⟩
 rw [iNq] at hQ
 obtain ⟨⟨GO,gs⟩,hG⟩:∃ G,goP gk kc (m1,l1,e1)=G:=⟨_,rfl⟩
 have hgo:=gb rdRef_go kc (m1,l1,e1)
 rw [hG] at hQ hgo
 obtain ⟨hg1,hg2,_⟩:=hgo
 obtain ⟨gm,gl,ge⟩:=gs
 dsimp only at hQ hg1 hg2
 subst hQ
 refine ACalls.fW ag (tCq dJ (tCq Ec (tCq eJ tNq))) Tryz.func85 [.tmp 4] (by simp only [zlf];omega) (T:=af []) (h:=fun hcl hlt=>?_)
 clear hlt
 have b1:l1.length≤100000:=by omega
 simp only [dt,du,bhq,Nat.reduceMod,Nat.reduceDiv,bh,bg,bm,cz,bk,cy,cr,cx,cu,yaq,yar,yao,yap,go_sem,byq,hne,hid,hcs,hcm,hgm,onR,ah,ar,zmb,zlz,zlk,and_true,true_and,hid,dU,h1,b1,az]
 refine ⟨hle,?_⟩
 have hltC:ltL (H.nx+1) [.int .i64 most,.func (.func f) [] [],.func (.func 190) [] []]:=by simp [znu,znv,znf,bG]
 have hclL:∀ (s:RS) (k:Nat),cW m s.1→((((H.set id (.cells [.slice s.1 1 (bys s.2.1),.int .i64 s.2.2])).push (.cells [.int .i64 most,.func (.func f) [] [],.func (.func 190) [] []])).push (.buf 6 0)).push (.buf 6 k)).Closed:=fun s k hs=>aF (aF (aj (ap hid hcl s.1 hs s.2.1 s.2.2) (by simpa only [zlf] using hltC)))
 refine aq (A:=List SRef × RS) (fun x=>[(0,.ptr id 0),(3,.ptr H.nx 0),(5,.slice (.own (H.nx+1+1)) 6 (x.1.map (cP))),(10,.int .i64 (kc:Int)),(11,.int .i64 (x.1.length:Int))]) (fun x=>(((H.set id (.cells [.slice x.2.1 1 (bys x.2.2.1),.int .i64 x.2.2.2])).push (.cells [.int .i64 most,.func (.func f) [] [],.func (.func 190) [] []])).push (.buf 6 0)).push (.buf 6 x.1.length)) (fun x=>x.1.length≤kc∧((goP gk (kc - x.1.length) x.2).1.map (x.1++·),(goP gk (kc - x.1.length) x.2).2)=(GO,gm,gl,ge)∧x.2.2.1.length≤l1.length∧cW m x.2.1) (fun x=>kc - x.1.length) ([],(m1,l1,e1)) ⟨Nat.zero_le _,by rw [← hG];simp,nrq _,hm1⟩ ?_ fun x hx=>?_
 ·refine ⟨by simp only [zkq,zkv,zle,zlf];omega,by repeat first|exact .refl _|refine .push ?_ _,hclL (m1,l1,e1) 0 hm1,?_,?_⟩
  ·simp [ltF,znf,znn,aC,znv,zle,zlf]
   try omega
  ·simp [aM,wk2,wk1,wkM,Fr.get]
 obtain ⟨us,m2,l2,e2⟩:=x
 obtain ⟨hx1,hx2,hx3,hx4⟩:=hx
 dsimp only at hx1 hx2 hx3 hx4 ⊢
 have b2:l2.length≤100000:=by omega
 have ne1:(H.nx+1=id)=False:=eq_false (by omega)
 simp only [go_sem]
 refine ae (fun hc=>?_) (fun hc=>?_)
 ·have hk':us.length<kc:=by simp at hc;omega
  have e5:IntKind.i64.wrap ((us.length:Int)+1)=((us.length+1:Nat):Int):=by rw [wrap_i64]<;>omega
  have hu:goP gk (kc - us.length) (m2,l2,e2)=if (gk (m2,l2,e2)).2.2.2≠0 then (none,(gk (m2,l2,e2)).2) else ((goP gk (kc - (us.length+1)) (gk (m2,l2,e2)).2).1.map ((gk (m2,l2,e2)).1::·),(goP gk (kc - (us.length+1)) (gk (m2,l2,e2)).2).2):=by
   rw [show kc - us.length=(kc - (us.length+1))+1 by omega];rfl
  rw [hu] at hx2
  have hl3:=rdRef_go.l (m2,l2,e2)
  have hm3:=rdRef_go.m (m2,l2,e2)
  generalize hq3:gk (m2,l2,e2)=q3 at *
  obtain ⟨n3,m3,l3,e3⟩:=q3
  dsimp only at hl3 hm3 hx2
  have b3:l3.length≤100000:=by omega
  have hmm:cW m m3:=aJ hx4 hm3
  cases hz:(e3 != 0)
  ·have hz':e3=0:=by simpa using hz
   rw [if_neg (by rw [hz'];decide)] at hx2
   simp only [go_sem,byq,hne,hid,hcs,hcm,hgm,onR,ah,ar,zmb,zlz,zlk,and_true,true_and,hid,qx,cA,cg,hq3,hz,b2,b3,az,cP,e5,ybb]
   have hlen:(us++[n3]).length=us.length+1:=by simp
   refine ⟨⟨by omega,by omega,fun z hz=>by rw [List.mem_singleton] at hz;subst hz;rfl⟩,(us++[n3],(m3,l3,e3)),⟨by dsimp only;omega,?_,by dsimp only;omega,hmm⟩,by dsimp only;omega,?_⟩
   ·dsimp only
    rw [hlen,← hx2]
    generalize goP gk (kc - (us.length+1)) (m3,l3,e3)=q5
    obtain ⟨o,t⟩:=q5
    cases o
    ·rfl
    ·simp [List.append_assoc]
   ·refine ⟨by simp only [zle,zlf];omega,?_,hclL (m3,l3,e3) _ hmm,?_,?_⟩
    ·simp only [List.map_append,yae,yaf,cP,lAq,yaz,yba]
     repeat first|exact .refl _|refine .push ?_ _
    ·simp [ltF,znf,znn,aC,zle,zlf]
     refine ⟨by omega,by omega,ltL_iff.2 fun j hj=>?_⟩
     have hmem:=gMq hj
     rw [List.mem_append,List.mem_map,List.mem_singleton] at hmem
     rcases hmem with ⟨x,_,e⟩|e
     ·rw [← e];exact (fun x=>mq x) x
     ·rw [e];exact (fun x=>mq x) _
    ·simp [aM,wk2,wk1,wkM,Fr.get,cP]
  ·have hz':e3≠0:=by simpa using hz
   rw [if_pos hz'] at hx2
   simp only [Option.map,Prod.mk.injEq] at hx2
   obtain ⟨rfl,rfl,rfl,rfl⟩:=hx2
   simp only [go_sem,byq,hne,hid,hcs,hcm,hgm,onR,ah,ar,zmb,zlz,zlk,and_true,true_and,hid,qx,cA,cg,hq3,hz,b2,b3,az,cP,Option.getD_none,yaf]
   exact ⟨by simp [wk,wk2,wk1,wkM],by repeat first|exact .refl _|refine .push ?_ _,ap hid hcl _ hmm _ _,by simp [aC,znv]⟩
 ·have hk':us.length=kc:=by simp at hc;omega
  subst hk'
  rw [Nat.sub_self] at hx2
  simp only [goP,Option.map,yaj,Prod.mk.injEq] at hx2
  obtain ⟨rfl,rfl,rfl,rfl⟩:=hx2
  simp only [go_sem,byq,Option.getD_some]
  exact ⟨by simp [wk,wk2,wk1,wkM],by repeat first|exact .refl _|refine .push ?_ _,ap hid hcl _ hx4 _ _,aA (fun x=>mq x)⟩
def qk:List AV→AHeap→(AEnd→AHeap→Prop)→Prop
 |[.ptr id 0],H,K=>onR H id fun m l e=>True∧K (.ret (bc ((fe LP) (m,l,e)).1)) (H.set id (.cells (az ((fe LP) (m,l,e)).2)))
 |_,_,_=>False
theorem Ca:EntOk Tryz.prog 158 (Ent.effect qk):=by
 refine EntOk.effect fun args H K h=>?_
 unfold qk at h
 split at h
 rotate_left
 ·exact h.elim
 rename_i id
 obtain ⟨m,l,e,hid,hle,h⟩:=bB h
 obtain ⟨hpre,hK⟩:=h
 refine ⟨_,_,hK,?_⟩
 clear hK
 have hl0:=glq hid
 have hne:=aL hl0
 have hss:=bd hid
 have hcs:=ax hid
 have hcm:=fun cs=>@al H id cs hl0
 have hgm:=fun o=>@aB H id o hl0
 obtain ⟨Q,hQ⟩:∃ Q,(fe LP) (m,l,e)=Q:=⟨_,rfl⟩
 rw [hQ]
 unfold fe at hQ
 try dsimp only [rap,dD,rU,rT,rV,rB,nF] at hQ
 have hl0:=ca m l e 2
 have hm0:=co m l e 2
 generalize h0:cm (m,l,e) 2=q0 at *
 obtain ⟨v0,m0,l0,e0⟩:=q0
 dsimp only [rU,rV,rB] at hQ hl0 hm0
 have hl1:=jE m0 l0 e0 24
 have hm1:=jC m0 l0 e0 24
 generalize h1:eD (m0,l0,e0) 24=q1 at *
 obtain ⟨v1,m1,l1,e1⟩:=q1
 dsimp only [rU,rV,rB] at hQ hl1 hm1
 replace hm1:=aJ hm0 hm1
 have hl2:=(dw (ff 2) 32).l (m1,l1,e1)
 have hm2:=(dw (ff 2) 32).m (m1,l1,e1)
 generalize h2:rlP (rU 2) 32 (m1,l1,e1)=q2 at *
 obtain ⟨v2,m2,l2,e2⟩:=q2
 dsimp only [rU,rV,rB] at hQ hl2 hm2
 replace hm2:=aJ hm1 hm2
 subst hQ
 dsimp only [az]
 refine ACalls.fW ag (tCq fG (tCq km (tCq lC (tCq qM tNq)))) Tryz.func158 [.cell 2 75] (by simp only [zlf];omega) (T:=af []) (h:=fun hcl hlt=>?_)
 clear hlt
 have b0:l0.length≤100000:=by omega
 have b1:l1.length≤100000:=by omega
 have b2:l2.length≤100000:=by omega
 simp only [go_sem,byq,hne,hid,hcs,hcm,hgm,onR,ah,ar,zmb,zlz,zlk,and_true,true_and,hid,onR,ah,az,vv,vc,gv,j7,cX,aP,nT,h0,b0,h1,b1,h2,b2]
 have hclz:(H.set id (.cells [.slice m2 1 (bys l2),.int .i64 e2])).Closed:=ap hid hcl m2 hm2 l2 e2
 refine ⟨hle,?_,by repeat first|exact .refl _|refine .push ?_ _,hclz,(fun x=>fm x) _⟩
 simp [wk,wk2,wkL,wk1,wkM,bc,inL,boL]
def qv:List AV→AHeap→(AEnd→AHeap→Prop)→Prop
 |[.ptr id 0,.agg [.int .i64 most,.func (.func f) [] [],.func (.func 158) [] []]],H,K=>onR H id fun m l e=>True∧K (.ret (.slice .any 3 ((rlP (fe LP) most (m,l,e)).1.map (bc)))) (H.set id (.cells (az (rlP (fe LP) most (m,l,e)).2)))
 |_,_,_=>False
theorem vM:EntOk Tryz.prog 79 (Ent.effect qv):=by
 refine EntOk.effect fun args H K h=>?_
 unfold qv at h
 split at h
 rotate_left
 ·exact h.elim
 rename_i id most f
 obtain ⟨m,l,e,hid,hle,h⟩:=bB h
 obtain ⟨hpre,hK⟩:=h
 refine ⟨_,_,hK,?_⟩
 clear hK
 have hl0:=glq hid
 have hne:=aL hl0
 have hss:=bd hid
 have hcs:=ax hid
 have hcm:=fun cs=>@al H id cs hl0
 have hgm:=fun o=>@aB H id o hl0
 have hl1:=dO m l e most
 have hm1:=dT m l e most
 have hc1:=eI (m,l,e) most
 obtain ⟨Q,hQ⟩:∃ Q,rlP (fe LP) most (m,l,e)=Q:=⟨_,rfl⟩
 rw [hQ]
 unfold rlP at hQ
 generalize h1:bq (m,l,e) most=q1 at *
 obtain ⟨cc,m1,l1,e1⟩:=q1
 dsimp only at hl1 hm1 hc1 hQ
 obtain ⟨kc,rfl⟩:∃ kc:Nat,cc=(kc:Int):=⟨cc.toNat,by omega⟩
 rw [iNq] at hQ
 obtain ⟨⟨GO,gs⟩,hG⟩:∃ G,goP (fe LP) kc (m1,l1,e1)=G:=⟨_,rfl⟩
 have hgo:=gb (dN gn) kc (m1,l1,e1)
 rw [hG] at hQ hgo
 obtain ⟨hg1,hg2,_⟩:=hgo
 obtain ⟨gm,gl,ge⟩:=gs
 dsimp only at hQ hg1 hg2
 subst hQ
 refine ACalls.fW ag (tCq dJ (tCq Ca (tCq eJ tNq))) Tryz.func79 [.tmp 4] (by simp only [zlf];omega) (T:=af []) (h:=fun hcl hlt=>?_)
 clear hlt
 have b1:l1.length≤100000:=by omega
 simp only [dt,du,bhq,Nat.reduceMod,Nat.reduceDiv,bh,bg,bm,cz,bk,cy,cr,cx,cu,yaq,yar,yao,yap,go_sem,byq,hne,hid,hcs,hcm,hgm,onR,ah,ar,zmb,zlz,zlk,and_true,true_and,hid,dU,h1,b1,az]
 refine ⟨hle,?_⟩
 have hltC:ltL (H.nx+1) [.int .i64 most,.func (.func f) [] [],.func (.func 158) [] []]:=by simp [znu,znv,znf,bG]
 have hclL:∀ (s:RS) (k:Nat),cW m s.1→((((H.set id (.cells [.slice s.1 1 (bys s.2.1),.int .i64 s.2.2])).push (.cells [.int .i64 most,.func (.func f) [] [],.func (.func 158) [] []])).push (.buf 3 0)).push (.buf 3 k)).Closed:=fun s k hs=>aF (aF (aj (ap hid hcl s.1 hs s.2.1 s.2.2) (by simpa only [zlf] using hltC)))
 refine aq (A:=List SHeader × RS) (fun x=>[(0,.ptr id 0),(3,.ptr H.nx 0),(5,.slice (.own (H.nx+1+1)) 3 (x.1.map (bc))),(10,.int .i64 (kc:Int)),(11,.int .i64 (x.1.length:Int))]) (fun x=>(((H.set id (.cells [.slice x.2.1 1 (bys x.2.2.1),.int .i64 x.2.2.2])).push (.cells [.int .i64 most,.func (.func f) [] [],.func (.func 158) [] []])).push (.buf 3 0)).push (.buf 3 x.1.length)) (fun x=>x.1.length≤kc∧((goP (fe LP) (kc - x.1.length) x.2).1.map (x.1++·),(goP (fe LP) (kc - x.1.length) x.2).2)=(GO,gm,gl,ge)∧x.2.2.1.length≤l1.length∧cW m x.2.1) (fun x=>kc - x.1.length) ([],(m1,l1,e1)) ⟨Nat.zero_le _,by rw [← hG];simp,nrq _,hm1⟩ ?_ fun x hx=>?_
 ·refine ⟨by simp only [zkq,zkv,zle,zlf];omega,by repeat first|exact .refl _|refine .push ?_ _,hclL (m1,l1,e1) 0 hm1,?_,?_⟩
  ·simp [ltF,znf,znn,aC,znv,zle,zlf]
   try omega
  ·simp [aM,wk2,wk1,wkM,Fr.get]
 obtain ⟨us,m2,l2,e2⟩:=x
 obtain ⟨hx1,hx2,hx3,hx4⟩:=hx
 dsimp only at hx1 hx2 hx3 hx4 ⊢
 have b2:l2.length≤100000:=by omega
 have ne1:(H.nx+1=id)=False:=eq_false (by omega)
 simp only [go_sem]
 refine ae (fun hc=>?_) (fun hc=>?_)
 ·have hk':us.length<kc:=by simp at hc;omega
  have e5:IntKind.i64.wrap ((us.length:Int)+1)=((us.length+1:Nat):Int):=by rw [wrap_i64]<;>omega
  have hu:goP (fe LP) (kc - us.length) (m2,l2,e2)=if ((fe LP) (m2,l2,e2)).2.2.2≠0 then (none,((fe LP) (m2,l2,e2)).2) else ((goP (fe LP) (kc - (us.length+1)) ((fe LP) (m2,l2,e2)).2).1.map (((fe LP) (m2,l2,e2)).1::·),(goP (fe LP) (kc - (us.length+1)) ((fe LP) (m2,l2,e2)).2).2):=by
   rw [show kc - us.length=(kc - (us.length+1))+1 by omega];rfl
  rw [hu] at hx2
  have hl3:=(dN gn).l (m2,l2,e2)
  have hm3:=(dN gn).m (m2,l2,e2)
  generalize hq3:(fe LP) (m2,l2,e2)=q3 at *
  obtain ⟨n3,m3,l3,e3⟩:=q3
  dsimp only at hl3 hm3 hx2
  have b3:l3.length≤100000:=by omega
  have hmm:cW m m3:=aJ hx4 hm3
  cases hz:(e3 != 0)
  ·have hz':e3=0:=by simpa using hz
   rw [if_neg (by rw [hz'];decide)] at hx2
   simp only [go_sem,byq,hne,hid,hcs,hcm,hgm,onR,ah,ar,zmb,zlz,zlk,and_true,true_and,hid,qk,cA,cg,hq3,hz,b2,b3,az,bc,e5,ybb]
   have hlen:(us++[n3]).length=us.length+1:=by simp
   refine ⟨⟨by omega,by omega,fun z hz=>by rw [List.mem_singleton] at hz;subst hz;rfl⟩,(us++[n3],(m3,l3,e3)),⟨by dsimp only;omega,?_,by dsimp only;omega,hmm⟩,by dsimp only;omega,?_⟩
   ·dsimp only
    rw [hlen,← hx2]
    generalize goP (fe LP) (kc - (us.length+1)) (m3,l3,e3)=q5
    obtain ⟨o,t⟩:=q5
    cases o
    ·rfl
    ·simp [List.append_assoc]
   ·refine ⟨by simp only [zle,zlf];omega,?_,hclL (m3,l3,e3) _ hmm,?_,?_⟩
    ·simp only [List.map_append,yae,yaf,bc,lAq,yaz,yba]
     repeat first|exact .refl _|refine .push ?_ _
    ·simp [ltF,znf,znn,aC,zle,zlf]
     refine ⟨by omega,by omega,ltL_iff.2 fun j hj=>?_⟩
     have hmem:=gMq hj
     rw [List.mem_append,List.mem_map,List.mem_singleton] at hmem
     rcases hmem with ⟨x,_,e⟩|e
     ·rw [← e];exact (fun x=>fm x) x
     ·rw [e];exact (fun x=>fm x) _
    ·simp [aM,wk2,wk1,wkM,Fr.get,bc]
  ·have hz':e3≠0:=by simpa using hz
   rw [if_pos hz'] at hx2
   simp only [Option.map,Prod.mk.injEq] at hx2
   obtain ⟨rfl,rfl,rfl,rfl⟩:=hx2
   simp only [go_sem,byq,hne,hid,hcs,hcm,hgm,onR,ah,ar,zmb,zlz,zlk,and_true,true_and,hid,qk,cA,cg,hq3,hz,b2,b3,az,bc,Option.getD_none,yaf]
   exact ⟨by simp [wk,wk2,wk1,wkM],by repeat first|exact .refl _|refine .push ?_ _,ap hid hcl _ hmm _ _,by simp [aC,znv]⟩
 ·have hk':us.length=kc:=by simp at hc;omega
  subst hk'
  rw [Nat.sub_self] at hx2
  simp only [goP,Option.map,yaj,Prod.mk.injEq] at hx2
  obtain ⟨rfl,rfl,rfl,rfl⟩:=hx2
  simp only [go_sem,byq,Option.getD_some]
  exact ⟨by simp [wk,wk2,wk1,wkM],by repeat first|exact .refl _|refine .push ?_ _,ap hid hcl _ hx4 _ _,aA (fun x=>fm x)⟩
def qD:List AV→AHeap→(AEnd→AHeap→Prop)→Prop
 |[.ptr id 0],H,K=>onR H id fun m l e=>True∧K (.ret (a0 ((fb LP) (m,l,e)).1)) (H.set id (.cells (az ((fb LP) (m,l,e)).2)))
 |_,_,_=>False
theorem DN:EntOk Tryz.prog 163 (Ent.effect qD):=by
 refine EntOk.effect fun args H K h=>?_
 unfold qD at h
 split at h
 rotate_left
 ·exact h.elim
 rename_i id
 obtain ⟨m,l,e,hid,hle,h⟩:=bB h
 obtain ⟨hpre,hK⟩:=h
 refine ⟨_,_,hK,?_⟩
 clear hK
 have hl0:=glq hid
 have hne:=aL hl0
 have hss:=bd hid
 have hcs:=ax hid
 have hcm:=fun cs=>@al H id cs hl0
 have hgm:=fun o=>@aB H id o hl0
 obtain ⟨Q,hQ⟩:∃ Q,(fb LP) (m,l,e)=Q:=⟨_,rfl⟩
 rw [hQ]
 unfold fb at hQ
 try dsimp only [rap,dD,rU,rT,rV,rB,nF] at hQ
 have hl0:=ca m l e 2
 have hm0:=co m l e 2
 generalize h0:cm (m,l,e) 2=q0 at *
 obtain ⟨v0,m0,l0,e0⟩:=q0
 dsimp only [rU,rV,rB] at hQ hl0 hm0
 have hl1:=ca m0 l0 e0 2
 have hm1:=co m0 l0 e0 2
 generalize h1:cm (m0,l0,e0) 2=q1 at *
 obtain ⟨v1,m1,l1,e1⟩:=q1
 dsimp only [rU,rV,rB] at hQ hl1 hm1
 replace hm1:=aJ hm0 hm1
 have hl2:=ca m1 l1 e1 2
 have hm2:=co m1 l1 e1 2
 generalize h2:cm (m1,l1,e1) 2=q2 at *
 obtain ⟨v2,m2,l2,e2⟩:=q2
 dsimp only [rU,rV,rB] at hQ hl2 hm2
 replace hm2:=aJ hm1 hm2
 have hl3:=(dw rdCas_go 6).l (m2,l2,e2)
 have hm3:=(dw rdCas_go 6).m (m2,l2,e2)
 generalize h3:rlP gg 6 (m2,l2,e2)=q3 at *
 obtain ⟨v3,m3,l3,e3⟩:=q3
 dsimp only [rU,rV,rB] at hQ hl3 hm3
 replace hm3:=aJ hm2 hm3
 have hl4:=ca m3 l3 e3 2
 have hm4:=co m3 l3 e3 2
 generalize h4:cm (m3,l3,e3) 2=q4 at *
 obtain ⟨v4,m4,l4,e4⟩:=q4
 dsimp only [rU,rV,rB] at hQ hl4 hm4
 replace hm4:=aJ hm3 hm4
 subst hQ
 dsimp only [az]
 refine ACalls.fW ag (tCq fG (tCq wo (tCq CH tNq))) Tryz.func163 [.cell 2 147] (by simp only [zlf];omega) (T:=af []) (h:=fun hcl hlt=>?_)
 clear hlt
 have b0:l0.length≤100000:=by omega
 have b1:l1.length≤100000:=by omega
 have b2:l2.length≤100000:=by omega
 have b3:l3.length≤100000:=by omega
 have b4:l4.length≤100000:=by omega
 simp only [go_sem,byq,hne,hid,hcs,hcm,hgm,onR,ah,ar,zmb,zlz,zlk,and_true,true_and,hid,onR,ah,az,vv,vc,gv,j8,aP,tM,h0,b0,h1,b1,h2,b2,h3,b3,h4,b4]
 have hclz:(H.set id (.cells [.slice m4 1 (bys l4),.int .i64 e4])).Closed:=ap hid hcl m4 hm4 l4 e4
 refine ⟨hle,?_,by repeat first|exact .refl _|refine .push ?_ _,hclz,(fun x=>gc x) _⟩
 simp [wk,wk2,wkL,wk1,wkM,a0,inL,boL]
def qe:List AV→AHeap→(AEnd→AHeap→Prop)→Prop
 |[.ptr id 0,.agg [.int .i64 most,.func (.func f) [] [],.func (.func 163) [] []]],H,K=>onR H id fun m l e=>True∧K (.ret (.slice .any 5 ((rlP (fb LP) most (m,l,e)).1.map (a0)))) (H.set id (.cells (az (rlP (fb LP) most (m,l,e)).2)))
 |_,_,_=>False
theorem vq:EntOk Tryz.prog 80 (Ent.effect qe):=by
 refine EntOk.effect fun args H K h=>?_
 unfold qe at h
 split at h
 rotate_left
 ·exact h.elim
 rename_i id most f
 obtain ⟨m,l,e,hid,hle,h⟩:=bB h
 obtain ⟨hpre,hK⟩:=h
 refine ⟨_,_,hK,?_⟩
 clear hK
 have hl0:=glq hid
 have hne:=aL hl0
 have hss:=bd hid
 have hcs:=ax hid
 have hcm:=fun cs=>@al H id cs hl0
 have hgm:=fun o=>@aB H id o hl0
 have hl1:=dO m l e most
 have hm1:=dT m l e most
 have hc1:=eI (m,l,e) most
 obtain ⟨Q,hQ⟩:∃ Q,rlP (fb LP) most (m,l,e)=Q:=⟨_,rfl⟩
 rw [hQ]
 unfold rlP at hQ
 generalize h1:bq (m,l,e) most=q1 at *
 obtain ⟨cc,m1,l1,e1⟩:=q1
 dsimp only at hl1 hm1 hc1 hQ
 obtain ⟨kc,rfl⟩:∃ kc:Nat,cc=(kc:Int):=⟨cc.toNat,by omega⟩
 rw [iNq] at hQ
 obtain ⟨⟨GO,gs⟩,hG⟩:∃ G,goP (fb LP) kc (m1,l1,e1)=G:=⟨_,rfl⟩
 have hgo:=gb (ep gn) kc (m1,l1,e1)
 rw [hG] at hQ hgo
 obtain ⟨hg1,hg2,_⟩:=hgo
 obtain ⟨gm,gl,ge⟩:=gs
 dsimp only at hQ hg1 hg2
 subst hQ
 refine ACalls.fW ag (tCq dJ (tCq DN (tCq eJ tNq))) Tryz.func80 [.tmp 4] (by simp only [zlf];omega) (T:=af []) (h:=fun hcl hlt=>?_)
 clear hlt
 have b1:l1.length≤100000:=by omega
 simp only [dt,du,bhq,Nat.reduceMod,Nat.reduceDiv,bh,bg,bm,cz,bk,cy,cr,cx,cu,yaq,yar,yao,yap,go_sem,byq,hne,hid,hcs,hcm,hgm,onR,ah,ar,zmb,zlz,zlk,and_true,true_and,hid,dU,h1,b1,az]
 refine ⟨hle,?_⟩
 have hltC:ltL (H.nx+1) [.int .i64 most,.func (.func f) [] [],.func (.func 163) [] []]:=by simp [znu,znv,znf,bG]
 have hclL:∀ (s:RS) (k:Nat),cW m s.1→((((H.set id (.cells [.slice s.1 1 (bys s.2.1),.int .i64 s.2.2])).push (.cells [.int .i64 most,.func (.func f) [] [],.func (.func 163) [] []])).push (.buf 5 0)).push (.buf 5 k)).Closed:=fun s k hs=>aF (aF (aj (ap hid hcl s.1 hs s.2.1 s.2.2) (by simpa only [zlf] using hltC)))
 refine aq (A:=List SState × RS) (fun x=>[(0,.ptr id 0),(3,.ptr H.nx 0),(5,.slice (.own (H.nx+1+1)) 5 (x.1.map (a0))),(10,.int .i64 (kc:Int)),(11,.int .i64 (x.1.length:Int))]) (fun x=>(((H.set id (.cells [.slice x.2.1 1 (bys x.2.2.1),.int .i64 x.2.2.2])).push (.cells [.int .i64 most,.func (.func f) [] [],.func (.func 163) [] []])).push (.buf 5 0)).push (.buf 5 x.1.length)) (fun x=>x.1.length≤kc∧((goP (fb LP) (kc - x.1.length) x.2).1.map (x.1++·),(goP (fb LP) (kc - x.1.length) x.2).2)=(GO,gm,gl,ge)∧x.2.2.1.length≤l1.length∧cW m x.2.1) (fun x=>kc - x.1.length) ([],(m1,l1,e1)) ⟨Nat.zero_le _,by rw [← hG];simp,nrq _,hm1⟩ ?_ fun x hx=>?_
 ·refine ⟨by simp only [zkq,zkv,zle,zlf];omega,by repeat first|exact .refl _|refine .push ?_ _,hclL (m1,l1,e1) 0 hm1,?_,?_⟩
  ·simp [ltF,znf,znn,aC,znv,zle,zlf]
   try omega
  ·simp [aM,wk2,wk1,wkM,Fr.get]
 obtain ⟨us,m2,l2,e2⟩:=x
 obtain ⟨hx1,hx2,hx3,hx4⟩:=hx
 dsimp only at hx1 hx2 hx3 hx4 ⊢
 have b2:l2.length≤100000:=by omega
 have ne1:(H.nx+1=id)=False:=eq_false (by omega)
 simp only [go_sem]
 refine ae (fun hc=>?_) (fun hc=>?_)
 ·have hk':us.length<kc:=by simp at hc;omega
  have e5:IntKind.i64.wrap ((us.length:Int)+1)=((us.length+1:Nat):Int):=by rw [wrap_i64]<;>omega
  have hu:goP (fb LP) (kc - us.length) (m2,l2,e2)=if ((fb LP) (m2,l2,e2)).2.2.2≠0 then (none,((fb LP) (m2,l2,e2)).2) else ((goP (fb LP) (kc - (us.length+1)) ((fb LP) (m2,l2,e2)).2).1.map (((fb LP) (m2,l2,e2)).1::·),(goP (fb LP) (kc - (us.length+1)) ((fb LP) (m2,l2,e2)).2).2):=by
   rw [show kc - us.length=(kc - (us.length+1))+1 by omega];rfl
  rw [hu] at hx2
  have hl3:=(ep gn).l (m2,l2,e2)
  have hm3:=(ep gn).m (m2,l2,e2)
  generalize hq3:(fb LP) (m2,l2,e2)=q3 at *
  obtain ⟨n3,m3,l3,e3⟩:=q3
  dsimp only at hl3 hm3 hx2
  have b3:l3.length≤100000:=by omega
  have hmm:cW m m3:=aJ hx4 hm3
  cases hz:(e3 != 0)
  ·have hz':e3=0:=by simpa using hz
   rw [if_neg (by rw [hz'];decide)] at hx2
   simp only [go_sem,byq,hne,hid,hcs,hcm,hgm,onR,ah,ar,zmb,zlz,zlk,and_true,true_and,hid,qD,cA,cg,hq3,hz,b2,b3,az,a0,e5,ybb]
   have hlen:(us++[n3]).length=us.length+1:=by simp
   refine ⟨⟨by omega,by omega,fun z hz=>by rw [List.mem_singleton] at hz;subst hz;rfl⟩,(us++[n3],(m3,l3,e3)),⟨by dsimp only;omega,?_,by dsimp only;omega,hmm⟩,by dsimp only;omega,?_⟩
   ·dsimp only
    rw [hlen,← hx2]
    generalize goP (fb LP) (kc - (us.length+1)) (m3,l3,e3)=q5
    obtain ⟨o,t⟩:=q5
    cases o
    ·rfl
    ·simp [List.append_assoc]
   ·refine ⟨by simp only [zle,zlf];omega,?_,hclL (m3,l3,e3) _ hmm,?_,?_⟩
    ·simp only [List.map_append,yae,yaf,a0,lAq,yaz,yba]
     repeat first|exact .refl _|refine .push ?_ _
    ·simp [ltF,znf,znn,aC,zle,zlf]
     refine ⟨by omega,by omega,ltL_iff.2 fun j hj=>?_⟩
     have hmem:=gMq hj
     rw [List.mem_append,List.mem_map,List.mem_singleton] at hmem
     rcases hmem with ⟨x,_,e⟩|e
     ·rw [← e];exact (fun x=>gc x) x
     ·rw [e];exact (fun x=>gc x) _
    ·simp [aM,wk2,wk1,wkM,Fr.get,a0]
  ·have hz':e3≠0:=by simpa using hz
   rw [if_pos hz'] at hx2
   simp only [Option.map,Prod.mk.injEq] at hx2
   obtain ⟨rfl,rfl,rfl,rfl⟩:=hx2
   simp only [go_sem,byq,hne,hid,hcs,hcm,hgm,onR,ah,ar,zmb,zlz,zlk,and_true,true_and,hid,qD,cA,cg,hq3,hz,b2,b3,az,a0,Option.getD_none,yaf]
   exact ⟨by simp [wk,wk2,wk1,wkM],by repeat first|exact .refl _|refine .push ?_ _,ap hid hcl _ hmm _ _,by simp [aC,znv]⟩
 ·have hk':us.length=kc:=by simp at hc;omega
  subst hk'
  rw [Nat.sub_self] at hx2
  simp only [goP,Option.map,yaj,Prod.mk.injEq] at hx2
  obtain ⟨rfl,rfl,rfl,rfl⟩:=hx2
  simp only [go_sem,byq,Option.getD_some]
  exact ⟨by simp [wk,wk2,wk1,wkM],by repeat first|exact .refl _|refine .push ?_ _,ap hid hcl _ hx4 _ _,aA (fun x=>gc x)⟩
def qg:List AV→AHeap→(AEnd→AHeap→Prop)→Prop
 |[.ptr id 0],H,K=>onR H id fun m l e=>True∧K (.ret (aI ((fg LP) (m,l,e)).1)) (H.set id (.cells (az ((fg LP) (m,l,e)).2)))
 |_,_,_=>False
theorem DY:EntOk Tryz.prog 170 (Ent.effect qg):=by
 refine EntOk.effect fun args H K h=>?_
 unfold qg at h
 split at h
 rotate_left
 ·exact h.elim
 rename_i id
 obtain ⟨m,l,e,hid,hle,h⟩:=bB h
 obtain ⟨hpre,hK⟩:=h
 refine ⟨_,_,hK,?_⟩
 clear hK
 have hl0:=glq hid
 have hne:=aL hl0
 have hss:=bd hid
 have hcs:=ax hid
 have hcm:=fun cs=>@al H id cs hl0
 have hgm:=fun o=>@aB H id o hl0
 obtain ⟨Q,hQ⟩:∃ Q,(fg LP) (m,l,e)=Q:=⟨_,rfl⟩
 rw [hQ]
 unfold fg at hQ
 try dsimp only [rap,dD,rU,rT,rV,rB,nF] at hQ
 have hl0:=ca m l e 2
 have hm0:=co m l e 2
 generalize h0:cm (m,l,e) 2=q0 at *
 obtain ⟨v0,m0,l0,e0⟩:=q0
 dsimp only [rU,rV,rB] at hQ hl0 hm0
 have hl1:=jE m0 l0 e0 24
 have hm1:=jC m0 l0 e0 24
 generalize h1:eD (m0,l0,e0) 24=q1 at *
 obtain ⟨v1,m1,l1,e1⟩:=q1
 dsimp only [rU,rV,rB] at hQ hl1 hm1
 replace hm1:=aJ hm0 hm1
 have hl2:=(dw rdPar_go 4).l (m1,l1,e1)
 have hm2:=(dw rdPar_go 4).m (m1,l1,e1)
 generalize h2:rlP gt 4 (m1,l1,e1)=q2 at *
 obtain ⟨v2,m2,l2,e2⟩:=q2
 dsimp only [rU,rV,rB] at hQ hl2 hm2
 replace hm2:=aJ hm1 hm2
 have hl3:=(dw rdPri_go 12).l (m2,l2,e2)
 have hm3:=(dw rdPri_go 12).m (m2,l2,e2)
 generalize h3:rlP gq 12 (m2,l2,e2)=q3 at *
 obtain ⟨v3,m3,l3,e3⟩:=q3
 dsimp only [rU,rV,rB] at hQ hl3 hm3
 replace hm3:=aJ hm2 hm3
 have hl4:=jE m3 l3 e3 400
 have hm4:=jC m3 l3 e3 400
 generalize h4:eD (m3,l3,e3) 400=q4 at *
 obtain ⟨v4,m4,l4,e4⟩:=q4
 dsimp only [rU,rV,rB] at hQ hl4 hm4
 replace hm4:=aJ hm3 hm4
 subst hQ
 dsimp only [az]
 refine ACalls.fW ag (tCq fG (tCq km (tCq vN (tCq Eu (tCq wx (tCq BS tNq)))))) Tryz.func170 [.cell 2 157] (by simp only [zlf];omega) (T:=af []) (h:=fun hcl hlt=>?_)
 clear hlt
 have b0:l0.length≤100000:=by omega
 have b1:l1.length≤100000:=by omega
 have b2:l2.length≤100000:=by omega
 have b3:l3.length≤100000:=by omega
 have b4:l4.length≤100000:=by omega
 simp only [go_sem,byq,hne,hid,hcs,hcm,hgm,onR,ah,ar,zmb,zlz,zlk,and_true,true_and,hid,onR,ah,az,vv,vc,gv,j7,j0,aP,uI,kb,ur,h0,b0,h1,b1,h2,b2,h3,b3,h4,b4]
 have hclz:(H.set id (.cells [.slice m4 1 (bys l4),.int .i64 e4])).Closed:=ap hid hcl m4 hm4 l4 e4
 refine ⟨hle,?_,by repeat first|exact .refl _|refine .push ?_ _,hclz,(fun x=>fj x) _⟩
 simp [wk,wk2,wkL,wk1,wkM,aI,inL,boL]
def qC:List AV→AHeap→(AEnd→AHeap→Prop)→Prop
 |[.ptr id 0,.agg [.int .i64 most,.func (.func f) [] [],.func (.func 170) [] []]],H,K=>onR H id fun m l e=>True∧K (.ret (.slice .any 5 ((rlP (fg LP) most (m,l,e)).1.map (aI)))) (H.set id (.cells (az (rlP (fg LP) most (m,l,e)).2)))
 |_,_,_=>False
theorem vK:EntOk Tryz.prog 81 (Ent.effect qC):=by
 refine EntOk.effect fun args H K h=>?_
 unfold qC at h
 split at h
 rotate_left
 ·exact h.elim
 rename_i id most f
 obtain ⟨m,l,e,hid,hle,h⟩:=bB h
 obtain ⟨hpre,hK⟩:=h
 refine ⟨_,_,hK,?_⟩
 clear hK
 have hl0:=glq hid
 have hne:=aL hl0
 have hss:=bd hid
 have hcs:=ax hid
 have hcm:=fun cs=>@al H id cs hl0
 have hgm:=fun o=>@aB H id o hl0
 have hl1:=dO m l e most
 have hm1:=dT m l e most
 have hc1:=eI (m,l,e) most
 obtain ⟨Q,hQ⟩:∃ Q,rlP (fg LP) most (m,l,e)=Q:=⟨_,rfl⟩
 rw [hQ]
 unfold rlP at hQ
 generalize h1:bq (m,l,e) most=q1 at *
 obtain ⟨cc,m1,l1,e1⟩:=q1
 dsimp only at hl1 hm1 hc1 hQ
 obtain ⟨kc,rfl⟩:∃ kc:Nat,cc=(kc:Int):=⟨cc.toNat,by omega⟩
 rw [iNq] at hQ
 obtain ⟨⟨GO,gs⟩,hG⟩:∃ G,goP (fg LP) kc (m1,l1,e1)=G:=⟨_,rfl⟩
 have hgo:=gb (eE gn) kc (m1,l1,e1)
 rw [hG] at hQ hgo
 obtain ⟨hg1,hg2,_⟩:=hgo
 obtain ⟨gm,gl,ge⟩:=gs
 dsimp only at hQ hg1 hg2
 subst hQ
 refine ACalls.fW ag (tCq dJ (tCq DY (tCq eJ tNq))) Tryz.func81 [.tmp 4] (by simp only [zlf];omega) (T:=af []) (h:=fun hcl hlt=>?_)
 clear hlt
 have b1:l1.length≤100000:=by omega
 simp only [dt,du,bhq,Nat.reduceMod,Nat.reduceDiv,bh,bg,bm,cz,bk,cy,cr,cx,cu,yaq,yar,yao,yap,go_sem,byq,hne,hid,hcs,hcm,hgm,onR,ah,ar,zmb,zlz,zlk,and_true,true_and,hid,dU,h1,b1,az]
 refine ⟨hle,?_⟩
 have hltC:ltL (H.nx+1) [.int .i64 most,.func (.func f) [] [],.func (.func 170) [] []]:=by simp [znu,znv,znf,bG]
 have hclL:∀ (s:RS) (k:Nat),cW m s.1→((((H.set id (.cells [.slice s.1 1 (bys s.2.1),.int .i64 s.2.2])).push (.cells [.int .i64 most,.func (.func f) [] [],.func (.func 170) [] []])).push (.buf 5 0)).push (.buf 5 k)).Closed:=fun s k hs=>aF (aF (aj (ap hid hcl s.1 hs s.2.1 s.2.2) (by simpa only [zlf] using hltC)))
 refine aq (A:=List SAction × RS) (fun x=>[(0,.ptr id 0),(3,.ptr H.nx 0),(5,.slice (.own (H.nx+1+1)) 5 (x.1.map (aI))),(10,.int .i64 (kc:Int)),(11,.int .i64 (x.1.length:Int))]) (fun x=>(((H.set id (.cells [.slice x.2.1 1 (bys x.2.2.1),.int .i64 x.2.2.2])).push (.cells [.int .i64 most,.func (.func f) [] [],.func (.func 170) [] []])).push (.buf 5 0)).push (.buf 5 x.1.length)) (fun x=>x.1.length≤kc∧((goP (fg LP) (kc - x.1.length) x.2).1.map (x.1++·),(goP (fg LP) (kc - x.1.length) x.2).2)=(GO,gm,gl,ge)∧x.2.2.1.length≤l1.length∧cW m x.2.1) (fun x=>kc - x.1.length) ([],(m1,l1,e1)) ⟨Nat.zero_le _,by rw [← hG];simp,nrq _,hm1⟩ ?_ fun x hx=>?_
 ·refine ⟨by simp only [zkq,zkv,zle,zlf];omega,by repeat first|exact .refl _|refine .push ?_ _,hclL (m1,l1,e1) 0 hm1,?_,?_⟩
  ·simp [ltF,znf,znn,aC,znv,zle,zlf]
   try omega
  ·simp [aM,wk2,wk1,wkM,Fr.get]
 obtain ⟨us,m2,l2,e2⟩:=x
 obtain ⟨hx1,hx2,hx3,hx4⟩:=hx
 dsimp only at hx1 hx2 hx3 hx4 ⊢
 have b2:l2.length≤100000:=by omega
 have ne1:(H.nx+1=id)=False:=eq_false (by omega)
 simp only [go_sem]
 refine ae (fun hc=>?_) (fun hc=>?_)
 ·have hk':us.length<kc:=by simp at hc;omega
  have e5:IntKind.i64.wrap ((us.length:Int)+1)=((us.length+1:Nat):Int):=by rw [wrap_i64]<;>omega
  have hu:goP (fg LP) (kc - us.length) (m2,l2,e2)=if ((fg LP) (m2,l2,e2)).2.2.2≠0 then (none,((fg LP) (m2,l2,e2)).2) else ((goP (fg LP) (kc - (us.length+1)) ((fg LP) (m2,l2,e2)).2).1.map (((fg LP) (m2,l2,e2)).1::·),(goP (fg LP) (kc - (us.length+1)) ((fg LP) (m2,l2,e2)).2).2):=by
   rw [show kc - us.length=(kc - (us.length+1))+1 by omega];rfl
  rw [hu] at hx2
  have hl3:=(eE gn).l (m2,l2,e2)
  have hm3:=(eE gn).m (m2,l2,e2)
  generalize hq3:(fg LP) (m2,l2,e2)=q3 at *
  obtain ⟨n3,m3,l3,e3⟩:=q3
  dsimp only at hl3 hm3 hx2
  have b3:l3.length≤100000:=by omega
  have hmm:cW m m3:=aJ hx4 hm3
  cases hz:(e3 != 0)
  ·have hz':e3=0:=by simpa using hz
   rw [if_neg (by rw [hz'];decide)] at hx2
   simp only [go_sem,byq,hne,hid,hcs,hcm,hgm,onR,ah,ar,zmb,zlz,zlk,and_true,true_and,hid,qg,cA,cg,hq3,hz,b2,b3,az,aI,e5,ybb]
   have hlen:(us++[n3]).length=us.length+1:=by simp
   refine ⟨⟨by omega,by omega,fun z hz=>by rw [List.mem_singleton] at hz;subst hz;rfl⟩,(us++[n3],(m3,l3,e3)),⟨by dsimp only;omega,?_,by dsimp only;omega,hmm⟩,by dsimp only;omega,?_⟩
   ·dsimp only
    rw [hlen,← hx2]
    generalize goP (fg LP) (kc - (us.length+1)) (m3,l3,e3)=q5
    obtain ⟨o,t⟩:=q5
    cases o
    ·rfl
    ·simp [List.append_assoc]
   ·refine ⟨by simp only [zle,zlf];omega,?_,hclL (m3,l3,e3) _ hmm,?_,?_⟩
    ·simp only [List.map_append,yae,yaf,aI,lAq,yaz,yba]
     repeat first|exact .refl _|refine .push ?_ _
    ·simp [ltF,znf,znn,aC,zle,zlf]
     refine ⟨by omega,by omega,ltL_iff.2 fun j hj=>?_⟩
     have hmem:=gMq hj
     rw [List.mem_append,List.mem_map,List.mem_singleton] at hmem
     rcases hmem with ⟨x,_,e⟩|e
     ·rw [← e];exact (fun x=>fj x) x
     ·rw [e];exact (fun x=>fj x) _
    ·simp [aM,wk2,wk1,wkM,Fr.get,aI]
  ·have hz':e3≠0:=by simpa using hz
   rw [if_pos hz'] at hx2
   simp only [Option.map,Prod.mk.injEq] at hx2
   obtain ⟨rfl,rfl,rfl,rfl⟩:=hx2
   simp only [go_sem,byq,hne,hid,hcs,hcm,hgm,onR,ah,ar,zmb,zlz,zlk,and_true,true_and,hid,qg,cA,cg,hq3,hz,b2,b3,az,aI,Option.getD_none,yaf]
   exact ⟨by simp [wk,wk2,wk1,wkM],by repeat first|exact .refl _|refine .push ?_ _,ap hid hcl _ hmm _ _,by simp [aC,znv]⟩
 ·have hk':us.length=kc:=by simp at hc;omega
  subst hk'
  rw [Nat.sub_self] at hx2
  simp only [goP,Option.map,yaj,Prod.mk.injEq] at hx2
  obtain ⟨rfl,rfl,rfl,rfl⟩:=hx2
  simp only [go_sem,byq,Option.getD_some]
  exact ⟨by simp [wk,wk2,wk1,wkM],by repeat first|exact .refl _|refine .push ?_ _,ap hid hcl _ hx4 _ _,aA (fun x=>fj x)⟩
def qo:List AV→AHeap→(AEnd→AHeap→Prop)→Prop
 |[.ptr id 0],H,K=>onR H id fun m l e=>True∧K (.ret (aN ((eY LP) (m,l,e)).1)) (H.set id (.cells (az ((eY LP) (m,l,e)).2)))
 |_,_,_=>False
theorem Dx:EntOk Tryz.prog 234 (Ent.effect qo):=by
 refine EntOk.effect fun args H K h=>?_
 unfold qo at h
 split at h
 rotate_left
 ·exact h.elim
 rename_i id
 obtain ⟨m,l,e,hid,hle,h⟩:=bB h
 obtain ⟨hpre,hK⟩:=h
 refine ⟨_,_,hK,?_⟩
 clear hK
 have hl0:=glq hid
 have hne:=aL hl0
 have hss:=bd hid
 have hcs:=ax hid
 have hcm:=fun cs=>@al H id cs hl0
 have hgm:=fun o=>@aB H id o hl0
 obtain ⟨Q,hQ⟩:∃ Q,(eY LP) (m,l,e)=Q:=⟨_,rfl⟩
 rw [hQ]
 unfold eY at hQ
 try dsimp only [rap,dD,rU,rT,rV,rB,nF] at hQ
 have hl0:=ca m l e 2
 have hm0:=co m l e 2
 generalize h0:cm (m,l,e) 2=q0 at *
 obtain ⟨v0,m0,l0,e0⟩:=q0
 dsimp only [rU,rV,rB] at hQ hl0 hm0
 have hl1:=qj m0 l0 e0
 have hm1:=ql m0 l0 e0
 generalize h1:ic (m0,l0,e0)=q1 at *
 obtain ⟨v1,m1,l1,e1⟩:=q1
 dsimp only [rU,rV,rB] at hQ hl1 hm1
 replace hm1:=aJ hm0 hm1
 have hl2:=qj m1 l1 e1
 have hm2:=ql m1 l1 e1
 generalize h2:ic (m1,l1,e1)=q2 at *
 obtain ⟨v2,m2,l2,e2⟩:=q2
 dsimp only [rU,rV,rB] at hQ hl2 hm2
 replace hm2:=aJ hm1 hm2
 have hl3:=(dw rB_go 4).l (m2,l2,e2)
 have hm3:=(dw rB_go 4).m (m2,l2,e2)
 generalize h3:rlP rB 4 (m2,l2,e2)=q3 at *
 obtain ⟨v3,m3,l3,e3⟩:=q3
 dsimp only [rU,rV,rB] at hQ hl3 hm3
 replace hm3:=aJ hm2 hm3
 subst hQ
 dsimp only [az]
 refine ACalls.fW ag (tCq fG (tCq rc (tCq ww (tCq Em tNq)))) Tryz.func234 [.cell 2 203] (by simp only [zlf];omega) (T:=af []) (h:=fun hcl hlt=>?_)
 clear hlt
 have b0:l0.length≤100000:=by omega
 have b1:l1.length≤100000:=by omega
 have b2:l2.length≤100000:=by omega
 have b3:l3.length≤100000:=by omega
 simp only [go_sem,byq,hne,hid,hcs,hcm,hgm,onR,ah,ar,zmb,zlz,zlk,and_true,true_and,hid,onR,ah,az,vv,vc,gv,mX,kK,aP,tT,h0,b0,h1,b1,h2,b2,h3,b3]
 have hclz:(H.set id (.cells [.slice m3 1 (bys l3),.int .i64 e3])).Closed:=ap hid hcl m3 hm3 l3 e3
 refine ⟨hle,?_,by repeat first|exact .refl _|refine .push ?_ _,hclz,(fun x=>bV x) _⟩
 simp [wk,wk2,wkL,wk1,wkM,aN,inL,boL]
def tV:List AV→AHeap→(AEnd→AHeap→Prop)→Prop
 |[.ptr id 0,.agg [.int .i64 most,.func (.func f) [] [],.func (.func 234) [] []]],H,K=>onR H id fun m l e=>True∧K (.ret (.slice .any 4 ((rlP (eY LP) most (m,l,e)).1.map (aN)))) (H.set id (.cells (az (rlP (eY LP) most (m,l,e)).2)))
 |_,_,_=>False
theorem Cw:EntOk Tryz.prog 188 (Ent.effect tV):=by
 refine EntOk.effect fun args H K h=>?_
 unfold tV at h
 split at h
 rotate_left
 ·exact h.elim
 rename_i id most f
 obtain ⟨m,l,e,hid,hle,h⟩:=bB h
 obtain ⟨hpre,hK⟩:=h
 refine ⟨_,_,hK,?_⟩
 clear hK
 have hl0:=glq hid
 have hne:=aL hl0
 have hss:=bd hid
 have hcs:=ax hid
 have hcm:=fun cs=>@al H id cs hl0
 have hgm:=fun o=>@aB H id o hl0
 have hl1:=dO m l e most
 have hm1:=dT m l e most
 have hc1:=eI (m,l,e) most
 obtain ⟨Q,hQ⟩:∃ Q,rlP (eY LP) most (m,l,e)=Q:=⟨_,rfl⟩
 rw [hQ]
 unfold rlP at hQ
 generalize h1:bq (m,l,e) most=q1 at *
 obtain ⟨cc,m1,l1,e1⟩:=q1
 dsimp only at hl1 hm1 hc1 hQ
 obtain ⟨kc,rfl⟩:∃ kc:Nat,cc=(kc:Int):=⟨cc.toNat,by omega⟩
 rw [iNq] at hQ
 obtain ⟨⟨GO,gs⟩,hG⟩:∃ G,goP (eY LP) kc (m1,l1,e1)=G:=⟨_,rfl⟩
 have hgo:=gb (fQ gn) kc (m1,l1,e1)
 rw [hG] at hQ hgo
 obtain ⟨hg1,hg2,_⟩:=hgo
 obtain ⟨gm,gl,ge⟩:=gs
 dsimp only at hQ hg1 hg2
 subst hQ
 refine ACalls.fW ag (tCq dJ (tCq Dx (tCq eJ tNq))) Tryz.func188 [.tmp 4] (by simp only [zlf];omega) (T:=af []) (h:=fun hcl hlt=>?_)
 clear hlt
 have b1:l1.length≤100000:=by omega
 simp only [dt,du,bhq,Nat.reduceMod,Nat.reduceDiv,bh,bg,bm,cz,bk,cy,cr,cx,cu,yaq,yar,yao,yap,go_sem,byq,hne,hid,hcs,hcm,hgm,onR,ah,ar,zmb,zlz,zlk,and_true,true_and,hid,dU,h1,b1,az]
 refine ⟨hle,?_⟩
 have hltC:ltL (H.nx+1) [.int .i64 most,.func (.func f) [] [],.func (.func 234) [] []]:=by simp [znu,znv,znf,bG]
 have hclL:∀ (s:RS) (k:Nat),cW m s.1→((((H.set id (.cells [.slice s.1 1 (bys s.2.1),.int .i64 s.2.2])).push (.cells [.int .i64 most,.func (.func f) [] [],.func (.func 234) [] []])).push (.buf 4 0)).push (.buf 4 k)).Closed:=fun s k hs=>aF (aF (aj (ap hid hcl s.1 hs s.2.1 s.2.2) (by simpa only [zlf] using hltC)))
 refine aq (A:=List SGrant × RS) (fun x=>[(0,.ptr id 0),(3,.ptr H.nx 0),(5,.slice (.own (H.nx+1+1)) 4 (x.1.map (aN))),(10,.int .i64 (kc:Int)),(11,.int .i64 (x.1.length:Int))]) (fun x=>(((H.set id (.cells [.slice x.2.1 1 (bys x.2.2.1),.int .i64 x.2.2.2])).push (.cells [.int .i64 most,.func (.func f) [] [],.func (.func 234) [] []])).push (.buf 4 0)).push (.buf 4 x.1.length)) (fun x=>x.1.length≤kc∧((goP (eY LP) (kc - x.1.length) x.2).1.map (x.1++·),(goP (eY LP) (kc - x.1.length) x.2).2)=(GO,gm,gl,ge)∧x.2.2.1.length≤l1.length∧cW m x.2.1) (fun x=>kc - x.1.length) ([],(m1,l1,e1)) ⟨Nat.zero_le _,by rw [← hG];simp,nrq _,hm1⟩ ?_ fun x hx=>?_
 ·refine ⟨by simp only [zkq,zkv,zle,zlf];omega,by repeat first|exact .refl _|refine .push ?_ _,hclL (m1,l1,e1) 0 hm1,?_,?_⟩
  ·simp [ltF,znf,znn,aC,znv,zle,zlf]
   try omega
  ·simp [aM,wk2,wk1,wkM,Fr.get]
 obtain ⟨us,m2,l2,e2⟩:=x
 obtain ⟨hx1,hx2,hx3,hx4⟩:=hx
 dsimp only at hx1 hx2 hx3 hx4 ⊢
 have b2:l2.length≤100000:=by omega
 have ne1:(H.nx+1=id)=False:=eq_false (by omega)
 simp only [go_sem]
 refine ae (fun hc=>?_) (fun hc=>?_)
 ·have hk':us.length<kc:=by simp at hc;omega
  have e5:IntKind.i64.wrap ((us.length:Int)+1)=((us.length+1:Nat):Int):=by rw [wrap_i64]<;>omega
  have hu:goP (eY LP) (kc - us.length) (m2,l2,e2)=if ((eY LP) (m2,l2,e2)).2.2.2≠0 then (none,((eY LP) (m2,l2,e2)).2) else ((goP (eY LP) (kc - (us.length+1)) ((eY LP) (m2,l2,e2)).2).1.map (((eY LP) (m2,l2,e2)).1::·),(goP (eY LP) (kc - (us.length+1)) ((eY LP) (m2,l2,e2)).2).2):=by
   rw [show kc - us.length=(kc - (us.length+1))+1 by omega];rfl
  rw [hu] at hx2
  have hl3:=(fQ gn).l (m2,l2,e2)
  have hm3:=(fQ gn).m (m2,l2,e2)
  generalize hq3:(eY LP) (m2,l2,e2)=q3 at *
  obtain ⟨n3,m3,l3,e3⟩:=q3
  dsimp only at hl3 hm3 hx2
  have b3:l3.length≤100000:=by omega
  have hmm:cW m m3:=aJ hx4 hm3
  cases hz:(e3 != 0)
  ·have hz':e3=0:=by simpa using hz
   rw [if_neg (by rw [hz'];decide)] at hx2
   simp only [go_sem,byq,hne,hid,hcs,hcm,hgm,onR,ah,ar,zmb,zlz,zlk,and_true,true_and,hid,qo,cA,cg,hq3,hz,b2,b3,az,aN,e5,ybb]
   have hlen:(us++[n3]).length=us.length+1:=by simp
   refine ⟨⟨by omega,by omega,fun z hz=>by rw [List.mem_singleton] at hz;subst hz;rfl⟩,(us++[n3],(m3,l3,e3)),⟨by dsimp only;omega,?_,by dsimp only;omega,hmm⟩,by dsimp only;omega,?_⟩
   ·dsimp only
    rw [hlen,← hx2]
    generalize goP (eY LP) (kc - (us.length+1)) (m3,l3,e3)=q5
    obtain ⟨o,t⟩:=q5
    cases o
    ·rfl
    ·simp [List.append_assoc]
   ·refine ⟨by simp only [zle,zlf];omega,?_,hclL (m3,l3,e3) _ hmm,?_,?_⟩
    ·simp only [List.map_append,yae,yaf,aN,lAq,yaz,yba]
     repeat first|exact .refl _|refine .push ?_ _
    ·simp [ltF,znf,znn,aC,zle,zlf]
     refine ⟨by omega,by omega,ltL_iff.2 fun j hj=>?_⟩
     have hmem:=gMq hj
     rw [List.mem_append,List.mem_map,List.mem_singleton] at hmem
     rcases hmem with ⟨x,_,e⟩|e
     ·rw [← e];exact (fun x=>bV x) x
     ·rw [e];exact (fun x=>bV x) _
    ·simp [aM,wk2,wk1,wkM,Fr.get,aN]
  ·have hz':e3≠0:=by simpa using hz
   rw [if_pos hz'] at hx2
   simp only [Option.map,Prod.mk.injEq] at hx2
   obtain ⟨rfl,rfl,rfl,rfl⟩:=hx2
   simp only [go_sem,byq,hne,hid,hcs,hcm,hgm,onR,ah,ar,zmb,zlz,zlk,and_true,true_and,hid,qo,cA,cg,hq3,hz,b2,b3,az,aN,Option.getD_none,yaf]
   exact ⟨by simp [wk,wk2,wk1,wkM],by repeat first|exact .refl _|refine .push ?_ _,ap hid hcl _ hmm _ _,by simp [aC,znv]⟩
 ·have hk':us.length=kc:=by simp at hc;omega
  subst hk'
  rw [Nat.sub_self] at hx2
  simp only [goP,Option.map,yaj,Prod.mk.injEq] at hx2
  obtain ⟨rfl,rfl,rfl,rfl⟩:=hx2
  simp only [go_sem,byq,Option.getD_some]
  exact ⟨by simp [wk,wk2,wk1,wkM],by repeat first|exact .refl _|refine .push ?_ _,ap hid hcl _ hx4 _ _,aA (fun x=>bV x)⟩
def qn:List AV→AHeap→(AEnd→AHeap→Prop)→Prop
 |[.ptr id 0],H,K=>onR H id fun m l e=>True∧K (.ret (aH ((fc LP) (m,l,e)).1)) (H.set id (.cells (az ((fc LP) (m,l,e)).2)))
 |_,_,_=>False
theorem Bx:EntOk Tryz.prog 178 (Ent.effect qn):=by
 refine EntOk.effect fun args H K h=>?_
 unfold qn at h
 split at h
 rotate_left
 ·exact h.elim
 rename_i id
 obtain ⟨m,l,e,hid,hle,h⟩:=bB h
 obtain ⟨hpre,hK⟩:=h
 refine ⟨_,_,hK,?_⟩
 clear hK
 have hl0:=glq hid
 have hne:=aL hl0
 have hss:=bd hid
 have hcs:=ax hid
 have hcm:=fun cs=>@al H id cs hl0
 have hgm:=fun o=>@aB H id o hl0
 obtain ⟨Q,hQ⟩:∃ Q,(fc LP) (m,l,e)=Q:=⟨_,rfl⟩
 rw [hQ]
 unfold fc at hQ
 try dsimp only [rap,dD,rU,rT,rV,rB,nF] at hQ
 have hl0:=ca m l e 2
 have hm0:=co m l e 2
 generalize h0:cm (m,l,e) 2=q0 at *
 obtain ⟨v0,m0,l0,e0⟩:=q0
 dsimp only [rU,rV,rB] at hQ hl0 hm0
 have hl1:=jE m0 l0 e0 24
 have hm1:=jC m0 l0 e0 24
 generalize h1:eD (m0,l0,e0) 24=q1 at *
 obtain ⟨v1,m1,l1,e1⟩:=q1
 dsimp only [rU,rV,rB] at hQ hl1 hm1
 replace hm1:=aJ hm0 hm1
 have hl2:=(dw rdKey_go 4).l (m1,l1,e1)
 have hm2:=(dw rdKey_go 4).m (m1,l1,e1)
 generalize h2:rlP gr 4 (m1,l1,e1)=q2 at *
 obtain ⟨v2,m2,l2,e2⟩:=q2
 dsimp only [rU,rV,rB] at hQ hl2 hm2
 replace hm2:=aJ hm1 hm2
 have hl3:=(dw (ff 2) 12).l (m2,l2,e2)
 have hm3:=(dw (ff 2) 12).m (m2,l2,e2)
 generalize h3:rlP (rU 2) 12 (m2,l2,e2)=q3 at *
 obtain ⟨v3,m3,l3,e3⟩:=q3
 dsimp only [rU,rV,rB] at hQ hl3 hm3
 replace hm3:=aJ hm2 hm3
 have hl4:=ca m3 l3 e3 2
 have hm4:=co m3 l3 e3 2
 generalize h4:cm (m3,l3,e3) 2=q4 at *
 obtain ⟨v4,m4,l4,e4⟩:=q4
 dsimp only [rU,rV,rB] at hQ hl4 hm4
 replace hm4:=aJ hm3 hm4
 have hl5:=(dw rV_go 4).l (m4,l4,e4)
 have hm5:=(dw rV_go 4).m (m4,l4,e4)
 generalize h5:rlP rV 4 (m4,l4,e4)=q5 at *
 obtain ⟨v5,m5,l5,e5⟩:=q5
 dsimp only [rU,rV,rB] at hQ hl5 hm5
 replace hm5:=aJ hm4 hm5
 have hl6:=ca m5 l5 e5 2
 have hm6:=co m5 l5 e5 2
 generalize h6:cm (m5,l5,e5) 2=q6 at *
 obtain ⟨v6,m6,l6,e6⟩:=q6
 dsimp only [rU,rV,rB] at hQ hl6 hm6
 replace hm6:=aJ hm5 hm6
 have hl7:=jE m6 l6 e6 400
 have hm7:=jC m6 l6 e6 400
 generalize h7:eD (m6,l6,e6) 400=q7 at *
 obtain ⟨v7,m7,l7,e7⟩:=q7
 dsimp only [rU,rV,rB] at hQ hl7 hm7
 replace hm7:=aJ hm6 hm7
 subst hQ
 dsimp only [az]
 refine ACalls.fW ag (tCq fG (tCq km (tCq vz (tCq Db (tCq lC (tCq qM (tCq vZ (tCq B0 tNq)))))))) Tryz.func178 [.cell 2 87] (by simp only [zlf];omega) (T:=af []) (h:=fun hcl hlt=>?_)
 clear hlt
 have b0:l0.length≤100000:=by omega
 have b1:l1.length≤100000:=by omega
 have b2:l2.length≤100000:=by omega
 have b3:l3.length≤100000:=by omega
 have b4:l4.length≤100000:=by omega
 have b5:l5.length≤100000:=by omega
 have b6:l6.length≤100000:=by omega
 have b7:l7.length≤100000:=by omega
 simp only [go_sem,byq,hne,hid,hcs,hcm,hgm,onR,ah,ar,zmb,zlz,zlk,and_true,true_and,hid,onR,ah,az,vv,vc,gv,j7,iF,aP,uS,cX,nT,iE,tY,h0,b0,h1,b1,h2,b2,h3,b3,h4,b4,h5,b5,h6,b6,h7,b7]
 have hclz:(H.set id (.cells [.slice m7 1 (bys l7),.int .i64 e7])).Closed:=ap hid hcl m7 hm7 l7 e7
 refine ⟨hle,?_,by repeat first|exact .refl _|refine .push ?_ _,hclz,(fun x=>f5 x) _⟩
 simp [wk,wk2,wkL,wk1,wkM,aH,inL,boL]
def qu:List AV→AHeap→(AEnd→AHeap→Prop)→Prop
 |[.ptr id 0,.agg [.int .i64 most,.func (.func f) [] [],.func (.func 178) [] []]],H,K=>onR H id fun m l e=>True∧K (.ret (.slice .any 8 ((rlP (fc LP) most (m,l,e)).1.map (aH)))) (H.set id (.cells (az (rlP (fc LP) most (m,l,e)).2)))
 |_,_,_=>False
theorem vF:EntOk Tryz.prog 82 (Ent.effect qu):=by
 refine EntOk.effect fun args H K h=>?_
 unfold qu at h
 split at h
 rotate_left
 ·exact h.elim
 rename_i id most f
 obtain ⟨m,l,e,hid,hle,h⟩:=bB h
 obtain ⟨hpre,hK⟩:=h
 refine ⟨_,_,hK,?_⟩
 clear hK
 have hl0:=glq hid
 have hne:=aL hl0
 have hss:=bd hid
 have hcs:=ax hid
 have hcm:=fun cs=>@al H id cs hl0
 have hgm:=fun o=>@aB H id o hl0
 have hl1:=dO m l e most
 have hm1:=dT m l e most
 have hc1:=eI (m,l,e) most
 obtain ⟨Q,hQ⟩:∃ Q,rlP (fc LP) most (m,l,e)=Q:=⟨_,rfl⟩
 rw [hQ]
 unfold rlP at hQ
 generalize h1:bq (m,l,e) most=q1 at *
 obtain ⟨cc,m1,l1,e1⟩:=q1
 dsimp only at hl1 hm1 hc1 hQ
 obtain ⟨kc,rfl⟩:∃ kc:Nat,cc=(kc:Int):=⟨cc.toNat,by omega⟩
 rw [iNq] at hQ
 obtain ⟨⟨GO,gs⟩,hG⟩:∃ G,goP (fc LP) kc (m1,l1,e1)=G:=⟨_,rfl⟩
 have hgo:=gb (eR gn) kc (m1,l1,e1)
 rw [hG] at hQ hgo
 obtain ⟨hg1,hg2,_⟩:=hgo
 obtain ⟨gm,gl,ge⟩:=gs
 dsimp only at hQ hg1 hg2
 subst hQ
 refine ACalls.fW ag (tCq dJ (tCq Bx (tCq eJ tNq))) Tryz.func82 [.tmp 4] (by simp only [zlf];omega) (T:=af []) (h:=fun hcl hlt=>?_)
 clear hlt
 have b1:l1.length≤100000:=by omega
 simp only [dt,du,bhq,Nat.reduceMod,Nat.reduceDiv,bh,bg,bm,cz,bk,cy,cr,cx,cu,yaq,yar,yao,yap,go_sem,byq,hne,hid,hcs,hcm,hgm,onR,ah,ar,zmb,zlz,zlk,and_true,true_and,hid,dU,h1,b1,az]
 refine ⟨hle,?_⟩
 have hltC:ltL (H.nx+1) [.int .i64 most,.func (.func f) [] [],.func (.func 178) [] []]:=by simp [znu,znv,znf,bG]
 have hclL:∀ (s:RS) (k:Nat),cW m s.1→((((H.set id (.cells [.slice s.1 1 (bys s.2.1),.int .i64 s.2.2])).push (.cells [.int .i64 most,.func (.func f) [] [],.func (.func 178) [] []])).push (.buf 8 0)).push (.buf 8 k)).Closed:=fun s k hs=>aF (aF (aj (ap hid hcl s.1 hs s.2.1 s.2.2) (by simpa only [zlf] using hltC)))
 refine aq (A:=List STable × RS) (fun x=>[(0,.ptr id 0),(3,.ptr H.nx 0),(5,.slice (.own (H.nx+1+1)) 8 (x.1.map (aH))),(10,.int .i64 (kc:Int)),(11,.int .i64 (x.1.length:Int))]) (fun x=>(((H.set id (.cells [.slice x.2.1 1 (bys x.2.2.1),.int .i64 x.2.2.2])).push (.cells [.int .i64 most,.func (.func f) [] [],.func (.func 178) [] []])).push (.buf 8 0)).push (.buf 8 x.1.length)) (fun x=>x.1.length≤kc∧((goP (fc LP) (kc - x.1.length) x.2).1.map (x.1++·),(goP (fc LP) (kc - x.1.length) x.2).2)=(GO,gm,gl,ge)∧x.2.2.1.length≤l1.length∧cW m x.2.1) (fun x=>kc - x.1.length) ([],(m1,l1,e1)) ⟨Nat.zero_le _,by rw [← hG];simp,nrq _,hm1⟩ ?_ fun x hx=>?_
 ·refine ⟨by simp only [zkq,zkv,zle,zlf];omega,by repeat first|exact .refl _|refine .push ?_ _,hclL (m1,l1,e1) 0 hm1,?_,?_⟩
  ·simp [ltF,znf,znn,aC,znv,zle,zlf]
   try omega
  ·simp [aM,wk2,wk1,wkM,Fr.get]
 obtain ⟨us,m2,l2,e2⟩:=x
 obtain ⟨hx1,hx2,hx3,hx4⟩:=hx
 dsimp only at hx1 hx2 hx3 hx4 ⊢
 have b2:l2.length≤100000:=by omega
 have ne1:(H.nx+1=id)=False:=eq_false (by omega)
 simp only [go_sem]
 refine ae (fun hc=>?_) (fun hc=>?_)
 ·have hk':us.length<kc:=by simp at hc;omega
  have e5:IntKind.i64.wrap ((us.length:Int)+1)=((us.length+1:Nat):Int):=by rw [wrap_i64]<;>omega
  have hu:goP (fc LP) (kc - us.length) (m2,l2,e2)=if ((fc LP) (m2,l2,e2)).2.2.2≠0 then (none,((fc LP) (m2,l2,e2)).2) else ((goP (fc LP) (kc - (us.length+1)) ((fc LP) (m2,l2,e2)).2).1.map (((fc LP) (m2,l2,e2)).1::·),(goP (fc LP) (kc - (us.length+1)) ((fc LP) (m2,l2,e2)).2).2):=by
   rw [show kc - us.length=(kc - (us.length+1))+1 by omega];rfl
  rw [hu] at hx2
  have hl3:=(eR gn).l (m2,l2,e2)
  have hm3:=(eR gn).m (m2,l2,e2)
  generalize hq3:(fc LP) (m2,l2,e2)=q3 at *
  obtain ⟨n3,m3,l3,e3⟩:=q3
  dsimp only at hl3 hm3 hx2
  have b3:l3.length≤100000:=by omega
  have hmm:cW m m3:=aJ hx4 hm3
  cases hz:(e3 != 0)
  ·have hz':e3=0:=by simpa using hz
   rw [if_neg (by rw [hz'];decide)] at hx2
   simp only [go_sem,byq,hne,hid,hcs,hcm,hgm,onR,ah,ar,zmb,zlz,zlk,and_true,true_and,hid,qn,cA,cg,hq3,hz,b2,b3,az,aH,e5,ybb]
   have hlen:(us++[n3]).length=us.length+1:=by simp
   refine ⟨⟨by omega,by omega,fun z hz=>by rw [List.mem_singleton] at hz;subst hz;rfl⟩,(us++[n3],(m3,l3,e3)),⟨by dsimp only;omega,?_,by dsimp only;omega,hmm⟩,by dsimp only;omega,?_⟩
   ·dsimp only
    rw [hlen,← hx2]
    generalize goP (fc LP) (kc - (us.length+1)) (m3,l3,e3)=q5
    obtain ⟨o,t⟩:=q5
    cases o
    ·rfl
    ·simp [List.append_assoc]
   ·refine ⟨by simp only [zle,zlf];omega,?_,hclL (m3,l3,e3) _ hmm,?_,?_⟩
    ·simp only [List.map_append,yae,yaf,aH,lAq,yaz,yba]
     repeat first|exact .refl _|refine .push ?_ _
    ·simp [ltF,znf,znn,aC,zle,zlf]
     refine ⟨by omega,by omega,ltL_iff.2 fun j hj=>?_⟩
     have hmem:=gMq hj
     rw [List.mem_append,List.mem_map,List.mem_singleton] at hmem
     rcases hmem with ⟨x,_,e⟩|e
     ·rw [← e];exact (fun x=>f5 x) x
     ·rw [e];exact (fun x=>f5 x) _
    ·simp [aM,wk2,wk1,wkM,Fr.get,aH]
  ·have hz':e3≠0:=by simpa using hz
   rw [if_pos hz'] at hx2
   simp only [Option.map,Prod.mk.injEq] at hx2
   obtain ⟨rfl,rfl,rfl,rfl⟩:=hx2
   simp only [go_sem,byq,hne,hid,hcs,hcm,hgm,onR,ah,ar,zmb,zlz,zlk,and_true,true_and,hid,qn,cA,cg,hq3,hz,b2,b3,az,aH,Option.getD_none,yaf]
   exact ⟨by simp [wk,wk2,wk1,wkM],by repeat first|exact .refl _|refine .push ?_ _,ap hid hcl _ hmm _ _,by simp [aC,znv]⟩
 ·have hk':us.length=kc:=by simp at hc;omega
  subst hk'
  rw [Nat.sub_self] at hx2
  simp only [goP,Option.map,yaj,Prod.mk.injEq] at hx2
  obtain ⟨rfl,rfl,rfl,rfl⟩:=hx2
  simp only [go_sem,byq,Option.getD_some]
  exact ⟨by simp [wk,wk2,wk1,wkM],by repeat first|exact .refl _|refine .push ?_ _,ap hid hcl _ hx4 _ _,aA (fun x=>f5 x)⟩
def qF:List AV→AHeap→(AEnd→AHeap→Prop)→Prop
 |[.ptr id 0],H,K=>onR H id fun m l e=>True∧K (.ret (bH ((eZ LP) (m,l,e)).1)) (H.set id (.cells (az ((eZ LP) (m,l,e)).2)))
 |_,_,_=>False
theorem Cl:EntOk Tryz.prog 187 (Ent.effect qF):=by
 refine EntOk.effect fun args H K h=>?_
 unfold qF at h
 split at h
 rotate_left
 ·exact h.elim
 rename_i id
 obtain ⟨m,l,e,hid,hle,h⟩:=bB h
 obtain ⟨hpre,hK⟩:=h
 refine ⟨_,_,hK,?_⟩
 clear hK
 have hl0:=glq hid
 have hne:=aL hl0
 have hss:=bd hid
 have hcs:=ax hid
 have hcm:=fun cs=>@al H id cs hl0
 have hgm:=fun o=>@aB H id o hl0
 obtain ⟨Q,hQ⟩:∃ Q,(eZ LP) (m,l,e)=Q:=⟨_,rfl⟩
 rw [hQ]
 unfold eZ at hQ
 try dsimp only [rap,dD,rU,rT,rV,rB,nF] at hQ
 have hl0:=ca m l e 2
 have hm0:=co m l e 2
 generalize h0:cm (m,l,e) 2=q0 at *
 obtain ⟨v0,m0,l0,e0⟩:=q0
 dsimp only [rU,rV,rB] at hQ hl0 hm0
 have hl1:=jE m0 l0 e0 24
 have hm1:=jC m0 l0 e0 24
 generalize h1:eD (m0,l0,e0) 24=q1 at *
 obtain ⟨v1,m1,l1,e1⟩:=q1
 dsimp only [rU,rV,rB] at hQ hl1 hm1
 replace hm1:=aJ hm0 hm1
 have hl2:=(dw (fQ gn) 8).l (m1,l1,e1)
 have hm2:=(dw (fQ gn) 8).m (m1,l1,e1)
 generalize h2:rlP (eY LP) 8 (m1,l1,e1)=q2 at *
 obtain ⟨v2,m2,l2,e2⟩:=q2
 dsimp only [rU,rV,rB] at hQ hl2 hm2
 replace hm2:=aJ hm1 hm2
 have hl3:=(dw (ff 2) 12).l (m2,l2,e2)
 have hm3:=(dw (ff 2) 12).m (m2,l2,e2)
 generalize h3:rlP (rU 2) 12 (m2,l2,e2)=q3 at *
 obtain ⟨v3,m3,l3,e3⟩:=q3
 dsimp only [rU,rV,rB] at hQ hl3 hm3
 replace hm3:=aJ hm2 hm3
 have hl4:=ca m3 l3 e3 2
 have hm4:=co m3 l3 e3 2
 generalize h4:cm (m3,l3,e3) 2=q4 at *
 obtain ⟨v4,m4,l4,e4⟩:=q4
 dsimp only [rU,rV,rB] at hQ hl4 hm4
 replace hm4:=aJ hm3 hm4
 have hl5:=qj m4 l4 e4
 have hm5:=ql m4 l4 e4
 generalize h5:ic (m4,l4,e4)=q5 at *
 obtain ⟨v5,m5,l5,e5⟩:=q5
 dsimp only [rU,rV,rB] at hQ hl5 hm5
 replace hm5:=aJ hm4 hm5
 subst hQ
 dsimp only [az]
 refine ACalls.fW ag (tCq fG (tCq km (tCq vI (tCq Cw (tCq lC (tCq qM (tCq rc tNq))))))) Tryz.func187 [.cell 2 178] (by simp only [zlf];omega) (T:=af []) (h:=fun hcl hlt=>?_)
 clear hlt
 have b0:l0.length≤100000:=by omega
 have b1:l1.length≤100000:=by omega
 have b2:l2.length≤100000:=by omega
 have b3:l3.length≤100000:=by omega
 have b4:l4.length≤100000:=by omega
 have b5:l5.length≤100000:=by omega
 simp only [go_sem,byq,hne,hid,hcs,hcm,hgm,onR,ah,ar,zmb,zlz,zlk,and_true,true_and,hid,onR,ah,az,vv,vc,gv,j7,jD,aP,tV,cX,nT,mX,h0,b0,h1,b1,h2,b2,h3,b3,h4,b4,h5,b5]
 have hclz:(H.set id (.cells [.slice m5 1 (bys l5),.int .i64 e5])).Closed:=ap hid hcl m5 hm5 l5 e5
 refine ⟨hle,?_,by repeat first|exact .refl _|refine .push ?_ _,hclz,(fun x=>ck x) _⟩
 simp [wk,wk2,wkL,wk1,wkM,bH,inL,boL]
def qm:List AV→AHeap→(AEnd→AHeap→Prop)→Prop
 |[.ptr id 0,.agg [.int .i64 most,.func (.func f) [] [],.func (.func 187) [] []]],H,K=>onR H id fun m l e=>True∧K (.ret (.slice .any 6 ((rlP (eZ LP) most (m,l,e)).1.map (bH)))) (H.set id (.cells (az (rlP (eZ LP) most (m,l,e)).2)))
 |_,_,_=>False
theorem wb:EntOk Tryz.prog 84 (Ent.effect qm):=by
 refine EntOk.effect fun args H K h=>?_
 unfold qm at h
 split at h
 rotate_left
 ·exact h.elim
 rename_i id most f
 obtain ⟨m,l,e,hid,hle,h⟩:=bB h
 obtain ⟨hpre,hK⟩:=h
 refine ⟨_,_,hK,?_⟩
 clear hK
 have hl0:=glq hid
 have hne:=aL hl0
 have hss:=bd hid
 have hcs:=ax hid
 have hcm:=fun cs=>@al H id cs hl0
 have hgm:=fun o=>@aB H id o hl0
 have hl1:=dO m l e most
 have hm1:=dT m l e most
 have hc1:=eI (m,l,e) most
 obtain ⟨Q,hQ⟩:∃ Q,rlP (eZ LP) most (m,l,e)=Q:=⟨_,rfl⟩
 rw [hQ]
 unfold rlP at hQ
 generalize h1:bq (m,l,e) most=q1 at *
 obtain ⟨cc,m1,l1,e1⟩:=q1
 dsimp only at hl1 hm1 hc1 hQ
 obtain ⟨kc,rfl⟩:∃ kc:Nat,cc=(kc:Int):=⟨cc.toNat,by omega⟩
 rw [iNq] at hQ
 obtain ⟨⟨GO,gs⟩,hG⟩:∃ G,goP (eZ LP) kc (m1,l1,e1)=G:=⟨_,rfl⟩
 have hgo:=gb (fM gn) kc (m1,l1,e1)
 rw [hG] at hQ hgo
 obtain ⟨hg1,hg2,_⟩:=hgo
 obtain ⟨gm,gl,ge⟩:=gs
 dsimp only at hQ hg1 hg2
 subst hQ
 refine ACalls.fW ag (tCq dJ (tCq Cl (tCq eJ tNq))) Tryz.func84 [.tmp 4] (by simp only [zlf];omega) (T:=af []) (h:=fun hcl hlt=>?_)
 clear hlt
 have b1:l1.length≤100000:=by omega
 simp only [dt,du,bhq,Nat.reduceMod,Nat.reduceDiv,bh,bg,bm,cz,bk,cy,cr,cx,cu,yaq,yar,yao,yap,go_sem,byq,hne,hid,hcs,hcm,hgm,onR,ah,ar,zmb,zlz,zlk,and_true,true_and,hid,dU,h1,b1,az]
 refine ⟨hle,?_⟩
 have hltC:ltL (H.nx+1) [.int .i64 most,.func (.func f) [] [],.func (.func 187) [] []]:=by simp [znu,znv,znf,bG]
 have hclL:∀ (s:RS) (k:Nat),cW m s.1→((((H.set id (.cells [.slice s.1 1 (bys s.2.1),.int .i64 s.2.2])).push (.cells [.int .i64 most,.func (.func f) [] [],.func (.func 187) [] []])).push (.buf 6 0)).push (.buf 6 k)).Closed:=fun s k hs=>aF (aF (aj (ap hid hcl s.1 hs s.2.1 s.2.2) (by simpa only [zlf] using hltC)))
 refine aq (A:=List SRole × RS) (fun x=>[(0,.ptr id 0),(3,.ptr H.nx 0),(5,.slice (.own (H.nx+1+1)) 6 (x.1.map (bH))),(10,.int .i64 (kc:Int)),(11,.int .i64 (x.1.length:Int))]) (fun x=>(((H.set id (.cells [.slice x.2.1 1 (bys x.2.2.1),.int .i64 x.2.2.2])).push (.cells [.int .i64 most,.func (.func f) [] [],.func (.func 187) [] []])).push (.buf 6 0)).push (.buf 6 x.1.length)) (fun x=>x.1.length≤kc∧((goP (eZ LP) (kc - x.1.length) x.2).1.map (x.1++·),(goP (eZ LP) (kc - x.1.length) x.2).2)=(GO,gm,gl,ge)∧x.2.2.1.length≤l1.length∧cW m x.2.1) (fun x=>kc - x.1.length) ([],(m1,l1,e1)) ⟨Nat.zero_le _,by rw [← hG];simp,nrq _,hm1⟩ ?_ fun x hx=>?_
 ·refine ⟨by simp only [zkq,zkv,zle,zlf];omega,by repeat first|exact .refl _|refine .push ?_ _,hclL (m1,l1,e1) 0 hm1,?_,?_⟩
  ·simp [ltF,znf,znn,aC,znv,zle,zlf]
   try omega
  ·simp [aM,wk2,wk1,wkM,Fr.get]
 obtain ⟨us,m2,l2,e2⟩:=x
 obtain ⟨hx1,hx2,hx3,hx4⟩:=hx
 dsimp only at hx1 hx2 hx3 hx4 ⊢
 have b2:l2.length≤100000:=by omega
 have ne1:(H.nx+1=id)=False:=eq_false (by omega)
 simp only [go_sem]
 refine ae (fun hc=>?_) (fun hc=>?_)
 ·have hk':us.length<kc:=by simp at hc;omega
  have e5:IntKind.i64.wrap ((us.length:Int)+1)=((us.length+1:Nat):Int):=by rw [wrap_i64]<;>omega
  have hu:goP (eZ LP) (kc - us.length) (m2,l2,e2)=if ((eZ LP) (m2,l2,e2)).2.2.2≠0 then (none,((eZ LP) (m2,l2,e2)).2) else ((goP (eZ LP) (kc - (us.length+1)) ((eZ LP) (m2,l2,e2)).2).1.map (((eZ LP) (m2,l2,e2)).1::·),(goP (eZ LP) (kc - (us.length+1)) ((eZ LP) (m2,l2,e2)).2).2):=by
   rw [show kc - us.length=(kc - (us.length+1))+1 by omega];rfl
  rw [hu] at hx2
  have hl3:=(fM gn).l (m2,l2,e2)
  have hm3:=(fM gn).m (m2,l2,e2)
  generalize hq3:(eZ LP) (m2,l2,e2)=q3 at *
  obtain ⟨n3,m3,l3,e3⟩:=q3
  dsimp only at hl3 hm3 hx2
  have b3:l3.length≤100000:=by omega
  have hmm:cW m m3:=aJ hx4 hm3
  cases hz:(e3 != 0)
  ·have hz':e3=0:=by simpa using hz
   rw [if_neg (by rw [hz'];decide)] at hx2
   simp only [go_sem,byq,hne,hid,hcs,hcm,hgm,onR,ah,ar,zmb,zlz,zlk,and_true,true_and,hid,qF,cA,cg,hq3,hz,b2,b3,az,bH,e5,ybb]
   have hlen:(us++[n3]).length=us.length+1:=by simp
   refine ⟨⟨by omega,by omega,fun z hz=>by rw [List.mem_singleton] at hz;subst hz;rfl⟩,(us++[n3],(m3,l3,e3)),⟨by dsimp only;omega,?_,by dsimp only;omega,hmm⟩,by dsimp only;omega,?_⟩
   ·dsimp only
    rw [hlen,← hx2]
    generalize goP (eZ LP) (kc - (us.length+1)) (m3,l3,e3)=q5
    obtain ⟨o,t⟩:=q5
    cases o
    ·rfl
    ·simp [List.append_assoc]
   ·refine ⟨by simp only [zle,zlf];omega,?_,hclL (m3,l3,e3) _ hmm,?_,?_⟩
    ·simp only [List.map_append,yae,yaf,bH,lAq,yaz,yba]
     repeat first|exact .refl _|refine .push ?_ _
    ·simp [ltF,znf,znn,aC,zle,zlf]
     refine ⟨by omega,by omega,ltL_iff.2 fun j hj=>?_⟩
     have hmem:=gMq hj
     rw [List.mem_append,List.mem_map,List.mem_singleton] at hmem
     rcases hmem with ⟨x,_,e⟩|e
     ·rw [← e];exact (fun x=>ck x) x
     ·rw [e];exact (fun x=>ck x) _
    ·simp [aM,wk2,wk1,wkM,Fr.get,bH]
  ·have hz':e3≠0:=by simpa using hz
   rw [if_pos hz'] at hx2
   simp only [Option.map,Prod.mk.injEq] at hx2
   obtain ⟨rfl,rfl,rfl,rfl⟩:=hx2
   simp only [go_sem,byq,hne,hid,hcs,hcm,hgm,onR,ah,ar,zmb,zlz,zlk,and_true,true_and,hid,qF,cA,cg,hq3,hz,b2,b3,az,bH,Option.getD_none,yaf]
   exact ⟨by simp [wk,wk2,wk1,wkM],by repeat first|exact .refl _|refine .push ?_ _,ap hid hcl _ hmm _ _,by simp [aC,znv]⟩
 ·have hk':us.length=kc:=by simp at hc;omega
  subst hk'
  rw [Nat.sub_self] at hx2
  simp only [goP,Option.map,yaj,Prod.mk.injEq] at hx2
  obtain ⟨rfl,rfl,rfl,rfl⟩:=hx2
  simp only [go_sem,byq,Option.getD_some]
  exact ⟨by simp [wk,wk2,wk1,wkM],by repeat first|exact .refl _|refine .push ?_ _,ap hid hcl _ hx4 _ _,aA (fun x=>ck x)⟩
end Go.AL
