/- Contracts and plain laws, a part of the proof; no condition of its own. -/
import Derived.Test.YthpglnacipgolaaGreatW03x
import Derived.Test.YthpglnacipgolaaGreatLRdS
open List renaming length_cons → yaz, length_nil → yba, take_succ_cons → yaq, take_zero → yar, drop_succ_cons → yao, drop_zero → yap, length_map → ybb, map_cons → yae, map_nil → yaf, append_nil → yaj, cons_append → yal, nil_append → yak
open Go Go.AL Go.Proofs
namespace Go.AL
set_option linter.all false
set_option maxRecDepth 10000

theorem LP_l {α:Type} {rd:RM α} {m:Int}:LP.l rd m=rlP rd m:=rfl
theorem LX_l {α:Type} {rd:RM α} {m:Int}:LX.l rd m=rlX rd m:=rfl
theorem count_bd (s:RS) (n:Int):0≤(countR s n).1∧(countR s n).1≤65535:=by
  unfold countR
  split
  · exact ⟨Int.le_refl _,(show (0:Int)≤65535 by decide)⟩
  · split
    · exact ⟨Int.le_refl _,(show (0:Int)≤65535 by decide)⟩
    · split
      · exact ⟨Int.le_refl _,(show (0:Int)≤65535 by decide)⟩
      · rename_i h1 h2
        have h:=beVal_lt (s.2.1.take 2)
        rw [List.length_take,show min 2 s.2.1.length=2 by omega] at h
        exact ⟨Int.natCast_nonneg _,by dsimp only;omega⟩
def e_rdInt:List AV→AHeap→(AEnd→AHeap→Prop)→Prop
  | [.ptr id 0],H,K=>onR H id fun m l e=>True∧K (.ret (.int .i64 ((rU 2) (m,l,e)).1)) (H.set id (.cells (cellR ((rU 2) (m,l,e)).2)))
  | _,_,_=>False
set_option maxHeartbeats 4000000 in
theorem ok_rdInt:EntOk Tryz.prog 308 (Ent.effect e_rdInt):=by
  refine EntOk.effect fun args H K h=>?_
  unfold e_rdInt at h
  split at h
  rotate_left
  · exact h.elim
  rename_i id
  obtain ⟨m,l,e,hid,hle,h⟩:=onR_out h
  obtain ⟨hpre,hK⟩:=h
  refine ⟨_,_,hK,?_⟩
  clear hK
  have hl0:=AHeap.get_lt hid
  have hne:=far_of hl0
  have hss:=set_same hid
  have hcs:=cells_some hid
  have hcm:=fun cs=>@cells_set_same H id cs hl0
  have hgm:=fun o=>@get_set_same' H id o hl0
  obtain ⟨Q,hQ⟩:∃ Q,(rU 2) (m,l,e)=Q:=⟨_,rfl⟩
  rw [hQ]
  unfold rU at hQ
  try dsimp only [rap,rpure,rU,rT,rV,rB,LP_l] at hQ
  have hl0:=uintR_l m l e 2
  have hm0:=uintR_m m l e 2
  generalize h0:uintR (m,l,e) 2=q0 at *
  obtain ⟨v0,m0,l0,e0⟩:=q0
  dsimp only [rU,rV,rB] at hQ hl0 hm0
  subst hQ
  dsimp only [cellR]
  refine ACalls.of_aw (Ω:=[(95,Ent.effect e_Uint)]) (T:=assoc []) mixed (TblOk.cons ok_Uint TblOk.nil) Tryz.func308 (by kernel_rfl) (by rfl) (rs:=[.tmp 2]) (by rfl) (by kernel_rfl) (by simp only [Tryz.ntmps308,yaz,yba];decide) (by simp only [zkz];omega) fun hcl hlt=>?_
  change aw _ _ _ (KI Tryz.prog [(95,Ent.effect e_Uint)] (aEnd Tryz.prog [.tmp 2] H.nx _ _ (assoc [])) []) _ _
  clear hlt
  have b0:l0.length≤100000:=by omega
  simp only [go_sem,byq,hne,hid,hcs,hcm,hgm,onR,onRo_some,onRo_nil,zlv,zlt,zle,and_true,true_and,hid,onR,onRo_some,cellR,vv,vc,e_Uint,h0,b0]
  have hclz:(H.set id (.cells [.slice m0 1 (bys l0),.int .i64 e0])).Closed:=closedR hid hcl m0 hm0 l0 e0
  refine ⟨hle,?_,by repeat (first | exact AHeap.Le.refl _ | refine AHeap.Le.push ?_ _),hclz,(fun x=>of_eq_true zmz) _⟩
  simp [wk,wk2,wkL,wk1,wkM,wkM]
def e_gtInt:List AV→AHeap→(AEnd→AHeap→Prop)→Prop
  | [.ptr id 0,.agg [.int .i64 most,.func (.func f) [] [],.func (.func 308) [] []]],H,K=>onR H id fun m l e=>True∧K (.ret (.slice .any 1 ((rlP (rU 2) most (m,l,e)).1.map (.int .i64)))) (H.set id (.cells (cellR (rlP (rU 2) most (m,l,e)).2)))
  | _,_,_=>False
set_option maxHeartbeats 4000000 in
theorem ok_gtInt:EntOk Tryz.prog 184 (Ent.effect e_gtInt):=by
  refine EntOk.effect fun args H K h=>?_
  unfold e_gtInt at h
  split at h
  rotate_left
  · exact h.elim
  rename_i id most f
  obtain ⟨m,l,e,hid,hle,h⟩:=onR_out h
  obtain ⟨hpre,hK⟩:=h
  refine ⟨_,_,hK,?_⟩
  clear hK
  have hl0:=AHeap.get_lt hid
  have hne:=far_of hl0
  have hss:=set_same hid
  have hcs:=cells_some hid
  have hcm:=fun cs=>@cells_set_same H id cs hl0
  have hgm:=fun o=>@get_set_same' H id o hl0
  have hl1:=countR_l m l e most
  have hm1:=countR_m m l e most
  have hc1:=count_bd (m,l,e) most
  obtain ⟨Q,hQ⟩:∃ Q,rlP (rU 2) most (m,l,e)=Q:=⟨_,rfl⟩
  rw [hQ]
  unfold rlP at hQ
  generalize h1:countR (m,l,e) most=q1 at *
  obtain ⟨cc,m1,l1,e1⟩:=q1
  dsimp only at hl1 hm1 hc1 hQ
  obtain ⟨kc,rfl⟩:∃ kc:Nat,cc=(kc:Int):=⟨cc.toNat,by omega⟩
  rw [Int.toNat_natCast] at hQ
  obtain ⟨⟨GO,gs⟩,hG⟩:∃ G,goP (rU 2) kc (m1,l1,e1)=G:=⟨_,rfl⟩
  have hgo:=goP_go (rU_go 2) kc (m1,l1,e1)
  rw [hG] at hQ hgo
  obtain ⟨hg1,hg2,_⟩:=hgo
  obtain ⟨gm,gl,ge⟩:=gs
  dsimp only at hQ hg1 hg2
  subst hQ
  refine ACalls.of_aw (Ω:=[(97,Ent.effect e_RCount),(308,Ent.effect e_rdInt),(235,Ent.effect e_RErrE)]) (T:=assoc []) mixed (TblOk.cons ok_RCount (TblOk.cons ok_rdInt (TblOk.cons ok_RErrE TblOk.nil))) Tryz.func184 (by kernel_rfl) (by rfl) (rs:=[.tmp 4]) (by rfl) (by kernel_rfl) (by simp only [Tryz.ntmps184,yaz,yba];decide) (by simp only [zkz];omega) fun hcl hlt=>?_
  change aw _ _ _ (KI Tryz.prog [(97,Ent.effect e_RCount),(308,Ent.effect e_rdInt),(235,Ent.effect e_RErrE)] (aEnd Tryz.prog [.tmp 4] H.nx _ _ (assoc [])) []) _ _
  clear hlt
  have b1:l1.length≤100000:=by omega
  simp only [blkE,blkP,bhq,Nat.reduceMod,Nat.reduceDiv,stepH,stepM,toMs1,toMs,toMs0,strK,pubK,pubF,pubV,yaq,yar,yao,yap,go_sem,byq,hne,hid,hcs,hcm,hgm,onR,onRo_some,onRo_nil,zlv,zlt,zle,and_true,true_and,hid,e_RCount,h1,b1,cellR]
  refine ⟨hle,?_⟩
  have hltC:ltL (H.nx+1) [.int .i64 most,.func (.func f) [] [],.func (.func 308) [] []]:=by simp [zno,znp,zmz,lt_func0]
  have hclL:∀ (s:RS) (k:Nat),mkOk m s.1→((((H.set id (.cells [.slice s.1 1 (bys s.2.1),.int .i64 s.2.2])).push (.cells [.int .i64 most,.func (.func f) [] [],.func (.func 308) [] []])).push (.buf 1 0)).push (.buf 1 k)).Closed:=fun s k hs=>closed_buf (closed_buf (closed_cells (closedR hid hcl s.1 hs s.2.1 s.2.2) (by simpa only [zkz] using hltC)))
  refine loop_introW (A:=List Int × RS) (fun x=>[(0,.ptr id 0),(3,.ptr H.nx 0),(5,.slice (.own (H.nx+1+1)) 1 (x.1.map (.int .i64))),(10,.int .i64 (kc:Int)),(11,.int .i64 (x.1.length:Int))]) (fun x=>(((H.set id (.cells [.slice x.2.1 1 (bys x.2.2.1),.int .i64 x.2.2.2])).push (.cells [.int .i64 most,.func (.func f) [] [],.func (.func 308) [] []])).push (.buf 1 0)).push (.buf 1 x.1.length)) (fun x=>x.1.length≤kc∧((goP (rU 2) (kc - x.1.length) x.2).1.map (x.1++·),(goP (rU 2) (kc - x.1.length) x.2).2)=(GO,gm,gl,ge)∧x.2.2.1.length≤l1.length∧mkOk m x.2.1) (fun x=>kc - x.1.length) ([],(m1,l1,e1)) ⟨Nat.zero_le _,by rw [← hG];simp,Nat.le_refl _,hm1⟩ ?_ fun x hx=>?_
  · refine ⟨by simp only [zkk,zkp,zky,zkz];omega,by repeat (first | exact AHeap.Le.refl _ | refine AHeap.Le.push ?_ _),hclL (m1,l1,e1) 0 hm1,?_,?_⟩
    · simp [ltF,zmz,znh,lt_sliceL,znp,zky,zkz]
      try omega
    · simp [subW,wk2,wk1,wkM,Fr.get]
  obtain ⟨us,m2,l2,e2⟩:=x
  obtain ⟨hx1,hx2,hx3,hx4⟩:=hx
  dsimp only at hx1 hx2 hx3 hx4 ⊢
  have b2:l2.length≤100000:=by omega
  have ne1:(H.nx+1=id)=False:=eq_false (by omega)
  simp only [go_sem]
  refine cond_split (fun hc=>?_) (fun hc=>?_)
  · have hk':us.length<kc:=by simp at hc;omega
    have e5:IntKind.i64.wrap ((us.length:Int)+1)=((us.length+1:Nat):Int):=by rw [wrap_i64]<;>omega
    have hu:goP (rU 2) (kc - us.length) (m2,l2,e2)=if ((rU 2) (m2,l2,e2)).2.2.2≠0 then (none,((rU 2) (m2,l2,e2)).2) else ((goP (rU 2) (kc - (us.length+1)) ((rU 2) (m2,l2,e2)).2).1.map (((rU 2) (m2,l2,e2)).1::·),(goP (rU 2) (kc - (us.length+1)) ((rU 2) (m2,l2,e2)).2).2):=by
      rw [show kc - us.length=(kc - (us.length+1))+1 by omega];rfl
    rw [hu] at hx2
    have hl3:=(rU_go 2).l (m2,l2,e2)
    have hm3:=(rU_go 2).m (m2,l2,e2)
    generalize hq3:(rU 2) (m2,l2,e2)=q3 at *
    obtain ⟨n3,m3,l3,e3⟩:=q3
    dsimp only at hl3 hm3 hx2
    have b3:l3.length≤100000:=by omega
    have hmm:mkOk m m3:=mkOk_tr hx4 hm3
    
    cases hz:(e3 != 0)
    · have hz':e3=0:=by simpa using hz
      rw [if_neg (by rw [hz'];decide)] at hx2
      simp only [go_sem,byq,hne,hid,hcs,hcm,hgm,onR,onRo_some,onRo_nil,zlv,zlt,zle,and_true,true_and,hid,e_rdInt,p_RErr,e_RErrE,hq3,hz,b2,b3,cellR,e5,ybb]
      have hlen:(us++[n3]).length=us.length+1:=by simp
      refine ⟨⟨by omega,by omega,fun z hz=>by rw [List.mem_singleton] at hz;subst hz;rfl⟩,(us++[n3],(m3,l3,e3)),⟨by dsimp only;omega,?_,by dsimp only;omega,hmm⟩,by dsimp only;omega,?_⟩
      · dsimp only
        rw [hlen,← hx2]
        generalize goP (rU 2) (kc - (us.length+1)) (m3,l3,e3)=q5
        obtain ⟨o,t⟩:=q5
        cases o
        · rfl
        · simp [List.append_assoc]
      · refine ⟨by simp only [zky,zkz];omega,?_,hclL (m3,l3,e3) _ hmm,?_,?_⟩
        · simp only [List.map_append,yae,yaf,List.length_append,yaz,yba]
          repeat (first | exact AHeap.Le.refl _ | refine AHeap.Le.push ?_ _)
        · simp [ltF,zmz,znh,lt_sliceL,zky,zkz]
          refine ⟨by omega,by omega,ltL_iff.2 fun j hj=>?_⟩
          have hmem:=List.getElem_mem hj
          rw [List.mem_append,List.mem_map,List.mem_singleton] at hmem
          rcases hmem with ⟨x,_,e⟩ | e
          · rw [← e];exact (fun x=>of_eq_true zmz) x
          · rw [e];exact (fun x=>of_eq_true zmz) _
        · simp [subW,wk2,wk1,wkM,Fr.get,wkM]
    · have hz':e3≠0:=by simpa using hz
      rw [if_pos hz'] at hx2
      simp only [Option.map,Prod.mk.injEq] at hx2
      obtain ⟨rfl,rfl,rfl,rfl⟩:=hx2
      simp only [go_sem,byq,hne,hid,hcs,hcm,hgm,onR,onRo_some,onRo_nil,zlv,zlt,zle,and_true,true_and,hid,e_rdInt,p_RErr,e_RErrE,hq3,hz,b2,b3,cellR,Option.getD_none,yaf]
      exact ⟨by simp [wk,wk2,wk1,wkM],by repeat (first | exact AHeap.Le.refl _ | refine AHeap.Le.push ?_ _),closedR hid hcl _ hmm _ _,by simp [lt_sliceL,znp]⟩
  · have hk':us.length=kc:=by simp at hc;omega
    subst hk'
    rw [Nat.sub_self] at hx2
    simp only [goP,Option.map,yaj,Prod.mk.injEq] at hx2
    obtain ⟨rfl,rfl,rfl,rfl⟩:=hx2
    simp only [go_sem,byq,Option.getD_some]
    exact ⟨by simp [wk,wk2,wk1,wkM],by repeat (first | exact AHeap.Le.refl _ | refine AHeap.Le.push ?_ _),closedR hid hcl _ hx4 _ _,lt_map (fun x=>of_eq_true zmz)⟩
def e_gtVal:List AV→AHeap→(AEnd→AHeap→Prop)→Prop
  | [.ptr id 0,.agg [.int .i64 most,.func (.func f) [] [],.func (.func 234) [] []]],H,K=>onR H id fun m l e=>True∧K (.ret (.slice .any 2 ((rlP rV most (m,l,e)).1.map (vv)))) (H.set id (.cells (cellR (rlP rV most (m,l,e)).2)))
  | _,_,_=>False
set_option maxHeartbeats 4000000 in
theorem ok_gtVal:EntOk Tryz.prog 205 (Ent.effect e_gtVal):=by
  refine EntOk.effect fun args H K h=>?_
  unfold e_gtVal at h
  split at h
  rotate_left
  · exact h.elim
  rename_i id most f
  obtain ⟨m,l,e,hid,hle,h⟩:=onR_out h
  obtain ⟨hpre,hK⟩:=h
  refine ⟨_,_,hK,?_⟩
  clear hK
  have hl0:=AHeap.get_lt hid
  have hne:=far_of hl0
  have hss:=set_same hid
  have hcs:=cells_some hid
  have hcm:=fun cs=>@cells_set_same H id cs hl0
  have hgm:=fun o=>@get_set_same' H id o hl0
  have hl1:=countR_l m l e most
  have hm1:=countR_m m l e most
  have hc1:=count_bd (m,l,e) most
  obtain ⟨Q,hQ⟩:∃ Q,rlP rV most (m,l,e)=Q:=⟨_,rfl⟩
  rw [hQ]
  unfold rlP at hQ
  generalize h1:countR (m,l,e) most=q1 at *
  obtain ⟨cc,m1,l1,e1⟩:=q1
  dsimp only at hl1 hm1 hc1 hQ
  obtain ⟨kc,rfl⟩:∃ kc:Nat,cc=(kc:Int):=⟨cc.toNat,by omega⟩
  rw [Int.toNat_natCast] at hQ
  obtain ⟨⟨GO,gs⟩,hG⟩:∃ G,goP rV kc (m1,l1,e1)=G:=⟨_,rfl⟩
  have hgo:=goP_go rV_go kc (m1,l1,e1)
  rw [hG] at hQ hgo
  obtain ⟨hg1,hg2,_⟩:=hgo
  obtain ⟨gm,gl,ge⟩:=gs
  dsimp only at hQ hg1 hg2
  subst hQ
  refine ACalls.of_aw (Ω:=[(97,Ent.effect e_RCount),(234,Ent.effect e_RValue),(235,Ent.effect e_RErrE)]) (T:=assoc []) mixed (TblOk.cons ok_RCount (TblOk.cons ok_RValue (TblOk.cons ok_RErrE TblOk.nil))) Tryz.func205 (by kernel_rfl) (by rfl) (rs:=[.tmp 4]) (by rfl) (by kernel_rfl) (by simp only [Tryz.ntmps205,yaz,yba];decide) (by simp only [zkz];omega) fun hcl hlt=>?_
  change aw _ _ _ (KI Tryz.prog [(97,Ent.effect e_RCount),(234,Ent.effect e_RValue),(235,Ent.effect e_RErrE)] (aEnd Tryz.prog [.tmp 4] H.nx _ _ (assoc [])) []) _ _
  clear hlt
  have b1:l1.length≤100000:=by omega
  simp only [blkE,blkP,bhq,Nat.reduceMod,Nat.reduceDiv,stepH,stepM,toMs1,toMs,toMs0,strK,pubK,pubF,pubV,yaq,yar,yao,yap,go_sem,byq,hne,hid,hcs,hcm,hgm,onR,onRo_some,onRo_nil,zlv,zlt,zle,and_true,true_and,hid,e_RCount,h1,b1,cellR]
  refine ⟨hle,?_⟩
  have hltC:ltL (H.nx+1) [.int .i64 most,.func (.func f) [] [],.func (.func 234) [] []]:=by simp [zno,znp,zmz,lt_func0]
  have hclL:∀ (s:RS) (k:Nat),mkOk m s.1→((((H.set id (.cells [.slice s.1 1 (bys s.2.1),.int .i64 s.2.2])).push (.cells [.int .i64 most,.func (.func f) [] [],.func (.func 234) [] []])).push (.buf 2 0)).push (.buf 2 k)).Closed:=fun s k hs=>closed_buf (closed_buf (closed_cells (closedR hid hcl s.1 hs s.2.1 s.2.2) (by simpa only [zkz] using hltC)))
  refine loop_introW (A:=List Nat × RS) (fun x=>[(0,.ptr id 0),(3,.ptr H.nx 0),(5,.slice (.own (H.nx+1+1)) 2 (x.1.map (vv))),(10,.int .i64 (kc:Int)),(11,.int .i64 (x.1.length:Int))]) (fun x=>(((H.set id (.cells [.slice x.2.1 1 (bys x.2.2.1),.int .i64 x.2.2.2])).push (.cells [.int .i64 most,.func (.func f) [] [],.func (.func 234) [] []])).push (.buf 2 0)).push (.buf 2 x.1.length)) (fun x=>x.1.length≤kc∧((goP rV (kc - x.1.length) x.2).1.map (x.1++·),(goP rV (kc - x.1.length) x.2).2)=(GO,gm,gl,ge)∧x.2.2.1.length≤l1.length∧mkOk m x.2.1) (fun x=>kc - x.1.length) ([],(m1,l1,e1)) ⟨Nat.zero_le _,by rw [← hG];simp,Nat.le_refl _,hm1⟩ ?_ fun x hx=>?_
  · refine ⟨by simp only [zkk,zkp,zky,zkz];omega,by repeat (first | exact AHeap.Le.refl _ | refine AHeap.Le.push ?_ _),hclL (m1,l1,e1) 0 hm1,?_,?_⟩
    · simp [ltF,zmz,znh,lt_sliceL,znp,zky,zkz]
      try omega
    · simp [subW,wk2,wk1,wkM,Fr.get]
  obtain ⟨us,m2,l2,e2⟩:=x
  obtain ⟨hx1,hx2,hx3,hx4⟩:=hx
  dsimp only at hx1 hx2 hx3 hx4 ⊢
  have b2:l2.length≤100000:=by omega
  have ne1:(H.nx+1=id)=False:=eq_false (by omega)
  simp only [go_sem]
  refine cond_split (fun hc=>?_) (fun hc=>?_)
  · have hk':us.length<kc:=by simp at hc;omega
    have e5:IntKind.i64.wrap ((us.length:Int)+1)=((us.length+1:Nat):Int):=by rw [wrap_i64]<;>omega
    have hu:goP rV (kc - us.length) (m2,l2,e2)=if (rV (m2,l2,e2)).2.2.2≠0 then (none,(rV (m2,l2,e2)).2) else ((goP rV (kc - (us.length+1)) (rV (m2,l2,e2)).2).1.map ((rV (m2,l2,e2)).1::·),(goP rV (kc - (us.length+1)) (rV (m2,l2,e2)).2).2):=by
      rw [show kc - us.length=(kc - (us.length+1))+1 by omega];rfl
    rw [hu] at hx2
    have hl3:=rV_go.l (m2,l2,e2)
    have hm3:=rV_go.m (m2,l2,e2)
    generalize hq3:rV (m2,l2,e2)=q3 at *
    obtain ⟨n3,m3,l3,e3⟩:=q3
    dsimp only at hl3 hm3 hx2
    have b3:l3.length≤100000:=by omega
    have hmm:mkOk m m3:=mkOk_tr hx4 hm3
    unfold rV at hq3
    cases hz:(e3 != 0)
    · have hz':e3=0:=by simpa using hz
      rw [if_neg (by rw [hz'];decide)] at hx2
      simp only [go_sem,byq,hne,hid,hcs,hcm,hgm,onR,onRo_some,onRo_nil,zlv,zlt,zle,and_true,true_and,hid,e_RValue,p_RErr,e_RErrE,hq3,hz,b2,b3,cellR,vv,e5,ybb]
      have hlen:(us++[n3]).length=us.length+1:=by simp
      refine ⟨⟨by omega,by omega,fun z hz=>by rw [List.mem_singleton] at hz;subst hz;rfl⟩,(us++[n3],(m3,l3,e3)),⟨by dsimp only;omega,?_,by dsimp only;omega,hmm⟩,by dsimp only;omega,?_⟩
      · dsimp only
        rw [hlen,← hx2]
        generalize goP rV (kc - (us.length+1)) (m3,l3,e3)=q5
        obtain ⟨o,t⟩:=q5
        cases o
        · rfl
        · simp [List.append_assoc]
      · refine ⟨by simp only [zky,zkz];omega,?_,hclL (m3,l3,e3) _ hmm,?_,?_⟩
        · simp only [List.map_append,yae,yaf,vv,List.length_append,yaz,yba]
          repeat (first | exact AHeap.Le.refl _ | refine AHeap.Le.push ?_ _)
        · simp [ltF,zmz,znh,lt_sliceL,zky,zkz]
          refine ⟨by omega,by omega,ltL_iff.2 fun j hj=>?_⟩
          have hmem:=List.getElem_mem hj
          rw [List.mem_append,List.mem_map,List.mem_singleton] at hmem
          rcases hmem with ⟨x,_,e⟩ | e
          · rw [← e];exact (fun x=>lt_vv) x
          · rw [e];exact (fun x=>lt_vv) _
        · simp [subW,wk2,wk1,wkM,Fr.get,vv]
    · have hz':e3≠0:=by simpa using hz
      rw [if_pos hz'] at hx2
      simp only [Option.map,Prod.mk.injEq] at hx2
      obtain ⟨rfl,rfl,rfl,rfl⟩:=hx2
      simp only [go_sem,byq,hne,hid,hcs,hcm,hgm,onR,onRo_some,onRo_nil,zlv,zlt,zle,and_true,true_and,hid,e_RValue,p_RErr,e_RErrE,hq3,hz,b2,b3,cellR,vv,Option.getD_none,yaf]
      exact ⟨by simp [wk,wk2,wk1,wkM],by repeat (first | exact AHeap.Le.refl _ | refine AHeap.Le.push ?_ _),closedR hid hcl _ hmm _ _,by simp [lt_sliceL,znp]⟩
  · have hk':us.length=kc:=by simp at hc;omega
    subst hk'
    rw [Nat.sub_self] at hx2
    simp only [goP,Option.map,yaj,Prod.mk.injEq] at hx2
    obtain ⟨rfl,rfl,rfl,rfl⟩:=hx2
    simp only [go_sem,byq,Option.getD_some]
    exact ⟨by simp [wk,wk2,wk1,wkM],by repeat (first | exact AHeap.Le.refl _ | refine AHeap.Le.push ?_ _),closedR hid hcl _ hx4 _ _,lt_map (fun x=>lt_vv)⟩
def e_gtTru:List AV→AHeap→(AEnd→AHeap→Prop)→Prop
  | [.ptr id 0,.agg [.int .i64 most,.func (.func f) [] [],.func (.func 96) [] []]],H,K=>onR H id fun m l e=>True∧K (.ret (.slice .any 1 ((rlP rB most (m,l,e)).1.map (.bool)))) (H.set id (.cells (cellR (rlP rB most (m,l,e)).2)))
  | _,_,_=>False
set_option maxHeartbeats 4000000 in
theorem ok_gtTru:EntOk Tryz.prog 322 (Ent.effect e_gtTru):=by
  refine EntOk.effect fun args H K h=>?_
  unfold e_gtTru at h
  split at h
  rotate_left
  · exact h.elim
  rename_i id most f
  obtain ⟨m,l,e,hid,hle,h⟩:=onR_out h
  obtain ⟨hpre,hK⟩:=h
  refine ⟨_,_,hK,?_⟩
  clear hK
  have hl0:=AHeap.get_lt hid
  have hne:=far_of hl0
  have hss:=set_same hid
  have hcs:=cells_some hid
  have hcm:=fun cs=>@cells_set_same H id cs hl0
  have hgm:=fun o=>@get_set_same' H id o hl0
  have hl1:=countR_l m l e most
  have hm1:=countR_m m l e most
  have hc1:=count_bd (m,l,e) most
  obtain ⟨Q,hQ⟩:∃ Q,rlP rB most (m,l,e)=Q:=⟨_,rfl⟩
  rw [hQ]
  unfold rlP at hQ
  generalize h1:countR (m,l,e) most=q1 at *
  obtain ⟨cc,m1,l1,e1⟩:=q1
  dsimp only at hl1 hm1 hc1 hQ
  obtain ⟨kc,rfl⟩:∃ kc:Nat,cc=(kc:Int):=⟨cc.toNat,by omega⟩
  rw [Int.toNat_natCast] at hQ
  obtain ⟨⟨GO,gs⟩,hG⟩:∃ G,goP rB kc (m1,l1,e1)=G:=⟨_,rfl⟩
  have hgo:=goP_go rB_go kc (m1,l1,e1)
  rw [hG] at hQ hgo
  obtain ⟨hg1,hg2,_⟩:=hgo
  obtain ⟨gm,gl,ge⟩:=gs
  dsimp only at hQ hg1 hg2
  subst hQ
  refine ACalls.of_aw (Ω:=[(97,Ent.effect e_RCount),(96,Ent.effect e_RBool),(235,Ent.effect e_RErrE)]) (T:=assoc []) mixed (TblOk.cons ok_RCount (TblOk.cons ok_RBool (TblOk.cons ok_RErrE TblOk.nil))) Tryz.func322 (by kernel_rfl) (by rfl) (rs:=[.tmp 4]) (by rfl) (by kernel_rfl) (by simp only [Tryz.ntmps322,yaz,yba];decide) (by simp only [zkz];omega) fun hcl hlt=>?_
  change aw _ _ _ (KI Tryz.prog [(97,Ent.effect e_RCount),(96,Ent.effect e_RBool),(235,Ent.effect e_RErrE)] (aEnd Tryz.prog [.tmp 4] H.nx _ _ (assoc [])) []) _ _
  clear hlt
  have b1:l1.length≤100000:=by omega
  simp only [blkE,blkP,bhq,Nat.reduceMod,Nat.reduceDiv,stepH,stepM,toMs1,toMs,toMs0,strK,pubK,pubF,pubV,yaq,yar,yao,yap,go_sem,byq,hne,hid,hcs,hcm,hgm,onR,onRo_some,onRo_nil,zlv,zlt,zle,and_true,true_and,hid,e_RCount,h1,b1,cellR]
  refine ⟨hle,?_⟩
  have hltC:ltL (H.nx+1) [.int .i64 most,.func (.func f) [] [],.func (.func 96) [] []]:=by simp [zno,znp,zmz,lt_func0]
  have hclL:∀ (s:RS) (k:Nat),mkOk m s.1→((((H.set id (.cells [.slice s.1 1 (bys s.2.1),.int .i64 s.2.2])).push (.cells [.int .i64 most,.func (.func f) [] [],.func (.func 96) [] []])).push (.buf 1 0)).push (.buf 1 k)).Closed:=fun s k hs=>closed_buf (closed_buf (closed_cells (closedR hid hcl s.1 hs s.2.1 s.2.2) (by simpa only [zkz] using hltC)))
  refine loop_introW (A:=List Bool × RS) (fun x=>[(0,.ptr id 0),(3,.ptr H.nx 0),(5,.slice (.own (H.nx+1+1)) 1 (x.1.map (.bool))),(10,.int .i64 (kc:Int)),(11,.int .i64 (x.1.length:Int))]) (fun x=>(((H.set id (.cells [.slice x.2.1 1 (bys x.2.2.1),.int .i64 x.2.2.2])).push (.cells [.int .i64 most,.func (.func f) [] [],.func (.func 96) [] []])).push (.buf 1 0)).push (.buf 1 x.1.length)) (fun x=>x.1.length≤kc∧((goP rB (kc - x.1.length) x.2).1.map (x.1++·),(goP rB (kc - x.1.length) x.2).2)=(GO,gm,gl,ge)∧x.2.2.1.length≤l1.length∧mkOk m x.2.1) (fun x=>kc - x.1.length) ([],(m1,l1,e1)) ⟨Nat.zero_le _,by rw [← hG];simp,Nat.le_refl _,hm1⟩ ?_ fun x hx=>?_
  · refine ⟨by simp only [zkk,zkp,zky,zkz];omega,by repeat (first | exact AHeap.Le.refl _ | refine AHeap.Le.push ?_ _),hclL (m1,l1,e1) 0 hm1,?_,?_⟩
    · simp [ltF,zmz,znh,lt_sliceL,znp,zky,zkz]
      try omega
    · simp [subW,wk2,wk1,wkM,Fr.get]
  obtain ⟨us,m2,l2,e2⟩:=x
  obtain ⟨hx1,hx2,hx3,hx4⟩:=hx
  dsimp only at hx1 hx2 hx3 hx4 ⊢
  have b2:l2.length≤100000:=by omega
  have ne1:(H.nx+1=id)=False:=eq_false (by omega)
  simp only [go_sem]
  refine cond_split (fun hc=>?_) (fun hc=>?_)
  · have hk':us.length<kc:=by simp at hc;omega
    have e5:IntKind.i64.wrap ((us.length:Int)+1)=((us.length+1:Nat):Int):=by rw [wrap_i64]<;>omega
    have hu:goP rB (kc - us.length) (m2,l2,e2)=if (rB (m2,l2,e2)).2.2.2≠0 then (none,(rB (m2,l2,e2)).2) else ((goP rB (kc - (us.length+1)) (rB (m2,l2,e2)).2).1.map ((rB (m2,l2,e2)).1::·),(goP rB (kc - (us.length+1)) (rB (m2,l2,e2)).2).2):=by
      rw [show kc - us.length=(kc - (us.length+1))+1 by omega];rfl
    rw [hu] at hx2
    have hl3:=rB_go.l (m2,l2,e2)
    have hm3:=rB_go.m (m2,l2,e2)
    generalize hq3:rB (m2,l2,e2)=q3 at *
    obtain ⟨n3,m3,l3,e3⟩:=q3
    dsimp only at hl3 hm3 hx2
    have b3:l3.length≤100000:=by omega
    have hmm:mkOk m m3:=mkOk_tr hx4 hm3
    unfold rB at hq3
    cases hz:(e3 != 0)
    · have hz':e3=0:=by simpa using hz
      rw [if_neg (by rw [hz'];decide)] at hx2
      simp only [go_sem,byq,hne,hid,hcs,hcm,hgm,onR,onRo_some,onRo_nil,zlv,zlt,zle,and_true,true_and,hid,e_RBool,p_RErr,e_RErrE,hq3,hz,b2,b3,cellR,e5,ybb]
      have hlen:(us++[n3]).length=us.length+1:=by simp
      refine ⟨⟨by omega,by omega,fun z hz=>by rw [List.mem_singleton] at hz;subst hz;rfl⟩,(us++[n3],(m3,l3,e3)),⟨by dsimp only;omega,?_,by dsimp only;omega,hmm⟩,by dsimp only;omega,?_⟩
      · dsimp only
        rw [hlen,← hx2]
        generalize goP rB (kc - (us.length+1)) (m3,l3,e3)=q5
        obtain ⟨o,t⟩:=q5
        cases o
        · rfl
        · simp [List.append_assoc]
      · refine ⟨by simp only [zky,zkz];omega,?_,hclL (m3,l3,e3) _ hmm,?_,?_⟩
        · simp only [List.map_append,yae,yaf,List.length_append,yaz,yba]
          repeat (first | exact AHeap.Le.refl _ | refine AHeap.Le.push ?_ _)
        · simp [ltF,zmz,znh,lt_sliceL,zky,zkz]
          refine ⟨by omega,by omega,ltL_iff.2 fun j hj=>?_⟩
          have hmem:=List.getElem_mem hj
          rw [List.mem_append,List.mem_map,List.mem_singleton] at hmem
          rcases hmem with ⟨x,_,e⟩ | e
          · rw [← e];exact (fun x=>of_eq_true zna) x
          · rw [e];exact (fun x=>of_eq_true zna) _
        · simp [subW,wk2,wk1,wkM,Fr.get,wkM]
    · have hz':e3≠0:=by simpa using hz
      rw [if_pos hz'] at hx2
      simp only [Option.map,Prod.mk.injEq] at hx2
      obtain ⟨rfl,rfl,rfl,rfl⟩:=hx2
      simp only [go_sem,byq,hne,hid,hcs,hcm,hgm,onR,onRo_some,onRo_nil,zlv,zlt,zle,and_true,true_and,hid,e_RBool,p_RErr,e_RErrE,hq3,hz,b2,b3,cellR,Option.getD_none,yaf]
      exact ⟨by simp [wk,wk2,wk1,wkM],by repeat (first | exact AHeap.Le.refl _ | refine AHeap.Le.push ?_ _),closedR hid hcl _ hmm _ _,by simp [lt_sliceL,znp]⟩
  · have hk':us.length=kc:=by simp at hc;omega
    subst hk'
    rw [Nat.sub_self] at hx2
    simp only [goP,Option.map,yaj,Prod.mk.injEq] at hx2
    obtain ⟨rfl,rfl,rfl,rfl⟩:=hx2
    simp only [go_sem,byq,Option.getD_some]
    exact ⟨by simp [wk,wk2,wk1,wkM],by repeat (first | exact AHeap.Le.refl _ | refine AHeap.Le.push ?_ _),closedR hid hcl _ hx4 _ _,lt_map (fun x=>of_eq_true zna)⟩
def e_rdFld:List AV→AHeap→(AEnd→AHeap→Prop)→Prop
  | [.ptr id 0],H,K=>onR H id fun m l e=>True∧K (.ret (fieldAV (rdFld (m,l,e)).1)) (H.set id (.cells (cellR (rdFld (m,l,e)).2)))
  | _,_,_=>False
set_option maxHeartbeats 4000000 in
theorem ok_rdFld:EntOk Tryz.prog 178 (Ent.effect e_rdFld):=by
  refine EntOk.effect fun args H K h=>?_
  unfold e_rdFld at h
  split at h
  rotate_left
  · exact h.elim
  rename_i id
  obtain ⟨m,l,e,hid,hle,h⟩:=onR_out h
  obtain ⟨hpre,hK⟩:=h
  refine ⟨_,_,hK,?_⟩
  clear hK
  have hl0:=AHeap.get_lt hid
  have hne:=far_of hl0
  have hss:=set_same hid
  have hcs:=cells_some hid
  have hcm:=fun cs=>@cells_set_same H id cs hl0
  have hgm:=fun o=>@get_set_same' H id o hl0
  obtain ⟨Q,hQ⟩:∃ Q,rdFld (m,l,e)=Q:=⟨_,rfl⟩
  rw [hQ]
  unfold rdFld at hQ
  try dsimp only [rap,rpure,rU,rT,rV,rB,LP_l] at hQ
  have hl0:=uintR_l m l e 2
  have hm0:=uintR_m m l e 2
  generalize h0:uintR (m,l,e) 2=q0 at *
  obtain ⟨v0,m0,l0,e0⟩:=q0
  dsimp only [rU,rV,rB] at hQ hl0 hm0
  have hl1:=textR_l m0 l0 e0 24
  have hm1:=textR_m m0 l0 e0 24
  generalize h1:textR (m0,l0,e0) 24=q1 at *
  obtain ⟨v1,m1,l1,e1⟩:=q1
  dsimp only [rU,rV,rB] at hQ hl1 hm1
  replace hm1:=mkOk_tr hm0 hm1
  have hl2:=uintR_l m1 l1 e1 1
  have hm2:=uintR_m m1 l1 e1 1
  generalize h2:uintR (m1,l1,e1) 1=q2 at *
  obtain ⟨v2,m2,l2,e2⟩:=q2
  dsimp only [rU,rV,rB] at hQ hl2 hm2
  replace hm2:=mkOk_tr hm1 hm2
  subst hQ
  dsimp only [cellR]
  refine ACalls.of_aw (Ω:=[(95,Ent.effect e_Uint),(179,Ent.effect e_RText)]) (T:=assoc []) mixed (TblOk.cons ok_Uint (TblOk.cons ok_RText TblOk.nil)) Tryz.func178 (by kernel_rfl) (by rfl) (rs:=[.cell 2 76]) (by rfl) (by kernel_rfl) (by simp only [Tryz.ntmps178,yaz,yba];decide) (by simp only [zkz];omega) fun hcl hlt=>?_
  change aw _ _ _ (KI Tryz.prog [(95,Ent.effect e_Uint),(179,Ent.effect e_RText)] (aEnd Tryz.prog [.cell 2 76] H.nx _ _ (assoc [])) []) _ _
  clear hlt
  have b0:l0.length≤100000:=by omega
  have b1:l1.length≤100000:=by omega
  have b2:l2.length≤100000:=by omega
  simp only [go_sem,byq,hne,hid,hcs,hcm,hgm,onR,onRo_some,onRo_nil,zlv,zlt,zle,and_true,true_and,hid,onR,onRo_some,cellR,vv,vc,e_Uint,e_RText,h0,b0,h1,b1,h2,b2]
  have hclz:(H.set id (.cells [.slice m2 1 (bys l2),.int .i64 e2])).Closed:=closedR hid hcl m2 hm2 l2 e2
  refine ⟨hle,?_,by repeat (first | exact AHeap.Le.refl _ | refine AHeap.Le.push ?_ _),hclz,(fun x=>lt_fieldAV x) _⟩
  simp [wk,wk2,wkL,wk1,wkM,fieldAV]
def e_gtFld:List AV→AHeap→(AEnd→AHeap→Prop)→Prop
  | [.ptr id 0,.agg [.int .i64 most,.func (.func f) [] [],.func (.func 178) [] []]],H,K=>onR H id fun m l e=>True∧K (.ret (.slice .any 3 ((rlP rdFld most (m,l,e)).1.map (fieldAV)))) (H.set id (.cells (cellR (rlP rdFld most (m,l,e)).2)))
  | _,_,_=>False
set_option maxHeartbeats 4000000 in
theorem ok_gtFld:EntOk Tryz.prog 111 (Ent.effect e_gtFld):=by
  refine EntOk.effect fun args H K h=>?_
  unfold e_gtFld at h
  split at h
  rotate_left
  · exact h.elim
  rename_i id most f
  obtain ⟨m,l,e,hid,hle,h⟩:=onR_out h
  obtain ⟨hpre,hK⟩:=h
  refine ⟨_,_,hK,?_⟩
  clear hK
  have hl0:=AHeap.get_lt hid
  have hne:=far_of hl0
  have hss:=set_same hid
  have hcs:=cells_some hid
  have hcm:=fun cs=>@cells_set_same H id cs hl0
  have hgm:=fun o=>@get_set_same' H id o hl0
  have hl1:=countR_l m l e most
  have hm1:=countR_m m l e most
  have hc1:=count_bd (m,l,e) most
  obtain ⟨Q,hQ⟩:∃ Q,rlP rdFld most (m,l,e)=Q:=⟨_,rfl⟩
  rw [hQ]
  unfold rlP at hQ
  generalize h1:countR (m,l,e) most=q1 at *
  obtain ⟨cc,m1,l1,e1⟩:=q1
  dsimp only at hl1 hm1 hc1 hQ
  obtain ⟨kc,rfl⟩:∃ kc:Nat,cc=(kc:Int):=⟨cc.toNat,by omega⟩
  rw [Int.toNat_natCast] at hQ
  obtain ⟨⟨GO,gs⟩,hG⟩:∃ G,goP rdFld kc (m1,l1,e1)=G:=⟨_,rfl⟩
  have hgo:=goP_go rdFld_go kc (m1,l1,e1)
  rw [hG] at hQ hgo
  obtain ⟨hg1,hg2,_⟩:=hgo
  obtain ⟨gm,gl,ge⟩:=gs
  dsimp only at hQ hg1 hg2
  subst hQ
  refine ACalls.of_aw (Ω:=[(97,Ent.effect e_RCount),(178,Ent.effect e_rdFld),(235,Ent.effect e_RErrE)]) (T:=assoc []) mixed (TblOk.cons ok_RCount (TblOk.cons ok_rdFld (TblOk.cons ok_RErrE TblOk.nil))) Tryz.func111 (by kernel_rfl) (by rfl) (rs:=[.tmp 4]) (by rfl) (by kernel_rfl) (by simp only [Tryz.ntmps111,yaz,yba];decide) (by simp only [zkz];omega) fun hcl hlt=>?_
  change aw _ _ _ (KI Tryz.prog [(97,Ent.effect e_RCount),(178,Ent.effect e_rdFld),(235,Ent.effect e_RErrE)] (aEnd Tryz.prog [.tmp 4] H.nx _ _ (assoc [])) []) _ _
  clear hlt
  have b1:l1.length≤100000:=by omega
  simp only [blkE,blkP,bhq,Nat.reduceMod,Nat.reduceDiv,stepH,stepM,toMs1,toMs,toMs0,strK,pubK,pubF,pubV,yaq,yar,yao,yap,go_sem,byq,hne,hid,hcs,hcm,hgm,onR,onRo_some,onRo_nil,zlv,zlt,zle,and_true,true_and,hid,e_RCount,h1,b1,cellR]
  refine ⟨hle,?_⟩
  have hltC:ltL (H.nx+1) [.int .i64 most,.func (.func f) [] [],.func (.func 178) [] []]:=by simp [zno,znp,zmz,lt_func0]
  have hclL:∀ (s:RS) (k:Nat),mkOk m s.1→((((H.set id (.cells [.slice s.1 1 (bys s.2.1),.int .i64 s.2.2])).push (.cells [.int .i64 most,.func (.func f) [] [],.func (.func 178) [] []])).push (.buf 3 0)).push (.buf 3 k)).Closed:=fun s k hs=>closed_buf (closed_buf (closed_cells (closedR hid hcl s.1 hs s.2.1 s.2.2) (by simpa only [zkz] using hltC)))
  refine loop_introW (A:=List SField × RS) (fun x=>[(0,.ptr id 0),(3,.ptr H.nx 0),(5,.slice (.own (H.nx+1+1)) 3 (x.1.map (fieldAV))),(10,.int .i64 (kc:Int)),(11,.int .i64 (x.1.length:Int))]) (fun x=>(((H.set id (.cells [.slice x.2.1 1 (bys x.2.2.1),.int .i64 x.2.2.2])).push (.cells [.int .i64 most,.func (.func f) [] [],.func (.func 178) [] []])).push (.buf 3 0)).push (.buf 3 x.1.length)) (fun x=>x.1.length≤kc∧((goP rdFld (kc - x.1.length) x.2).1.map (x.1++·),(goP rdFld (kc - x.1.length) x.2).2)=(GO,gm,gl,ge)∧x.2.2.1.length≤l1.length∧mkOk m x.2.1) (fun x=>kc - x.1.length) ([],(m1,l1,e1)) ⟨Nat.zero_le _,by rw [← hG];simp,Nat.le_refl _,hm1⟩ ?_ fun x hx=>?_
  · refine ⟨by simp only [zkk,zkp,zky,zkz];omega,by repeat (first | exact AHeap.Le.refl _ | refine AHeap.Le.push ?_ _),hclL (m1,l1,e1) 0 hm1,?_,?_⟩
    · simp [ltF,zmz,znh,lt_sliceL,znp,zky,zkz]
      try omega
    · simp [subW,wk2,wk1,wkM,Fr.get]
  obtain ⟨us,m2,l2,e2⟩:=x
  obtain ⟨hx1,hx2,hx3,hx4⟩:=hx
  dsimp only at hx1 hx2 hx3 hx4 ⊢
  have b2:l2.length≤100000:=by omega
  have ne1:(H.nx+1=id)=False:=eq_false (by omega)
  simp only [go_sem]
  refine cond_split (fun hc=>?_) (fun hc=>?_)
  · have hk':us.length<kc:=by simp at hc;omega
    have e5:IntKind.i64.wrap ((us.length:Int)+1)=((us.length+1:Nat):Int):=by rw [wrap_i64]<;>omega
    have hu:goP rdFld (kc - us.length) (m2,l2,e2)=if (rdFld (m2,l2,e2)).2.2.2≠0 then (none,(rdFld (m2,l2,e2)).2) else ((goP rdFld (kc - (us.length+1)) (rdFld (m2,l2,e2)).2).1.map ((rdFld (m2,l2,e2)).1::·),(goP rdFld (kc - (us.length+1)) (rdFld (m2,l2,e2)).2).2):=by
      rw [show kc - us.length=(kc - (us.length+1))+1 by omega];rfl
    rw [hu] at hx2
    have hl3:=rdFld_go.l (m2,l2,e2)
    have hm3:=rdFld_go.m (m2,l2,e2)
    generalize hq3:rdFld (m2,l2,e2)=q3 at *
    obtain ⟨n3,m3,l3,e3⟩:=q3
    dsimp only at hl3 hm3 hx2
    have b3:l3.length≤100000:=by omega
    have hmm:mkOk m m3:=mkOk_tr hx4 hm3
    
    cases hz:(e3 != 0)
    · have hz':e3=0:=by simpa using hz
      rw [if_neg (by rw [hz'];decide)] at hx2
      simp only [go_sem,byq,hne,hid,hcs,hcm,hgm,onR,onRo_some,onRo_nil,zlv,zlt,zle,and_true,true_and,hid,e_rdFld,p_RErr,e_RErrE,hq3,hz,b2,b3,cellR,fieldAV,e5,ybb]
      have hlen:(us++[n3]).length=us.length+1:=by simp
      refine ⟨⟨by omega,by omega,fun z hz=>by rw [List.mem_singleton] at hz;subst hz;rfl⟩,(us++[n3],(m3,l3,e3)),⟨by dsimp only;omega,?_,by dsimp only;omega,hmm⟩,by dsimp only;omega,?_⟩
      · dsimp only
        rw [hlen,← hx2]
        generalize goP rdFld (kc - (us.length+1)) (m3,l3,e3)=q5
        obtain ⟨o,t⟩:=q5
        cases o
        · rfl
        · simp [List.append_assoc]
      · refine ⟨by simp only [zky,zkz];omega,?_,hclL (m3,l3,e3) _ hmm,?_,?_⟩
        · simp only [List.map_append,yae,yaf,fieldAV,List.length_append,yaz,yba]
          repeat (first | exact AHeap.Le.refl _ | refine AHeap.Le.push ?_ _)
        · simp [ltF,zmz,znh,lt_sliceL,zky,zkz]
          refine ⟨by omega,by omega,ltL_iff.2 fun j hj=>?_⟩
          have hmem:=List.getElem_mem hj
          rw [List.mem_append,List.mem_map,List.mem_singleton] at hmem
          rcases hmem with ⟨x,_,e⟩ | e
          · rw [← e];exact (fun x=>lt_fieldAV x) x
          · rw [e];exact (fun x=>lt_fieldAV x) _
        · simp [subW,wk2,wk1,wkM,Fr.get,fieldAV]
    · have hz':e3≠0:=by simpa using hz
      rw [if_pos hz'] at hx2
      simp only [Option.map,Prod.mk.injEq] at hx2
      obtain ⟨rfl,rfl,rfl,rfl⟩:=hx2
      simp only [go_sem,byq,hne,hid,hcs,hcm,hgm,onR,onRo_some,onRo_nil,zlv,zlt,zle,and_true,true_and,hid,e_rdFld,p_RErr,e_RErrE,hq3,hz,b2,b3,cellR,fieldAV,Option.getD_none,yaf]
      exact ⟨by simp [wk,wk2,wk1,wkM],by repeat (first | exact AHeap.Le.refl _ | refine AHeap.Le.push ?_ _),closedR hid hcl _ hmm _ _,by simp [lt_sliceL,znp]⟩
  · have hk':us.length=kc:=by simp at hc;omega
    subst hk'
    rw [Nat.sub_self] at hx2
    simp only [goP,Option.map,yaj,Prod.mk.injEq] at hx2
    obtain ⟨rfl,rfl,rfl,rfl⟩:=hx2
    simp only [go_sem,byq,Option.getD_some]
    exact ⟨by simp [wk,wk2,wk1,wkM],by repeat (first | exact AHeap.Le.refl _ | refine AHeap.Le.push ?_ _),closedR hid hcl _ hx4 _ _,lt_map (fun x=>lt_fieldAV x)⟩
def e_rdCas:List AV→AHeap→(AEnd→AHeap→Prop)→Prop
  | [.ptr id 0],H,K=>onR H id fun m l e=>True∧K (.ret (caseAV (rdCas (m,l,e)).1)) (H.set id (.cells (cellR (rdCas (m,l,e)).2)))
  | _,_,_=>False
set_option maxHeartbeats 4000000 in
theorem ok_rdCas:EntOk Tryz.prog 311 (Ent.effect e_rdCas):=by
  refine EntOk.effect fun args H K h=>?_
  unfold e_rdCas at h
  split at h
  rotate_left
  · exact h.elim
  rename_i id
  obtain ⟨m,l,e,hid,hle,h⟩:=onR_out h
  obtain ⟨hpre,hK⟩:=h
  refine ⟨_,_,hK,?_⟩
  clear hK
  have hl0:=AHeap.get_lt hid
  have hne:=far_of hl0
  have hss:=set_same hid
  have hcs:=cells_some hid
  have hcm:=fun cs=>@cells_set_same H id cs hl0
  have hgm:=fun o=>@get_set_same' H id o hl0
  obtain ⟨Q,hQ⟩:∃ Q,rdCas (m,l,e)=Q:=⟨_,rfl⟩
  rw [hQ]
  unfold rdCas at hQ
  try dsimp only [rap,rpure,rU,rT,rV,rB,LP_l] at hQ
  have hl0:=valueR_l m l e
  have hm0:=valueR_m m l e
  generalize h0:valueR (m,l,e)=q0 at *
  obtain ⟨v0,m0,l0,e0⟩:=q0
  dsimp only [rU,rV,rB] at hQ hl0 hm0
  have hl1:=valueR_l m0 l0 e0
  have hm1:=valueR_m m0 l0 e0
  generalize h1:valueR (m0,l0,e0)=q1 at *
  obtain ⟨v1,m1,l1,e1⟩:=q1
  dsimp only [rU,rV,rB] at hQ hl1 hm1
  replace hm1:=mkOk_tr hm0 hm1
  have hl2:=uintR_l m1 l1 e1 2
  have hm2:=uintR_m m1 l1 e1 2
  generalize h2:uintR (m1,l1,e1) 2=q2 at *
  obtain ⟨v2,m2,l2,e2⟩:=q2
  dsimp only [rU,rV,rB] at hQ hl2 hm2
  replace hm2:=mkOk_tr hm1 hm2
  subst hQ
  dsimp only [cellR]
  refine ACalls.of_aw (Ω:=[(234,Ent.effect e_RValue),(95,Ent.effect e_Uint)]) (T:=assoc []) mixed (TblOk.cons ok_RValue (TblOk.cons ok_Uint TblOk.nil)) Tryz.func311 (by kernel_rfl) (by rfl) (rs:=[.cell 2 306]) (by rfl) (by kernel_rfl) (by simp only [Tryz.ntmps311,yaz,yba];decide) (by simp only [zkz];omega) fun hcl hlt=>?_
  change aw _ _ _ (KI Tryz.prog [(234,Ent.effect e_RValue),(95,Ent.effect e_Uint)] (aEnd Tryz.prog [.cell 2 306] H.nx _ _ (assoc [])) []) _ _
  clear hlt
  have b0:l0.length≤100000:=by omega
  have b1:l1.length≤100000:=by omega
  have b2:l2.length≤100000:=by omega
  simp only [go_sem,byq,hne,hid,hcs,hcm,hgm,onR,onRo_some,onRo_nil,zlv,zlt,zle,and_true,true_and,hid,onR,onRo_some,cellR,vv,vc,e_RValue,e_Uint,h0,b0,h1,b1,h2,b2]
  have hclz:(H.set id (.cells [.slice m2 1 (bys l2),.int .i64 e2])).Closed:=closedR hid hcl m2 hm2 l2 e2
  refine ⟨hle,?_,by repeat (first | exact AHeap.Le.refl _ | refine AHeap.Le.push ?_ _),hclz,(fun x=>lt_caseAV x) _⟩
  simp [wk,wk2,wkL,wk1,wkM,caseAV,vc]
def e_gtCas:List AV→AHeap→(AEnd→AHeap→Prop)→Prop
  | [.ptr id 0,.agg [.int .i64 most,.func (.func f) [] [],.func (.func 311) [] []]],H,K=>onR H id fun m l e=>True∧K (.ret (.slice .any 5 ((rlP rdCas most (m,l,e)).1.map (caseAV)))) (H.set id (.cells (cellR (rlP rdCas most (m,l,e)).2)))
  | _,_,_=>False
set_option maxHeartbeats 4000000 in
theorem ok_gtCas:EntOk Tryz.prog 189 (Ent.effect e_gtCas):=by
  refine EntOk.effect fun args H K h=>?_
  unfold e_gtCas at h
  split at h
  rotate_left
  · exact h.elim
  rename_i id most f
  obtain ⟨m,l,e,hid,hle,h⟩:=onR_out h
  obtain ⟨hpre,hK⟩:=h
  refine ⟨_,_,hK,?_⟩
  clear hK
  have hl0:=AHeap.get_lt hid
  have hne:=far_of hl0
  have hss:=set_same hid
  have hcs:=cells_some hid
  have hcm:=fun cs=>@cells_set_same H id cs hl0
  have hgm:=fun o=>@get_set_same' H id o hl0
  have hl1:=countR_l m l e most
  have hm1:=countR_m m l e most
  have hc1:=count_bd (m,l,e) most
  obtain ⟨Q,hQ⟩:∃ Q,rlP rdCas most (m,l,e)=Q:=⟨_,rfl⟩
  rw [hQ]
  unfold rlP at hQ
  generalize h1:countR (m,l,e) most=q1 at *
  obtain ⟨cc,m1,l1,e1⟩:=q1
  dsimp only at hl1 hm1 hc1 hQ
  obtain ⟨kc,rfl⟩:∃ kc:Nat,cc=(kc:Int):=⟨cc.toNat,by omega⟩
  rw [Int.toNat_natCast] at hQ
  obtain ⟨⟨GO,gs⟩,hG⟩:∃ G,goP rdCas kc (m1,l1,e1)=G:=⟨_,rfl⟩
  have hgo:=goP_go rdCas_go kc (m1,l1,e1)
  rw [hG] at hQ hgo
  obtain ⟨hg1,hg2,_⟩:=hgo
  obtain ⟨gm,gl,ge⟩:=gs
  dsimp only at hQ hg1 hg2
  subst hQ
  refine ACalls.of_aw (Ω:=[(97,Ent.effect e_RCount),(311,Ent.effect e_rdCas),(235,Ent.effect e_RErrE)]) (T:=assoc []) mixed (TblOk.cons ok_RCount (TblOk.cons ok_rdCas (TblOk.cons ok_RErrE TblOk.nil))) Tryz.func189 (by kernel_rfl) (by rfl) (rs:=[.tmp 4]) (by rfl) (by kernel_rfl) (by simp only [Tryz.ntmps189,yaz,yba];decide) (by simp only [zkz];omega) fun hcl hlt=>?_
  change aw _ _ _ (KI Tryz.prog [(97,Ent.effect e_RCount),(311,Ent.effect e_rdCas),(235,Ent.effect e_RErrE)] (aEnd Tryz.prog [.tmp 4] H.nx _ _ (assoc [])) []) _ _
  clear hlt
  have b1:l1.length≤100000:=by omega
  simp only [blkE,blkP,bhq,Nat.reduceMod,Nat.reduceDiv,stepH,stepM,toMs1,toMs,toMs0,strK,pubK,pubF,pubV,yaq,yar,yao,yap,go_sem,byq,hne,hid,hcs,hcm,hgm,onR,onRo_some,onRo_nil,zlv,zlt,zle,and_true,true_and,hid,e_RCount,h1,b1,cellR]
  refine ⟨hle,?_⟩
  have hltC:ltL (H.nx+1) [.int .i64 most,.func (.func f) [] [],.func (.func 311) [] []]:=by simp [zno,znp,zmz,lt_func0]
  have hclL:∀ (s:RS) (k:Nat),mkOk m s.1→((((H.set id (.cells [.slice s.1 1 (bys s.2.1),.int .i64 s.2.2])).push (.cells [.int .i64 most,.func (.func f) [] [],.func (.func 311) [] []])).push (.buf 5 0)).push (.buf 5 k)).Closed:=fun s k hs=>closed_buf (closed_buf (closed_cells (closedR hid hcl s.1 hs s.2.1 s.2.2) (by simpa only [zkz] using hltC)))
  refine loop_introW (A:=List SCase × RS) (fun x=>[(0,.ptr id 0),(3,.ptr H.nx 0),(5,.slice (.own (H.nx+1+1)) 5 (x.1.map (caseAV))),(10,.int .i64 (kc:Int)),(11,.int .i64 (x.1.length:Int))]) (fun x=>(((H.set id (.cells [.slice x.2.1 1 (bys x.2.2.1),.int .i64 x.2.2.2])).push (.cells [.int .i64 most,.func (.func f) [] [],.func (.func 311) [] []])).push (.buf 5 0)).push (.buf 5 x.1.length)) (fun x=>x.1.length≤kc∧((goP rdCas (kc - x.1.length) x.2).1.map (x.1++·),(goP rdCas (kc - x.1.length) x.2).2)=(GO,gm,gl,ge)∧x.2.2.1.length≤l1.length∧mkOk m x.2.1) (fun x=>kc - x.1.length) ([],(m1,l1,e1)) ⟨Nat.zero_le _,by rw [← hG];simp,Nat.le_refl _,hm1⟩ ?_ fun x hx=>?_
  · refine ⟨by simp only [zkk,zkp,zky,zkz];omega,by repeat (first | exact AHeap.Le.refl _ | refine AHeap.Le.push ?_ _),hclL (m1,l1,e1) 0 hm1,?_,?_⟩
    · simp [ltF,zmz,znh,lt_sliceL,znp,zky,zkz]
      try omega
    · simp [subW,wk2,wk1,wkM,Fr.get]
  obtain ⟨us,m2,l2,e2⟩:=x
  obtain ⟨hx1,hx2,hx3,hx4⟩:=hx
  dsimp only at hx1 hx2 hx3 hx4 ⊢
  have b2:l2.length≤100000:=by omega
  have ne1:(H.nx+1=id)=False:=eq_false (by omega)
  simp only [go_sem]
  refine cond_split (fun hc=>?_) (fun hc=>?_)
  · have hk':us.length<kc:=by simp at hc;omega
    have e5:IntKind.i64.wrap ((us.length:Int)+1)=((us.length+1:Nat):Int):=by rw [wrap_i64]<;>omega
    have hu:goP rdCas (kc - us.length) (m2,l2,e2)=if (rdCas (m2,l2,e2)).2.2.2≠0 then (none,(rdCas (m2,l2,e2)).2) else ((goP rdCas (kc - (us.length+1)) (rdCas (m2,l2,e2)).2).1.map ((rdCas (m2,l2,e2)).1::·),(goP rdCas (kc - (us.length+1)) (rdCas (m2,l2,e2)).2).2):=by
      rw [show kc - us.length=(kc - (us.length+1))+1 by omega];rfl
    rw [hu] at hx2
    have hl3:=rdCas_go.l (m2,l2,e2)
    have hm3:=rdCas_go.m (m2,l2,e2)
    generalize hq3:rdCas (m2,l2,e2)=q3 at *
    obtain ⟨n3,m3,l3,e3⟩:=q3
    dsimp only at hl3 hm3 hx2
    have b3:l3.length≤100000:=by omega
    have hmm:mkOk m m3:=mkOk_tr hx4 hm3
    
    cases hz:(e3 != 0)
    · have hz':e3=0:=by simpa using hz
      rw [if_neg (by rw [hz'];decide)] at hx2
      simp only [go_sem,byq,hne,hid,hcs,hcm,hgm,onR,onRo_some,onRo_nil,zlv,zlt,zle,and_true,true_and,hid,e_rdCas,p_RErr,e_RErrE,hq3,hz,b2,b3,cellR,caseAV,vc,yal,yak,e5,ybb]
      have hlen:(us++[n3]).length=us.length+1:=by simp
      refine ⟨⟨by omega,by omega,fun z hz=>by rw [List.mem_singleton] at hz;subst hz;rfl⟩,(us++[n3],(m3,l3,e3)),⟨by dsimp only;omega,?_,by dsimp only;omega,hmm⟩,by dsimp only;omega,?_⟩
      · dsimp only
        rw [hlen,← hx2]
        generalize goP rdCas (kc - (us.length+1)) (m3,l3,e3)=q5
        obtain ⟨o,t⟩:=q5
        cases o
        · rfl
        · simp [List.append_assoc]
      · refine ⟨by simp only [zky,zkz];omega,?_,hclL (m3,l3,e3) _ hmm,?_,?_⟩
        · simp only [List.map_append,yae,yaf,caseAV,vc,yal,yak,List.length_append,yaz,yba]
          repeat (first | exact AHeap.Le.refl _ | refine AHeap.Le.push ?_ _)
        · simp [ltF,zmz,znh,lt_sliceL,zky,zkz]
          refine ⟨by omega,by omega,ltL_iff.2 fun j hj=>?_⟩
          have hmem:=List.getElem_mem hj
          rw [List.mem_append,List.mem_map,List.mem_singleton] at hmem
          rcases hmem with ⟨x,_,e⟩ | e
          · rw [← e];exact (fun x=>lt_caseAV x) x
          · rw [e];exact (fun x=>lt_caseAV x) _
        · simp [subW,wk2,wk1,wkM,Fr.get,caseAV,vc,yal,yak]
    · have hz':e3≠0:=by simpa using hz
      rw [if_pos hz'] at hx2
      simp only [Option.map,Prod.mk.injEq] at hx2
      obtain ⟨rfl,rfl,rfl,rfl⟩:=hx2
      simp only [go_sem,byq,hne,hid,hcs,hcm,hgm,onR,onRo_some,onRo_nil,zlv,zlt,zle,and_true,true_and,hid,e_rdCas,p_RErr,e_RErrE,hq3,hz,b2,b3,cellR,caseAV,vc,yal,yak,Option.getD_none,yaf]
      exact ⟨by simp [wk,wk2,wk1,wkM],by repeat (first | exact AHeap.Le.refl _ | refine AHeap.Le.push ?_ _),closedR hid hcl _ hmm _ _,by simp [lt_sliceL,znp]⟩
  · have hk':us.length=kc:=by simp at hc;omega
    subst hk'
    rw [Nat.sub_self] at hx2
    simp only [goP,Option.map,yaj,Prod.mk.injEq] at hx2
    obtain ⟨rfl,rfl,rfl,rfl⟩:=hx2
    simp only [go_sem,byq,Option.getD_some]
    exact ⟨by simp [wk,wk2,wk1,wkM],by repeat (first | exact AHeap.Le.refl _ | refine AHeap.Le.push ?_ _),closedR hid hcl _ hx4 _ _,lt_map (fun x=>lt_caseAV x)⟩
end Go.AL


open Go Go.AL Go.Proofs
namespace Go.AL
set_option linter.all false
set_option maxRecDepth 10000

def e_rdPar:List AV→AHeap→(AEnd→AHeap→Prop)→Prop
  | [.ptr id 0],H,K=>onR H id fun m l e=>True∧K (.ret (paramAV (rdPar (m,l,e)).1)) (H.set id (.cells (cellR (rdPar (m,l,e)).2)))
  | _,_,_=>False
set_option maxHeartbeats 4000000 in
theorem ok_rdPar:EntOk Tryz.prog 313 (Ent.effect e_rdPar):=by
  refine EntOk.effect fun args H K h=>?_
  unfold e_rdPar at h
  split at h
  rotate_left
  · exact h.elim
  rename_i id
  obtain ⟨m,l,e,hid,hle,h⟩:=onR_out h
  obtain ⟨hpre,hK⟩:=h
  refine ⟨_,_,hK,?_⟩
  clear hK
  have hl0:=AHeap.get_lt hid
  have hne:=far_of hl0
  have hss:=set_same hid
  have hcs:=cells_some hid
  have hcm:=fun cs=>@cells_set_same H id cs hl0
  have hgm:=fun o=>@get_set_same' H id o hl0
  obtain ⟨Q,hQ⟩:∃ Q,rdPar (m,l,e)=Q:=⟨_,rfl⟩
  rw [hQ]
  unfold rdPar at hQ
  try dsimp only [rap,rpure,rU,rT,rV,rB,LP_l] at hQ
  have hl0:=textR_l m l e 24
  have hm0:=textR_m m l e 24
  generalize h0:textR (m,l,e) 24=q0 at *
  obtain ⟨v0,m0,l0,e0⟩:=q0
  dsimp only [rU,rV,rB] at hQ hl0 hm0
  have hl1:=uintR_l m0 l0 e0 1
  have hm1:=uintR_m m0 l0 e0 1
  generalize h1:uintR (m0,l0,e0) 1=q1 at *
  obtain ⟨v1,m1,l1,e1⟩:=q1
  dsimp only [rU,rV,rB] at hQ hl1 hm1
  replace hm1:=mkOk_tr hm0 hm1
  subst hQ
  dsimp only [cellR]
  refine ACalls.of_aw (Ω:=[(179,Ent.effect e_RText),(95,Ent.effect e_Uint)]) (T:=assoc []) mixed (TblOk.cons ok_RText (TblOk.cons ok_Uint TblOk.nil)) Tryz.func313 (by kernel_rfl) (by rfl) (rs:=[.cell 2 122]) (by rfl) (by kernel_rfl) (by simp only [Tryz.ntmps313,yaz,yba];decide) (by simp only [zkz];omega) fun hcl hlt=>?_
  change aw _ _ _ (KI Tryz.prog [(179,Ent.effect e_RText),(95,Ent.effect e_Uint)] (aEnd Tryz.prog [.cell 2 122] H.nx _ _ (assoc [])) []) _ _
  clear hlt
  have b0:l0.length≤100000:=by omega
  have b1:l1.length≤100000:=by omega
  simp only [go_sem,byq,hne,hid,hcs,hcm,hgm,onR,onRo_some,onRo_nil,zlv,zlt,zle,and_true,true_and,hid,onR,onRo_some,cellR,vv,vc,e_RText,e_Uint,h0,b0,h1,b1]
  have hclz:(H.set id (.cells [.slice m1 1 (bys l1),.int .i64 e1])).Closed:=closedR hid hcl m1 hm1 l1 e1
  refine ⟨hle,?_,by repeat (first | exact AHeap.Le.refl _ | refine AHeap.Le.push ?_ _),hclz,(fun x=>lt_paramAV x) _⟩
  simp [wk,wk2,wkL,wk1,wkM,paramAV]
def e_gtPar:List AV→AHeap→(AEnd→AHeap→Prop)→Prop
  | [.ptr id 0,.agg [.int .i64 most,.func (.func f) [] [],.func (.func 313) [] []]],H,K=>onR H id fun m l e=>True∧K (.ret (.slice .any 2 ((rlP rdPar most (m,l,e)).1.map (paramAV)))) (H.set id (.cells (cellR (rlP rdPar most (m,l,e)).2)))
  | _,_,_=>False
set_option maxHeartbeats 4000000 in
theorem ok_gtPar:EntOk Tryz.prog 196 (Ent.effect e_gtPar):=by
  refine EntOk.effect fun args H K h=>?_
  unfold e_gtPar at h
  split at h
  rotate_left
  · exact h.elim
  rename_i id most f
  obtain ⟨m,l,e,hid,hle,h⟩:=onR_out h
  obtain ⟨hpre,hK⟩:=h
  refine ⟨_,_,hK,?_⟩
  clear hK
  have hl0:=AHeap.get_lt hid
  have hne:=far_of hl0
  have hss:=set_same hid
  have hcs:=cells_some hid
  have hcm:=fun cs=>@cells_set_same H id cs hl0
  have hgm:=fun o=>@get_set_same' H id o hl0
  have hl1:=countR_l m l e most
  have hm1:=countR_m m l e most
  have hc1:=count_bd (m,l,e) most
  obtain ⟨Q,hQ⟩:∃ Q,rlP rdPar most (m,l,e)=Q:=⟨_,rfl⟩
  rw [hQ]
  unfold rlP at hQ
  generalize h1:countR (m,l,e) most=q1 at *
  obtain ⟨cc,m1,l1,e1⟩:=q1
  dsimp only at hl1 hm1 hc1 hQ
  obtain ⟨kc,rfl⟩:∃ kc:Nat,cc=(kc:Int):=⟨cc.toNat,by omega⟩
  rw [Int.toNat_natCast] at hQ
  obtain ⟨⟨GO,gs⟩,hG⟩:∃ G,goP rdPar kc (m1,l1,e1)=G:=⟨_,rfl⟩
  have hgo:=goP_go rdPar_go kc (m1,l1,e1)
  rw [hG] at hQ hgo
  obtain ⟨hg1,hg2,_⟩:=hgo
  obtain ⟨gm,gl,ge⟩:=gs
  dsimp only at hQ hg1 hg2
  subst hQ
  refine ACalls.of_aw (Ω:=[(97,Ent.effect e_RCount),(313,Ent.effect e_rdPar),(235,Ent.effect e_RErrE)]) (T:=assoc []) mixed (TblOk.cons ok_RCount (TblOk.cons ok_rdPar (TblOk.cons ok_RErrE TblOk.nil))) Tryz.func196 (by kernel_rfl) (by rfl) (rs:=[.tmp 4]) (by rfl) (by kernel_rfl) (by simp only [Tryz.ntmps196,yaz,yba];decide) (by simp only [zkz];omega) fun hcl hlt=>?_
  change aw _ _ _ (KI Tryz.prog [(97,Ent.effect e_RCount),(313,Ent.effect e_rdPar),(235,Ent.effect e_RErrE)] (aEnd Tryz.prog [.tmp 4] H.nx _ _ (assoc [])) []) _ _
  clear hlt
  have b1:l1.length≤100000:=by omega
  simp only [blkE,blkP,bhq,Nat.reduceMod,Nat.reduceDiv,stepH,stepM,toMs1,toMs,toMs0,strK,pubK,pubF,pubV,yaq,yar,yao,yap,go_sem,byq,hne,hid,hcs,hcm,hgm,onR,onRo_some,onRo_nil,zlv,zlt,zle,and_true,true_and,hid,e_RCount,h1,b1,cellR]
  refine ⟨hle,?_⟩
  have hltC:ltL (H.nx+1) [.int .i64 most,.func (.func f) [] [],.func (.func 313) [] []]:=by simp [zno,znp,zmz,lt_func0]
  have hclL:∀ (s:RS) (k:Nat),mkOk m s.1→((((H.set id (.cells [.slice s.1 1 (bys s.2.1),.int .i64 s.2.2])).push (.cells [.int .i64 most,.func (.func f) [] [],.func (.func 313) [] []])).push (.buf 2 0)).push (.buf 2 k)).Closed:=fun s k hs=>closed_buf (closed_buf (closed_cells (closedR hid hcl s.1 hs s.2.1 s.2.2) (by simpa only [zkz] using hltC)))
  refine loop_introW (A:=List SParam × RS) (fun x=>[(0,.ptr id 0),(3,.ptr H.nx 0),(5,.slice (.own (H.nx+1+1)) 2 (x.1.map (paramAV))),(10,.int .i64 (kc:Int)),(11,.int .i64 (x.1.length:Int))]) (fun x=>(((H.set id (.cells [.slice x.2.1 1 (bys x.2.2.1),.int .i64 x.2.2.2])).push (.cells [.int .i64 most,.func (.func f) [] [],.func (.func 313) [] []])).push (.buf 2 0)).push (.buf 2 x.1.length)) (fun x=>x.1.length≤kc∧((goP rdPar (kc - x.1.length) x.2).1.map (x.1++·),(goP rdPar (kc - x.1.length) x.2).2)=(GO,gm,gl,ge)∧x.2.2.1.length≤l1.length∧mkOk m x.2.1) (fun x=>kc - x.1.length) ([],(m1,l1,e1)) ⟨Nat.zero_le _,by rw [← hG];simp,Nat.le_refl _,hm1⟩ ?_ fun x hx=>?_
  · refine ⟨by simp only [zkk,zkp,zky,zkz];omega,by repeat (first | exact AHeap.Le.refl _ | refine AHeap.Le.push ?_ _),hclL (m1,l1,e1) 0 hm1,?_,?_⟩
    · simp [ltF,zmz,znh,lt_sliceL,znp,zky,zkz]
      try omega
    · simp [subW,wk2,wk1,wkM,Fr.get]
  obtain ⟨us,m2,l2,e2⟩:=x
  obtain ⟨hx1,hx2,hx3,hx4⟩:=hx
  dsimp only at hx1 hx2 hx3 hx4 ⊢
  have b2:l2.length≤100000:=by omega
  have ne1:(H.nx+1=id)=False:=eq_false (by omega)
  simp only [go_sem]
  refine cond_split (fun hc=>?_) (fun hc=>?_)
  · have hk':us.length<kc:=by simp at hc;omega
    have e5:IntKind.i64.wrap ((us.length:Int)+1)=((us.length+1:Nat):Int):=by rw [wrap_i64]<;>omega
    have hu:goP rdPar (kc - us.length) (m2,l2,e2)=if (rdPar (m2,l2,e2)).2.2.2≠0 then (none,(rdPar (m2,l2,e2)).2) else ((goP rdPar (kc - (us.length+1)) (rdPar (m2,l2,e2)).2).1.map ((rdPar (m2,l2,e2)).1::·),(goP rdPar (kc - (us.length+1)) (rdPar (m2,l2,e2)).2).2):=by
      rw [show kc - us.length=(kc - (us.length+1))+1 by omega];rfl
    rw [hu] at hx2
    have hl3:=rdPar_go.l (m2,l2,e2)
    have hm3:=rdPar_go.m (m2,l2,e2)
    generalize hq3:rdPar (m2,l2,e2)=q3 at *
    obtain ⟨n3,m3,l3,e3⟩:=q3
    dsimp only at hl3 hm3 hx2
    have b3:l3.length≤100000:=by omega
    have hmm:mkOk m m3:=mkOk_tr hx4 hm3
    
    cases hz:(e3 != 0)
    · have hz':e3=0:=by simpa using hz
      rw [if_neg (by rw [hz'];decide)] at hx2
      simp only [go_sem,byq,hne,hid,hcs,hcm,hgm,onR,onRo_some,onRo_nil,zlv,zlt,zle,and_true,true_and,hid,e_rdPar,p_RErr,e_RErrE,hq3,hz,b2,b3,cellR,paramAV,e5,ybb]
      have hlen:(us++[n3]).length=us.length+1:=by simp
      refine ⟨⟨by omega,by omega,fun z hz=>by rw [List.mem_singleton] at hz;subst hz;rfl⟩,(us++[n3],(m3,l3,e3)),⟨by dsimp only;omega,?_,by dsimp only;omega,hmm⟩,by dsimp only;omega,?_⟩
      · dsimp only
        rw [hlen,← hx2]
        generalize goP rdPar (kc - (us.length+1)) (m3,l3,e3)=q5
        obtain ⟨o,t⟩:=q5
        cases o
        · rfl
        · simp [List.append_assoc]
      · refine ⟨by simp only [zky,zkz];omega,?_,hclL (m3,l3,e3) _ hmm,?_,?_⟩
        · simp only [List.map_append,yae,yaf,paramAV,List.length_append,yaz,yba]
          repeat (first | exact AHeap.Le.refl _ | refine AHeap.Le.push ?_ _)
        · simp [ltF,zmz,znh,lt_sliceL,zky,zkz]
          refine ⟨by omega,by omega,ltL_iff.2 fun j hj=>?_⟩
          have hmem:=List.getElem_mem hj
          rw [List.mem_append,List.mem_map,List.mem_singleton] at hmem
          rcases hmem with ⟨x,_,e⟩ | e
          · rw [← e];exact (fun x=>lt_paramAV x) x
          · rw [e];exact (fun x=>lt_paramAV x) _
        · simp [subW,wk2,wk1,wkM,Fr.get,paramAV]
    · have hz':e3≠0:=by simpa using hz
      rw [if_pos hz'] at hx2
      simp only [Option.map,Prod.mk.injEq] at hx2
      obtain ⟨rfl,rfl,rfl,rfl⟩:=hx2
      simp only [go_sem,byq,hne,hid,hcs,hcm,hgm,onR,onRo_some,onRo_nil,zlv,zlt,zle,and_true,true_and,hid,e_rdPar,p_RErr,e_RErrE,hq3,hz,b2,b3,cellR,paramAV,Option.getD_none,yaf]
      exact ⟨by simp [wk,wk2,wk1,wkM],by repeat (first | exact AHeap.Le.refl _ | refine AHeap.Le.push ?_ _),closedR hid hcl _ hmm _ _,by simp [lt_sliceL,znp]⟩
  · have hk':us.length=kc:=by simp at hc;omega
    subst hk'
    rw [Nat.sub_self] at hx2
    simp only [goP,Option.map,yaj,Prod.mk.injEq] at hx2
    obtain ⟨rfl,rfl,rfl,rfl⟩:=hx2
    simp only [go_sem,byq,Option.getD_some]
    exact ⟨by simp [wk,wk2,wk1,wkM],by repeat (first | exact AHeap.Le.refl _ | refine AHeap.Le.push ?_ _),closedR hid hcl _ hx4 _ _,lt_map (fun x=>lt_paramAV x)⟩
def e_rdPrm:List AV→AHeap→(AEnd→AHeap→Prop)→Prop
  | [.ptr id 0],H,K=>onR H id fun m l e=>True∧K (.ret (primAV (rdPri (m,l,e)).1)) (H.set id (.cells (cellR (rdPri (m,l,e)).2)))
  | _,_,_=>False
set_option maxHeartbeats 4000000 in
theorem ok_rdPrm:EntOk Tryz.prog 315 (Ent.effect e_rdPrm):=by
  refine EntOk.effect fun args H K h=>?_
  unfold e_rdPrm at h
  split at h
  rotate_left
  · exact h.elim
  rename_i id
  obtain ⟨m,l,e,hid,hle,h⟩:=onR_out h
  obtain ⟨hpre,hK⟩:=h
  refine ⟨_,_,hK,?_⟩
  clear hK
  have hl0:=AHeap.get_lt hid
  have hne:=far_of hl0
  have hss:=set_same hid
  have hcs:=cells_some hid
  have hcm:=fun cs=>@cells_set_same H id cs hl0
  have hgm:=fun o=>@get_set_same' H id o hl0
  obtain ⟨Q,hQ⟩:∃ Q,rdPri (m,l,e)=Q:=⟨_,rfl⟩
  rw [hQ]
  unfold rdPri at hQ
  try dsimp only [rap,rpure,rU,rT,rV,rB,LP_l] at hQ
  have hl0:=uintR_l m l e 1
  have hm0:=uintR_m m l e 1
  generalize h0:uintR (m,l,e) 1=q0 at *
  obtain ⟨v0,m0,l0,e0⟩:=q0
  dsimp only [rU,rV,rB] at hQ hl0 hm0
  have hl1:=uintR_l m0 l0 e0 2
  have hm1:=uintR_m m0 l0 e0 2
  generalize h1:uintR (m0,l0,e0) 2=q1 at *
  obtain ⟨v1,m1,l1,e1⟩:=q1
  dsimp only [rU,rV,rB] at hQ hl1 hm1
  replace hm1:=mkOk_tr hm0 hm1
  have hl2:=uintR_l m1 l1 e1 1
  have hm2:=uintR_m m1 l1 e1 1
  generalize h2:uintR (m1,l1,e1) 1=q2 at *
  obtain ⟨v2,m2,l2,e2⟩:=q2
  dsimp only [rU,rV,rB] at hQ hl2 hm2
  replace hm2:=mkOk_tr hm1 hm2
  have hl3:=uintR_l m2 l2 e2 2
  have hm3:=uintR_m m2 l2 e2 2
  generalize h3:uintR (m2,l2,e2) 2=q3 at *
  obtain ⟨v3,m3,l3,e3⟩:=q3
  dsimp only [rU,rV,rB] at hQ hl3 hm3
  replace hm3:=mkOk_tr hm2 hm3
  have hl4:=valueR_l m3 l3 e3
  have hm4:=valueR_m m3 l3 e3
  generalize h4:valueR (m3,l3,e3)=q4 at *
  obtain ⟨v4,m4,l4,e4⟩:=q4
  dsimp only [rU,rV,rB] at hQ hl4 hm4
  replace hm4:=mkOk_tr hm3 hm4
  subst hQ
  dsimp only [cellR]
  refine ACalls.of_aw (Ω:=[(95,Ent.effect e_Uint),(234,Ent.effect e_RValue)]) (T:=assoc []) mixed (TblOk.cons ok_Uint (TblOk.cons ok_RValue TblOk.nil)) Tryz.func315 (by kernel_rfl) (by rfl) (rs:=[.cell 2 129]) (by rfl) (by kernel_rfl) (by simp only [Tryz.ntmps315,yaz,yba];decide) (by simp only [zkz];omega) fun hcl hlt=>?_
  change aw _ _ _ (KI Tryz.prog [(95,Ent.effect e_Uint),(234,Ent.effect e_RValue)] (aEnd Tryz.prog [.cell 2 129] H.nx _ _ (assoc [])) []) _ _
  clear hlt
  have b0:l0.length≤100000:=by omega
  have b1:l1.length≤100000:=by omega
  have b2:l2.length≤100000:=by omega
  have b3:l3.length≤100000:=by omega
  have b4:l4.length≤100000:=by omega
  simp only [go_sem,byq,hne,hid,hcs,hcm,hgm,onR,onRo_some,onRo_nil,zlv,zlt,zle,and_true,true_and,hid,onR,onRo_some,cellR,vv,vc,e_Uint,e_RValue,h0,b0,h1,b1,h2,b2,h3,b3,h4,b4]
  have hclz:(H.set id (.cells [.slice m4 1 (bys l4),.int .i64 e4])).Closed:=closedR hid hcl m4 hm4 l4 e4
  refine ⟨hle,?_,by repeat (first | exact AHeap.Le.refl _ | refine AHeap.Le.push ?_ _),hclz,(fun x=>lt_primAV x) _⟩
  simp [wk,wk2,wkL,wk1,wkM,primAV,vc]
def e_gtPrm:List AV→AHeap→(AEnd→AHeap→Prop)→Prop
  | [.ptr id 0,.agg [.int .i64 most,.func (.func f) [] [],.func (.func 315) [] []]],H,K=>onR H id fun m l e=>True∧K (.ret (.slice .any 6 ((rlP rdPri most (m,l,e)).1.map (primAV)))) (H.set id (.cells (cellR (rlP rdPri most (m,l,e)).2)))
  | _,_,_=>False
set_option maxHeartbeats 4000000 in
theorem ok_gtPrm:EntOk Tryz.prog 197 (Ent.effect e_gtPrm):=by
  refine EntOk.effect fun args H K h=>?_
  unfold e_gtPrm at h
  split at h
  rotate_left
  · exact h.elim
  rename_i id most f
  obtain ⟨m,l,e,hid,hle,h⟩:=onR_out h
  obtain ⟨hpre,hK⟩:=h
  refine ⟨_,_,hK,?_⟩
  clear hK
  have hl0:=AHeap.get_lt hid
  have hne:=far_of hl0
  have hss:=set_same hid
  have hcs:=cells_some hid
  have hcm:=fun cs=>@cells_set_same H id cs hl0
  have hgm:=fun o=>@get_set_same' H id o hl0
  have hl1:=countR_l m l e most
  have hm1:=countR_m m l e most
  have hc1:=count_bd (m,l,e) most
  obtain ⟨Q,hQ⟩:∃ Q,rlP rdPri most (m,l,e)=Q:=⟨_,rfl⟩
  rw [hQ]
  unfold rlP at hQ
  generalize h1:countR (m,l,e) most=q1 at *
  obtain ⟨cc,m1,l1,e1⟩:=q1
  dsimp only at hl1 hm1 hc1 hQ
  obtain ⟨kc,rfl⟩:∃ kc:Nat,cc=(kc:Int):=⟨cc.toNat,by omega⟩
  rw [Int.toNat_natCast] at hQ
  obtain ⟨⟨GO,gs⟩,hG⟩:∃ G,goP rdPri kc (m1,l1,e1)=G:=⟨_,rfl⟩
  have hgo:=goP_go rdPri_go kc (m1,l1,e1)
  rw [hG] at hQ hgo
  obtain ⟨hg1,hg2,_⟩:=hgo
  obtain ⟨gm,gl,ge⟩:=gs
  dsimp only at hQ hg1 hg2
  subst hQ
  refine ACalls.of_aw (Ω:=[(97,Ent.effect e_RCount),(315,Ent.effect e_rdPrm),(235,Ent.effect e_RErrE)]) (T:=assoc []) mixed (TblOk.cons ok_RCount (TblOk.cons ok_rdPrm (TblOk.cons ok_RErrE TblOk.nil))) Tryz.func197 (by kernel_rfl) (by rfl) (rs:=[.tmp 4]) (by rfl) (by kernel_rfl) (by simp only [Tryz.ntmps197,yaz,yba];decide) (by simp only [zkz];omega) fun hcl hlt=>?_
  change aw _ _ _ (KI Tryz.prog [(97,Ent.effect e_RCount),(315,Ent.effect e_rdPrm),(235,Ent.effect e_RErrE)] (aEnd Tryz.prog [.tmp 4] H.nx _ _ (assoc [])) []) _ _
  clear hlt
  have b1:l1.length≤100000:=by omega
  simp only [blkE,blkP,bhq,Nat.reduceMod,Nat.reduceDiv,stepH,stepM,toMs1,toMs,toMs0,strK,pubK,pubF,pubV,yaq,yar,yao,yap,go_sem,byq,hne,hid,hcs,hcm,hgm,onR,onRo_some,onRo_nil,zlv,zlt,zle,and_true,true_and,hid,e_RCount,h1,b1,cellR]
  refine ⟨hle,?_⟩
  have hltC:ltL (H.nx+1) [.int .i64 most,.func (.func f) [] [],.func (.func 315) [] []]:=by simp [zno,znp,zmz,lt_func0]
  have hclL:∀ (s:RS) (k:Nat),mkOk m s.1→((((H.set id (.cells [.slice s.1 1 (bys s.2.1),.int .i64 s.2.2])).push (.cells [.int .i64 most,.func (.func f) [] [],.func (.func 315) [] []])).push (.buf 6 0)).push (.buf 6 k)).Closed:=fun s k hs=>closed_buf (closed_buf (closed_cells (closedR hid hcl s.1 hs s.2.1 s.2.2) (by simpa only [zkz] using hltC)))
  refine loop_introW (A:=List SPrim × RS) (fun x=>[(0,.ptr id 0),(3,.ptr H.nx 0),(5,.slice (.own (H.nx+1+1)) 6 (x.1.map (primAV))),(10,.int .i64 (kc:Int)),(11,.int .i64 (x.1.length:Int))]) (fun x=>(((H.set id (.cells [.slice x.2.1 1 (bys x.2.2.1),.int .i64 x.2.2.2])).push (.cells [.int .i64 most,.func (.func f) [] [],.func (.func 315) [] []])).push (.buf 6 0)).push (.buf 6 x.1.length)) (fun x=>x.1.length≤kc∧((goP rdPri (kc - x.1.length) x.2).1.map (x.1++·),(goP rdPri (kc - x.1.length) x.2).2)=(GO,gm,gl,ge)∧x.2.2.1.length≤l1.length∧mkOk m x.2.1) (fun x=>kc - x.1.length) ([],(m1,l1,e1)) ⟨Nat.zero_le _,by rw [← hG];simp,Nat.le_refl _,hm1⟩ ?_ fun x hx=>?_
  · refine ⟨by simp only [zkk,zkp,zky,zkz];omega,by repeat (first | exact AHeap.Le.refl _ | refine AHeap.Le.push ?_ _),hclL (m1,l1,e1) 0 hm1,?_,?_⟩
    · simp [ltF,zmz,znh,lt_sliceL,znp,zky,zkz]
      try omega
    · simp [subW,wk2,wk1,wkM,Fr.get]
  obtain ⟨us,m2,l2,e2⟩:=x
  obtain ⟨hx1,hx2,hx3,hx4⟩:=hx
  dsimp only at hx1 hx2 hx3 hx4 ⊢
  have b2:l2.length≤100000:=by omega
  have ne1:(H.nx+1=id)=False:=eq_false (by omega)
  simp only [go_sem]
  refine cond_split (fun hc=>?_) (fun hc=>?_)
  · have hk':us.length<kc:=by simp at hc;omega
    have e5:IntKind.i64.wrap ((us.length:Int)+1)=((us.length+1:Nat):Int):=by rw [wrap_i64]<;>omega
    have hu:goP rdPri (kc - us.length) (m2,l2,e2)=if (rdPri (m2,l2,e2)).2.2.2≠0 then (none,(rdPri (m2,l2,e2)).2) else ((goP rdPri (kc - (us.length+1)) (rdPri (m2,l2,e2)).2).1.map ((rdPri (m2,l2,e2)).1::·),(goP rdPri (kc - (us.length+1)) (rdPri (m2,l2,e2)).2).2):=by
      rw [show kc - us.length=(kc - (us.length+1))+1 by omega];rfl
    rw [hu] at hx2
    have hl3:=rdPri_go.l (m2,l2,e2)
    have hm3:=rdPri_go.m (m2,l2,e2)
    generalize hq3:rdPri (m2,l2,e2)=q3 at *
    obtain ⟨n3,m3,l3,e3⟩:=q3
    dsimp only at hl3 hm3 hx2
    have b3:l3.length≤100000:=by omega
    have hmm:mkOk m m3:=mkOk_tr hx4 hm3
    
    cases hz:(e3 != 0)
    · have hz':e3=0:=by simpa using hz
      rw [if_neg (by rw [hz'];decide)] at hx2
      simp only [go_sem,byq,hne,hid,hcs,hcm,hgm,onR,onRo_some,onRo_nil,zlv,zlt,zle,and_true,true_and,hid,e_rdPrm,p_RErr,e_RErrE,hq3,hz,b2,b3,cellR,primAV,vc,yal,yak,e5,ybb]
      have hlen:(us++[n3]).length=us.length+1:=by simp
      refine ⟨⟨by omega,by omega,fun z hz=>by rw [List.mem_singleton] at hz;subst hz;rfl⟩,(us++[n3],(m3,l3,e3)),⟨by dsimp only;omega,?_,by dsimp only;omega,hmm⟩,by dsimp only;omega,?_⟩
      · dsimp only
        rw [hlen,← hx2]
        generalize goP rdPri (kc - (us.length+1)) (m3,l3,e3)=q5
        obtain ⟨o,t⟩:=q5
        cases o
        · rfl
        · simp [List.append_assoc]
      · refine ⟨by simp only [zky,zkz];omega,?_,hclL (m3,l3,e3) _ hmm,?_,?_⟩
        · simp only [List.map_append,yae,yaf,primAV,vc,yal,yak,List.length_append,yaz,yba]
          repeat (first | exact AHeap.Le.refl _ | refine AHeap.Le.push ?_ _)
        · simp [ltF,zmz,znh,lt_sliceL,zky,zkz]
          refine ⟨by omega,by omega,ltL_iff.2 fun j hj=>?_⟩
          have hmem:=List.getElem_mem hj
          rw [List.mem_append,List.mem_map,List.mem_singleton] at hmem
          rcases hmem with ⟨x,_,e⟩ | e
          · rw [← e];exact (fun x=>lt_primAV x) x
          · rw [e];exact (fun x=>lt_primAV x) _
        · simp [subW,wk2,wk1,wkM,Fr.get,primAV,vc,yal,yak]
    · have hz':e3≠0:=by simpa using hz
      rw [if_pos hz'] at hx2
      simp only [Option.map,Prod.mk.injEq] at hx2
      obtain ⟨rfl,rfl,rfl,rfl⟩:=hx2
      simp only [go_sem,byq,hne,hid,hcs,hcm,hgm,onR,onRo_some,onRo_nil,zlv,zlt,zle,and_true,true_and,hid,e_rdPrm,p_RErr,e_RErrE,hq3,hz,b2,b3,cellR,primAV,vc,yal,yak,Option.getD_none,yaf]
      exact ⟨by simp [wk,wk2,wk1,wkM],by repeat (first | exact AHeap.Le.refl _ | refine AHeap.Le.push ?_ _),closedR hid hcl _ hmm _ _,by simp [lt_sliceL,znp]⟩
  · have hk':us.length=kc:=by simp at hc;omega
    subst hk'
    rw [Nat.sub_self] at hx2
    simp only [goP,Option.map,yaj,Prod.mk.injEq] at hx2
    obtain ⟨rfl,rfl,rfl,rfl⟩:=hx2
    simp only [go_sem,byq,Option.getD_some]
    exact ⟨by simp [wk,wk2,wk1,wkM],by repeat (first | exact AHeap.Le.refl _ | refine AHeap.Le.push ?_ _),closedR hid hcl _ hx4 _ _,lt_map (fun x=>lt_primAV x)⟩
def e_rdKey:List AV→AHeap→(AEnd→AHeap→Prop)→Prop
  | [.ptr id 0],H,K=>onR H id fun m l e=>True∧K (.ret (keyAV (rdKey (m,l,e)).1)) (H.set id (.cells (cellR (rdKey (m,l,e)).2)))
  | _,_,_=>False
set_option maxHeartbeats 4000000 in
theorem ok_rdKey:EntOk Tryz.prog 317 (Ent.effect e_rdKey):=by
  refine EntOk.effect fun args H K h=>?_
  unfold e_rdKey at h
  split at h
  rotate_left
  · exact h.elim
  rename_i id
  obtain ⟨m,l,e,hid,hle,h⟩:=onR_out h
  obtain ⟨hpre,hK⟩:=h
  refine ⟨_,_,hK,?_⟩
  clear hK
  have hl0:=AHeap.get_lt hid
  have hne:=far_of hl0
  have hss:=set_same hid
  have hcs:=cells_some hid
  have hcm:=fun cs=>@cells_set_same H id cs hl0
  have hgm:=fun o=>@get_set_same' H id o hl0
  obtain ⟨Q,hQ⟩:∃ Q,rdKey (m,l,e)=Q:=⟨_,rfl⟩
  rw [hQ]
  unfold rdKey at hQ
  try dsimp only [rap,rpure,rU,rT,rV,rB,LP_l] at hQ
  have hl0:=textR_l m l e 24
  have hm0:=textR_m m l e 24
  generalize h0:textR (m,l,e) 24=q0 at *
  obtain ⟨v0,m0,l0,e0⟩:=q0
  dsimp only [rU,rV,rB] at hQ hl0 hm0
  have hl1:=uintR_l m0 l0 e0 2
  have hm1:=uintR_m m0 l0 e0 2
  generalize h1:uintR (m0,l0,e0) 2=q1 at *
  obtain ⟨v1,m1,l1,e1⟩:=q1
  dsimp only [rU,rV,rB] at hQ hl1 hm1
  replace hm1:=mkOk_tr hm0 hm1
  have hl2:=uintR_l m1 l1 e1 1
  have hm2:=uintR_m m1 l1 e1 1
  generalize h2:uintR (m1,l1,e1) 1=q2 at *
  obtain ⟨v2,m2,l2,e2⟩:=q2
  dsimp only [rU,rV,rB] at hQ hl2 hm2
  replace hm2:=mkOk_tr hm1 hm2
  subst hQ
  dsimp only [cellR]
  refine ACalls.of_aw (Ω:=[(179,Ent.effect e_RText),(95,Ent.effect e_Uint)]) (T:=assoc []) mixed (TblOk.cons ok_RText (TblOk.cons ok_Uint TblOk.nil)) Tryz.func317 (by kernel_rfl) (by rfl) (rs:=[.cell 2 308]) (by rfl) (by kernel_rfl) (by simp only [Tryz.ntmps317,yaz,yba];decide) (by simp only [zkz];omega) fun hcl hlt=>?_
  change aw _ _ _ (KI Tryz.prog [(179,Ent.effect e_RText),(95,Ent.effect e_Uint)] (aEnd Tryz.prog [.cell 2 308] H.nx _ _ (assoc [])) []) _ _
  clear hlt
  have b0:l0.length≤100000:=by omega
  have b1:l1.length≤100000:=by omega
  have b2:l2.length≤100000:=by omega
  simp only [go_sem,byq,hne,hid,hcs,hcm,hgm,onR,onRo_some,onRo_nil,zlv,zlt,zle,and_true,true_and,hid,onR,onRo_some,cellR,vv,vc,e_RText,e_Uint,h0,b0,h1,b1,h2,b2]
  have hclz:(H.set id (.cells [.slice m2 1 (bys l2),.int .i64 e2])).Closed:=closedR hid hcl m2 hm2 l2 e2
  refine ⟨hle,?_,by repeat (first | exact AHeap.Le.refl _ | refine AHeap.Le.push ?_ _),hclz,(fun x=>lt_keyAV x) _⟩
  simp [wk,wk2,wkL,wk1,wkM,keyAV]
def e_gtKey:List AV→AHeap→(AEnd→AHeap→Prop)→Prop
  | [.ptr id 0,.agg [.int .i64 most,.func (.func f) [] [],.func (.func 317) [] []]],H,K=>onR H id fun m l e=>True∧K (.ret (.slice .any 3 ((rlP rdKey most (m,l,e)).1.map (keyAV)))) (H.set id (.cells (cellR (rlP rdKey most (m,l,e)).2)))
  | _,_,_=>False
set_option maxHeartbeats 4000000 in
theorem ok_gtKey:EntOk Tryz.prog 204 (Ent.effect e_gtKey):=by
  refine EntOk.effect fun args H K h=>?_
  unfold e_gtKey at h
  split at h
  rotate_left
  · exact h.elim
  rename_i id most f
  obtain ⟨m,l,e,hid,hle,h⟩:=onR_out h
  obtain ⟨hpre,hK⟩:=h
  refine ⟨_,_,hK,?_⟩
  clear hK
  have hl0:=AHeap.get_lt hid
  have hne:=far_of hl0
  have hss:=set_same hid
  have hcs:=cells_some hid
  have hcm:=fun cs=>@cells_set_same H id cs hl0
  have hgm:=fun o=>@get_set_same' H id o hl0
  have hl1:=countR_l m l e most
  have hm1:=countR_m m l e most
  have hc1:=count_bd (m,l,e) most
  obtain ⟨Q,hQ⟩:∃ Q,rlP rdKey most (m,l,e)=Q:=⟨_,rfl⟩
  rw [hQ]
  unfold rlP at hQ
  generalize h1:countR (m,l,e) most=q1 at *
  obtain ⟨cc,m1,l1,e1⟩:=q1
  dsimp only at hl1 hm1 hc1 hQ
  obtain ⟨kc,rfl⟩:∃ kc:Nat,cc=(kc:Int):=⟨cc.toNat,by omega⟩
  rw [Int.toNat_natCast] at hQ
  obtain ⟨⟨GO,gs⟩,hG⟩:∃ G,goP rdKey kc (m1,l1,e1)=G:=⟨_,rfl⟩
  have hgo:=goP_go rdKey_go kc (m1,l1,e1)
  rw [hG] at hQ hgo
  obtain ⟨hg1,hg2,_⟩:=hgo
  obtain ⟨gm,gl,ge⟩:=gs
  dsimp only at hQ hg1 hg2
  subst hQ
  refine ACalls.of_aw (Ω:=[(97,Ent.effect e_RCount),(317,Ent.effect e_rdKey),(235,Ent.effect e_RErrE)]) (T:=assoc []) mixed (TblOk.cons ok_RCount (TblOk.cons ok_rdKey (TblOk.cons ok_RErrE TblOk.nil))) Tryz.func204 (by kernel_rfl) (by rfl) (rs:=[.tmp 4]) (by rfl) (by kernel_rfl) (by simp only [Tryz.ntmps204,yaz,yba];decide) (by simp only [zkz];omega) fun hcl hlt=>?_
  change aw _ _ _ (KI Tryz.prog [(97,Ent.effect e_RCount),(317,Ent.effect e_rdKey),(235,Ent.effect e_RErrE)] (aEnd Tryz.prog [.tmp 4] H.nx _ _ (assoc [])) []) _ _
  clear hlt
  have b1:l1.length≤100000:=by omega
  simp only [blkE,blkP,bhq,Nat.reduceMod,Nat.reduceDiv,stepH,stepM,toMs1,toMs,toMs0,strK,pubK,pubF,pubV,yaq,yar,yao,yap,go_sem,byq,hne,hid,hcs,hcm,hgm,onR,onRo_some,onRo_nil,zlv,zlt,zle,and_true,true_and,hid,e_RCount,h1,b1,cellR]
  refine ⟨hle,?_⟩
  have hltC:ltL (H.nx+1) [.int .i64 most,.func (.func f) [] [],.func (.func 317) [] []]:=by simp [zno,znp,zmz,lt_func0]
  have hclL:∀ (s:RS) (k:Nat),mkOk m s.1→((((H.set id (.cells [.slice s.1 1 (bys s.2.1),.int .i64 s.2.2])).push (.cells [.int .i64 most,.func (.func f) [] [],.func (.func 317) [] []])).push (.buf 3 0)).push (.buf 3 k)).Closed:=fun s k hs=>closed_buf (closed_buf (closed_cells (closedR hid hcl s.1 hs s.2.1 s.2.2) (by simpa only [zkz] using hltC)))
  refine loop_introW (A:=List SKey × RS) (fun x=>[(0,.ptr id 0),(3,.ptr H.nx 0),(5,.slice (.own (H.nx+1+1)) 3 (x.1.map (keyAV))),(10,.int .i64 (kc:Int)),(11,.int .i64 (x.1.length:Int))]) (fun x=>(((H.set id (.cells [.slice x.2.1 1 (bys x.2.2.1),.int .i64 x.2.2.2])).push (.cells [.int .i64 most,.func (.func f) [] [],.func (.func 317) [] []])).push (.buf 3 0)).push (.buf 3 x.1.length)) (fun x=>x.1.length≤kc∧((goP rdKey (kc - x.1.length) x.2).1.map (x.1++·),(goP rdKey (kc - x.1.length) x.2).2)=(GO,gm,gl,ge)∧x.2.2.1.length≤l1.length∧mkOk m x.2.1) (fun x=>kc - x.1.length) ([],(m1,l1,e1)) ⟨Nat.zero_le _,by rw [← hG];simp,Nat.le_refl _,hm1⟩ ?_ fun x hx=>?_
  · refine ⟨by simp only [zkk,zkp,zky,zkz];omega,by repeat (first | exact AHeap.Le.refl _ | refine AHeap.Le.push ?_ _),hclL (m1,l1,e1) 0 hm1,?_,?_⟩
    · simp [ltF,zmz,znh,lt_sliceL,znp,zky,zkz]
      try omega
    · simp [subW,wk2,wk1,wkM,Fr.get]
  obtain ⟨us,m2,l2,e2⟩:=x
  obtain ⟨hx1,hx2,hx3,hx4⟩:=hx
  dsimp only at hx1 hx2 hx3 hx4 ⊢
  have b2:l2.length≤100000:=by omega
  have ne1:(H.nx+1=id)=False:=eq_false (by omega)
  simp only [go_sem]
  refine cond_split (fun hc=>?_) (fun hc=>?_)
  · have hk':us.length<kc:=by simp at hc;omega
    have e5:IntKind.i64.wrap ((us.length:Int)+1)=((us.length+1:Nat):Int):=by rw [wrap_i64]<;>omega
    have hu:goP rdKey (kc - us.length) (m2,l2,e2)=if (rdKey (m2,l2,e2)).2.2.2≠0 then (none,(rdKey (m2,l2,e2)).2) else ((goP rdKey (kc - (us.length+1)) (rdKey (m2,l2,e2)).2).1.map ((rdKey (m2,l2,e2)).1::·),(goP rdKey (kc - (us.length+1)) (rdKey (m2,l2,e2)).2).2):=by
      rw [show kc - us.length=(kc - (us.length+1))+1 by omega];rfl
    rw [hu] at hx2
    have hl3:=rdKey_go.l (m2,l2,e2)
    have hm3:=rdKey_go.m (m2,l2,e2)
    generalize hq3:rdKey (m2,l2,e2)=q3 at *
    obtain ⟨n3,m3,l3,e3⟩:=q3
    dsimp only at hl3 hm3 hx2
    have b3:l3.length≤100000:=by omega
    have hmm:mkOk m m3:=mkOk_tr hx4 hm3
    
    cases hz:(e3 != 0)
    · have hz':e3=0:=by simpa using hz
      rw [if_neg (by rw [hz'];decide)] at hx2
      simp only [go_sem,byq,hne,hid,hcs,hcm,hgm,onR,onRo_some,onRo_nil,zlv,zlt,zle,and_true,true_and,hid,e_rdKey,p_RErr,e_RErrE,hq3,hz,b2,b3,cellR,keyAV,e5,ybb]
      have hlen:(us++[n3]).length=us.length+1:=by simp
      refine ⟨⟨by omega,by omega,fun z hz=>by rw [List.mem_singleton] at hz;subst hz;rfl⟩,(us++[n3],(m3,l3,e3)),⟨by dsimp only;omega,?_,by dsimp only;omega,hmm⟩,by dsimp only;omega,?_⟩
      · dsimp only
        rw [hlen,← hx2]
        generalize goP rdKey (kc - (us.length+1)) (m3,l3,e3)=q5
        obtain ⟨o,t⟩:=q5
        cases o
        · rfl
        · simp [List.append_assoc]
      · refine ⟨by simp only [zky,zkz];omega,?_,hclL (m3,l3,e3) _ hmm,?_,?_⟩
        · simp only [List.map_append,yae,yaf,keyAV,List.length_append,yaz,yba]
          repeat (first | exact AHeap.Le.refl _ | refine AHeap.Le.push ?_ _)
        · simp [ltF,zmz,znh,lt_sliceL,zky,zkz]
          refine ⟨by omega,by omega,ltL_iff.2 fun j hj=>?_⟩
          have hmem:=List.getElem_mem hj
          rw [List.mem_append,List.mem_map,List.mem_singleton] at hmem
          rcases hmem with ⟨x,_,e⟩ | e
          · rw [← e];exact (fun x=>lt_keyAV x) x
          · rw [e];exact (fun x=>lt_keyAV x) _
        · simp [subW,wk2,wk1,wkM,Fr.get,keyAV]
    · have hz':e3≠0:=by simpa using hz
      rw [if_pos hz'] at hx2
      simp only [Option.map,Prod.mk.injEq] at hx2
      obtain ⟨rfl,rfl,rfl,rfl⟩:=hx2
      simp only [go_sem,byq,hne,hid,hcs,hcm,hgm,onR,onRo_some,onRo_nil,zlv,zlt,zle,and_true,true_and,hid,e_rdKey,p_RErr,e_RErrE,hq3,hz,b2,b3,cellR,keyAV,Option.getD_none,yaf]
      exact ⟨by simp [wk,wk2,wk1,wkM],by repeat (first | exact AHeap.Le.refl _ | refine AHeap.Le.push ?_ _),closedR hid hcl _ hmm _ _,by simp [lt_sliceL,znp]⟩
  · have hk':us.length=kc:=by simp at hc;omega
    subst hk'
    rw [Nat.sub_self] at hx2
    simp only [goP,Option.map,yaj,Prod.mk.injEq] at hx2
    obtain ⟨rfl,rfl,rfl,rfl⟩:=hx2
    simp only [go_sem,byq,Option.getD_some]
    exact ⟨by simp [wk,wk2,wk1,wkM],by repeat (first | exact AHeap.Le.refl _ | refine AHeap.Le.push ?_ _),closedR hid hcl _ hx4 _ _,lt_map (fun x=>lt_keyAV x)⟩
def e_rdStg:List AV→AHeap→(AEnd→AHeap→Prop)→Prop
  | [.ptr id 0],H,K=>onR H id fun m l e=>True∧K (.ret (stageAV (rdStg (m,l,e)).1)) (H.set id (.cells (cellR (rdStg (m,l,e)).2)))
  | _,_,_=>False
set_option maxHeartbeats 4000000 in
theorem ok_rdStg:EntOk Tryz.prog 207 (Ent.effect e_rdStg):=by
  refine EntOk.effect fun args H K h=>?_
  unfold e_rdStg at h
  split at h
  rotate_left
  · exact h.elim
  rename_i id
  obtain ⟨m,l,e,hid,hle,h⟩:=onR_out h
  obtain ⟨hpre,hK⟩:=h
  refine ⟨_,_,hK,?_⟩
  clear hK
  have hl0:=AHeap.get_lt hid
  have hne:=far_of hl0
  have hss:=set_same hid
  have hcs:=cells_some hid
  have hcm:=fun cs=>@cells_set_same H id cs hl0
  have hgm:=fun o=>@get_set_same' H id o hl0
  obtain ⟨Q,hQ⟩:∃ Q,rdStg (m,l,e)=Q:=⟨_,rfl⟩
  rw [hQ]
  unfold rdStg at hQ
  try dsimp only [rap,rpure,rU,rT,rV,rB,LP_l] at hQ
  have hl0:=uintR_l m l e 2
  have hm0:=uintR_m m l e 2
  generalize h0:uintR (m,l,e) 2=q0 at *
  obtain ⟨v0,m0,l0,e0⟩:=q0
  dsimp only [rU,rV,rB] at hQ hl0 hm0
  have hl1:=uintR_l m0 l0 e0 2
  have hm1:=uintR_m m0 l0 e0 2
  generalize h1:uintR (m0,l0,e0) 2=q1 at *
  obtain ⟨v1,m1,l1,e1⟩:=q1
  dsimp only [rU,rV,rB] at hQ hl1 hm1
  replace hm1:=mkOk_tr hm0 hm1
  subst hQ
  dsimp only [cellR]
  refine ACalls.of_aw (Ω:=[(95,Ent.effect e_Uint)]) (T:=assoc []) mixed (TblOk.cons ok_Uint TblOk.nil) Tryz.func207 (by kernel_rfl) (by rfl) (rs:=[.cell 2 78]) (by rfl) (by kernel_rfl) (by simp only [Tryz.ntmps207,yaz,yba];decide) (by simp only [zkz];omega) fun hcl hlt=>?_
  change aw _ _ _ (KI Tryz.prog [(95,Ent.effect e_Uint)] (aEnd Tryz.prog [.cell 2 78] H.nx _ _ (assoc [])) []) _ _
  clear hlt
  have b0:l0.length≤100000:=by omega
  have b1:l1.length≤100000:=by omega
  simp only [go_sem,byq,hne,hid,hcs,hcm,hgm,onR,onRo_some,onRo_nil,zlv,zlt,zle,and_true,true_and,hid,onR,onRo_some,cellR,vv,vc,e_Uint,h0,b0,h1,b1]
  have hclz:(H.set id (.cells [.slice m1 1 (bys l1),.int .i64 e1])).Closed:=closedR hid hcl m1 hm1 l1 e1
  refine ⟨hle,?_,by repeat (first | exact AHeap.Le.refl _ | refine AHeap.Le.push ?_ _),hclz,(fun x=>lt_stageAV x) _⟩
  simp [wk,wk2,wkL,wk1,wkM,stageAV]
def e_gtStg:List AV→AHeap→(AEnd→AHeap→Prop)→Prop
  | [.ptr id 0,.agg [.int .i64 most,.func (.func f) [] [],.func (.func 207) [] []]],H,K=>onR H id fun m l e=>True∧K (.ret (.slice .any 2 ((rlP rdStg most (m,l,e)).1.map (stageAV)))) (H.set id (.cells (cellR (rlP rdStg most (m,l,e)).2)))
  | _,_,_=>False
set_option maxHeartbeats 4000000 in
theorem ok_gtStg:EntOk Tryz.prog 116 (Ent.effect e_gtStg):=by
  refine EntOk.effect fun args H K h=>?_
  unfold e_gtStg at h
  split at h
  rotate_left
  · exact h.elim
  rename_i id most f
  obtain ⟨m,l,e,hid,hle,h⟩:=onR_out h
  obtain ⟨hpre,hK⟩:=h
  refine ⟨_,_,hK,?_⟩
  clear hK
  have hl0:=AHeap.get_lt hid
  have hne:=far_of hl0
  have hss:=set_same hid
  have hcs:=cells_some hid
  have hcm:=fun cs=>@cells_set_same H id cs hl0
  have hgm:=fun o=>@get_set_same' H id o hl0
  have hl1:=countR_l m l e most
  have hm1:=countR_m m l e most
  have hc1:=count_bd (m,l,e) most
  obtain ⟨Q,hQ⟩:∃ Q,rlP rdStg most (m,l,e)=Q:=⟨_,rfl⟩
  rw [hQ]
  unfold rlP at hQ
  generalize h1:countR (m,l,e) most=q1 at *
  obtain ⟨cc,m1,l1,e1⟩:=q1
  dsimp only at hl1 hm1 hc1 hQ
  obtain ⟨kc,rfl⟩:∃ kc:Nat,cc=(kc:Int):=⟨cc.toNat,by omega⟩
  rw [Int.toNat_natCast] at hQ
  obtain ⟨⟨GO,gs⟩,hG⟩:∃ G,goP rdStg kc (m1,l1,e1)=G:=⟨_,rfl⟩
  have hgo:=goP_go rdStg_go kc (m1,l1,e1)
  rw [hG] at hQ hgo
  obtain ⟨hg1,hg2,_⟩:=hgo
  obtain ⟨gm,gl,ge⟩:=gs
  dsimp only at hQ hg1 hg2
  subst hQ
  refine ACalls.of_aw (Ω:=[(97,Ent.effect e_RCount),(207,Ent.effect e_rdStg),(235,Ent.effect e_RErrE)]) (T:=assoc []) mixed (TblOk.cons ok_RCount (TblOk.cons ok_rdStg (TblOk.cons ok_RErrE TblOk.nil))) Tryz.func116 (by kernel_rfl) (by rfl) (rs:=[.tmp 4]) (by rfl) (by kernel_rfl) (by simp only [Tryz.ntmps116,yaz,yba];decide) (by simp only [zkz];omega) fun hcl hlt=>?_
  change aw _ _ _ (KI Tryz.prog [(97,Ent.effect e_RCount),(207,Ent.effect e_rdStg),(235,Ent.effect e_RErrE)] (aEnd Tryz.prog [.tmp 4] H.nx _ _ (assoc [])) []) _ _
  clear hlt
  have b1:l1.length≤100000:=by omega
  simp only [blkE,blkP,bhq,Nat.reduceMod,Nat.reduceDiv,stepH,stepM,toMs1,toMs,toMs0,strK,pubK,pubF,pubV,yaq,yar,yao,yap,go_sem,byq,hne,hid,hcs,hcm,hgm,onR,onRo_some,onRo_nil,zlv,zlt,zle,and_true,true_and,hid,e_RCount,h1,b1,cellR]
  refine ⟨hle,?_⟩
  have hltC:ltL (H.nx+1) [.int .i64 most,.func (.func f) [] [],.func (.func 207) [] []]:=by simp [zno,znp,zmz,lt_func0]
  have hclL:∀ (s:RS) (k:Nat),mkOk m s.1→((((H.set id (.cells [.slice s.1 1 (bys s.2.1),.int .i64 s.2.2])).push (.cells [.int .i64 most,.func (.func f) [] [],.func (.func 207) [] []])).push (.buf 2 0)).push (.buf 2 k)).Closed:=fun s k hs=>closed_buf (closed_buf (closed_cells (closedR hid hcl s.1 hs s.2.1 s.2.2) (by simpa only [zkz] using hltC)))
  refine loop_introW (A:=List SStage × RS) (fun x=>[(0,.ptr id 0),(3,.ptr H.nx 0),(5,.slice (.own (H.nx+1+1)) 2 (x.1.map (stageAV))),(10,.int .i64 (kc:Int)),(11,.int .i64 (x.1.length:Int))]) (fun x=>(((H.set id (.cells [.slice x.2.1 1 (bys x.2.2.1),.int .i64 x.2.2.2])).push (.cells [.int .i64 most,.func (.func f) [] [],.func (.func 207) [] []])).push (.buf 2 0)).push (.buf 2 x.1.length)) (fun x=>x.1.length≤kc∧((goP rdStg (kc - x.1.length) x.2).1.map (x.1++·),(goP rdStg (kc - x.1.length) x.2).2)=(GO,gm,gl,ge)∧x.2.2.1.length≤l1.length∧mkOk m x.2.1) (fun x=>kc - x.1.length) ([],(m1,l1,e1)) ⟨Nat.zero_le _,by rw [← hG];simp,Nat.le_refl _,hm1⟩ ?_ fun x hx=>?_
  · refine ⟨by simp only [zkk,zkp,zky,zkz];omega,by repeat (first | exact AHeap.Le.refl _ | refine AHeap.Le.push ?_ _),hclL (m1,l1,e1) 0 hm1,?_,?_⟩
    · simp [ltF,zmz,znh,lt_sliceL,znp,zky,zkz]
      try omega
    · simp [subW,wk2,wk1,wkM,Fr.get]
  obtain ⟨us,m2,l2,e2⟩:=x
  obtain ⟨hx1,hx2,hx3,hx4⟩:=hx
  dsimp only at hx1 hx2 hx3 hx4 ⊢
  have b2:l2.length≤100000:=by omega
  have ne1:(H.nx+1=id)=False:=eq_false (by omega)
  simp only [go_sem]
  refine cond_split (fun hc=>?_) (fun hc=>?_)
  · have hk':us.length<kc:=by simp at hc;omega
    have e5:IntKind.i64.wrap ((us.length:Int)+1)=((us.length+1:Nat):Int):=by rw [wrap_i64]<;>omega
    have hu:goP rdStg (kc - us.length) (m2,l2,e2)=if (rdStg (m2,l2,e2)).2.2.2≠0 then (none,(rdStg (m2,l2,e2)).2) else ((goP rdStg (kc - (us.length+1)) (rdStg (m2,l2,e2)).2).1.map ((rdStg (m2,l2,e2)).1::·),(goP rdStg (kc - (us.length+1)) (rdStg (m2,l2,e2)).2).2):=by
      rw [show kc - us.length=(kc - (us.length+1))+1 by omega];rfl
    rw [hu] at hx2
    have hl3:=rdStg_go.l (m2,l2,e2)
    have hm3:=rdStg_go.m (m2,l2,e2)
    generalize hq3:rdStg (m2,l2,e2)=q3 at *
    obtain ⟨n3,m3,l3,e3⟩:=q3
    dsimp only at hl3 hm3 hx2
    have b3:l3.length≤100000:=by omega
    have hmm:mkOk m m3:=mkOk_tr hx4 hm3
    
    cases hz:(e3 != 0)
    · have hz':e3=0:=by simpa using hz
      rw [if_neg (by rw [hz'];decide)] at hx2
      simp only [go_sem,byq,hne,hid,hcs,hcm,hgm,onR,onRo_some,onRo_nil,zlv,zlt,zle,and_true,true_and,hid,e_rdStg,p_RErr,e_RErrE,hq3,hz,b2,b3,cellR,stageAV,e5,ybb]
      have hlen:(us++[n3]).length=us.length+1:=by simp
      refine ⟨⟨by omega,by omega,fun z hz=>by rw [List.mem_singleton] at hz;subst hz;rfl⟩,(us++[n3],(m3,l3,e3)),⟨by dsimp only;omega,?_,by dsimp only;omega,hmm⟩,by dsimp only;omega,?_⟩
      · dsimp only
        rw [hlen,← hx2]
        generalize goP rdStg (kc - (us.length+1)) (m3,l3,e3)=q5
        obtain ⟨o,t⟩:=q5
        cases o
        · rfl
        · simp [List.append_assoc]
      · refine ⟨by simp only [zky,zkz];omega,?_,hclL (m3,l3,e3) _ hmm,?_,?_⟩
        · simp only [List.map_append,yae,yaf,stageAV,List.length_append,yaz,yba]
          repeat (first | exact AHeap.Le.refl _ | refine AHeap.Le.push ?_ _)
        · simp [ltF,zmz,znh,lt_sliceL,zky,zkz]
          refine ⟨by omega,by omega,ltL_iff.2 fun j hj=>?_⟩
          have hmem:=List.getElem_mem hj
          rw [List.mem_append,List.mem_map,List.mem_singleton] at hmem
          rcases hmem with ⟨x,_,e⟩ | e
          · rw [← e];exact (fun x=>lt_stageAV x) x
          · rw [e];exact (fun x=>lt_stageAV x) _
        · simp [subW,wk2,wk1,wkM,Fr.get,stageAV]
    · have hz':e3≠0:=by simpa using hz
      rw [if_pos hz'] at hx2
      simp only [Option.map,Prod.mk.injEq] at hx2
      obtain ⟨rfl,rfl,rfl,rfl⟩:=hx2
      simp only [go_sem,byq,hne,hid,hcs,hcm,hgm,onR,onRo_some,onRo_nil,zlv,zlt,zle,and_true,true_and,hid,e_rdStg,p_RErr,e_RErrE,hq3,hz,b2,b3,cellR,stageAV,Option.getD_none,yaf]
      exact ⟨by simp [wk,wk2,wk1,wkM],by repeat (first | exact AHeap.Le.refl _ | refine AHeap.Le.push ?_ _),closedR hid hcl _ hmm _ _,by simp [lt_sliceL,znp]⟩
  · have hk':us.length=kc:=by simp at hc;omega
    subst hk'
    rw [Nat.sub_self] at hx2
    simp only [goP,Option.map,yaj,Prod.mk.injEq] at hx2
    obtain ⟨rfl,rfl,rfl,rfl⟩:=hx2
    simp only [go_sem,byq,Option.getD_some]
    exact ⟨by simp [wk,wk2,wk1,wkM],by repeat (first | exact AHeap.Le.refl _ | refine AHeap.Le.push ?_ _),closedR hid hcl _ hx4 _ _,lt_map (fun x=>lt_stageAV x)⟩
def e_rdRef:List AV→AHeap→(AEnd→AHeap→Prop)→Prop
  | [.ptr id 0],H,K=>onR H id fun m l e=>True∧K (.ret (refAV (rdRef (m,l,e)).1)) (H.set id (.cells (cellR (rdRef (m,l,e)).2)))
  | _,_,_=>False
set_option maxHeartbeats 4000000 in
theorem ok_rdRef:EntOk Tryz.prog 215 (Ent.effect e_rdRef):=by
  refine EntOk.effect fun args H K h=>?_
  unfold e_rdRef at h
  split at h
  rotate_left
  · exact h.elim
  rename_i id
  obtain ⟨m,l,e,hid,hle,h⟩:=onR_out h
  obtain ⟨hpre,hK⟩:=h
  refine ⟨_,_,hK,?_⟩
  clear hK
  have hl0:=AHeap.get_lt hid
  have hne:=far_of hl0
  have hss:=set_same hid
  have hcs:=cells_some hid
  have hcm:=fun cs=>@cells_set_same H id cs hl0
  have hgm:=fun o=>@get_set_same' H id o hl0
  obtain ⟨Q,hQ⟩:∃ Q,rdRef (m,l,e)=Q:=⟨_,rfl⟩
  rw [hQ]
  unfold rdRef at hQ
  try dsimp only [rap,rpure,rU,rT,rV,rB,LP_l] at hQ
  have hl0:=uintR_l m l e 2
  have hm0:=uintR_m m l e 2
  generalize h0:uintR (m,l,e) 2=q0 at *
  obtain ⟨v0,m0,l0,e0⟩:=q0
  dsimp only [rU,rV,rB] at hQ hl0 hm0
  have hl1:=uintR_l m0 l0 e0 1
  have hm1:=uintR_m m0 l0 e0 1
  generalize h1:uintR (m0,l0,e0) 1=q1 at *
  obtain ⟨v1,m1,l1,e1⟩:=q1
  dsimp only [rU,rV,rB] at hQ hl1 hm1
  replace hm1:=mkOk_tr hm0 hm1
  have hl2:=uintR_l m1 l1 e1 2
  have hm2:=uintR_m m1 l1 e1 2
  generalize h2:uintR (m1,l1,e1) 2=q2 at *
  obtain ⟨v2,m2,l2,e2⟩:=q2
  dsimp only [rU,rV,rB] at hQ hl2 hm2
  replace hm2:=mkOk_tr hm1 hm2
  have hl3:=uintR_l m2 l2 e2 1
  have hm3:=uintR_m m2 l2 e2 1
  generalize h3:uintR (m2,l2,e2) 1=q3 at *
  obtain ⟨v3,m3,l3,e3⟩:=q3
  dsimp only [rU,rV,rB] at hQ hl3 hm3
  replace hm3:=mkOk_tr hm2 hm3
  have hl4:=uintR_l m3 l3 e3 2
  have hm4:=uintR_m m3 l3 e3 2
  generalize h4:uintR (m3,l3,e3) 2=q4 at *
  obtain ⟨v4,m4,l4,e4⟩:=q4
  dsimp only [rU,rV,rB] at hQ hl4 hm4
  replace hm4:=mkOk_tr hm3 hm4
  have hl5:=uintR_l m4 l4 e4 1
  have hm5:=uintR_m m4 l4 e4 1
  generalize h5:uintR (m4,l4,e4) 1=q5 at *
  obtain ⟨v5,m5,l5,e5⟩:=q5
  dsimp only [rU,rV,rB] at hQ hl5 hm5
  replace hm5:=mkOk_tr hm4 hm5
  subst hQ
  dsimp only [cellR]
  refine ACalls.of_aw (Ω:=[(95,Ent.effect e_Uint)]) (T:=assoc []) mixed (TblOk.cons ok_Uint TblOk.nil) Tryz.func215 (by kernel_rfl) (by rfl) (rs:=[.cell 2 120]) (by rfl) (by kernel_rfl) (by simp only [Tryz.ntmps215,yaz,yba];decide) (by simp only [zkz];omega) fun hcl hlt=>?_
  change aw _ _ _ (KI Tryz.prog [(95,Ent.effect e_Uint)] (aEnd Tryz.prog [.cell 2 120] H.nx _ _ (assoc [])) []) _ _
  clear hlt
  have b0:l0.length≤100000:=by omega
  have b1:l1.length≤100000:=by omega
  have b2:l2.length≤100000:=by omega
  have b3:l3.length≤100000:=by omega
  have b4:l4.length≤100000:=by omega
  have b5:l5.length≤100000:=by omega
  simp only [go_sem,byq,hne,hid,hcs,hcm,hgm,onR,onRo_some,onRo_nil,zlv,zlt,zle,and_true,true_and,hid,onR,onRo_some,cellR,vv,vc,e_Uint,h0,b0,h1,b1,h2,b2,h3,b3,h4,b4,h5,b5]
  have hclz:(H.set id (.cells [.slice m5 1 (bys l5),.int .i64 e5])).Closed:=closedR hid hcl m5 hm5 l5 e5
  refine ⟨hle,?_,by repeat (first | exact AHeap.Le.refl _ | refine AHeap.Le.push ?_ _),hclz,(fun x=>lt_refAV x) _⟩
  simp [wk,wk2,wkL,wk1,wkM,refAV]
def e_gtRef:List AV→AHeap→(AEnd→AHeap→Prop)→Prop
  | [.ptr id 0,.agg [.int .i64 most,.func (.func f) [] [],.func (.func 215) [] []]],H,K=>onR H id fun m l e=>True∧K (.ret (.slice .any 6 ((rlP rdRef most (m,l,e)).1.map (refAV)))) (H.set id (.cells (cellR (rlP rdRef most (m,l,e)).2)))
  | _,_,_=>False
set_option maxHeartbeats 4000000 in
theorem ok_gtRef:EntOk Tryz.prog 118 (Ent.effect e_gtRef):=by
  refine EntOk.effect fun args H K h=>?_
  unfold e_gtRef at h
  split at h
  rotate_left
  · exact h.elim
  rename_i id most f
  obtain ⟨m,l,e,hid,hle,h⟩:=onR_out h
  obtain ⟨hpre,hK⟩:=h
  refine ⟨_,_,hK,?_⟩
  clear hK
  have hl0:=AHeap.get_lt hid
  have hne:=far_of hl0
  have hss:=set_same hid
  have hcs:=cells_some hid
  have hcm:=fun cs=>@cells_set_same H id cs hl0
  have hgm:=fun o=>@get_set_same' H id o hl0
  have hl1:=countR_l m l e most
  have hm1:=countR_m m l e most
  have hc1:=count_bd (m,l,e) most
  obtain ⟨Q,hQ⟩:∃ Q,rlP rdRef most (m,l,e)=Q:=⟨_,rfl⟩
  rw [hQ]
  unfold rlP at hQ
  generalize h1:countR (m,l,e) most=q1 at *
  obtain ⟨cc,m1,l1,e1⟩:=q1
  dsimp only at hl1 hm1 hc1 hQ
  obtain ⟨kc,rfl⟩:∃ kc:Nat,cc=(kc:Int):=⟨cc.toNat,by omega⟩
  rw [Int.toNat_natCast] at hQ
  obtain ⟨⟨GO,gs⟩,hG⟩:∃ G,goP rdRef kc (m1,l1,e1)=G:=⟨_,rfl⟩
  have hgo:=goP_go rdRef_go kc (m1,l1,e1)
  rw [hG] at hQ hgo
  obtain ⟨hg1,hg2,_⟩:=hgo
  obtain ⟨gm,gl,ge⟩:=gs
  dsimp only at hQ hg1 hg2
  subst hQ
  refine ACalls.of_aw (Ω:=[(97,Ent.effect e_RCount),(215,Ent.effect e_rdRef),(235,Ent.effect e_RErrE)]) (T:=assoc []) mixed (TblOk.cons ok_RCount (TblOk.cons ok_rdRef (TblOk.cons ok_RErrE TblOk.nil))) Tryz.func118 (by kernel_rfl) (by rfl) (rs:=[.tmp 4]) (by rfl) (by kernel_rfl) (by simp only [Tryz.ntmps118,yaz,yba];decide) (by simp only [zkz];omega) fun hcl hlt=>?_
  change aw _ _ _ (KI Tryz.prog [(97,Ent.effect e_RCount),(215,Ent.effect e_rdRef),(235,Ent.effect e_RErrE)] (aEnd Tryz.prog [.tmp 4] H.nx _ _ (assoc [])) []) _ _
  clear hlt
  have b1:l1.length≤100000:=by omega
  simp only [blkE,blkP,bhq,Nat.reduceMod,Nat.reduceDiv,stepH,stepM,toMs1,toMs,toMs0,strK,pubK,pubF,pubV,yaq,yar,yao,yap,go_sem,byq,hne,hid,hcs,hcm,hgm,onR,onRo_some,onRo_nil,zlv,zlt,zle,and_true,true_and,hid,e_RCount,h1,b1,cellR]
  refine ⟨hle,?_⟩
  have hltC:ltL (H.nx+1) [.int .i64 most,.func (.func f) [] [],.func (.func 215) [] []]:=by simp [zno,znp,zmz,lt_func0]
  have hclL:∀ (s:RS) (k:Nat),mkOk m s.1→((((H.set id (.cells [.slice s.1 1 (bys s.2.1),.int .i64 s.2.2])).push (.cells [.int .i64 most,.func (.func f) [] [],.func (.func 215) [] []])).push (.buf 6 0)).push (.buf 6 k)).Closed:=fun s k hs=>closed_buf (closed_buf (closed_cells (closedR hid hcl s.1 hs s.2.1 s.2.2) (by simpa only [zkz] using hltC)))
  refine loop_introW (A:=List SRef × RS) (fun x=>[(0,.ptr id 0),(3,.ptr H.nx 0),(5,.slice (.own (H.nx+1+1)) 6 (x.1.map (refAV))),(10,.int .i64 (kc:Int)),(11,.int .i64 (x.1.length:Int))]) (fun x=>(((H.set id (.cells [.slice x.2.1 1 (bys x.2.2.1),.int .i64 x.2.2.2])).push (.cells [.int .i64 most,.func (.func f) [] [],.func (.func 215) [] []])).push (.buf 6 0)).push (.buf 6 x.1.length)) (fun x=>x.1.length≤kc∧((goP rdRef (kc - x.1.length) x.2).1.map (x.1++·),(goP rdRef (kc - x.1.length) x.2).2)=(GO,gm,gl,ge)∧x.2.2.1.length≤l1.length∧mkOk m x.2.1) (fun x=>kc - x.1.length) ([],(m1,l1,e1)) ⟨Nat.zero_le _,by rw [← hG];simp,Nat.le_refl _,hm1⟩ ?_ fun x hx=>?_
  · refine ⟨by simp only [zkk,zkp,zky,zkz];omega,by repeat (first | exact AHeap.Le.refl _ | refine AHeap.Le.push ?_ _),hclL (m1,l1,e1) 0 hm1,?_,?_⟩
    · simp [ltF,zmz,znh,lt_sliceL,znp,zky,zkz]
      try omega
    · simp [subW,wk2,wk1,wkM,Fr.get]
  obtain ⟨us,m2,l2,e2⟩:=x
  obtain ⟨hx1,hx2,hx3,hx4⟩:=hx
  dsimp only at hx1 hx2 hx3 hx4 ⊢
  have b2:l2.length≤100000:=by omega
  have ne1:(H.nx+1=id)=False:=eq_false (by omega)
  simp only [go_sem]
  refine cond_split (fun hc=>?_) (fun hc=>?_)
  · have hk':us.length<kc:=by simp at hc;omega
    have e5:IntKind.i64.wrap ((us.length:Int)+1)=((us.length+1:Nat):Int):=by rw [wrap_i64]<;>omega
    have hu:goP rdRef (kc - us.length) (m2,l2,e2)=if (rdRef (m2,l2,e2)).2.2.2≠0 then (none,(rdRef (m2,l2,e2)).2) else ((goP rdRef (kc - (us.length+1)) (rdRef (m2,l2,e2)).2).1.map ((rdRef (m2,l2,e2)).1::·),(goP rdRef (kc - (us.length+1)) (rdRef (m2,l2,e2)).2).2):=by
      rw [show kc - us.length=(kc - (us.length+1))+1 by omega];rfl
    rw [hu] at hx2
    have hl3:=rdRef_go.l (m2,l2,e2)
    have hm3:=rdRef_go.m (m2,l2,e2)
    generalize hq3:rdRef (m2,l2,e2)=q3 at *
    obtain ⟨n3,m3,l3,e3⟩:=q3
    dsimp only at hl3 hm3 hx2
    have b3:l3.length≤100000:=by omega
    have hmm:mkOk m m3:=mkOk_tr hx4 hm3
    
    cases hz:(e3 != 0)
    · have hz':e3=0:=by simpa using hz
      rw [if_neg (by rw [hz'];decide)] at hx2
      simp only [go_sem,byq,hne,hid,hcs,hcm,hgm,onR,onRo_some,onRo_nil,zlv,zlt,zle,and_true,true_and,hid,e_rdRef,p_RErr,e_RErrE,hq3,hz,b2,b3,cellR,refAV,e5,ybb]
      have hlen:(us++[n3]).length=us.length+1:=by simp
      refine ⟨⟨by omega,by omega,fun z hz=>by rw [List.mem_singleton] at hz;subst hz;rfl⟩,(us++[n3],(m3,l3,e3)),⟨by dsimp only;omega,?_,by dsimp only;omega,hmm⟩,by dsimp only;omega,?_⟩
      · dsimp only
        rw [hlen,← hx2]
        generalize goP rdRef (kc - (us.length+1)) (m3,l3,e3)=q5
        obtain ⟨o,t⟩:=q5
        cases o
        · rfl
        · simp [List.append_assoc]
      · refine ⟨by simp only [zky,zkz];omega,?_,hclL (m3,l3,e3) _ hmm,?_,?_⟩
        · simp only [List.map_append,yae,yaf,refAV,List.length_append,yaz,yba]
          repeat (first | exact AHeap.Le.refl _ | refine AHeap.Le.push ?_ _)
        · simp [ltF,zmz,znh,lt_sliceL,zky,zkz]
          refine ⟨by omega,by omega,ltL_iff.2 fun j hj=>?_⟩
          have hmem:=List.getElem_mem hj
          rw [List.mem_append,List.mem_map,List.mem_singleton] at hmem
          rcases hmem with ⟨x,_,e⟩ | e
          · rw [← e];exact (fun x=>lt_refAV x) x
          · rw [e];exact (fun x=>lt_refAV x) _
        · simp [subW,wk2,wk1,wkM,Fr.get,refAV]
    · have hz':e3≠0:=by simpa using hz
      rw [if_pos hz'] at hx2
      simp only [Option.map,Prod.mk.injEq] at hx2
      obtain ⟨rfl,rfl,rfl,rfl⟩:=hx2
      simp only [go_sem,byq,hne,hid,hcs,hcm,hgm,onR,onRo_some,onRo_nil,zlv,zlt,zle,and_true,true_and,hid,e_rdRef,p_RErr,e_RErrE,hq3,hz,b2,b3,cellR,refAV,Option.getD_none,yaf]
      exact ⟨by simp [wk,wk2,wk1,wkM],by repeat (first | exact AHeap.Le.refl _ | refine AHeap.Le.push ?_ _),closedR hid hcl _ hmm _ _,by simp [lt_sliceL,znp]⟩
  · have hk':us.length=kc:=by simp at hc;omega
    subst hk'
    rw [Nat.sub_self] at hx2
    simp only [goP,Option.map,yaj,Prod.mk.injEq] at hx2
    obtain ⟨rfl,rfl,rfl,rfl⟩:=hx2
    simp only [go_sem,byq,Option.getD_some]
    exact ⟨by simp [wk,wk2,wk1,wkM],by repeat (first | exact AHeap.Le.refl _ | refine AHeap.Le.push ?_ _),closedR hid hcl _ hx4 _ _,lt_map (fun x=>lt_refAV x)⟩
def e_rdHdr:List AV→AHeap→(AEnd→AHeap→Prop)→Prop
  | [.ptr id 0],H,K=>onR H id fun m l e=>True∧K (.ret (headerAV ((rdHdr LP) (m,l,e)).1)) (H.set id (.cells (cellR ((rdHdr LP) (m,l,e)).2)))
  | _,_,_=>False
set_option maxHeartbeats 4000000 in
theorem ok_rdHdr:EntOk Tryz.prog 183 (Ent.effect e_rdHdr):=by
  refine EntOk.effect fun args H K h=>?_
  unfold e_rdHdr at h
  split at h
  rotate_left
  · exact h.elim
  rename_i id
  obtain ⟨m,l,e,hid,hle,h⟩:=onR_out h
  obtain ⟨hpre,hK⟩:=h
  refine ⟨_,_,hK,?_⟩
  clear hK
  have hl0:=AHeap.get_lt hid
  have hne:=far_of hl0
  have hss:=set_same hid
  have hcs:=cells_some hid
  have hcm:=fun cs=>@cells_set_same H id cs hl0
  have hgm:=fun o=>@get_set_same' H id o hl0
  obtain ⟨Q,hQ⟩:∃ Q,(rdHdr LP) (m,l,e)=Q:=⟨_,rfl⟩
  rw [hQ]
  unfold rdHdr at hQ
  try dsimp only [rap,rpure,rU,rT,rV,rB,LP_l] at hQ
  have hl0:=uintR_l m l e 2
  have hm0:=uintR_m m l e 2
  generalize h0:uintR (m,l,e) 2=q0 at *
  obtain ⟨v0,m0,l0,e0⟩:=q0
  dsimp only [rU,rV,rB] at hQ hl0 hm0
  have hl1:=textR_l m0 l0 e0 24
  have hm1:=textR_m m0 l0 e0 24
  generalize h1:textR (m0,l0,e0) 24=q1 at *
  obtain ⟨v1,m1,l1,e1⟩:=q1
  dsimp only [rU,rV,rB] at hQ hl1 hm1
  replace hm1:=mkOk_tr hm0 hm1
  have hl2:=(rlP_go (rU_go 2) 32).l (m1,l1,e1)
  have hm2:=(rlP_go (rU_go 2) 32).m (m1,l1,e1)
  generalize h2:rlP (rU 2) 32 (m1,l1,e1)=q2 at *
  obtain ⟨v2,m2,l2,e2⟩:=q2
  dsimp only [rU,rV,rB] at hQ hl2 hm2
  replace hm2:=mkOk_tr hm1 hm2
  subst hQ
  dsimp only [cellR]
  refine ACalls.of_aw (Ω:=[(95,Ent.effect e_Uint),(179,Ent.effect e_RText),(182,Ent.pure p_cdInt),(184,Ent.effect e_gtInt)]) (T:=assoc []) mixed (TblOk.cons ok_Uint (TblOk.cons ok_RText (TblOk.cons ok_cdInt (TblOk.cons ok_gtInt TblOk.nil)))) Tryz.func183 (by kernel_rfl) (by rfl) (rs:=[.cell 2 114]) (by rfl) (by kernel_rfl) (by simp only [Tryz.ntmps183,yaz,yba];decide) (by simp only [zkz];omega) fun hcl hlt=>?_
  change aw _ _ _ (KI Tryz.prog [(95,Ent.effect e_Uint),(179,Ent.effect e_RText),(182,Ent.pure p_cdInt),(184,Ent.effect e_gtInt)] (aEnd Tryz.prog [.cell 2 114] H.nx _ _ (assoc [])) []) _ _
  clear hlt
  have b0:l0.length≤100000:=by omega
  have b1:l1.length≤100000:=by omega
  have b2:l2.length≤100000:=by omega
  simp only [go_sem,byq,hne,hid,hcs,hcm,hgm,onR,onRo_some,onRo_nil,zlv,zlt,zle,and_true,true_and,hid,onR,onRo_some,cellR,vv,vc,e_Uint,e_RText,p_cdInt,codecC,e_gtInt,h0,b0,h1,b1,h2,b2]
  have hclz:(H.set id (.cells [.slice m2 1 (bys l2),.int .i64 e2])).Closed:=closedR hid hcl m2 hm2 l2 e2
  refine ⟨hle,?_,by repeat (first | exact AHeap.Le.refl _ | refine AHeap.Le.push ?_ _),hclz,(fun x=>lt_headerAV x) _⟩
  simp [wk,wk2,wkL,wk1,wkM,headerAV,inL,boL]
def e_gtHdr:List AV→AHeap→(AEnd→AHeap→Prop)→Prop
  | [.ptr id 0,.agg [.int .i64 most,.func (.func f) [] [],.func (.func 183) [] []]],H,K=>onR H id fun m l e=>True∧K (.ret (.slice .any 3 ((rlP (rdHdr LP) most (m,l,e)).1.map (headerAV)))) (H.set id (.cells (cellR (rlP (rdHdr LP) most (m,l,e)).2)))
  | _,_,_=>False
set_option maxHeartbeats 4000000 in
theorem ok_gtHdr:EntOk Tryz.prog 112 (Ent.effect e_gtHdr):=by
  refine EntOk.effect fun args H K h=>?_
  unfold e_gtHdr at h
  split at h
  rotate_left
  · exact h.elim
  rename_i id most f
  obtain ⟨m,l,e,hid,hle,h⟩:=onR_out h
  obtain ⟨hpre,hK⟩:=h
  refine ⟨_,_,hK,?_⟩
  clear hK
  have hl0:=AHeap.get_lt hid
  have hne:=far_of hl0
  have hss:=set_same hid
  have hcs:=cells_some hid
  have hcm:=fun cs=>@cells_set_same H id cs hl0
  have hgm:=fun o=>@get_set_same' H id o hl0
  have hl1:=countR_l m l e most
  have hm1:=countR_m m l e most
  have hc1:=count_bd (m,l,e) most
  obtain ⟨Q,hQ⟩:∃ Q,rlP (rdHdr LP) most (m,l,e)=Q:=⟨_,rfl⟩
  rw [hQ]
  unfold rlP at hQ
  generalize h1:countR (m,l,e) most=q1 at *
  obtain ⟨cc,m1,l1,e1⟩:=q1
  dsimp only at hl1 hm1 hc1 hQ
  obtain ⟨kc,rfl⟩:∃ kc:Nat,cc=(kc:Int):=⟨cc.toNat,by omega⟩
  rw [Int.toNat_natCast] at hQ
  obtain ⟨⟨GO,gs⟩,hG⟩:∃ G,goP (rdHdr LP) kc (m1,l1,e1)=G:=⟨_,rfl⟩
  have hgo:=goP_go (rdHdr_go LP_go) kc (m1,l1,e1)
  rw [hG] at hQ hgo
  obtain ⟨hg1,hg2,_⟩:=hgo
  obtain ⟨gm,gl,ge⟩:=gs
  dsimp only at hQ hg1 hg2
  subst hQ
  refine ACalls.of_aw (Ω:=[(97,Ent.effect e_RCount),(183,Ent.effect e_rdHdr),(235,Ent.effect e_RErrE)]) (T:=assoc []) mixed (TblOk.cons ok_RCount (TblOk.cons ok_rdHdr (TblOk.cons ok_RErrE TblOk.nil))) Tryz.func112 (by kernel_rfl) (by rfl) (rs:=[.tmp 4]) (by rfl) (by kernel_rfl) (by simp only [Tryz.ntmps112,yaz,yba];decide) (by simp only [zkz];omega) fun hcl hlt=>?_
  change aw _ _ _ (KI Tryz.prog [(97,Ent.effect e_RCount),(183,Ent.effect e_rdHdr),(235,Ent.effect e_RErrE)] (aEnd Tryz.prog [.tmp 4] H.nx _ _ (assoc [])) []) _ _
  clear hlt
  have b1:l1.length≤100000:=by omega
  simp only [blkE,blkP,bhq,Nat.reduceMod,Nat.reduceDiv,stepH,stepM,toMs1,toMs,toMs0,strK,pubK,pubF,pubV,yaq,yar,yao,yap,go_sem,byq,hne,hid,hcs,hcm,hgm,onR,onRo_some,onRo_nil,zlv,zlt,zle,and_true,true_and,hid,e_RCount,h1,b1,cellR]
  refine ⟨hle,?_⟩
  have hltC:ltL (H.nx+1) [.int .i64 most,.func (.func f) [] [],.func (.func 183) [] []]:=by simp [zno,znp,zmz,lt_func0]
  have hclL:∀ (s:RS) (k:Nat),mkOk m s.1→((((H.set id (.cells [.slice s.1 1 (bys s.2.1),.int .i64 s.2.2])).push (.cells [.int .i64 most,.func (.func f) [] [],.func (.func 183) [] []])).push (.buf 3 0)).push (.buf 3 k)).Closed:=fun s k hs=>closed_buf (closed_buf (closed_cells (closedR hid hcl s.1 hs s.2.1 s.2.2) (by simpa only [zkz] using hltC)))
  refine loop_introW (A:=List SHeader × RS) (fun x=>[(0,.ptr id 0),(3,.ptr H.nx 0),(5,.slice (.own (H.nx+1+1)) 3 (x.1.map (headerAV))),(10,.int .i64 (kc:Int)),(11,.int .i64 (x.1.length:Int))]) (fun x=>(((H.set id (.cells [.slice x.2.1 1 (bys x.2.2.1),.int .i64 x.2.2.2])).push (.cells [.int .i64 most,.func (.func f) [] [],.func (.func 183) [] []])).push (.buf 3 0)).push (.buf 3 x.1.length)) (fun x=>x.1.length≤kc∧((goP (rdHdr LP) (kc - x.1.length) x.2).1.map (x.1++·),(goP (rdHdr LP) (kc - x.1.length) x.2).2)=(GO,gm,gl,ge)∧x.2.2.1.length≤l1.length∧mkOk m x.2.1) (fun x=>kc - x.1.length) ([],(m1,l1,e1)) ⟨Nat.zero_le _,by rw [← hG];simp,Nat.le_refl _,hm1⟩ ?_ fun x hx=>?_
  · refine ⟨by simp only [zkk,zkp,zky,zkz];omega,by repeat (first | exact AHeap.Le.refl _ | refine AHeap.Le.push ?_ _),hclL (m1,l1,e1) 0 hm1,?_,?_⟩
    · simp [ltF,zmz,znh,lt_sliceL,znp,zky,zkz]
      try omega
    · simp [subW,wk2,wk1,wkM,Fr.get]
  obtain ⟨us,m2,l2,e2⟩:=x
  obtain ⟨hx1,hx2,hx3,hx4⟩:=hx
  dsimp only at hx1 hx2 hx3 hx4 ⊢
  have b2:l2.length≤100000:=by omega
  have ne1:(H.nx+1=id)=False:=eq_false (by omega)
  simp only [go_sem]
  refine cond_split (fun hc=>?_) (fun hc=>?_)
  · have hk':us.length<kc:=by simp at hc;omega
    have e5:IntKind.i64.wrap ((us.length:Int)+1)=((us.length+1:Nat):Int):=by rw [wrap_i64]<;>omega
    have hu:goP (rdHdr LP) (kc - us.length) (m2,l2,e2)=if ((rdHdr LP) (m2,l2,e2)).2.2.2≠0 then (none,((rdHdr LP) (m2,l2,e2)).2) else ((goP (rdHdr LP) (kc - (us.length+1)) ((rdHdr LP) (m2,l2,e2)).2).1.map (((rdHdr LP) (m2,l2,e2)).1::·),(goP (rdHdr LP) (kc - (us.length+1)) ((rdHdr LP) (m2,l2,e2)).2).2):=by
      rw [show kc - us.length=(kc - (us.length+1))+1 by omega];rfl
    rw [hu] at hx2
    have hl3:=(rdHdr_go LP_go).l (m2,l2,e2)
    have hm3:=(rdHdr_go LP_go).m (m2,l2,e2)
    generalize hq3:(rdHdr LP) (m2,l2,e2)=q3 at *
    obtain ⟨n3,m3,l3,e3⟩:=q3
    dsimp only at hl3 hm3 hx2
    have b3:l3.length≤100000:=by omega
    have hmm:mkOk m m3:=mkOk_tr hx4 hm3
    
    cases hz:(e3 != 0)
    · have hz':e3=0:=by simpa using hz
      rw [if_neg (by rw [hz'];decide)] at hx2
      simp only [go_sem,byq,hne,hid,hcs,hcm,hgm,onR,onRo_some,onRo_nil,zlv,zlt,zle,and_true,true_and,hid,e_rdHdr,p_RErr,e_RErrE,hq3,hz,b2,b3,cellR,headerAV,e5,ybb]
      have hlen:(us++[n3]).length=us.length+1:=by simp
      refine ⟨⟨by omega,by omega,fun z hz=>by rw [List.mem_singleton] at hz;subst hz;rfl⟩,(us++[n3],(m3,l3,e3)),⟨by dsimp only;omega,?_,by dsimp only;omega,hmm⟩,by dsimp only;omega,?_⟩
      · dsimp only
        rw [hlen,← hx2]
        generalize goP (rdHdr LP) (kc - (us.length+1)) (m3,l3,e3)=q5
        obtain ⟨o,t⟩:=q5
        cases o
        · rfl
        · simp [List.append_assoc]
      · refine ⟨by simp only [zky,zkz];omega,?_,hclL (m3,l3,e3) _ hmm,?_,?_⟩
        · simp only [List.map_append,yae,yaf,headerAV,List.length_append,yaz,yba]
          repeat (first | exact AHeap.Le.refl _ | refine AHeap.Le.push ?_ _)
        · simp [ltF,zmz,znh,lt_sliceL,zky,zkz]
          refine ⟨by omega,by omega,ltL_iff.2 fun j hj=>?_⟩
          have hmem:=List.getElem_mem hj
          rw [List.mem_append,List.mem_map,List.mem_singleton] at hmem
          rcases hmem with ⟨x,_,e⟩ | e
          · rw [← e];exact (fun x=>lt_headerAV x) x
          · rw [e];exact (fun x=>lt_headerAV x) _
        · simp [subW,wk2,wk1,wkM,Fr.get,headerAV]
    · have hz':e3≠0:=by simpa using hz
      rw [if_pos hz'] at hx2
      simp only [Option.map,Prod.mk.injEq] at hx2
      obtain ⟨rfl,rfl,rfl,rfl⟩:=hx2
      simp only [go_sem,byq,hne,hid,hcs,hcm,hgm,onR,onRo_some,onRo_nil,zlv,zlt,zle,and_true,true_and,hid,e_rdHdr,p_RErr,e_RErrE,hq3,hz,b2,b3,cellR,headerAV,Option.getD_none,yaf]
      exact ⟨by simp [wk,wk2,wk1,wkM],by repeat (first | exact AHeap.Le.refl _ | refine AHeap.Le.push ?_ _),closedR hid hcl _ hmm _ _,by simp [lt_sliceL,znp]⟩
  · have hk':us.length=kc:=by simp at hc;omega
    subst hk'
    rw [Nat.sub_self] at hx2
    simp only [goP,Option.map,yaj,Prod.mk.injEq] at hx2
    obtain ⟨rfl,rfl,rfl,rfl⟩:=hx2
    simp only [go_sem,byq,Option.getD_some]
    exact ⟨by simp [wk,wk2,wk1,wkM],by repeat (first | exact AHeap.Le.refl _ | refine AHeap.Le.push ?_ _),closedR hid hcl _ hx4 _ _,lt_map (fun x=>lt_headerAV x)⟩
end Go.AL


open Go Go.AL Go.Proofs
namespace Go.AL
set_option linter.all false
set_option maxRecDepth 10000

def e_rdSta:List AV→AHeap→(AEnd→AHeap→Prop)→Prop
  | [.ptr id 0],H,K=>onR H id fun m l e=>True∧K (.ret (stateAV ((rdSta LP) (m,l,e)).1)) (H.set id (.cells (cellR ((rdSta LP) (m,l,e)).2)))
  | _,_,_=>False
set_option maxHeartbeats 4000000 in
theorem ok_rdSta:EntOk Tryz.prog 188 (Ent.effect e_rdSta):=by
  refine EntOk.effect fun args H K h=>?_
  unfold e_rdSta at h
  split at h
  rotate_left
  · exact h.elim
  rename_i id
  obtain ⟨m,l,e,hid,hle,h⟩:=onR_out h
  obtain ⟨hpre,hK⟩:=h
  refine ⟨_,_,hK,?_⟩
  clear hK
  have hl0:=AHeap.get_lt hid
  have hne:=far_of hl0
  have hss:=set_same hid
  have hcs:=cells_some hid
  have hcm:=fun cs=>@cells_set_same H id cs hl0
  have hgm:=fun o=>@get_set_same' H id o hl0
  obtain ⟨Q,hQ⟩:∃ Q,(rdSta LP) (m,l,e)=Q:=⟨_,rfl⟩
  rw [hQ]
  unfold rdSta at hQ
  try dsimp only [rap,rpure,rU,rT,rV,rB,LP_l] at hQ
  have hl0:=uintR_l m l e 2
  have hm0:=uintR_m m l e 2
  generalize h0:uintR (m,l,e) 2=q0 at *
  obtain ⟨v0,m0,l0,e0⟩:=q0
  dsimp only [rU,rV,rB] at hQ hl0 hm0
  have hl1:=uintR_l m0 l0 e0 2
  have hm1:=uintR_m m0 l0 e0 2
  generalize h1:uintR (m0,l0,e0) 2=q1 at *
  obtain ⟨v1,m1,l1,e1⟩:=q1
  dsimp only [rU,rV,rB] at hQ hl1 hm1
  replace hm1:=mkOk_tr hm0 hm1
  have hl2:=uintR_l m1 l1 e1 2
  have hm2:=uintR_m m1 l1 e1 2
  generalize h2:uintR (m1,l1,e1) 2=q2 at *
  obtain ⟨v2,m2,l2,e2⟩:=q2
  dsimp only [rU,rV,rB] at hQ hl2 hm2
  replace hm2:=mkOk_tr hm1 hm2
  have hl3:=(rlP_go rdCas_go 6).l (m2,l2,e2)
  have hm3:=(rlP_go rdCas_go 6).m (m2,l2,e2)
  generalize h3:rlP rdCas 6 (m2,l2,e2)=q3 at *
  obtain ⟨v3,m3,l3,e3⟩:=q3
  dsimp only [rU,rV,rB] at hQ hl3 hm3
  replace hm3:=mkOk_tr hm2 hm3
  have hl4:=uintR_l m3 l3 e3 2
  have hm4:=uintR_m m3 l3 e3 2
  generalize h4:uintR (m3,l3,e3) 2=q4 at *
  obtain ⟨v4,m4,l4,e4⟩:=q4
  dsimp only [rU,rV,rB] at hQ hl4 hm4
  replace hm4:=mkOk_tr hm3 hm4
  subst hQ
  dsimp only [cellR]
  refine ACalls.of_aw (Ω:=[(95,Ent.effect e_Uint),(187,Ent.pure p_cdCas),(189,Ent.effect e_gtCas)]) (T:=assoc []) mixed (TblOk.cons ok_Uint (TblOk.cons ok_cdCas (TblOk.cons ok_gtCas TblOk.nil))) Tryz.func188 (by kernel_rfl) (by rfl) (rs:=[.cell 2 149]) (by rfl) (by kernel_rfl) (by simp only [Tryz.ntmps188,yaz,yba];decide) (by simp only [zkz];omega) fun hcl hlt=>?_
  change aw _ _ _ (KI Tryz.prog [(95,Ent.effect e_Uint),(187,Ent.pure p_cdCas),(189,Ent.effect e_gtCas)] (aEnd Tryz.prog [.cell 2 149] H.nx _ _ (assoc [])) []) _ _
  clear hlt
  have b0:l0.length≤100000:=by omega
  have b1:l1.length≤100000:=by omega
  have b2:l2.length≤100000:=by omega
  have b3:l3.length≤100000:=by omega
  have b4:l4.length≤100000:=by omega
  simp only [go_sem,byq,hne,hid,hcs,hcm,hgm,onR,onRo_some,onRo_nil,zlv,zlt,zle,and_true,true_and,hid,onR,onRo_some,cellR,vv,vc,e_Uint,p_cdCas,codecC,e_gtCas,h0,b0,h1,b1,h2,b2,h3,b3,h4,b4]
  have hclz:(H.set id (.cells [.slice m4 1 (bys l4),.int .i64 e4])).Closed:=closedR hid hcl m4 hm4 l4 e4
  refine ⟨hle,?_,by repeat (first | exact AHeap.Le.refl _ | refine AHeap.Le.push ?_ _),hclz,(fun x=>lt_stateAV x) _⟩
  simp [wk,wk2,wkL,wk1,wkM,stateAV,inL,boL]
def e_gtSta:List AV→AHeap→(AEnd→AHeap→Prop)→Prop
  | [.ptr id 0,.agg [.int .i64 most,.func (.func f) [] [],.func (.func 188) [] []]],H,K=>onR H id fun m l e=>True∧K (.ret (.slice .any 5 ((rlP (rdSta LP) most (m,l,e)).1.map (stateAV)))) (H.set id (.cells (cellR (rlP (rdSta LP) most (m,l,e)).2)))
  | _,_,_=>False
set_option maxHeartbeats 4000000 in
theorem ok_gtSta:EntOk Tryz.prog 113 (Ent.effect e_gtSta):=by
  refine EntOk.effect fun args H K h=>?_
  unfold e_gtSta at h
  split at h
  rotate_left
  · exact h.elim
  rename_i id most f
  obtain ⟨m,l,e,hid,hle,h⟩:=onR_out h
  obtain ⟨hpre,hK⟩:=h
  refine ⟨_,_,hK,?_⟩
  clear hK
  have hl0:=AHeap.get_lt hid
  have hne:=far_of hl0
  have hss:=set_same hid
  have hcs:=cells_some hid
  have hcm:=fun cs=>@cells_set_same H id cs hl0
  have hgm:=fun o=>@get_set_same' H id o hl0
  have hl1:=countR_l m l e most
  have hm1:=countR_m m l e most
  have hc1:=count_bd (m,l,e) most
  obtain ⟨Q,hQ⟩:∃ Q,rlP (rdSta LP) most (m,l,e)=Q:=⟨_,rfl⟩
  rw [hQ]
  unfold rlP at hQ
  generalize h1:countR (m,l,e) most=q1 at *
  obtain ⟨cc,m1,l1,e1⟩:=q1
  dsimp only at hl1 hm1 hc1 hQ
  obtain ⟨kc,rfl⟩:∃ kc:Nat,cc=(kc:Int):=⟨cc.toNat,by omega⟩
  rw [Int.toNat_natCast] at hQ
  obtain ⟨⟨GO,gs⟩,hG⟩:∃ G,goP (rdSta LP) kc (m1,l1,e1)=G:=⟨_,rfl⟩
  have hgo:=goP_go (rdSta_go LP_go) kc (m1,l1,e1)
  rw [hG] at hQ hgo
  obtain ⟨hg1,hg2,_⟩:=hgo
  obtain ⟨gm,gl,ge⟩:=gs
  dsimp only at hQ hg1 hg2
  subst hQ
  refine ACalls.of_aw (Ω:=[(97,Ent.effect e_RCount),(188,Ent.effect e_rdSta),(235,Ent.effect e_RErrE)]) (T:=assoc []) mixed (TblOk.cons ok_RCount (TblOk.cons ok_rdSta (TblOk.cons ok_RErrE TblOk.nil))) Tryz.func113 (by kernel_rfl) (by rfl) (rs:=[.tmp 4]) (by rfl) (by kernel_rfl) (by simp only [Tryz.ntmps113,yaz,yba];decide) (by simp only [zkz];omega) fun hcl hlt=>?_
  change aw _ _ _ (KI Tryz.prog [(97,Ent.effect e_RCount),(188,Ent.effect e_rdSta),(235,Ent.effect e_RErrE)] (aEnd Tryz.prog [.tmp 4] H.nx _ _ (assoc [])) []) _ _
  clear hlt
  have b1:l1.length≤100000:=by omega
  simp only [blkE,blkP,bhq,Nat.reduceMod,Nat.reduceDiv,stepH,stepM,toMs1,toMs,toMs0,strK,pubK,pubF,pubV,yaq,yar,yao,yap,go_sem,byq,hne,hid,hcs,hcm,hgm,onR,onRo_some,onRo_nil,zlv,zlt,zle,and_true,true_and,hid,e_RCount,h1,b1,cellR]
  refine ⟨hle,?_⟩
  have hltC:ltL (H.nx+1) [.int .i64 most,.func (.func f) [] [],.func (.func 188) [] []]:=by simp [zno,znp,zmz,lt_func0]
  have hclL:∀ (s:RS) (k:Nat),mkOk m s.1→((((H.set id (.cells [.slice s.1 1 (bys s.2.1),.int .i64 s.2.2])).push (.cells [.int .i64 most,.func (.func f) [] [],.func (.func 188) [] []])).push (.buf 5 0)).push (.buf 5 k)).Closed:=fun s k hs=>closed_buf (closed_buf (closed_cells (closedR hid hcl s.1 hs s.2.1 s.2.2) (by simpa only [zkz] using hltC)))
  refine loop_introW (A:=List SState × RS) (fun x=>[(0,.ptr id 0),(3,.ptr H.nx 0),(5,.slice (.own (H.nx+1+1)) 5 (x.1.map (stateAV))),(10,.int .i64 (kc:Int)),(11,.int .i64 (x.1.length:Int))]) (fun x=>(((H.set id (.cells [.slice x.2.1 1 (bys x.2.2.1),.int .i64 x.2.2.2])).push (.cells [.int .i64 most,.func (.func f) [] [],.func (.func 188) [] []])).push (.buf 5 0)).push (.buf 5 x.1.length)) (fun x=>x.1.length≤kc∧((goP (rdSta LP) (kc - x.1.length) x.2).1.map (x.1++·),(goP (rdSta LP) (kc - x.1.length) x.2).2)=(GO,gm,gl,ge)∧x.2.2.1.length≤l1.length∧mkOk m x.2.1) (fun x=>kc - x.1.length) ([],(m1,l1,e1)) ⟨Nat.zero_le _,by rw [← hG];simp,Nat.le_refl _,hm1⟩ ?_ fun x hx=>?_
  · refine ⟨by simp only [zkk,zkp,zky,zkz];omega,by repeat (first | exact AHeap.Le.refl _ | refine AHeap.Le.push ?_ _),hclL (m1,l1,e1) 0 hm1,?_,?_⟩
    · simp [ltF,zmz,znh,lt_sliceL,znp,zky,zkz]
      try omega
    · simp [subW,wk2,wk1,wkM,Fr.get]
  obtain ⟨us,m2,l2,e2⟩:=x
  obtain ⟨hx1,hx2,hx3,hx4⟩:=hx
  dsimp only at hx1 hx2 hx3 hx4 ⊢
  have b2:l2.length≤100000:=by omega
  have ne1:(H.nx+1=id)=False:=eq_false (by omega)
  simp only [go_sem]
  refine cond_split (fun hc=>?_) (fun hc=>?_)
  · have hk':us.length<kc:=by simp at hc;omega
    have e5:IntKind.i64.wrap ((us.length:Int)+1)=((us.length+1:Nat):Int):=by rw [wrap_i64]<;>omega
    have hu:goP (rdSta LP) (kc - us.length) (m2,l2,e2)=if ((rdSta LP) (m2,l2,e2)).2.2.2≠0 then (none,((rdSta LP) (m2,l2,e2)).2) else ((goP (rdSta LP) (kc - (us.length+1)) ((rdSta LP) (m2,l2,e2)).2).1.map (((rdSta LP) (m2,l2,e2)).1::·),(goP (rdSta LP) (kc - (us.length+1)) ((rdSta LP) (m2,l2,e2)).2).2):=by
      rw [show kc - us.length=(kc - (us.length+1))+1 by omega];rfl
    rw [hu] at hx2
    have hl3:=(rdSta_go LP_go).l (m2,l2,e2)
    have hm3:=(rdSta_go LP_go).m (m2,l2,e2)
    generalize hq3:(rdSta LP) (m2,l2,e2)=q3 at *
    obtain ⟨n3,m3,l3,e3⟩:=q3
    dsimp only at hl3 hm3 hx2
    have b3:l3.length≤100000:=by omega
    have hmm:mkOk m m3:=mkOk_tr hx4 hm3
    
    cases hz:(e3 != 0)
    · have hz':e3=0:=by simpa using hz
      rw [if_neg (by rw [hz'];decide)] at hx2
      simp only [go_sem,byq,hne,hid,hcs,hcm,hgm,onR,onRo_some,onRo_nil,zlv,zlt,zle,and_true,true_and,hid,e_rdSta,p_RErr,e_RErrE,hq3,hz,b2,b3,cellR,stateAV,e5,ybb]
      have hlen:(us++[n3]).length=us.length+1:=by simp
      refine ⟨⟨by omega,by omega,fun z hz=>by rw [List.mem_singleton] at hz;subst hz;rfl⟩,(us++[n3],(m3,l3,e3)),⟨by dsimp only;omega,?_,by dsimp only;omega,hmm⟩,by dsimp only;omega,?_⟩
      · dsimp only
        rw [hlen,← hx2]
        generalize goP (rdSta LP) (kc - (us.length+1)) (m3,l3,e3)=q5
        obtain ⟨o,t⟩:=q5
        cases o
        · rfl
        · simp [List.append_assoc]
      · refine ⟨by simp only [zky,zkz];omega,?_,hclL (m3,l3,e3) _ hmm,?_,?_⟩
        · simp only [List.map_append,yae,yaf,stateAV,List.length_append,yaz,yba]
          repeat (first | exact AHeap.Le.refl _ | refine AHeap.Le.push ?_ _)
        · simp [ltF,zmz,znh,lt_sliceL,zky,zkz]
          refine ⟨by omega,by omega,ltL_iff.2 fun j hj=>?_⟩
          have hmem:=List.getElem_mem hj
          rw [List.mem_append,List.mem_map,List.mem_singleton] at hmem
          rcases hmem with ⟨x,_,e⟩ | e
          · rw [← e];exact (fun x=>lt_stateAV x) x
          · rw [e];exact (fun x=>lt_stateAV x) _
        · simp [subW,wk2,wk1,wkM,Fr.get,stateAV]
    · have hz':e3≠0:=by simpa using hz
      rw [if_pos hz'] at hx2
      simp only [Option.map,Prod.mk.injEq] at hx2
      obtain ⟨rfl,rfl,rfl,rfl⟩:=hx2
      simp only [go_sem,byq,hne,hid,hcs,hcm,hgm,onR,onRo_some,onRo_nil,zlv,zlt,zle,and_true,true_and,hid,e_rdSta,p_RErr,e_RErrE,hq3,hz,b2,b3,cellR,stateAV,Option.getD_none,yaf]
      exact ⟨by simp [wk,wk2,wk1,wkM],by repeat (first | exact AHeap.Le.refl _ | refine AHeap.Le.push ?_ _),closedR hid hcl _ hmm _ _,by simp [lt_sliceL,znp]⟩
  · have hk':us.length=kc:=by simp at hc;omega
    subst hk'
    rw [Nat.sub_self] at hx2
    simp only [goP,Option.map,yaj,Prod.mk.injEq] at hx2
    obtain ⟨rfl,rfl,rfl,rfl⟩:=hx2
    simp only [go_sem,byq,Option.getD_some]
    exact ⟨by simp [wk,wk2,wk1,wkM],by repeat (first | exact AHeap.Le.refl _ | refine AHeap.Le.push ?_ _),closedR hid hcl _ hx4 _ _,lt_map (fun x=>lt_stateAV x)⟩
def e_rdAct:List AV→AHeap→(AEnd→AHeap→Prop)→Prop
  | [.ptr id 0],H,K=>onR H id fun m l e=>True∧K (.ret (actionAV ((rdAct LP) (m,l,e)).1)) (H.set id (.cells (cellR ((rdAct LP) (m,l,e)).2)))
  | _,_,_=>False
set_option maxHeartbeats 4000000 in
theorem ok_rdAct:EntOk Tryz.prog 195 (Ent.effect e_rdAct):=by
  refine EntOk.effect fun args H K h=>?_
  unfold e_rdAct at h
  split at h
  rotate_left
  · exact h.elim
  rename_i id
  obtain ⟨m,l,e,hid,hle,h⟩:=onR_out h
  obtain ⟨hpre,hK⟩:=h
  refine ⟨_,_,hK,?_⟩
  clear hK
  have hl0:=AHeap.get_lt hid
  have hne:=far_of hl0
  have hss:=set_same hid
  have hcs:=cells_some hid
  have hcm:=fun cs=>@cells_set_same H id cs hl0
  have hgm:=fun o=>@get_set_same' H id o hl0
  obtain ⟨Q,hQ⟩:∃ Q,(rdAct LP) (m,l,e)=Q:=⟨_,rfl⟩
  rw [hQ]
  unfold rdAct at hQ
  try dsimp only [rap,rpure,rU,rT,rV,rB,LP_l] at hQ
  have hl0:=uintR_l m l e 2
  have hm0:=uintR_m m l e 2
  generalize h0:uintR (m,l,e) 2=q0 at *
  obtain ⟨v0,m0,l0,e0⟩:=q0
  dsimp only [rU,rV,rB] at hQ hl0 hm0
  have hl1:=textR_l m0 l0 e0 24
  have hm1:=textR_m m0 l0 e0 24
  generalize h1:textR (m0,l0,e0) 24=q1 at *
  obtain ⟨v1,m1,l1,e1⟩:=q1
  dsimp only [rU,rV,rB] at hQ hl1 hm1
  replace hm1:=mkOk_tr hm0 hm1
  have hl2:=(rlP_go rdPar_go 4).l (m1,l1,e1)
  have hm2:=(rlP_go rdPar_go 4).m (m1,l1,e1)
  generalize h2:rlP rdPar 4 (m1,l1,e1)=q2 at *
  obtain ⟨v2,m2,l2,e2⟩:=q2
  dsimp only [rU,rV,rB] at hQ hl2 hm2
  replace hm2:=mkOk_tr hm1 hm2
  have hl3:=(rlP_go rdPri_go 12).l (m2,l2,e2)
  have hm3:=(rlP_go rdPri_go 12).m (m2,l2,e2)
  generalize h3:rlP rdPri 12 (m2,l2,e2)=q3 at *
  obtain ⟨v3,m3,l3,e3⟩:=q3
  dsimp only [rU,rV,rB] at hQ hl3 hm3
  replace hm3:=mkOk_tr hm2 hm3
  have hl4:=textR_l m3 l3 e3 400
  have hm4:=textR_m m3 l3 e3 400
  generalize h4:textR (m3,l3,e3) 400=q4 at *
  obtain ⟨v4,m4,l4,e4⟩:=q4
  dsimp only [rU,rV,rB] at hQ hl4 hm4
  replace hm4:=mkOk_tr hm3 hm4
  subst hQ
  dsimp only [cellR]
  refine ACalls.of_aw (Ω:=[(95,Ent.effect e_Uint),(179,Ent.effect e_RText),(192,Ent.pure p_cdPar),(196,Ent.effect e_gtPar),(194,Ent.pure p_cdPrm),(197,Ent.effect e_gtPrm)]) (T:=assoc []) mixed (TblOk.cons ok_Uint (TblOk.cons ok_RText (TblOk.cons ok_cdPar (TblOk.cons ok_gtPar (TblOk.cons ok_cdPrm (TblOk.cons ok_gtPrm TblOk.nil)))))) Tryz.func195 (by kernel_rfl) (by rfl) (rs:=[.cell 2 53]) (by rfl) (by kernel_rfl) (by simp only [Tryz.ntmps195,yaz,yba];decide) (by simp only [zkz];omega) fun hcl hlt=>?_
  change aw _ _ _ (KI Tryz.prog [(95,Ent.effect e_Uint),(179,Ent.effect e_RText),(192,Ent.pure p_cdPar),(196,Ent.effect e_gtPar),(194,Ent.pure p_cdPrm),(197,Ent.effect e_gtPrm)] (aEnd Tryz.prog [.cell 2 53] H.nx _ _ (assoc [])) []) _ _
  clear hlt
  have b0:l0.length≤100000:=by omega
  have b1:l1.length≤100000:=by omega
  have b2:l2.length≤100000:=by omega
  have b3:l3.length≤100000:=by omega
  have b4:l4.length≤100000:=by omega
  simp only [go_sem,byq,hne,hid,hcs,hcm,hgm,onR,onRo_some,onRo_nil,zlv,zlt,zle,and_true,true_and,hid,onR,onRo_some,cellR,vv,vc,e_Uint,e_RText,p_cdPar,codecC,e_gtPar,p_cdPrm,e_gtPrm,h0,b0,h1,b1,h2,b2,h3,b3,h4,b4]
  have hclz:(H.set id (.cells [.slice m4 1 (bys l4),.int .i64 e4])).Closed:=closedR hid hcl m4 hm4 l4 e4
  refine ⟨hle,?_,by repeat (first | exact AHeap.Le.refl _ | refine AHeap.Le.push ?_ _),hclz,(fun x=>lt_actionAV x) _⟩
  simp [wk,wk2,wkL,wk1,wkM,actionAV,inL,boL]
def e_gtAct:List AV→AHeap→(AEnd→AHeap→Prop)→Prop
  | [.ptr id 0,.agg [.int .i64 most,.func (.func f) [] [],.func (.func 195) [] []]],H,K=>onR H id fun m l e=>True∧K (.ret (.slice .any 5 ((rlP (rdAct LP) most (m,l,e)).1.map (actionAV)))) (H.set id (.cells (cellR (rlP (rdAct LP) most (m,l,e)).2)))
  | _,_,_=>False
set_option maxHeartbeats 4000000 in
theorem ok_gtAct:EntOk Tryz.prog 114 (Ent.effect e_gtAct):=by
  refine EntOk.effect fun args H K h=>?_
  unfold e_gtAct at h
  split at h
  rotate_left
  · exact h.elim
  rename_i id most f
  obtain ⟨m,l,e,hid,hle,h⟩:=onR_out h
  obtain ⟨hpre,hK⟩:=h
  refine ⟨_,_,hK,?_⟩
  clear hK
  have hl0:=AHeap.get_lt hid
  have hne:=far_of hl0
  have hss:=set_same hid
  have hcs:=cells_some hid
  have hcm:=fun cs=>@cells_set_same H id cs hl0
  have hgm:=fun o=>@get_set_same' H id o hl0
  have hl1:=countR_l m l e most
  have hm1:=countR_m m l e most
  have hc1:=count_bd (m,l,e) most
  obtain ⟨Q,hQ⟩:∃ Q,rlP (rdAct LP) most (m,l,e)=Q:=⟨_,rfl⟩
  rw [hQ]
  unfold rlP at hQ
  generalize h1:countR (m,l,e) most=q1 at *
  obtain ⟨cc,m1,l1,e1⟩:=q1
  dsimp only at hl1 hm1 hc1 hQ
  obtain ⟨kc,rfl⟩:∃ kc:Nat,cc=(kc:Int):=⟨cc.toNat,by omega⟩
  rw [Int.toNat_natCast] at hQ
  obtain ⟨⟨GO,gs⟩,hG⟩:∃ G,goP (rdAct LP) kc (m1,l1,e1)=G:=⟨_,rfl⟩
  have hgo:=goP_go (rdAct_go LP_go) kc (m1,l1,e1)
  rw [hG] at hQ hgo
  obtain ⟨hg1,hg2,_⟩:=hgo
  obtain ⟨gm,gl,ge⟩:=gs
  dsimp only at hQ hg1 hg2
  subst hQ
  refine ACalls.of_aw (Ω:=[(97,Ent.effect e_RCount),(195,Ent.effect e_rdAct),(235,Ent.effect e_RErrE)]) (T:=assoc []) mixed (TblOk.cons ok_RCount (TblOk.cons ok_rdAct (TblOk.cons ok_RErrE TblOk.nil))) Tryz.func114 (by kernel_rfl) (by rfl) (rs:=[.tmp 4]) (by rfl) (by kernel_rfl) (by simp only [Tryz.ntmps114,yaz,yba];decide) (by simp only [zkz];omega) fun hcl hlt=>?_
  change aw _ _ _ (KI Tryz.prog [(97,Ent.effect e_RCount),(195,Ent.effect e_rdAct),(235,Ent.effect e_RErrE)] (aEnd Tryz.prog [.tmp 4] H.nx _ _ (assoc [])) []) _ _
  clear hlt
  have b1:l1.length≤100000:=by omega
  simp only [blkE,blkP,bhq,Nat.reduceMod,Nat.reduceDiv,stepH,stepM,toMs1,toMs,toMs0,strK,pubK,pubF,pubV,yaq,yar,yao,yap,go_sem,byq,hne,hid,hcs,hcm,hgm,onR,onRo_some,onRo_nil,zlv,zlt,zle,and_true,true_and,hid,e_RCount,h1,b1,cellR]
  refine ⟨hle,?_⟩
  have hltC:ltL (H.nx+1) [.int .i64 most,.func (.func f) [] [],.func (.func 195) [] []]:=by simp [zno,znp,zmz,lt_func0]
  have hclL:∀ (s:RS) (k:Nat),mkOk m s.1→((((H.set id (.cells [.slice s.1 1 (bys s.2.1),.int .i64 s.2.2])).push (.cells [.int .i64 most,.func (.func f) [] [],.func (.func 195) [] []])).push (.buf 5 0)).push (.buf 5 k)).Closed:=fun s k hs=>closed_buf (closed_buf (closed_cells (closedR hid hcl s.1 hs s.2.1 s.2.2) (by simpa only [zkz] using hltC)))
  refine loop_introW (A:=List SAction × RS) (fun x=>[(0,.ptr id 0),(3,.ptr H.nx 0),(5,.slice (.own (H.nx+1+1)) 5 (x.1.map (actionAV))),(10,.int .i64 (kc:Int)),(11,.int .i64 (x.1.length:Int))]) (fun x=>(((H.set id (.cells [.slice x.2.1 1 (bys x.2.2.1),.int .i64 x.2.2.2])).push (.cells [.int .i64 most,.func (.func f) [] [],.func (.func 195) [] []])).push (.buf 5 0)).push (.buf 5 x.1.length)) (fun x=>x.1.length≤kc∧((goP (rdAct LP) (kc - x.1.length) x.2).1.map (x.1++·),(goP (rdAct LP) (kc - x.1.length) x.2).2)=(GO,gm,gl,ge)∧x.2.2.1.length≤l1.length∧mkOk m x.2.1) (fun x=>kc - x.1.length) ([],(m1,l1,e1)) ⟨Nat.zero_le _,by rw [← hG];simp,Nat.le_refl _,hm1⟩ ?_ fun x hx=>?_
  · refine ⟨by simp only [zkk,zkp,zky,zkz];omega,by repeat (first | exact AHeap.Le.refl _ | refine AHeap.Le.push ?_ _),hclL (m1,l1,e1) 0 hm1,?_,?_⟩
    · simp [ltF,zmz,znh,lt_sliceL,znp,zky,zkz]
      try omega
    · simp [subW,wk2,wk1,wkM,Fr.get]
  obtain ⟨us,m2,l2,e2⟩:=x
  obtain ⟨hx1,hx2,hx3,hx4⟩:=hx
  dsimp only at hx1 hx2 hx3 hx4 ⊢
  have b2:l2.length≤100000:=by omega
  have ne1:(H.nx+1=id)=False:=eq_false (by omega)
  simp only [go_sem]
  refine cond_split (fun hc=>?_) (fun hc=>?_)
  · have hk':us.length<kc:=by simp at hc;omega
    have e5:IntKind.i64.wrap ((us.length:Int)+1)=((us.length+1:Nat):Int):=by rw [wrap_i64]<;>omega
    have hu:goP (rdAct LP) (kc - us.length) (m2,l2,e2)=if ((rdAct LP) (m2,l2,e2)).2.2.2≠0 then (none,((rdAct LP) (m2,l2,e2)).2) else ((goP (rdAct LP) (kc - (us.length+1)) ((rdAct LP) (m2,l2,e2)).2).1.map (((rdAct LP) (m2,l2,e2)).1::·),(goP (rdAct LP) (kc - (us.length+1)) ((rdAct LP) (m2,l2,e2)).2).2):=by
      rw [show kc - us.length=(kc - (us.length+1))+1 by omega];rfl
    rw [hu] at hx2
    have hl3:=(rdAct_go LP_go).l (m2,l2,e2)
    have hm3:=(rdAct_go LP_go).m (m2,l2,e2)
    generalize hq3:(rdAct LP) (m2,l2,e2)=q3 at *
    obtain ⟨n3,m3,l3,e3⟩:=q3
    dsimp only at hl3 hm3 hx2
    have b3:l3.length≤100000:=by omega
    have hmm:mkOk m m3:=mkOk_tr hx4 hm3
    
    cases hz:(e3 != 0)
    · have hz':e3=0:=by simpa using hz
      rw [if_neg (by rw [hz'];decide)] at hx2
      simp only [go_sem,byq,hne,hid,hcs,hcm,hgm,onR,onRo_some,onRo_nil,zlv,zlt,zle,and_true,true_and,hid,e_rdAct,p_RErr,e_RErrE,hq3,hz,b2,b3,cellR,actionAV,e5,ybb]
      have hlen:(us++[n3]).length=us.length+1:=by simp
      refine ⟨⟨by omega,by omega,fun z hz=>by rw [List.mem_singleton] at hz;subst hz;rfl⟩,(us++[n3],(m3,l3,e3)),⟨by dsimp only;omega,?_,by dsimp only;omega,hmm⟩,by dsimp only;omega,?_⟩
      · dsimp only
        rw [hlen,← hx2]
        generalize goP (rdAct LP) (kc - (us.length+1)) (m3,l3,e3)=q5
        obtain ⟨o,t⟩:=q5
        cases o
        · rfl
        · simp [List.append_assoc]
      · refine ⟨by simp only [zky,zkz];omega,?_,hclL (m3,l3,e3) _ hmm,?_,?_⟩
        · simp only [List.map_append,yae,yaf,actionAV,List.length_append,yaz,yba]
          repeat (first | exact AHeap.Le.refl _ | refine AHeap.Le.push ?_ _)
        · simp [ltF,zmz,znh,lt_sliceL,zky,zkz]
          refine ⟨by omega,by omega,ltL_iff.2 fun j hj=>?_⟩
          have hmem:=List.getElem_mem hj
          rw [List.mem_append,List.mem_map,List.mem_singleton] at hmem
          rcases hmem with ⟨x,_,e⟩ | e
          · rw [← e];exact (fun x=>lt_actionAV x) x
          · rw [e];exact (fun x=>lt_actionAV x) _
        · simp [subW,wk2,wk1,wkM,Fr.get,actionAV]
    · have hz':e3≠0:=by simpa using hz
      rw [if_pos hz'] at hx2
      simp only [Option.map,Prod.mk.injEq] at hx2
      obtain ⟨rfl,rfl,rfl,rfl⟩:=hx2
      simp only [go_sem,byq,hne,hid,hcs,hcm,hgm,onR,onRo_some,onRo_nil,zlv,zlt,zle,and_true,true_and,hid,e_rdAct,p_RErr,e_RErrE,hq3,hz,b2,b3,cellR,actionAV,Option.getD_none,yaf]
      exact ⟨by simp [wk,wk2,wk1,wkM],by repeat (first | exact AHeap.Le.refl _ | refine AHeap.Le.push ?_ _),closedR hid hcl _ hmm _ _,by simp [lt_sliceL,znp]⟩
  · have hk':us.length=kc:=by simp at hc;omega
    subst hk'
    rw [Nat.sub_self] at hx2
    simp only [goP,Option.map,yaj,Prod.mk.injEq] at hx2
    obtain ⟨rfl,rfl,rfl,rfl⟩:=hx2
    simp only [go_sem,byq,Option.getD_some]
    exact ⟨by simp [wk,wk2,wk1,wkM],by repeat (first | exact AHeap.Le.refl _ | refine AHeap.Le.push ?_ _),closedR hid hcl _ hx4 _ _,lt_map (fun x=>lt_actionAV x)⟩
def e_rdGra:List AV→AHeap→(AEnd→AHeap→Prop)→Prop
  | [.ptr id 0],H,K=>onR H id fun m l e=>True∧K (.ret (grantAV ((rdGra LP) (m,l,e)).1)) (H.set id (.cells (cellR ((rdGra LP) (m,l,e)).2)))
  | _,_,_=>False
set_option maxHeartbeats 4000000 in
theorem ok_rdGra:EntOk Tryz.prog 321 (Ent.effect e_rdGra):=by
  refine EntOk.effect fun args H K h=>?_
  unfold e_rdGra at h
  split at h
  rotate_left
  · exact h.elim
  rename_i id
  obtain ⟨m,l,e,hid,hle,h⟩:=onR_out h
  obtain ⟨hpre,hK⟩:=h
  refine ⟨_,_,hK,?_⟩
  clear hK
  have hl0:=AHeap.get_lt hid
  have hne:=far_of hl0
  have hss:=set_same hid
  have hcs:=cells_some hid
  have hcm:=fun cs=>@cells_set_same H id cs hl0
  have hgm:=fun o=>@get_set_same' H id o hl0
  obtain ⟨Q,hQ⟩:∃ Q,(rdGra LP) (m,l,e)=Q:=⟨_,rfl⟩
  rw [hQ]
  unfold rdGra at hQ
  try dsimp only [rap,rpure,rU,rT,rV,rB,LP_l] at hQ
  have hl0:=uintR_l m l e 2
  have hm0:=uintR_m m l e 2
  generalize h0:uintR (m,l,e) 2=q0 at *
  obtain ⟨v0,m0,l0,e0⟩:=q0
  dsimp only [rU,rV,rB] at hQ hl0 hm0
  have hl1:=boolR_l m0 l0 e0
  have hm1:=boolR_m m0 l0 e0
  generalize h1:boolR (m0,l0,e0)=q1 at *
  obtain ⟨v1,m1,l1,e1⟩:=q1
  dsimp only [rU,rV,rB] at hQ hl1 hm1
  replace hm1:=mkOk_tr hm0 hm1
  have hl2:=boolR_l m1 l1 e1
  have hm2:=boolR_m m1 l1 e1
  generalize h2:boolR (m1,l1,e1)=q2 at *
  obtain ⟨v2,m2,l2,e2⟩:=q2
  dsimp only [rU,rV,rB] at hQ hl2 hm2
  replace hm2:=mkOk_tr hm1 hm2
  have hl3:=(rlP_go rB_go 4).l (m2,l2,e2)
  have hm3:=(rlP_go rB_go 4).m (m2,l2,e2)
  generalize h3:rlP rB 4 (m2,l2,e2)=q3 at *
  obtain ⟨v3,m3,l3,e3⟩:=q3
  dsimp only [rU,rV,rB] at hQ hl3 hm3
  replace hm3:=mkOk_tr hm2 hm3
  subst hQ
  dsimp only [cellR]
  refine ACalls.of_aw (Ω:=[(95,Ent.effect e_Uint),(96,Ent.effect e_RBool),(320,Ent.pure p_cdTru),(322,Ent.effect e_gtTru)]) (T:=assoc []) mixed (TblOk.cons ok_Uint (TblOk.cons ok_RBool (TblOk.cons ok_cdTru (TblOk.cons ok_gtTru TblOk.nil)))) Tryz.func321 (by kernel_rfl) (by rfl) (rs:=[.cell 2 241]) (by rfl) (by kernel_rfl) (by simp only [Tryz.ntmps321,yaz,yba];decide) (by simp only [zkz];omega) fun hcl hlt=>?_
  change aw _ _ _ (KI Tryz.prog [(95,Ent.effect e_Uint),(96,Ent.effect e_RBool),(320,Ent.pure p_cdTru),(322,Ent.effect e_gtTru)] (aEnd Tryz.prog [.cell 2 241] H.nx _ _ (assoc [])) []) _ _
  clear hlt
  have b0:l0.length≤100000:=by omega
  have b1:l1.length≤100000:=by omega
  have b2:l2.length≤100000:=by omega
  have b3:l3.length≤100000:=by omega
  simp only [go_sem,byq,hne,hid,hcs,hcm,hgm,onR,onRo_some,onRo_nil,zlv,zlt,zle,and_true,true_and,hid,onR,onRo_some,cellR,vv,vc,e_Uint,e_RBool,p_cdTru,codecC,e_gtTru,h0,b0,h1,b1,h2,b2,h3,b3]
  have hclz:(H.set id (.cells [.slice m3 1 (bys l3),.int .i64 e3])).Closed:=closedR hid hcl m3 hm3 l3 e3
  refine ⟨hle,?_,by repeat (first | exact AHeap.Le.refl _ | refine AHeap.Le.push ?_ _),hclz,(fun x=>lt_grantAV x) _⟩
  simp [wk,wk2,wkL,wk1,wkM,grantAV,inL,boL]
def e_gtGra:List AV→AHeap→(AEnd→AHeap→Prop)→Prop
  | [.ptr id 0,.agg [.int .i64 most,.func (.func f) [] [],.func (.func 321) [] []]],H,K=>onR H id fun m l e=>True∧K (.ret (.slice .any 4 ((rlP (rdGra LP) most (m,l,e)).1.map (grantAV)))) (H.set id (.cells (cellR (rlP (rdGra LP) most (m,l,e)).2)))
  | _,_,_=>False
set_option maxHeartbeats 4000000 in
theorem ok_gtGra:EntOk Tryz.prog 213 (Ent.effect e_gtGra):=by
  refine EntOk.effect fun args H K h=>?_
  unfold e_gtGra at h
  split at h
  rotate_left
  · exact h.elim
  rename_i id most f
  obtain ⟨m,l,e,hid,hle,h⟩:=onR_out h
  obtain ⟨hpre,hK⟩:=h
  refine ⟨_,_,hK,?_⟩
  clear hK
  have hl0:=AHeap.get_lt hid
  have hne:=far_of hl0
  have hss:=set_same hid
  have hcs:=cells_some hid
  have hcm:=fun cs=>@cells_set_same H id cs hl0
  have hgm:=fun o=>@get_set_same' H id o hl0
  have hl1:=countR_l m l e most
  have hm1:=countR_m m l e most
  have hc1:=count_bd (m,l,e) most
  obtain ⟨Q,hQ⟩:∃ Q,rlP (rdGra LP) most (m,l,e)=Q:=⟨_,rfl⟩
  rw [hQ]
  unfold rlP at hQ
  generalize h1:countR (m,l,e) most=q1 at *
  obtain ⟨cc,m1,l1,e1⟩:=q1
  dsimp only at hl1 hm1 hc1 hQ
  obtain ⟨kc,rfl⟩:∃ kc:Nat,cc=(kc:Int):=⟨cc.toNat,by omega⟩
  rw [Int.toNat_natCast] at hQ
  obtain ⟨⟨GO,gs⟩,hG⟩:∃ G,goP (rdGra LP) kc (m1,l1,e1)=G:=⟨_,rfl⟩
  have hgo:=goP_go (rdGra_go LP_go) kc (m1,l1,e1)
  rw [hG] at hQ hgo
  obtain ⟨hg1,hg2,_⟩:=hgo
  obtain ⟨gm,gl,ge⟩:=gs
  dsimp only at hQ hg1 hg2
  subst hQ
  refine ACalls.of_aw (Ω:=[(97,Ent.effect e_RCount),(321,Ent.effect e_rdGra),(235,Ent.effect e_RErrE)]) (T:=assoc []) mixed (TblOk.cons ok_RCount (TblOk.cons ok_rdGra (TblOk.cons ok_RErrE TblOk.nil))) Tryz.func213 (by kernel_rfl) (by rfl) (rs:=[.tmp 4]) (by rfl) (by kernel_rfl) (by simp only [Tryz.ntmps213,yaz,yba];decide) (by simp only [zkz];omega) fun hcl hlt=>?_
  change aw _ _ _ (KI Tryz.prog [(97,Ent.effect e_RCount),(321,Ent.effect e_rdGra),(235,Ent.effect e_RErrE)] (aEnd Tryz.prog [.tmp 4] H.nx _ _ (assoc [])) []) _ _
  clear hlt
  have b1:l1.length≤100000:=by omega
  simp only [blkE,blkP,bhq,Nat.reduceMod,Nat.reduceDiv,stepH,stepM,toMs1,toMs,toMs0,strK,pubK,pubF,pubV,yaq,yar,yao,yap,go_sem,byq,hne,hid,hcs,hcm,hgm,onR,onRo_some,onRo_nil,zlv,zlt,zle,and_true,true_and,hid,e_RCount,h1,b1,cellR]
  refine ⟨hle,?_⟩
  have hltC:ltL (H.nx+1) [.int .i64 most,.func (.func f) [] [],.func (.func 321) [] []]:=by simp [zno,znp,zmz,lt_func0]
  have hclL:∀ (s:RS) (k:Nat),mkOk m s.1→((((H.set id (.cells [.slice s.1 1 (bys s.2.1),.int .i64 s.2.2])).push (.cells [.int .i64 most,.func (.func f) [] [],.func (.func 321) [] []])).push (.buf 4 0)).push (.buf 4 k)).Closed:=fun s k hs=>closed_buf (closed_buf (closed_cells (closedR hid hcl s.1 hs s.2.1 s.2.2) (by simpa only [zkz] using hltC)))
  refine loop_introW (A:=List SGrant × RS) (fun x=>[(0,.ptr id 0),(3,.ptr H.nx 0),(5,.slice (.own (H.nx+1+1)) 4 (x.1.map (grantAV))),(10,.int .i64 (kc:Int)),(11,.int .i64 (x.1.length:Int))]) (fun x=>(((H.set id (.cells [.slice x.2.1 1 (bys x.2.2.1),.int .i64 x.2.2.2])).push (.cells [.int .i64 most,.func (.func f) [] [],.func (.func 321) [] []])).push (.buf 4 0)).push (.buf 4 x.1.length)) (fun x=>x.1.length≤kc∧((goP (rdGra LP) (kc - x.1.length) x.2).1.map (x.1++·),(goP (rdGra LP) (kc - x.1.length) x.2).2)=(GO,gm,gl,ge)∧x.2.2.1.length≤l1.length∧mkOk m x.2.1) (fun x=>kc - x.1.length) ([],(m1,l1,e1)) ⟨Nat.zero_le _,by rw [← hG];simp,Nat.le_refl _,hm1⟩ ?_ fun x hx=>?_
  · refine ⟨by simp only [zkk,zkp,zky,zkz];omega,by repeat (first | exact AHeap.Le.refl _ | refine AHeap.Le.push ?_ _),hclL (m1,l1,e1) 0 hm1,?_,?_⟩
    · simp [ltF,zmz,znh,lt_sliceL,znp,zky,zkz]
      try omega
    · simp [subW,wk2,wk1,wkM,Fr.get]
  obtain ⟨us,m2,l2,e2⟩:=x
  obtain ⟨hx1,hx2,hx3,hx4⟩:=hx
  dsimp only at hx1 hx2 hx3 hx4 ⊢
  have b2:l2.length≤100000:=by omega
  have ne1:(H.nx+1=id)=False:=eq_false (by omega)
  simp only [go_sem]
  refine cond_split (fun hc=>?_) (fun hc=>?_)
  · have hk':us.length<kc:=by simp at hc;omega
    have e5:IntKind.i64.wrap ((us.length:Int)+1)=((us.length+1:Nat):Int):=by rw [wrap_i64]<;>omega
    have hu:goP (rdGra LP) (kc - us.length) (m2,l2,e2)=if ((rdGra LP) (m2,l2,e2)).2.2.2≠0 then (none,((rdGra LP) (m2,l2,e2)).2) else ((goP (rdGra LP) (kc - (us.length+1)) ((rdGra LP) (m2,l2,e2)).2).1.map (((rdGra LP) (m2,l2,e2)).1::·),(goP (rdGra LP) (kc - (us.length+1)) ((rdGra LP) (m2,l2,e2)).2).2):=by
      rw [show kc - us.length=(kc - (us.length+1))+1 by omega];rfl
    rw [hu] at hx2
    have hl3:=(rdGra_go LP_go).l (m2,l2,e2)
    have hm3:=(rdGra_go LP_go).m (m2,l2,e2)
    generalize hq3:(rdGra LP) (m2,l2,e2)=q3 at *
    obtain ⟨n3,m3,l3,e3⟩:=q3
    dsimp only at hl3 hm3 hx2
    have b3:l3.length≤100000:=by omega
    have hmm:mkOk m m3:=mkOk_tr hx4 hm3
    
    cases hz:(e3 != 0)
    · have hz':e3=0:=by simpa using hz
      rw [if_neg (by rw [hz'];decide)] at hx2
      simp only [go_sem,byq,hne,hid,hcs,hcm,hgm,onR,onRo_some,onRo_nil,zlv,zlt,zle,and_true,true_and,hid,e_rdGra,p_RErr,e_RErrE,hq3,hz,b2,b3,cellR,grantAV,e5,ybb]
      have hlen:(us++[n3]).length=us.length+1:=by simp
      refine ⟨⟨by omega,by omega,fun z hz=>by rw [List.mem_singleton] at hz;subst hz;rfl⟩,(us++[n3],(m3,l3,e3)),⟨by dsimp only;omega,?_,by dsimp only;omega,hmm⟩,by dsimp only;omega,?_⟩
      · dsimp only
        rw [hlen,← hx2]
        generalize goP (rdGra LP) (kc - (us.length+1)) (m3,l3,e3)=q5
        obtain ⟨o,t⟩:=q5
        cases o
        · rfl
        · simp [List.append_assoc]
      · refine ⟨by simp only [zky,zkz];omega,?_,hclL (m3,l3,e3) _ hmm,?_,?_⟩
        · simp only [List.map_append,yae,yaf,grantAV,List.length_append,yaz,yba]
          repeat (first | exact AHeap.Le.refl _ | refine AHeap.Le.push ?_ _)
        · simp [ltF,zmz,znh,lt_sliceL,zky,zkz]
          refine ⟨by omega,by omega,ltL_iff.2 fun j hj=>?_⟩
          have hmem:=List.getElem_mem hj
          rw [List.mem_append,List.mem_map,List.mem_singleton] at hmem
          rcases hmem with ⟨x,_,e⟩ | e
          · rw [← e];exact (fun x=>lt_grantAV x) x
          · rw [e];exact (fun x=>lt_grantAV x) _
        · simp [subW,wk2,wk1,wkM,Fr.get,grantAV]
    · have hz':e3≠0:=by simpa using hz
      rw [if_pos hz'] at hx2
      simp only [Option.map,Prod.mk.injEq] at hx2
      obtain ⟨rfl,rfl,rfl,rfl⟩:=hx2
      simp only [go_sem,byq,hne,hid,hcs,hcm,hgm,onR,onRo_some,onRo_nil,zlv,zlt,zle,and_true,true_and,hid,e_rdGra,p_RErr,e_RErrE,hq3,hz,b2,b3,cellR,grantAV,Option.getD_none,yaf]
      exact ⟨by simp [wk,wk2,wk1,wkM],by repeat (first | exact AHeap.Le.refl _ | refine AHeap.Le.push ?_ _),closedR hid hcl _ hmm _ _,by simp [lt_sliceL,znp]⟩
  · have hk':us.length=kc:=by simp at hc;omega
    subst hk'
    rw [Nat.sub_self] at hx2
    simp only [goP,Option.map,yaj,Prod.mk.injEq] at hx2
    obtain ⟨rfl,rfl,rfl,rfl⟩:=hx2
    simp only [go_sem,byq,Option.getD_some]
    exact ⟨by simp [wk,wk2,wk1,wkM],by repeat (first | exact AHeap.Le.refl _ | refine AHeap.Le.push ?_ _),closedR hid hcl _ hx4 _ _,lt_map (fun x=>lt_grantAV x)⟩
def e_rdTab:List AV→AHeap→(AEnd→AHeap→Prop)→Prop
  | [.ptr id 0],H,K=>onR H id fun m l e=>True∧K (.ret (tableAV ((rdTab LP) (m,l,e)).1)) (H.set id (.cells (cellR ((rdTab LP) (m,l,e)).2)))
  | _,_,_=>False
set_option maxHeartbeats 4000000 in
theorem ok_rdTab:EntOk Tryz.prog 203 (Ent.effect e_rdTab):=by
  refine EntOk.effect fun args H K h=>?_
  unfold e_rdTab at h
  split at h
  rotate_left
  · exact h.elim
  rename_i id
  obtain ⟨m,l,e,hid,hle,h⟩:=onR_out h
  obtain ⟨hpre,hK⟩:=h
  refine ⟨_,_,hK,?_⟩
  clear hK
  have hl0:=AHeap.get_lt hid
  have hne:=far_of hl0
  have hss:=set_same hid
  have hcs:=cells_some hid
  have hcm:=fun cs=>@cells_set_same H id cs hl0
  have hgm:=fun o=>@get_set_same' H id o hl0
  obtain ⟨Q,hQ⟩:∃ Q,(rdTab LP) (m,l,e)=Q:=⟨_,rfl⟩
  rw [hQ]
  unfold rdTab at hQ
  try dsimp only [rap,rpure,rU,rT,rV,rB,LP_l] at hQ
  have hl0:=uintR_l m l e 2
  have hm0:=uintR_m m l e 2
  generalize h0:uintR (m,l,e) 2=q0 at *
  obtain ⟨v0,m0,l0,e0⟩:=q0
  dsimp only [rU,rV,rB] at hQ hl0 hm0
  have hl1:=textR_l m0 l0 e0 24
  have hm1:=textR_m m0 l0 e0 24
  generalize h1:textR (m0,l0,e0) 24=q1 at *
  obtain ⟨v1,m1,l1,e1⟩:=q1
  dsimp only [rU,rV,rB] at hQ hl1 hm1
  replace hm1:=mkOk_tr hm0 hm1
  have hl2:=(rlP_go rdKey_go 4).l (m1,l1,e1)
  have hm2:=(rlP_go rdKey_go 4).m (m1,l1,e1)
  generalize h2:rlP rdKey 4 (m1,l1,e1)=q2 at *
  obtain ⟨v2,m2,l2,e2⟩:=q2
  dsimp only [rU,rV,rB] at hQ hl2 hm2
  replace hm2:=mkOk_tr hm1 hm2
  have hl3:=(rlP_go (rU_go 2) 12).l (m2,l2,e2)
  have hm3:=(rlP_go (rU_go 2) 12).m (m2,l2,e2)
  generalize h3:rlP (rU 2) 12 (m2,l2,e2)=q3 at *
  obtain ⟨v3,m3,l3,e3⟩:=q3
  dsimp only [rU,rV,rB] at hQ hl3 hm3
  replace hm3:=mkOk_tr hm2 hm3
  have hl4:=uintR_l m3 l3 e3 2
  have hm4:=uintR_m m3 l3 e3 2
  generalize h4:uintR (m3,l3,e3) 2=q4 at *
  obtain ⟨v4,m4,l4,e4⟩:=q4
  dsimp only [rU,rV,rB] at hQ hl4 hm4
  replace hm4:=mkOk_tr hm3 hm4
  have hl5:=(rlP_go rV_go 4).l (m4,l4,e4)
  have hm5:=(rlP_go rV_go 4).m (m4,l4,e4)
  generalize h5:rlP rV 4 (m4,l4,e4)=q5 at *
  obtain ⟨v5,m5,l5,e5⟩:=q5
  dsimp only [rU,rV,rB] at hQ hl5 hm5
  replace hm5:=mkOk_tr hm4 hm5
  have hl6:=uintR_l m5 l5 e5 2
  have hm6:=uintR_m m5 l5 e5 2
  generalize h6:uintR (m5,l5,e5) 2=q6 at *
  obtain ⟨v6,m6,l6,e6⟩:=q6
  dsimp only [rU,rV,rB] at hQ hl6 hm6
  replace hm6:=mkOk_tr hm5 hm6
  have hl7:=textR_l m6 l6 e6 400
  have hm7:=textR_m m6 l6 e6 400
  generalize h7:textR (m6,l6,e6) 400=q7 at *
  obtain ⟨v7,m7,l7,e7⟩:=q7
  dsimp only [rU,rV,rB] at hQ hl7 hm7
  replace hm7:=mkOk_tr hm6 hm7
  subst hQ
  dsimp only [cellR]
  refine ACalls.of_aw (Ω:=[(95,Ent.effect e_Uint),(179,Ent.effect e_RText),(200,Ent.pure p_cdKey),(204,Ent.effect e_gtKey),(182,Ent.pure p_cdInt),(184,Ent.effect e_gtInt),(202,Ent.pure p_cdVal),(205,Ent.effect e_gtVal)]) (T:=assoc []) mixed (TblOk.cons ok_Uint (TblOk.cons ok_RText (TblOk.cons ok_cdKey (TblOk.cons ok_gtKey (TblOk.cons ok_cdInt (TblOk.cons ok_gtInt (TblOk.cons ok_cdVal (TblOk.cons ok_gtVal TblOk.nil)))))))) Tryz.func203 (by kernel_rfl) (by rfl) (rs:=[.cell 2 49]) (by rfl) (by kernel_rfl) (by simp only [Tryz.ntmps203,yaz,yba];decide) (by simp only [zkz];omega) fun hcl hlt=>?_
  change aw _ _ _ (KI Tryz.prog [(95,Ent.effect e_Uint),(179,Ent.effect e_RText),(200,Ent.pure p_cdKey),(204,Ent.effect e_gtKey),(182,Ent.pure p_cdInt),(184,Ent.effect e_gtInt),(202,Ent.pure p_cdVal),(205,Ent.effect e_gtVal)] (aEnd Tryz.prog [.cell 2 49] H.nx _ _ (assoc [])) []) _ _
  clear hlt
  have b0:l0.length≤100000:=by omega
  have b1:l1.length≤100000:=by omega
  have b2:l2.length≤100000:=by omega
  have b3:l3.length≤100000:=by omega
  have b4:l4.length≤100000:=by omega
  have b5:l5.length≤100000:=by omega
  have b6:l6.length≤100000:=by omega
  have b7:l7.length≤100000:=by omega
  simp only [go_sem,byq,hne,hid,hcs,hcm,hgm,onR,onRo_some,onRo_nil,zlv,zlt,zle,and_true,true_and,hid,onR,onRo_some,cellR,vv,vc,e_Uint,e_RText,p_cdKey,codecC,e_gtKey,p_cdInt,e_gtInt,p_cdVal,e_gtVal,h0,b0,h1,b1,h2,b2,h3,b3,h4,b4,h5,b5,h6,b6,h7,b7]
  have hclz:(H.set id (.cells [.slice m7 1 (bys l7),.int .i64 e7])).Closed:=closedR hid hcl m7 hm7 l7 e7
  refine ⟨hle,?_,by repeat (first | exact AHeap.Le.refl _ | refine AHeap.Le.push ?_ _),hclz,(fun x=>lt_tableAV x) _⟩
  simp [wk,wk2,wkL,wk1,wkM,tableAV,inL,boL]
def e_gtTab:List AV→AHeap→(AEnd→AHeap→Prop)→Prop
  | [.ptr id 0,.agg [.int .i64 most,.func (.func f) [] [],.func (.func 203) [] []]],H,K=>onR H id fun m l e=>True∧K (.ret (.slice .any 8 ((rlP (rdTab LP) most (m,l,e)).1.map (tableAV)))) (H.set id (.cells (cellR (rlP (rdTab LP) most (m,l,e)).2)))
  | _,_,_=>False
set_option maxHeartbeats 4000000 in
theorem ok_gtTab:EntOk Tryz.prog 115 (Ent.effect e_gtTab):=by
  refine EntOk.effect fun args H K h=>?_
  unfold e_gtTab at h
  split at h
  rotate_left
  · exact h.elim
  rename_i id most f
  obtain ⟨m,l,e,hid,hle,h⟩:=onR_out h
  obtain ⟨hpre,hK⟩:=h
  refine ⟨_,_,hK,?_⟩
  clear hK
  have hl0:=AHeap.get_lt hid
  have hne:=far_of hl0
  have hss:=set_same hid
  have hcs:=cells_some hid
  have hcm:=fun cs=>@cells_set_same H id cs hl0
  have hgm:=fun o=>@get_set_same' H id o hl0
  have hl1:=countR_l m l e most
  have hm1:=countR_m m l e most
  have hc1:=count_bd (m,l,e) most
  obtain ⟨Q,hQ⟩:∃ Q,rlP (rdTab LP) most (m,l,e)=Q:=⟨_,rfl⟩
  rw [hQ]
  unfold rlP at hQ
  generalize h1:countR (m,l,e) most=q1 at *
  obtain ⟨cc,m1,l1,e1⟩:=q1
  dsimp only at hl1 hm1 hc1 hQ
  obtain ⟨kc,rfl⟩:∃ kc:Nat,cc=(kc:Int):=⟨cc.toNat,by omega⟩
  rw [Int.toNat_natCast] at hQ
  obtain ⟨⟨GO,gs⟩,hG⟩:∃ G,goP (rdTab LP) kc (m1,l1,e1)=G:=⟨_,rfl⟩
  have hgo:=goP_go (rdTab_go LP_go) kc (m1,l1,e1)
  rw [hG] at hQ hgo
  obtain ⟨hg1,hg2,_⟩:=hgo
  obtain ⟨gm,gl,ge⟩:=gs
  dsimp only at hQ hg1 hg2
  subst hQ
  refine ACalls.of_aw (Ω:=[(97,Ent.effect e_RCount),(203,Ent.effect e_rdTab),(235,Ent.effect e_RErrE)]) (T:=assoc []) mixed (TblOk.cons ok_RCount (TblOk.cons ok_rdTab (TblOk.cons ok_RErrE TblOk.nil))) Tryz.func115 (by kernel_rfl) (by rfl) (rs:=[.tmp 4]) (by rfl) (by kernel_rfl) (by simp only [Tryz.ntmps115,yaz,yba];decide) (by simp only [zkz];omega) fun hcl hlt=>?_
  change aw _ _ _ (KI Tryz.prog [(97,Ent.effect e_RCount),(203,Ent.effect e_rdTab),(235,Ent.effect e_RErrE)] (aEnd Tryz.prog [.tmp 4] H.nx _ _ (assoc [])) []) _ _
  clear hlt
  have b1:l1.length≤100000:=by omega
  simp only [blkE,blkP,bhq,Nat.reduceMod,Nat.reduceDiv,stepH,stepM,toMs1,toMs,toMs0,strK,pubK,pubF,pubV,yaq,yar,yao,yap,go_sem,byq,hne,hid,hcs,hcm,hgm,onR,onRo_some,onRo_nil,zlv,zlt,zle,and_true,true_and,hid,e_RCount,h1,b1,cellR]
  refine ⟨hle,?_⟩
  have hltC:ltL (H.nx+1) [.int .i64 most,.func (.func f) [] [],.func (.func 203) [] []]:=by simp [zno,znp,zmz,lt_func0]
  have hclL:∀ (s:RS) (k:Nat),mkOk m s.1→((((H.set id (.cells [.slice s.1 1 (bys s.2.1),.int .i64 s.2.2])).push (.cells [.int .i64 most,.func (.func f) [] [],.func (.func 203) [] []])).push (.buf 8 0)).push (.buf 8 k)).Closed:=fun s k hs=>closed_buf (closed_buf (closed_cells (closedR hid hcl s.1 hs s.2.1 s.2.2) (by simpa only [zkz] using hltC)))
  refine loop_introW (A:=List STable × RS) (fun x=>[(0,.ptr id 0),(3,.ptr H.nx 0),(5,.slice (.own (H.nx+1+1)) 8 (x.1.map (tableAV))),(10,.int .i64 (kc:Int)),(11,.int .i64 (x.1.length:Int))]) (fun x=>(((H.set id (.cells [.slice x.2.1 1 (bys x.2.2.1),.int .i64 x.2.2.2])).push (.cells [.int .i64 most,.func (.func f) [] [],.func (.func 203) [] []])).push (.buf 8 0)).push (.buf 8 x.1.length)) (fun x=>x.1.length≤kc∧((goP (rdTab LP) (kc - x.1.length) x.2).1.map (x.1++·),(goP (rdTab LP) (kc - x.1.length) x.2).2)=(GO,gm,gl,ge)∧x.2.2.1.length≤l1.length∧mkOk m x.2.1) (fun x=>kc - x.1.length) ([],(m1,l1,e1)) ⟨Nat.zero_le _,by rw [← hG];simp,Nat.le_refl _,hm1⟩ ?_ fun x hx=>?_
  · refine ⟨by simp only [zkk,zkp,zky,zkz];omega,by repeat (first | exact AHeap.Le.refl _ | refine AHeap.Le.push ?_ _),hclL (m1,l1,e1) 0 hm1,?_,?_⟩
    · simp [ltF,zmz,znh,lt_sliceL,znp,zky,zkz]
      try omega
    · simp [subW,wk2,wk1,wkM,Fr.get]
  obtain ⟨us,m2,l2,e2⟩:=x
  obtain ⟨hx1,hx2,hx3,hx4⟩:=hx
  dsimp only at hx1 hx2 hx3 hx4 ⊢
  have b2:l2.length≤100000:=by omega
  have ne1:(H.nx+1=id)=False:=eq_false (by omega)
  simp only [go_sem]
  refine cond_split (fun hc=>?_) (fun hc=>?_)
  · have hk':us.length<kc:=by simp at hc;omega
    have e5:IntKind.i64.wrap ((us.length:Int)+1)=((us.length+1:Nat):Int):=by rw [wrap_i64]<;>omega
    have hu:goP (rdTab LP) (kc - us.length) (m2,l2,e2)=if ((rdTab LP) (m2,l2,e2)).2.2.2≠0 then (none,((rdTab LP) (m2,l2,e2)).2) else ((goP (rdTab LP) (kc - (us.length+1)) ((rdTab LP) (m2,l2,e2)).2).1.map (((rdTab LP) (m2,l2,e2)).1::·),(goP (rdTab LP) (kc - (us.length+1)) ((rdTab LP) (m2,l2,e2)).2).2):=by
      rw [show kc - us.length=(kc - (us.length+1))+1 by omega];rfl
    rw [hu] at hx2
    have hl3:=(rdTab_go LP_go).l (m2,l2,e2)
    have hm3:=(rdTab_go LP_go).m (m2,l2,e2)
    generalize hq3:(rdTab LP) (m2,l2,e2)=q3 at *
    obtain ⟨n3,m3,l3,e3⟩:=q3
    dsimp only at hl3 hm3 hx2
    have b3:l3.length≤100000:=by omega
    have hmm:mkOk m m3:=mkOk_tr hx4 hm3
    
    cases hz:(e3 != 0)
    · have hz':e3=0:=by simpa using hz
      rw [if_neg (by rw [hz'];decide)] at hx2
      simp only [go_sem,byq,hne,hid,hcs,hcm,hgm,onR,onRo_some,onRo_nil,zlv,zlt,zle,and_true,true_and,hid,e_rdTab,p_RErr,e_RErrE,hq3,hz,b2,b3,cellR,tableAV,e5,ybb]
      have hlen:(us++[n3]).length=us.length+1:=by simp
      refine ⟨⟨by omega,by omega,fun z hz=>by rw [List.mem_singleton] at hz;subst hz;rfl⟩,(us++[n3],(m3,l3,e3)),⟨by dsimp only;omega,?_,by dsimp only;omega,hmm⟩,by dsimp only;omega,?_⟩
      · dsimp only
        rw [hlen,← hx2]
        generalize goP (rdTab LP) (kc - (us.length+1)) (m3,l3,e3)=q5
        obtain ⟨o,t⟩:=q5
        cases o
        · rfl
        · simp [List.append_assoc]
      · refine ⟨by simp only [zky,zkz];omega,?_,hclL (m3,l3,e3) _ hmm,?_,?_⟩
        · simp only [List.map_append,yae,yaf,tableAV,List.length_append,yaz,yba]
          repeat (first | exact AHeap.Le.refl _ | refine AHeap.Le.push ?_ _)
        · simp [ltF,zmz,znh,lt_sliceL,zky,zkz]
          refine ⟨by omega,by omega,ltL_iff.2 fun j hj=>?_⟩
          have hmem:=List.getElem_mem hj
          rw [List.mem_append,List.mem_map,List.mem_singleton] at hmem
          rcases hmem with ⟨x,_,e⟩ | e
          · rw [← e];exact (fun x=>lt_tableAV x) x
          · rw [e];exact (fun x=>lt_tableAV x) _
        · simp [subW,wk2,wk1,wkM,Fr.get,tableAV]
    · have hz':e3≠0:=by simpa using hz
      rw [if_pos hz'] at hx2
      simp only [Option.map,Prod.mk.injEq] at hx2
      obtain ⟨rfl,rfl,rfl,rfl⟩:=hx2
      simp only [go_sem,byq,hne,hid,hcs,hcm,hgm,onR,onRo_some,onRo_nil,zlv,zlt,zle,and_true,true_and,hid,e_rdTab,p_RErr,e_RErrE,hq3,hz,b2,b3,cellR,tableAV,Option.getD_none,yaf]
      exact ⟨by simp [wk,wk2,wk1,wkM],by repeat (first | exact AHeap.Le.refl _ | refine AHeap.Le.push ?_ _),closedR hid hcl _ hmm _ _,by simp [lt_sliceL,znp]⟩
  · have hk':us.length=kc:=by simp at hc;omega
    subst hk'
    rw [Nat.sub_self] at hx2
    simp only [goP,Option.map,yaj,Prod.mk.injEq] at hx2
    obtain ⟨rfl,rfl,rfl,rfl⟩:=hx2
    simp only [go_sem,byq,Option.getD_some]
    exact ⟨by simp [wk,wk2,wk1,wkM],by repeat (first | exact AHeap.Le.refl _ | refine AHeap.Le.push ?_ _),closedR hid hcl _ hx4 _ _,lt_map (fun x=>lt_tableAV x)⟩
def e_rdRol:List AV→AHeap→(AEnd→AHeap→Prop)→Prop
  | [.ptr id 0],H,K=>onR H id fun m l e=>True∧K (.ret (roleAV ((rdRol LP) (m,l,e)).1)) (H.set id (.cells (cellR ((rdRol LP) (m,l,e)).2)))
  | _,_,_=>False
set_option maxHeartbeats 4000000 in
theorem ok_rdRol:EntOk Tryz.prog 212 (Ent.effect e_rdRol):=by
  refine EntOk.effect fun args H K h=>?_
  unfold e_rdRol at h
  split at h
  rotate_left
  · exact h.elim
  rename_i id
  obtain ⟨m,l,e,hid,hle,h⟩:=onR_out h
  obtain ⟨hpre,hK⟩:=h
  refine ⟨_,_,hK,?_⟩
  clear hK
  have hl0:=AHeap.get_lt hid
  have hne:=far_of hl0
  have hss:=set_same hid
  have hcs:=cells_some hid
  have hcm:=fun cs=>@cells_set_same H id cs hl0
  have hgm:=fun o=>@get_set_same' H id o hl0
  obtain ⟨Q,hQ⟩:∃ Q,(rdRol LP) (m,l,e)=Q:=⟨_,rfl⟩
  rw [hQ]
  unfold rdRol at hQ
  try dsimp only [rap,rpure,rU,rT,rV,rB,LP_l] at hQ
  have hl0:=uintR_l m l e 2
  have hm0:=uintR_m m l e 2
  generalize h0:uintR (m,l,e) 2=q0 at *
  obtain ⟨v0,m0,l0,e0⟩:=q0
  dsimp only [rU,rV,rB] at hQ hl0 hm0
  have hl1:=textR_l m0 l0 e0 24
  have hm1:=textR_m m0 l0 e0 24
  generalize h1:textR (m0,l0,e0) 24=q1 at *
  obtain ⟨v1,m1,l1,e1⟩:=q1
  dsimp only [rU,rV,rB] at hQ hl1 hm1
  replace hm1:=mkOk_tr hm0 hm1
  have hl2:=(rlP_go (rdGra_go LP_go) 8).l (m1,l1,e1)
  have hm2:=(rlP_go (rdGra_go LP_go) 8).m (m1,l1,e1)
  generalize h2:rlP (rdGra LP) 8 (m1,l1,e1)=q2 at *
  obtain ⟨v2,m2,l2,e2⟩:=q2
  dsimp only [rU,rV,rB] at hQ hl2 hm2
  replace hm2:=mkOk_tr hm1 hm2
  have hl3:=(rlP_go (rU_go 2) 12).l (m2,l2,e2)
  have hm3:=(rlP_go (rU_go 2) 12).m (m2,l2,e2)
  generalize h3:rlP (rU 2) 12 (m2,l2,e2)=q3 at *
  obtain ⟨v3,m3,l3,e3⟩:=q3
  dsimp only [rU,rV,rB] at hQ hl3 hm3
  replace hm3:=mkOk_tr hm2 hm3
  have hl4:=uintR_l m3 l3 e3 2
  have hm4:=uintR_m m3 l3 e3 2
  generalize h4:uintR (m3,l3,e3) 2=q4 at *
  obtain ⟨v4,m4,l4,e4⟩:=q4
  dsimp only [rU,rV,rB] at hQ hl4 hm4
  replace hm4:=mkOk_tr hm3 hm4
  have hl5:=boolR_l m4 l4 e4
  have hm5:=boolR_m m4 l4 e4
  generalize h5:boolR (m4,l4,e4)=q5 at *
  obtain ⟨v5,m5,l5,e5⟩:=q5
  dsimp only [rU,rV,rB] at hQ hl5 hm5
  replace hm5:=mkOk_tr hm4 hm5
  subst hQ
  dsimp only [cellR]
  refine ACalls.of_aw (Ω:=[(95,Ent.effect e_Uint),(179,Ent.effect e_RText),(210,Ent.pure p_cdGra),(213,Ent.effect e_gtGra),(182,Ent.pure p_cdInt),(184,Ent.effect e_gtInt),(96,Ent.effect e_RBool)]) (T:=assoc []) mixed (TblOk.cons ok_Uint (TblOk.cons ok_RText (TblOk.cons ok_cdGra (TblOk.cons ok_gtGra (TblOk.cons ok_cdInt (TblOk.cons ok_gtInt (TblOk.cons ok_RBool TblOk.nil))))))) Tryz.func212 (by kernel_rfl) (by rfl) (rs:=[.cell 2 125]) (by rfl) (by kernel_rfl) (by simp only [Tryz.ntmps212,yaz,yba];decide) (by simp only [zkz];omega) fun hcl hlt=>?_
  change aw _ _ _ (KI Tryz.prog [(95,Ent.effect e_Uint),(179,Ent.effect e_RText),(210,Ent.pure p_cdGra),(213,Ent.effect e_gtGra),(182,Ent.pure p_cdInt),(184,Ent.effect e_gtInt),(96,Ent.effect e_RBool)] (aEnd Tryz.prog [.cell 2 125] H.nx _ _ (assoc [])) []) _ _
  clear hlt
  have b0:l0.length≤100000:=by omega
  have b1:l1.length≤100000:=by omega
  have b2:l2.length≤100000:=by omega
  have b3:l3.length≤100000:=by omega
  have b4:l4.length≤100000:=by omega
  have b5:l5.length≤100000:=by omega
  simp only [go_sem,byq,hne,hid,hcs,hcm,hgm,onR,onRo_some,onRo_nil,zlv,zlt,zle,and_true,true_and,hid,onR,onRo_some,cellR,vv,vc,e_Uint,e_RText,p_cdGra,codecC,e_gtGra,p_cdInt,e_gtInt,e_RBool,h0,b0,h1,b1,h2,b2,h3,b3,h4,b4,h5,b5]
  have hclz:(H.set id (.cells [.slice m5 1 (bys l5),.int .i64 e5])).Closed:=closedR hid hcl m5 hm5 l5 e5
  refine ⟨hle,?_,by repeat (first | exact AHeap.Le.refl _ | refine AHeap.Le.push ?_ _),hclz,(fun x=>lt_roleAV x) _⟩
  simp [wk,wk2,wkL,wk1,wkM,roleAV,inL,boL]
def e_gtRol:List AV→AHeap→(AEnd→AHeap→Prop)→Prop
  | [.ptr id 0,.agg [.int .i64 most,.func (.func f) [] [],.func (.func 212) [] []]],H,K=>onR H id fun m l e=>True∧K (.ret (.slice .any 6 ((rlP (rdRol LP) most (m,l,e)).1.map (roleAV)))) (H.set id (.cells (cellR (rlP (rdRol LP) most (m,l,e)).2)))
  | _,_,_=>False
set_option maxHeartbeats 4000000 in
theorem ok_gtRol:EntOk Tryz.prog 117 (Ent.effect e_gtRol):=by
  refine EntOk.effect fun args H K h=>?_
  unfold e_gtRol at h
  split at h
  rotate_left
  · exact h.elim
  rename_i id most f
  obtain ⟨m,l,e,hid,hle,h⟩:=onR_out h
  obtain ⟨hpre,hK⟩:=h
  refine ⟨_,_,hK,?_⟩
  clear hK
  have hl0:=AHeap.get_lt hid
  have hne:=far_of hl0
  have hss:=set_same hid
  have hcs:=cells_some hid
  have hcm:=fun cs=>@cells_set_same H id cs hl0
  have hgm:=fun o=>@get_set_same' H id o hl0
  have hl1:=countR_l m l e most
  have hm1:=countR_m m l e most
  have hc1:=count_bd (m,l,e) most
  obtain ⟨Q,hQ⟩:∃ Q,rlP (rdRol LP) most (m,l,e)=Q:=⟨_,rfl⟩
  rw [hQ]
  unfold rlP at hQ
  generalize h1:countR (m,l,e) most=q1 at *
  obtain ⟨cc,m1,l1,e1⟩:=q1
  dsimp only at hl1 hm1 hc1 hQ
  obtain ⟨kc,rfl⟩:∃ kc:Nat,cc=(kc:Int):=⟨cc.toNat,by omega⟩
  rw [Int.toNat_natCast] at hQ
  obtain ⟨⟨GO,gs⟩,hG⟩:∃ G,goP (rdRol LP) kc (m1,l1,e1)=G:=⟨_,rfl⟩
  have hgo:=goP_go (rdRol_go LP_go) kc (m1,l1,e1)
  rw [hG] at hQ hgo
  obtain ⟨hg1,hg2,_⟩:=hgo
  obtain ⟨gm,gl,ge⟩:=gs
  dsimp only at hQ hg1 hg2
  subst hQ
  refine ACalls.of_aw (Ω:=[(97,Ent.effect e_RCount),(212,Ent.effect e_rdRol),(235,Ent.effect e_RErrE)]) (T:=assoc []) mixed (TblOk.cons ok_RCount (TblOk.cons ok_rdRol (TblOk.cons ok_RErrE TblOk.nil))) Tryz.func117 (by kernel_rfl) (by rfl) (rs:=[.tmp 4]) (by rfl) (by kernel_rfl) (by simp only [Tryz.ntmps117,yaz,yba];decide) (by simp only [zkz];omega) fun hcl hlt=>?_
  change aw _ _ _ (KI Tryz.prog [(97,Ent.effect e_RCount),(212,Ent.effect e_rdRol),(235,Ent.effect e_RErrE)] (aEnd Tryz.prog [.tmp 4] H.nx _ _ (assoc [])) []) _ _
  clear hlt
  have b1:l1.length≤100000:=by omega
  simp only [blkE,blkP,bhq,Nat.reduceMod,Nat.reduceDiv,stepH,stepM,toMs1,toMs,toMs0,strK,pubK,pubF,pubV,yaq,yar,yao,yap,go_sem,byq,hne,hid,hcs,hcm,hgm,onR,onRo_some,onRo_nil,zlv,zlt,zle,and_true,true_and,hid,e_RCount,h1,b1,cellR]
  refine ⟨hle,?_⟩
  have hltC:ltL (H.nx+1) [.int .i64 most,.func (.func f) [] [],.func (.func 212) [] []]:=by simp [zno,znp,zmz,lt_func0]
  have hclL:∀ (s:RS) (k:Nat),mkOk m s.1→((((H.set id (.cells [.slice s.1 1 (bys s.2.1),.int .i64 s.2.2])).push (.cells [.int .i64 most,.func (.func f) [] [],.func (.func 212) [] []])).push (.buf 6 0)).push (.buf 6 k)).Closed:=fun s k hs=>closed_buf (closed_buf (closed_cells (closedR hid hcl s.1 hs s.2.1 s.2.2) (by simpa only [zkz] using hltC)))
  refine loop_introW (A:=List SRole × RS) (fun x=>[(0,.ptr id 0),(3,.ptr H.nx 0),(5,.slice (.own (H.nx+1+1)) 6 (x.1.map (roleAV))),(10,.int .i64 (kc:Int)),(11,.int .i64 (x.1.length:Int))]) (fun x=>(((H.set id (.cells [.slice x.2.1 1 (bys x.2.2.1),.int .i64 x.2.2.2])).push (.cells [.int .i64 most,.func (.func f) [] [],.func (.func 212) [] []])).push (.buf 6 0)).push (.buf 6 x.1.length)) (fun x=>x.1.length≤kc∧((goP (rdRol LP) (kc - x.1.length) x.2).1.map (x.1++·),(goP (rdRol LP) (kc - x.1.length) x.2).2)=(GO,gm,gl,ge)∧x.2.2.1.length≤l1.length∧mkOk m x.2.1) (fun x=>kc - x.1.length) ([],(m1,l1,e1)) ⟨Nat.zero_le _,by rw [← hG];simp,Nat.le_refl _,hm1⟩ ?_ fun x hx=>?_
  · refine ⟨by simp only [zkk,zkp,zky,zkz];omega,by repeat (first | exact AHeap.Le.refl _ | refine AHeap.Le.push ?_ _),hclL (m1,l1,e1) 0 hm1,?_,?_⟩
    · simp [ltF,zmz,znh,lt_sliceL,znp,zky,zkz]
      try omega
    · simp [subW,wk2,wk1,wkM,Fr.get]
  obtain ⟨us,m2,l2,e2⟩:=x
  obtain ⟨hx1,hx2,hx3,hx4⟩:=hx
  dsimp only at hx1 hx2 hx3 hx4 ⊢
  have b2:l2.length≤100000:=by omega
  have ne1:(H.nx+1=id)=False:=eq_false (by omega)
  simp only [go_sem]
  refine cond_split (fun hc=>?_) (fun hc=>?_)
  · have hk':us.length<kc:=by simp at hc;omega
    have e5:IntKind.i64.wrap ((us.length:Int)+1)=((us.length+1:Nat):Int):=by rw [wrap_i64]<;>omega
    have hu:goP (rdRol LP) (kc - us.length) (m2,l2,e2)=if ((rdRol LP) (m2,l2,e2)).2.2.2≠0 then (none,((rdRol LP) (m2,l2,e2)).2) else ((goP (rdRol LP) (kc - (us.length+1)) ((rdRol LP) (m2,l2,e2)).2).1.map (((rdRol LP) (m2,l2,e2)).1::·),(goP (rdRol LP) (kc - (us.length+1)) ((rdRol LP) (m2,l2,e2)).2).2):=by
      rw [show kc - us.length=(kc - (us.length+1))+1 by omega];rfl
    rw [hu] at hx2
    have hl3:=(rdRol_go LP_go).l (m2,l2,e2)
    have hm3:=(rdRol_go LP_go).m (m2,l2,e2)
    generalize hq3:(rdRol LP) (m2,l2,e2)=q3 at *
    obtain ⟨n3,m3,l3,e3⟩:=q3
    dsimp only at hl3 hm3 hx2
    have b3:l3.length≤100000:=by omega
    have hmm:mkOk m m3:=mkOk_tr hx4 hm3
    
    cases hz:(e3 != 0)
    · have hz':e3=0:=by simpa using hz
      rw [if_neg (by rw [hz'];decide)] at hx2
      simp only [go_sem,byq,hne,hid,hcs,hcm,hgm,onR,onRo_some,onRo_nil,zlv,zlt,zle,and_true,true_and,hid,e_rdRol,p_RErr,e_RErrE,hq3,hz,b2,b3,cellR,roleAV,e5,ybb]
      have hlen:(us++[n3]).length=us.length+1:=by simp
      refine ⟨⟨by omega,by omega,fun z hz=>by rw [List.mem_singleton] at hz;subst hz;rfl⟩,(us++[n3],(m3,l3,e3)),⟨by dsimp only;omega,?_,by dsimp only;omega,hmm⟩,by dsimp only;omega,?_⟩
      · dsimp only
        rw [hlen,← hx2]
        generalize goP (rdRol LP) (kc - (us.length+1)) (m3,l3,e3)=q5
        obtain ⟨o,t⟩:=q5
        cases o
        · rfl
        · simp [List.append_assoc]
      · refine ⟨by simp only [zky,zkz];omega,?_,hclL (m3,l3,e3) _ hmm,?_,?_⟩
        · simp only [List.map_append,yae,yaf,roleAV,List.length_append,yaz,yba]
          repeat (first | exact AHeap.Le.refl _ | refine AHeap.Le.push ?_ _)
        · simp [ltF,zmz,znh,lt_sliceL,zky,zkz]
          refine ⟨by omega,by omega,ltL_iff.2 fun j hj=>?_⟩
          have hmem:=List.getElem_mem hj
          rw [List.mem_append,List.mem_map,List.mem_singleton] at hmem
          rcases hmem with ⟨x,_,e⟩ | e
          · rw [← e];exact (fun x=>lt_roleAV x) x
          · rw [e];exact (fun x=>lt_roleAV x) _
        · simp [subW,wk2,wk1,wkM,Fr.get,roleAV]
    · have hz':e3≠0:=by simpa using hz
      rw [if_pos hz'] at hx2
      simp only [Option.map,Prod.mk.injEq] at hx2
      obtain ⟨rfl,rfl,rfl,rfl⟩:=hx2
      simp only [go_sem,byq,hne,hid,hcs,hcm,hgm,onR,onRo_some,onRo_nil,zlv,zlt,zle,and_true,true_and,hid,e_rdRol,p_RErr,e_RErrE,hq3,hz,b2,b3,cellR,roleAV,Option.getD_none,yaf]
      exact ⟨by simp [wk,wk2,wk1,wkM],by repeat (first | exact AHeap.Le.refl _ | refine AHeap.Le.push ?_ _),closedR hid hcl _ hmm _ _,by simp [lt_sliceL,znp]⟩
  · have hk':us.length=kc:=by simp at hc;omega
    subst hk'
    rw [Nat.sub_self] at hx2
    simp only [goP,Option.map,yaj,Prod.mk.injEq] at hx2
    obtain ⟨rfl,rfl,rfl,rfl⟩:=hx2
    simp only [go_sem,byq,Option.getD_some]
    exact ⟨by simp [wk,wk2,wk1,wkM],by repeat (first | exact AHeap.Le.refl _ | refine AHeap.Le.push ?_ _),closedR hid hcl _ hx4 _ _,lt_map (fun x=>lt_roleAV x)⟩
end Go.AL

