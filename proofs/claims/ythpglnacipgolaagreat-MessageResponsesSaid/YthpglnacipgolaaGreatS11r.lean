/- Contracts and plain laws, a part of the proof; no condition of its own. -/
import Derived.Test.YthpglnacipgolaaGreatS11j
import Derived.Test.YthpglnacipgolaaGreatCK
import Derived.Test.YthpglnacipgolaaGreatLBack
open List renaming length_cons → yaz, length_nil → yba, cons_append → yal, nil_append → yak, take_of_length_le → ybc, drop_append → ybd, take_append → ybe, drop_eq_nil_of_le → ybf, take_succ_cons → yaq, take_zero → yar, drop_succ_cons → yao, drop_zero → yap, length_map → ybb, map_cons → yae, map_nil → yaf, append_nil → yaj
open Go Go.AL Go.Proofs
namespace Go.AL
set_option linter.all false
set_option maxRecDepth 10000

def readM (s:RS):SMatch × RS :=
  if (boolR s).1=true then (⟨true,(valueR (boolR s).2).1,(valueR (valueR (boolR s).2).2).1,(uintR (valueR (valueR (boolR s).2).2).2 1).1,(valueR (uintR (valueR (valueR (boolR s).2).2).2 1).2).1⟩,(valueR (uintR (valueR (valueR (boolR s).2).2).2 1).2).2)
  else (noMatch,(boolR s).2)
def readMs:Nat→RS→List SMatch × RS
  | 0,s=>([],s)
  | k+1,s=>((readM s).1::(readMs k (readM s).2).1,(readMs k (readM s).2).2)
def readVs:Nat→RS→List Nat × RS
  | 0,s=>([],s)
  | k+1,s=>((valueR s).1::(readVs k (valueR s).2).1,(readVs k (valueR s).2).2)
def readE0 (s:RS):SEntry × RS :=
  let t:=uintR s 2;let c:=countR t.2 4;let ms:=readMs c.1.toNat c.2;let p:=uintR ms.2 2;let a:=uintR p.2 2;let d:=countR a.2 4;let vs:=readVs d.1.toNat d.2
  (⟨t.1,ms.1,p.1,a.1,vs.1⟩,vs.2)
def readE (s:RS):SEntry × RS:=if (readE0 s).2.2.2=0 then readE0 s else (⟨0,[],0,0,[]⟩,(readE0 s).2)
theorem readM_l (s:RS):(readM s).2.2.1.length≤s.2.1.length:=by
  obtain ⟨m,l,e⟩:=s
  unfold readM
  split
  · have h1:=boolR_l m l e
    generalize boolR (m,l,e)=q1 at *
    obtain ⟨b,m1,l1,e1⟩:=q1
    dsimp only at h1 ⊢
    have h2:=valueR_l m1 l1 e1
    generalize valueR (m1,l1,e1)=q2 at *
    obtain ⟨v,m2,l2,e2⟩:=q2
    dsimp only at h2 ⊢
    have h3:=valueR_l m2 l2 e2
    generalize valueR (m2,l2,e2)=q3 at *
    obtain ⟨k,m3,l3,e3⟩:=q3
    dsimp only at h3 ⊢
    have h4:=uintR_l m3 l3 e3 1
    generalize uintR (m3,l3,e3) 1=q4 at *
    obtain ⟨p,m4,l4,e4⟩:=q4
    dsimp only at h4 ⊢
    have h5:=valueR_l m4 l4 e4
    omega
  · exact boolR_l m l e
theorem mkOk_trans {a b c:Mark} (h:mkOk a b) (k:mkOk b c):mkOk a c:=by
  unfold mkOk at *
  rcases k with rfl | rfl
  · exact h
  · exact .inr rfl
theorem readM_m (s:RS):mkOk s.1 (readM s).2.1:=by
  obtain ⟨m,l,e⟩:=s
  unfold readM
  split
  · have h1:=boolR_m m l e
    generalize boolR (m,l,e)=q1 at *
    obtain ⟨b,m1,l1,e1⟩:=q1
    dsimp only at h1 ⊢
    have h2:=valueR_m m1 l1 e1
    generalize valueR (m1,l1,e1)=q2 at *
    obtain ⟨v,m2,l2,e2⟩:=q2
    dsimp only at h2 ⊢
    have h3:=valueR_m m2 l2 e2
    generalize valueR (m2,l2,e2)=q3 at *
    obtain ⟨k,m3,l3,e3⟩:=q3
    dsimp only at h3 ⊢
    have h4:=uintR_m m3 l3 e3 1
    generalize uintR (m3,l3,e3) 1=q4 at *
    obtain ⟨p,m4,l4,e4⟩:=q4
    dsimp only at h4 ⊢
    have h5:=valueR_m m4 l4 e4
    exact mkOk_trans (mkOk_trans (mkOk_trans (mkOk_trans h1 h2) h3) h4) h5
  · exact boolR_m m l e
def e_readMatch:List AV→AHeap→(AEnd→AHeap→Prop)→Prop
  | [.ptr id 0],H,K=>onR H id fun m l e=>True∧K (.ret (matchAV (readM (m,l,e)).1)) (H.set id (.cells (cellR (readM (m,l,e)).2)))
  | _,_,_=>False
set_option maxHeartbeats 2000000 in
theorem ok_readMatch:EntOk Tryz.prog 233 (Ent.effect e_readMatch):=by
  refine EntOk.effect fun args H K h=>?_
  unfold e_readMatch at h
  split at h
  rotate_left
  · exact h.elim
  rename_i id
  obtain ⟨m,l,e,hid,hle,h⟩:=onR_out h
  obtain ⟨hpre,hK⟩:=h
  refine ⟨_,_,hK,?_⟩
  clear hK
  have hl0:=AHeap.get_lt hid
  have hne:=far_of hl0
  have hss:=set_same hid
  have hcs:=cells_some hid
  have hcm:=fun cs=>@cells_set_same H id cs hl0
  have hgm:=fun o=>@get_set_same' H id o hl0
  have hlM:=readM_l (m,l,e)
  have hmM:=readM_m (m,l,e)
  obtain ⟨Q,hQ⟩:∃ Q,readM (m,l,e)=Q:=⟨_,rfl⟩
  rw [hQ] at hlM hmM ⊢
  unfold readM at hQ
  have hl1:=boolR_l m l e
  generalize hb:boolR (m,l,e)=q1 at *
  obtain ⟨b,m1,l1,e1⟩:=q1
  dsimp only at hQ hl1
  have hcQ:(H.set id (.cells (cellR Q.2))).Closed→True:=fun _=>trivial
  cases b
  · simp only [Bool.false_eq_true,if_false] at hQ
    subst hQ
    dsimp only at hlM hmM
    dsimp only [cellR]
    refine ACalls.of_aw (Ω:=[(96,Ent.effect e_RBool),(234,Ent.effect e_RValue),(95,Ent.effect e_Uint)]) (T:=assoc []) mixed (TblOk.cons ok_RBool (TblOk.cons ok_RValue (TblOk.cons ok_Uint TblOk.nil))) Tryz.func233 (by kernel_rfl) (by rfl) (rs:=[.cell 2 367]) (by rfl) (by kernel_rfl) (by simp only [Tryz.ntmps233,yaz,yba];decide) (by simp [zkn]) fun hcl hlt=>?_
    change aw _ _ _ (KI Tryz.prog [(96,Ent.effect e_RBool),(234,Ent.effect e_RValue),(95,Ent.effect e_Uint)] (aEnd Tryz.prog [.cell 2 367] H.nx _ _) []) _ _
    clear hlt
    have hc1:=closedR hid hcl m1 hmM l1 e1
    have v0:vv 0=.agg [.int .u64 0,.int .u64 0]:=rfl
    simp only [go_sem,zav,reduceCtorEq,Nat.reduceEqDiff,Nat.reduceAdd,Nat.reduceMul,Nat.reduceSub,Nat.reduceLeDiff,Nat.reduceLT,Int.reduceMul,Int.reduceAdd,Int.reduceSub,Int.reduceToNat,byq,hne,hid,hcs,hcm,hgm,onR,onRo_some,onRo_nil,zlj,zlh,zks,and_true,true_and,hid,e_RBool,hb,cellR,matchAV,matchC,noMatch,vc,vv,yal,yak]
    simp (disch:=first | assumption | omega | (simp;done) | (simp;omega) | (simp only [bt,and_true];first | done | omega | (simp;done))) [↓zlw,beq,ybc,ybd,ybe,endOk,wk,wk2,wk1,wkM,wkL,wkLL,ybf,hss,hl0,hcl,hc1,hle]
  · simp only [if_true] at hQ
    have hl2:=valueR_l m1 l1 e1
    generalize h2:valueR (m1,l1,e1)=q2 at *
    obtain ⟨v,m2,l2,e2⟩:=q2
    dsimp only at hQ hl2
    have hl3:=valueR_l m2 l2 e2
    generalize h3:valueR (m2,l2,e2)=q3 at *
    obtain ⟨k,m3,l3,e3⟩:=q3
    dsimp only at hQ hl3
    have hl4:=uintR_l m3 l3 e3 1
    generalize h4:uintR (m3,l3,e3) 1=q4 at *
    obtain ⟨p,m4,l4,e4⟩:=q4
    dsimp only at hQ hl4
    have hl5:=valueR_l m4 l4 e4
    generalize h5:valueR (m4,l4,e4)=q5 at *
    obtain ⟨hi,m5,l5,e5⟩:=q5
    dsimp only at hQ hl5
    subst hQ
    dsimp only at hlM hmM
    dsimp only [cellR]
    refine ACalls.of_aw (Ω:=[(96,Ent.effect e_RBool),(234,Ent.effect e_RValue),(95,Ent.effect e_Uint)]) (T:=assoc []) mixed (TblOk.cons ok_RBool (TblOk.cons ok_RValue (TblOk.cons ok_Uint TblOk.nil))) Tryz.func233 (by kernel_rfl) (by rfl) (rs:=[.cell 2 367]) (by rfl) (by kernel_rfl) (by simp only [Tryz.ntmps233,yaz,yba];decide) (by simp [zkn]) fun hcl hlt=>?_
    change aw _ _ _ (KI Tryz.prog [(96,Ent.effect e_RBool),(234,Ent.effect e_RValue),(95,Ent.effect e_Uint)] (aEnd Tryz.prog [.cell 2 367] H.nx _ _) []) _ _
    clear hlt
    have hc1:=closedR hid hcl m5 hmM l5 e5
    have b1:l1.length≤100000:=by omega
    have b2:l2.length≤100000:=by omega
    have b3:l3.length≤100000:=by omega
    have b4:l4.length≤100000:=by omega
    simp only [go_sem,zav,reduceCtorEq,Nat.reduceEqDiff,Nat.reduceAdd,Nat.reduceMul,Nat.reduceSub,Nat.reduceLeDiff,Nat.reduceLT,Int.reduceMul,Int.reduceAdd,Int.reduceSub,Int.reduceToNat,byq,hne,hid,hcs,hcm,hgm,onR,onRo_some,onRo_nil,zlj,zlh,zks,and_true,true_and,hid,e_RBool,e_RValue,e_Uint,hb,h2,h3,h4,h5,b1,b2,b3,b4,cellR,matchAV,matchC,vv,vc,yal,yak]
    simp (disch:=first | assumption | omega | (simp;done) | (simp;omega) | (simp only [bt,and_true];first | done | omega | (simp;done))) [↓zlw,beq,ybc,ybd,ybe,endOk,wk,wk2,wk1,wkM,wkL,wkLL,ybf,hss,hl0,hcl,hc1,hle]
end Go.AL


open Go Go.AL Go.Proofs
namespace Go.AL
set_option linter.all false
set_option maxRecDepth 10000

theorem readMs_l:∀ (k:Nat) (s:RS),(readMs k s).2.2.1.length≤s.2.1.length
  | 0,s=>Nat.le_refl _
  | k+1,s=>Nat.le_trans (readMs_l k (readM s).2) (readM_l s)
theorem readMs_m:∀ (k:Nat) (s:RS),mkOk s.1 (readMs k s).2.1
  | 0,s=>.inl rfl
  | k+1,s=>mkOk_trans (readM_m s) (readMs_m k (readM s).2)
theorem readMs_n:∀ (k:Nat) (s:RS),(readMs k s).1.length=k
  | 0,s=>rfl
  | k+1,s=>by unfold readMs;rw [yaz,readMs_n k]
theorem readVs_l:∀ (k:Nat) (s:RS),(readVs k s).2.2.1.length≤s.2.1.length
  | 0,s=>Nat.le_refl _
  | k+1,s=>Nat.le_trans (readVs_l k (valueR s).2) (valueR_l s.1 s.2.1 s.2.2)
theorem readVs_m:∀ (k:Nat) (s:RS),mkOk s.1 (readVs k s).2.1
  | 0,s=>.inl rfl
  | k+1,s=>mkOk_trans (valueR_m s.1 s.2.1 s.2.2) (readVs_m k (valueR s).2)
theorem readVs_n:∀ (k:Nat) (s:RS),(readVs k s).1.length=k
  | 0,s=>rfl
  | k+1,s=>by unfold readVs;rw [yaz,readVs_n k]
theorem countR_b (s:RS) (n:Int) (hn:0≤n):0≤(countR s n).1∧(countR s n).1≤n:=by
  unfold countR
  repeat' split
  all_goals (dsimp only;omega)
theorem readE0_l (s:RS):(readE0 s).2.2.1.length≤s.2.1.length:=by
  obtain ⟨m,l,e⟩:=s
  unfold readE0
  dsimp only
  refine Nat.le_trans (readVs_l _ _) (Nat.le_trans (countR_l _ _ _ _) (Nat.le_trans (uintR_l _ _ _ _) (Nat.le_trans (uintR_l _ _ _ _) (Nat.le_trans (readMs_l _ _) (Nat.le_trans (countR_l _ _ _ _) (uintR_l _ _ _ _))))))
theorem readE0_m (s:RS):mkOk s.1 (readE0 s).2.1:=by
  obtain ⟨m,l,e⟩:=s
  unfold readE0
  dsimp only
  exact mkOk_trans (mkOk_trans (mkOk_trans (mkOk_trans (mkOk_trans (mkOk_trans (uintR_m _ _ _ _) (countR_m _ _ _ _)) (readMs_m _ _)) (uintR_m _ _ _ _)) (uintR_m _ _ _ _)) (countR_m _ _ _ _)) (readVs_m _ _)
theorem readE_2 (s:RS):(readE s).2=(readE0 s).2:=by unfold readE;split<;>rfl
theorem cells_match (x:SMatch):(matchAV x).cells.length=8:=rfl
theorem one_match (x:SMatch):allOne (matchAV x).cells=true:=rfl
theorem cells_vv (x:Nat):(vv x).cells.length=2:=rfl
theorem one_vv (x:Nat):allOne (vv x).cells=true:=rfl
theorem closed_E {H:AHeap} (h:H.Closed) {z c:List AV} {a b p q:Nat} (hz:ltL (H.nx+1) z) (hc:ltL (H.nx+1+1+1+1) c):((((H.push (.cells z)).push (.cells c)).push (.buf a p)).push (.buf b q)).Closed:=by
  have h1:=closed_set (i:=H.nx+1) (cs:=c) (closed_buf (a:=b) (b:=q) (closed_buf (a:=a) (b:=p) (closed_cells (cs:=[]) (closed_cells (cs:=z) h hz) trivial))) (by simpa only [zkm] using hc)
  simp only [go_sem] at h1
  simpa using h1
def e_eRead:List AV→AHeap→(AEnd→AHeap→Prop)→Prop
  | [.ptr id 0],H,K=>onR H id fun m l e=>True∧K (.ret (entryAV (readE (m,l,e)).1)) (H.set id (.cells (cellR (readE (m,l,e)).2)))
  | _,_,_=>False
set_option maxHeartbeats 4000000 in
theorem ok_eRead:EntOk Tryz.prog 98 (Ent.effect e_eRead):=by
  refine EntOk.effect fun args H K h=>?_
  unfold e_eRead at h
  split at h
  rotate_left
  · exact h.elim
  rename_i id
  obtain ⟨m,l,e,hid,hle,h⟩:=onR_out h
  obtain ⟨hpre,hK⟩:=h
  refine ⟨_,_,hK,?_⟩
  clear hK
  have hl0:=AHeap.get_lt hid
  have hne:=far_of hl0
  have hss:=set_same hid
  have hcs:=cells_some hid
  have hcm:=fun cs=>@cells_set_same H id cs hl0
  have hgm:=fun o=>@get_set_same' H id o hl0
  obtain ⟨Q,hQ⟩:∃ Q,readE (m,l,e)=Q:=⟨_,rfl⟩
  rw [hQ]
  have hclR:∀ s:RS,mkOk m s.1→(H.set id (.cells (cellR s))).Closed→True:=fun _ _ _=>trivial
  have hQ2:=readE_2 (m,l,e)
  rw [hQ] at hQ2
  unfold readE at hQ
  have hlQ:=readE0_l (m,l,e)
  have hmQ:=readE0_m (m,l,e)
  obtain ⟨Q0,hQ0⟩:∃ Q0,readE0 (m,l,e)=Q0:=⟨_,rfl⟩
  rw [hQ0] at hQ hQ2 hlQ hmQ
  unfold readE0 at hQ0
  dsimp only at hQ0
  have hl1:=uintR_l m l e 2
  have hm1:=uintR_m m l e 2
  generalize h1:uintR (m,l,e) 2=q1 at *
  obtain ⟨t,m1,l1,e1⟩:=q1
  dsimp only at hQ0 hl1 hm1
  have hl2:=countR_l m1 l1 e1 4
  have hm2:=mkOk_trans hm1 (countR_m m1 l1 e1 4)
  have hc2:=countR_b (m1,l1,e1) 4 (by decide)
  generalize h2:countR (m1,l1,e1) 4=q2 at *
  obtain ⟨c,m2,l2,e2⟩:=q2
  dsimp only at hQ0 hl2 hm2 hc2
  obtain ⟨kc,rfl⟩:∃ kc:Nat,c=(kc:Int):=⟨c.toNat,by omega⟩
  rw [Int.toNat_natCast] at hQ0
  have hl3:=readMs_l kc (m2,l2,e2)
  have hm3:=mkOk_trans hm2 (readMs_m kc (m2,l2,e2))
  have hn3:=readMs_n kc (m2,l2,e2)
  generalize h3:readMs kc (m2,l2,e2)=q3 at *
  obtain ⟨ms,m3,l3,e3⟩:=q3
  dsimp only at hQ0 hl3 hm3 hn3
  have hl4:=uintR_l m3 l3 e3 2
  have hm4:=mkOk_trans hm3 (uintR_m m3 l3 e3 2)
  generalize h4:uintR (m3,l3,e3) 2=q4 at *
  obtain ⟨p,m4,l4,e4⟩:=q4
  dsimp only at hQ0 hl4 hm4
  have hl5:=uintR_l m4 l4 e4 2
  have hm5:=mkOk_trans hm4 (uintR_m m4 l4 e4 2)
  generalize h5:uintR (m4,l4,e4) 2=q5 at *
  obtain ⟨a,m5,l5,e5⟩:=q5
  dsimp only at hQ0 hl5 hm5
  have hl6:=countR_l m5 l5 e5 4
  have hm6:=mkOk_trans hm5 (countR_m m5 l5 e5 4)
  have hc6:=countR_b (m5,l5,e5) 4 (by decide)
  generalize h6:countR (m5,l5,e5) 4=q6 at *
  obtain ⟨d,m6,l6,e6⟩:=q6
  dsimp only at hQ0 hl6 hm6 hc6
  obtain ⟨kd,rfl⟩:∃ kd:Nat,d=(kd:Int):=⟨d.toNat,by omega⟩
  rw [Int.toNat_natCast] at hQ0
  have hl7:=readVs_l kd (m6,l6,e6)
  have hm7:=mkOk_trans hm6 (readVs_m kd (m6,l6,e6))
  have hn7:=readVs_n kd (m6,l6,e6)
  generalize h7:readVs kd (m6,l6,e6)=q7 at *
  obtain ⟨vs,m7,l7,e7⟩:=q7
  dsimp only at hQ0 hl7 hm7 hn7
  subst hQ0
  dsimp only at hQ hQ2 hlQ hmQ
  rw [hQ2]
  dsimp only [cellR]
  refine ACalls.of_aw (Ω:=[(95,Ent.effect e_Uint),(97,Ent.effect e_RCount),(233,Ent.effect e_readMatch),(234,Ent.effect e_RValue),(235,Ent.pure p_RErr)]) (T:=assoc [(4,[[],[],[],[],[3],[1,3],[],[1,3]]),(10,[[],[],[],[],[3],[1,3],[],[1,3]]),(1,[[13,1]])]) mixed (TblOk.cons ok_Uint (TblOk.cons ok_RCount (TblOk.cons ok_readMatch (TblOk.cons ok_RValue (TblOk.cons ok_RErr TblOk.nil))))) Tryz.func98 (by kernel_rfl) (by rfl) (rs:=[.cell 2 199]) (by rfl) (by kernel_rfl) (by simp only [Tryz.ntmps98,yaz,yba];decide) (by simp [zkn]) fun hcl hlt=>?_
  change aw _ _ _ (KI Tryz.prog [(95,Ent.effect e_Uint),(97,Ent.effect e_RCount),(233,Ent.effect e_readMatch),(234,Ent.effect e_RValue),(235,Ent.pure p_RErr)] (aEnd Tryz.prog [.cell 2 199] H.nx _ _ (assoc [(4,[[],[],[],[],[3],[1,3],[],[1,3]]),(10,[[],[],[],[],[3],[1,3],[],[1,3]]),(1,[[13,1]])])) []) _ _
  clear hlt
  have b1:l1.length≤100000:=by omega
  have b2:l2.length≤100000:=by omega
  have b3:l3.length≤100000:=by omega
  have b4:l4.length≤100000:=by omega
  have b5:l5.length≤100000:=by omega
  have b6:l6.length≤100000:=by omega
  have b7:l7.length≤100000:=by omega
  simp only [blkE,blkP,bhq,Nat.reduceMod,Nat.reduceDiv,stepH,stepM,toMs1,toMs,toMs0,strK,pubK,pubF,pubV,yaq,yar,yao,yap,go_sem,byq,hne,hid,hcs,hcm,hgm,onR,onRo_some,onRo_nil,zlj,zlh,zks,and_true,true_and,hid,e_Uint,e_RCount,h1,b1,cellR]
  refine ⟨hle,?_⟩
  refine weak_nil 6 1 8 _ rfl rfl ?_
  simp only [blkE,blkP,bhq,Nat.reduceMod,Nat.reduceDiv,stepH,stepM,toMs1,toMs,toMs0,strK,pubK,pubF,pubV,yaq,yar,yao,yap,go_sem,byq,hne,hid,hcs,hcm,hgm,onR,onRo_some,onRo_nil,zlj,zlh,zks,and_true,true_and,hid,e_Uint,e_RCount,h1,b1,cellR,List.set_cons_succ,List.set_cons_zero]
  refine weak_nil 6 4 2 _ rfl rfl ?_
  simp only [blkE,blkP,bhq,Nat.reduceMod,Nat.reduceDiv,stepH,stepM,toMs1,toMs,toMs0,strK,pubK,pubF,pubV,yaq,yar,yao,yap,go_sem,byq,hne,hid,hcs,hcm,hgm,onR,onRo_some,onRo_nil,zlj,zlh,zks,and_true,true_and,hid,e_Uint,e_RCount,h1,h2,b1,cellR,List.set_cons_succ,List.set_cons_zero]
  obtain ⟨HL,hHL⟩:∃ HL:RS→List AV→Nat→Nat→AHeap,HL=fun s c n1 n2=>((((H.set id (.cells [.slice s.1 1 (bys s.2.1),.int .i64 s.2.2])).push (.cells [.int .i64 0,.slice .nil 1 [],.int .i64 0,.int .i64 0,.slice .nil 1 []])).push (.cells c)).push (.buf 8 n1)).push (.buf 2 n2):=⟨_,rfl⟩
  obtain ⟨EC,hEC⟩:∃ EC:List SMatch→Int→Int→List Nat→List AV,EC=fun ms p a vs=>[.int .i64 t,.slice (.own (H.nx+1+1)) 8 (ms.map matchAV),.int .i64 p,.int .i64 a,.slice (.own (H.nx+1+1+1)) 2 (vs.map vv)]:=⟨_,rfl⟩
  have hclL:∀ (s:RS) ms p a vs n1 n2,mkOk m s.1→(HL s (EC ms p a vs) n1 n2).Closed:=fun s ms p a vs n1 n2 hs=>by
    rw [hHL,hEC]
    refine closed_E (closedR hid hcl s.1 hs s.2.1 s.2.2) (by simp [znc,znd,zmn,lt_sliceL]) ?_
    simp only [znc,znd,zmn,and_true,true_and,zkn]
    exact ⟨lt_sliceL.mpr ⟨fun id h=>(by cases h;omega),ltL_iff.2 fun j hj=>by obtain ⟨x,_,e⟩:=List.mem_map.1 (List.getElem_mem hj);rw [← e];exact lt_match x⟩,
      lt_sliceL.mpr ⟨fun id h=>(by cases h;omega),ltL_iff.2 fun j hj=>by obtain ⟨x,_,e⟩:=List.mem_map.1 (List.getElem_mem hj);rw [← e];simp [vv,vc,zmz,znc,znd,zmn]⟩⟩
  refine loop_introW (A:=List SMatch × RS) (fun x=>[(0,.ptr id 0),(2,.ptr H.nx 0),(3,.ptr (H.nx+1) 0),(8,.int .i64 (kc:Int)),(9,.int .i64 (x.1.length:Int))]) (fun x=>HL x.2 (EC x.1 0 0 []) x.1.length 0) (fun x=>x.1.length≤kc∧x.1++(readMs (kc - x.1.length) x.2).1=ms∧(readMs (kc - x.1.length) x.2).2=(m3,l3,e3)∧x.2.2.1.length≤l2.length∧mkOk m x.2.1) (fun x=>kc - x.1.length) ([],(m2,l2,e2)) ⟨by simp,by simp [h3],by simp [h3],Nat.le_refl _,hm2⟩ ?_ fun x hx=>?_
  · rw [hHL,hEC]
    refine ⟨by simp only [zkm,zkn,zjy,zkd];omega,AHeap.Le.refl _,by have:=hclL (m2,l2,e2) [] 0 0 [] 0 0 hm2;rw [hHL,hEC] at this;exact this,?_,?_⟩
    · simp [ltF,zkm,zkn,zmv,zmn]
      omega
    · simp [subW,wk2,wk1,wkM,Fr.get]
  obtain ⟨ys,my,ly,ey⟩:=x
  obtain ⟨y1,y2,y3,y4,y5⟩:=hx
  dsimp only at y1 y2 y3 y4 y5 ⊢
  have by0:ly.length≤100000:=by omega
  simp only [go_sem]
  refine cond_split (fun hc=>?_) (fun hc=>?_)
  · have hk':ys.length<kc:=by simp at hc;omega
    have e5:IntKind.i64.wrap ((ys.length:Int)+1)=((ys.length+1:Nat):Int):=by rw [wrap_i64]<;>omega
    have hsub:kc - ys.length=(kc - (ys.length+1))+1:=by omega
    rw [hsub] at y2 y3
    unfold readMs at y2 y3
    dsimp only at y2 y3
    have lM:=readM_l (my,ly,ey)
    have mM:=mkOk_trans y5 (readM_m (my,ly,ey))
    generalize hM:readM (my,ly,ey)=q at *
    obtain ⟨x,mx,lx,ex⟩:=q
    dsimp only at y2 y3 lM mM
    rw [hHL,hEC]
    have hz:∀ z∈[matchAV x],allOne z.cells=true:=fun z hz=>by rw [List.mem_singleton.1 hz];rfl
    simp only [blkE,blkP,bhq,Nat.reduceMod,Nat.reduceDiv,stepH,stepM,toMs1,toMs,toMs0,strK,pubK,pubF,pubV,yaq,yar,yao,yap,go_sem,byq,hne,hid,hcs,hcm,hgm,onR,onRo_some,onRo_nil,zlj,zlh,zks,and_true,true_and,hid,e_readMatch,hM,by0,cellR,ybb,e5,cells_match,one_match]
    (repeat with_reducible refine And.intro (by first | assumption | decide | omega | exact ⟨by omega,by omega,hz⟩) ?_)
    have hn1:(ys++[x]).length=ys.length+1:=by simp
    have hcl1:=hclL (mx,lx,ex) (ys++[x]) 0 0 [] (ys.length+1) 0 mM
    rw [hHL,hEC] at hcl1
    refine ⟨(ys++[x],(mx,lx,ex)),⟨by dsimp only;omega,by dsimp only;rw [hn1,List.append_assoc];exact y2,by dsimp only;rw [hn1];exact y3,by dsimp only;omega,mM⟩,by dsimp only;omega,?_⟩
    dsimp only
    rw [hn1]
    rw [List.map_append,yae,yaf]
    dsimp only at hcl1
    rw [List.map_append,yae,yaf] at hcl1
    refine ⟨by simp only [zkm,zkn];omega,by repeat (first | exact AHeap.Le.refl _ | refine AHeap.Le.push ?_ _),hcl1,?_,?_⟩
    · simp [ltF,zkm,zkn,zmv,zmn]
      omega
    · simp [subW,wk2,wk1,wkM,Fr.get]
  have hk':ys.length=kc:=by simp at hc;omega
  rw [hk',Nat.sub_self] at y2 y3
  simp only [readMs,yaj] at y2 y3
  subst y2
  cases y3
  rw [hHL,hEC]
  simp only [blkE,blkP,bhq,Nat.reduceMod,Nat.reduceDiv,stepH,stepM,toMs1,toMs,toMs0,strK,pubK,pubF,pubV,yaq,yar,yao,yap,go_sem,byq,hne,hid,hcs,hcm,hgm,onR,onRo_some,onRo_nil,zlj,zlh,zks,and_true,true_and,hid,e_Uint,e_RCount,h4,h5,h6,b3,b4,b5,by0,cellR,ybb]
  refine loop_introW (A:=List Nat × RS) (fun x=>[(0,.ptr id 0),(2,.ptr H.nx 0),(3,.ptr (H.nx+1) 0),(26,.int .i64 (kd:Int)),(27,.int .i64 (x.1.length:Int))]) (fun x=>HL x.2 (EC ys p a x.1) ys.length x.1.length) (fun x=>x.1.length≤kd∧x.1++(readVs (kd - x.1.length) x.2).1=vs∧(readVs (kd - x.1.length) x.2).2=(m7,l7,e7)∧x.2.2.1.length≤l6.length∧mkOk m x.2.1) (fun x=>kd - x.1.length) ([],(m6,l6,e6)) ⟨by simp,by simp [h7],by simp [h7],Nat.le_refl _,hm6⟩ ?_ fun x hx=>?_
  · rw [hHL,hEC]
    refine ⟨by simp only [zkm,zkn,zjy,zkd];omega,AHeap.Le.refl _,by have:=hclL (m6,l6,e6) ys p a [] ys.length 0 hm6;rw [hHL,hEC] at this;exact this,?_,?_⟩
    · simp [ltF,zkm,zkn,zmv,zmn]
      omega
    · simp [subW,wk2,wk1,wkM,Fr.get]
  obtain ⟨zs,mz,lz,ez⟩:=x
  obtain ⟨z1,z2,z3,z4,z5⟩:=hx
  dsimp only at z1 z2 z3 z4 z5 ⊢
  have bz0:lz.length≤100000:=by omega
  simp only [go_sem]
  refine cond_split (fun hc=>?_) (fun hc=>?_)
  · have hk':zs.length<kd:=by simp at hc;omega
    have e5:IntKind.i64.wrap ((zs.length:Int)+1)=((zs.length+1:Nat):Int):=by rw [wrap_i64]<;>omega
    have hsub:kd - zs.length=(kd - (zs.length+1))+1:=by omega
    rw [hsub] at z2 z3
    unfold readVs at z2 z3
    dsimp only at z2 z3
    have lM:=valueR_l mz lz ez
    have mM:=mkOk_trans z5 (valueR_m mz lz ez)
    generalize hM:valueR (mz,lz,ez)=q at *
    obtain ⟨x,mx,lx,ex⟩:=q
    dsimp only at z2 z3 lM mM
    rw [hHL,hEC]
    have hz:∀ z∈[vv x],allOne z.cells=true:=fun z hz=>by rw [List.mem_singleton.1 hz];rfl
    simp only [blkE,blkP,bhq,Nat.reduceMod,Nat.reduceDiv,stepH,stepM,toMs1,toMs,toMs0,strK,pubK,pubF,pubV,yaq,yar,yao,yap,go_sem,byq,hne,hid,hcs,hcm,hgm,onR,onRo_some,onRo_nil,zlj,zlh,zks,and_true,true_and,hid,e_RValue,hM,bz0,cellR,ybb,e5,cells_vv,one_vv]
    (repeat with_reducible refine And.intro (by first | assumption | decide | omega | exact ⟨by omega,by omega,hz⟩) ?_)
    have hn1:(zs++[x]).length=zs.length+1:=by simp
    have hcl1:=hclL (mx,lx,ex) ys p a (zs++[x]) ys.length (zs.length+1) mM
    rw [hHL,hEC] at hcl1
    refine ⟨(zs++[x],(mx,lx,ex)),⟨by dsimp only;omega,by dsimp only;rw [hn1,List.append_assoc];exact z2,by dsimp only;rw [hn1];exact z3,by dsimp only;omega,mM⟩,by dsimp only;omega,?_⟩
    dsimp only
    rw [hn1]
    rw [List.map_append,yae,yaf]
    dsimp only at hcl1
    rw [List.map_append,yae,yaf] at hcl1
    refine ⟨by simp only [zkm,zkn];omega,by repeat (first | exact AHeap.Le.refl _ | refine AHeap.Le.push ?_ _),hcl1,?_,?_⟩
    · simp [ltF,zkm,zkn,zmv,zmn]
      omega
    · simp [subW,wk2,wk1,wkM,Fr.get]
  have hk2:zs.length=kd:=by simp at hc;omega
  rw [hk2,Nat.sub_self] at z2 z3
  simp only [readVs,yaj] at z2 z3
  subst z2
  cases z3
  rw [hHL,hEC]
  have hclE:=closedR hid hcl m7 hm7 l7 e7
  by_cases h0:e7=0
  · subst h0
    rw [if_pos rfl] at hQ
    subst hQ
    have d0:((0:Int) != 0)=false:=rfl
    simp only [blkE,blkP,bhq,Nat.reduceMod,Nat.reduceDiv,stepH,stepM,toMs1,toMs,toMs0,strK,pubK,pubF,pubV,yaq,yar,yao,yap,go_sem,byq,hne,hid,hcs,hcm,hgm,onR,onRo_some,onRo_nil,zlj,zlh,zks,and_true,true_and,hid,p_RErr,bz0,cellR,ybb,d0]
    refine ⟨⟨rfl,.inl ⟨.inl rfl,rfl,rfl⟩,rfl,rfl,.inl ⟨.inl rfl,rfl,rfl⟩,trivial⟩,by repeat (first | exact AHeap.Le.refl _ | refine AHeap.Le.push ?_ _),hclE,lt_entry _⟩
  · rw [if_neg h0] at hQ
    subst hQ
    have d0:(e7 != 0)=true:=by simpa using h0
    simp only [blkE,blkP,bhq,Nat.reduceMod,Nat.reduceDiv,stepH,stepM,toMs1,toMs,toMs0,strK,pubK,pubF,pubV,yaq,yar,yao,yap,go_sem,byq,hne,hid,hcs,hcm,hgm,onR,onRo_some,onRo_nil,zlj,zlh,zks,and_true,true_and,hid,p_RErr,bz0,cellR,ybb,d0]
    refine ⟨⟨rfl,.inr ⟨rfl,rfl,rfl,rfl⟩,rfl,rfl,.inr ⟨rfl,rfl,rfl,rfl⟩,trivial⟩,by repeat (first | exact AHeap.Le.refl _ | refine AHeap.Le.push ?_ _),hclE,lt_entry _⟩
end Go.AL


open Go Go.AL Go.Proofs
namespace Go.AL
set_option linter.all false
set_option maxRecDepth 10000

def e_rRead10:List AV→AHeap→(AEnd→AHeap→Prop)→Prop
  | [.ptr id 0],H,K=>onR H id fun m l e=>True∧K (.ret (entryAV (readE (m,l,e)).1)) (H.set id (.cells (cellR (readE (m,l,e)).2)))
  | _,_,_=>False
set_option maxHeartbeats 4000000 in
theorem ok_rRead10:EntOk Tryz.prog 105 (Ent.effect e_rRead10):=by
  refine EntOk.effect fun args H K h=>?_
  unfold e_rRead10 at h
  split at h
  rotate_left
  · exact h.elim
  rename_i id
  obtain ⟨m,l,e,hid,hle,h⟩:=onR_out h
  obtain ⟨hpre,hK⟩:=h
  refine ⟨_,_,hK,?_⟩
  clear hK
  have hl0:=AHeap.get_lt hid
  have hne:=far_of hl0
  have hss:=set_same hid
  have hcs:=cells_some hid
  have hcm:=fun cs=>@cells_set_same H id cs hl0
  have hgm:=fun o=>@get_set_same' H id o hl0
  obtain ⟨Q,hQ⟩:∃ Q,readE (m,l,e)=Q:=⟨_,rfl⟩
  rw [hQ]
  have hclR:∀ s:RS,mkOk m s.1→(H.set id (.cells (cellR s))).Closed→True:=fun _ _ _=>trivial
  have hQ2:=readE_2 (m,l,e)
  rw [hQ] at hQ2
  unfold readE at hQ
  have hlQ:=readE0_l (m,l,e)
  have hmQ:=readE0_m (m,l,e)
  obtain ⟨Q0,hQ0⟩:∃ Q0,readE0 (m,l,e)=Q0:=⟨_,rfl⟩
  rw [hQ0] at hQ hQ2 hlQ hmQ
  unfold readE0 at hQ0
  dsimp only at hQ0
  have hl1:=uintR_l m l e 2
  have hm1:=uintR_m m l e 2
  generalize h1:uintR (m,l,e) 2=q1 at *
  obtain ⟨t,m1,l1,e1⟩:=q1
  dsimp only at hQ0 hl1 hm1
  have hl2:=countR_l m1 l1 e1 4
  have hm2:=mkOk_trans hm1 (countR_m m1 l1 e1 4)
  have hc2:=countR_b (m1,l1,e1) 4 (by decide)
  generalize h2:countR (m1,l1,e1) 4=q2 at *
  obtain ⟨c,m2,l2,e2⟩:=q2
  dsimp only at hQ0 hl2 hm2 hc2
  obtain ⟨kc,rfl⟩:∃ kc:Nat,c=(kc:Int):=⟨c.toNat,by omega⟩
  rw [Int.toNat_natCast] at hQ0
  have hl3:=readMs_l kc (m2,l2,e2)
  have hm3:=mkOk_trans hm2 (readMs_m kc (m2,l2,e2))
  have hn3:=readMs_n kc (m2,l2,e2)
  generalize h3:readMs kc (m2,l2,e2)=q3 at *
  obtain ⟨ms,m3,l3,e3⟩:=q3
  dsimp only at hQ0 hl3 hm3 hn3
  have hl4:=uintR_l m3 l3 e3 2
  have hm4:=mkOk_trans hm3 (uintR_m m3 l3 e3 2)
  generalize h4:uintR (m3,l3,e3) 2=q4 at *
  obtain ⟨p,m4,l4,e4⟩:=q4
  dsimp only at hQ0 hl4 hm4
  have hl5:=uintR_l m4 l4 e4 2
  have hm5:=mkOk_trans hm4 (uintR_m m4 l4 e4 2)
  generalize h5:uintR (m4,l4,e4) 2=q5 at *
  obtain ⟨a,m5,l5,e5⟩:=q5
  dsimp only at hQ0 hl5 hm5
  have hl6:=countR_l m5 l5 e5 4
  have hm6:=mkOk_trans hm5 (countR_m m5 l5 e5 4)
  have hc6:=countR_b (m5,l5,e5) 4 (by decide)
  generalize h6:countR (m5,l5,e5) 4=q6 at *
  obtain ⟨d,m6,l6,e6⟩:=q6
  dsimp only at hQ0 hl6 hm6 hc6
  obtain ⟨kd,rfl⟩:∃ kd:Nat,d=(kd:Int):=⟨d.toNat,by omega⟩
  rw [Int.toNat_natCast] at hQ0
  have hl7:=readVs_l kd (m6,l6,e6)
  have hm7:=mkOk_trans hm6 (readVs_m kd (m6,l6,e6))
  have hn7:=readVs_n kd (m6,l6,e6)
  generalize h7:readVs kd (m6,l6,e6)=q7 at *
  obtain ⟨vs,m7,l7,e7⟩:=q7
  dsimp only at hQ0 hl7 hm7 hn7
  subst hQ0
  dsimp only at hQ hQ2 hlQ hmQ
  rw [hQ2]
  dsimp only [cellR]
  refine ACalls.of_aw (Ω:=[(102,Ent.effect e_xUint),(104,Ent.effect e_xCount),(103,Ent.effect e_xBool),(238,Ent.effect e_xValue)]) (T:=assoc [(17,[[],[],[],[],[3],[1,3],[],[1,3]]),(1,[[13,1]])]) mixed (TblOk.cons ok_xUint (TblOk.cons ok_xCount (TblOk.cons ok_xBool (TblOk.cons ok_xValue TblOk.nil)))) Tryz.func105 (by kernel_rfl) (by rfl) (rs:=[.cell 2 199]) (by rfl) (by kernel_rfl) (by simp only [Tryz.ntmps105,yaz,yba];decide) (by simp [zkn]) fun hcl hlt=>?_
  change aw _ _ _ (KI Tryz.prog [(102,Ent.effect e_xUint),(104,Ent.effect e_xCount),(103,Ent.effect e_xBool),(238,Ent.effect e_xValue)] (aEnd Tryz.prog [.cell 2 199] H.nx _ _ (assoc [(17,[[],[],[],[],[3],[1,3],[],[1,3]]),(1,[[13,1]])])) []) _ _
  clear hlt
  have b1:l1.length≤100000:=by omega
  have b2:l2.length≤100000:=by omega
  have b3:l3.length≤100000:=by omega
  have b4:l4.length≤100000:=by omega
  have b5:l5.length≤100000:=by omega
  have b6:l6.length≤100000:=by omega
  have b7:l7.length≤100000:=by omega
  simp only [blkE,blkP,bhq,Nat.reduceMod,Nat.reduceDiv,stepH,stepM,toMs1,toMs,toMs0,strK,pubK,pubF,pubV,yaq,yar,yao,yap,go_sem,byq,hne,hid,hcs,hcm,hgm,onR,onRo_some,onRo_nil,zlj,zlh,zks,and_true,true_and,hid,e_xUint,e_xCount,h1,b1,cellR]
  refine ⟨hle,?_⟩
  refine weak_nil 9 1 8 _ rfl rfl ?_
  simp only [blkE,blkP,bhq,Nat.reduceMod,Nat.reduceDiv,stepH,stepM,toMs1,toMs,toMs0,strK,pubK,pubF,pubV,yaq,yar,yao,yap,go_sem,byq,hne,hid,hcs,hcm,hgm,onR,onRo_some,onRo_nil,zlj,zlh,zks,and_true,true_and,hid,e_xUint,e_xCount,h1,b1,cellR,List.set_cons_succ,List.set_cons_zero]
  refine weak_nil 9 4 2 _ rfl rfl ?_
  simp only [blkE,blkP,bhq,Nat.reduceMod,Nat.reduceDiv,stepH,stepM,toMs1,toMs,toMs0,strK,pubK,pubF,pubV,yaq,yar,yao,yap,go_sem,byq,hne,hid,hcs,hcm,hgm,onR,onRo_some,onRo_nil,zlj,zlh,zks,and_true,true_and,hid,e_xUint,e_xCount,h1,h2,b1,cellR,List.set_cons_succ,List.set_cons_zero]
  obtain ⟨HL,hHL⟩:∃ HL:RS→List AV→Nat→Nat→AHeap,HL=fun s c n1 n2=>((((H.set id (.cells [.slice s.1 1 (bys s.2.1),.int .i64 s.2.2])).push (.cells [.int .i64 0,.slice .nil 1 [],.int .i64 0,.int .i64 0,.slice .nil 1 []])).push (.cells c)).push (.buf 8 n1)).push (.buf 2 n2):=⟨_,rfl⟩
  obtain ⟨EC,hEC⟩:∃ EC:List SMatch→Int→Int→List Nat→List AV,EC=fun ms p a vs=>[.int .i64 t,.slice (.own (H.nx+1+1)) 8 (ms.map matchAV),.int .i64 p,.int .i64 a,.slice (.own (H.nx+1+1+1)) 2 (vs.map vv)]:=⟨_,rfl⟩
  have hclL:∀ (s:RS) ms p a vs n1 n2,mkOk m s.1→(HL s (EC ms p a vs) n1 n2).Closed:=fun s ms p a vs n1 n2 hs=>by
    rw [hHL,hEC]
    refine closed_E (closedR hid hcl s.1 hs s.2.1 s.2.2) (by simp [znc,znd,zmn,lt_sliceL]) ?_
    simp only [znc,znd,zmn,and_true,true_and,zkn]
    exact ⟨lt_sliceL.mpr ⟨fun id h=>(by cases h;omega),ltL_iff.2 fun j hj=>by obtain ⟨x,_,e⟩:=List.mem_map.1 (List.getElem_mem hj);rw [← e];exact lt_match x⟩,
      lt_sliceL.mpr ⟨fun id h=>(by cases h;omega),ltL_iff.2 fun j hj=>by obtain ⟨x,_,e⟩:=List.mem_map.1 (List.getElem_mem hj);rw [← e];simp [vv,vc,zmz,znc,znd,zmn]⟩⟩
  refine loop_introW (A:=List SMatch × RS) (fun x=>[(0,.ptr id 0),(2,.ptr H.nx 0),(3,.ptr (H.nx+1) 0),(4,.int .i64 ((kc - x.1.length:Nat):Int))]) (fun x=>HL x.2 (EC x.1 0 0 []) x.1.length 0) (fun x=>x.1.length≤kc∧x.1++(readMs (kc - x.1.length) x.2).1=ms∧(readMs (kc - x.1.length) x.2).2=(m3,l3,e3)∧x.2.2.1.length≤l2.length∧mkOk m x.2.1) (fun x=>kc - x.1.length) ([],(m2,l2,e2)) ⟨by simp,by simp [h3],by simp [h3],Nat.le_refl _,hm2⟩ ?_ fun x hx=>?_
  · rw [hHL,hEC]
    refine ⟨by simp only [zkm,zkn,zjy,zkd];omega,AHeap.Le.refl _,by have:=hclL (m2,l2,e2) [] 0 0 [] 0 0 hm2;rw [hHL,hEC] at this;exact this,?_,?_⟩
    · simp [ltF,zkm,zkn,zmv,zmn]
      omega
    · simp [subW,wk2,wk1,wkM,Fr.get]
  obtain ⟨ys,my,ly,ey⟩:=x
  obtain ⟨y1,y2,y3,y4,y5⟩:=hx
  dsimp only at y1 y2 y3 y4 y5 ⊢
  have by0:ly.length≤100000:=by omega
  simp only [go_sem]
  refine cond_split (fun hc=>?_) (fun hc=>?_)
  · have hk':ys.length<kc:=by simp at hc;omega
    have e5:IntKind.i64.wrap (((kc - ys.length:Nat):Int) - 1)=((kc - (ys.length+1):Nat):Int):=by rw [wrap_i64]<;>omega
    have hsub:kc - ys.length=(kc - (ys.length+1))+1:=by omega
    rw [hsub] at y2 y3
    unfold readMs at y2 y3
    dsimp only at y2 y3
    have lM:=readM_l (my,ly,ey)
    have mM:=mkOk_trans y5 (readM_m (my,ly,ey))
    generalize hM:readM (my,ly,ey)=q at *
    obtain ⟨x,mx,lx,ex⟩:=q
    dsimp only at y2 y3 lM mM
    unfold readM at hM
    have hn1:(ys++[x]).length=ys.length+1:=by simp
    have hcl1:=hclL (mx,lx,ex) (ys++[x]) 0 0 [] (ys.length+1) 0 mM
    have hz:∀ z∈[matchAV x],allOne z.cells=true:=fun z hz=>by rw [List.mem_singleton.1 hz];rfl
    rw [hHL,hEC] at hcl1 ⊢
    have la:=boolR_l my ly ey
    generalize ha:boolR (my,ly,ey)=qa at *
    obtain ⟨ba,ma,ia,ea⟩:=qa
    dsimp only at hM la
    have cF:∀ c:List AV,(H.push (.cells c)).nx=H.nx+1:=fun _=>rfl
    cases ba
    · simp only [Bool.false_eq_true,if_false] at hM
      cases hM
      simp only [matchAV,matchC,noMatch,vc,yal,yak,Nat.zero_div,Nat.zero_mod,Int.natCast_zero] at hz
      simp only [blkE,blkP,bhq,Nat.reduceMod,Nat.reduceDiv,stepH,stepM,toMs1,toMs,toMs0,strK,pubK,pubF,pubV,yaq,yar,yao,yap,go_sem,byq,hne,hid,hcs,hcm,hgm,onR,onRo_some,onRo_nil,zlj,zlh,zks,and_true,true_and,hid,e_xBool,ha,by0,cellR,ybb,e5]
      (repeat with_reducible refine And.intro (by first | assumption | decide | omega | exact ⟨by omega,by omega,hz⟩) ?_)
      refine ⟨(ys++[noMatch],(mx,lx,ex)),⟨by dsimp only;omega,by dsimp only;rw [hn1,List.append_assoc];exact y2,by dsimp only;rw [hn1];exact y3,by dsimp only;omega,mM⟩,by dsimp only;omega,?_⟩
      dsimp only
      rw [hn1]
      rw [List.map_append,yae,yaf]
      dsimp only at hcl1
      rw [List.map_append,yae,yaf] at hcl1
      refine ⟨by simp only [zkm,zkn];omega,?_,hcl1,?_,?_⟩
      · simp only [matchAV,matchC,noMatch,vc,yal,yak,Nat.zero_div,Nat.zero_mod,Int.natCast_zero]
        repeat (first | exact AHeap.Le.refl _ | refine AHeap.Le.push ?_ _)
      · simp [ltF,zkm,zkn,zmv,zmn]
        omega
      · simp [subW,wk2,wk1,wkM,Fr.get]
    · simp only [if_true] at hM
      have lb:=valueR_l ma ia ea
      generalize hb:valueR (ma,ia,ea)=qb at *
      obtain ⟨vb,mb,ib,eb⟩:=qb
      dsimp only at hM lb
      have lc:=valueR_l mb ib eb
      generalize hc':valueR (mb,ib,eb)=qc at *
      obtain ⟨vc',mc,ic,ec⟩:=qc
      dsimp only at hM lc
      have ld:=uintR_l mc ic ec 1
      generalize hd:uintR (mc,ic,ec) 1=qd at *
      obtain ⟨vd,md,id',ed⟩:=qd
      dsimp only at hM ld
      have le':=valueR_l md id' ed
      generalize he:valueR (md,id',ed)=qe at *
      obtain ⟨ve,me,ie,ee⟩:=qe
      dsimp only at hM le'
      cases hM
      have ca:ia.length≤100000:=by omega
      have cb:ib.length≤100000:=by omega
      have cc:ic.length≤100000:=by omega
      have cd:id'.length≤100000:=by omega
      simp only [matchAV,matchC,vc,yal,yak] at hz
      simp only [blkE,blkP,bhq,Nat.reduceMod,Nat.reduceDiv,stepH,stepM,toMs1,toMs,toMs0,strK,pubK,pubF,pubV,yaq,yar,yao,yap,go_sem,byq,hne,hid,hcs,hcm,hgm,onR,onRo_some,onRo_nil,zlj,zlh,zks,and_true,true_and,hid,e_xBool,e_xValue,e_xUint,ha,hb,hc',hd,he,ca,cb,cc,cd,by0,cellR,ybb,e5,vv,vc]
      (repeat with_reducible refine And.intro (by first | assumption | decide | omega | exact ⟨by omega,by omega,hz⟩) ?_)
      refine ⟨(ys++[⟨true,vb,vc',vd,ve⟩],(mx,lx,ex)),⟨by dsimp only;omega,by dsimp only;rw [hn1,List.append_assoc];exact y2,by dsimp only;rw [hn1];exact y3,by dsimp only;omega,mM⟩,by dsimp only;omega,?_⟩
      dsimp only
      rw [hn1]
      rw [List.map_append,yae,yaf]
      dsimp only at hcl1
      rw [List.map_append,yae,yaf] at hcl1
      refine ⟨by simp only [zkm,zkn];omega,?_,hcl1,?_,?_⟩
      · simp only [matchAV,matchC,noMatch,vc,yal,yak,Nat.zero_div,Nat.zero_mod,Int.natCast_zero]
        repeat (first | exact AHeap.Le.refl _ | refine AHeap.Le.push ?_ _)
      · simp [ltF,zkm,zkn,zmv,zmn]
        omega
      · simp [subW,wk2,wk1,wkM,Fr.get]
  have hk':ys.length=kc:=by simp at hc;omega
  rw [hk',Nat.sub_self] at y2 y3
  simp only [readMs,yaj] at y2 y3
  subst y2
  cases y3
  rw [hHL,hEC]
  simp only [blkE,blkP,bhq,Nat.reduceMod,Nat.reduceDiv,stepH,stepM,toMs1,toMs,toMs0,strK,pubK,pubF,pubV,yaq,yar,yao,yap,go_sem,byq,hne,hid,hcs,hcm,hgm,onR,onRo_some,onRo_nil,zlj,zlh,zks,and_true,true_and,hid,e_xUint,e_xCount,h4,h5,h6,b3,b4,b5,by0,cellR,ybb]
  refine loop_introW (A:=List Nat × RS) (fun x=>[(0,.ptr id 0),(2,.ptr H.nx 0),(3,.ptr (H.nx+1) 0),(6,.int .i64 ((kd - x.1.length:Nat):Int))]) (fun x=>HL x.2 (EC ys p a x.1) ys.length x.1.length) (fun x=>x.1.length≤kd∧x.1++(readVs (kd - x.1.length) x.2).1=vs∧(readVs (kd - x.1.length) x.2).2=(m7,l7,e7)∧x.2.2.1.length≤l6.length∧mkOk m x.2.1) (fun x=>kd - x.1.length) ([],(m6,l6,e6)) ⟨by simp,by simp [h7],by simp [h7],Nat.le_refl _,hm6⟩ ?_ fun x hx=>?_
  · rw [hHL,hEC]
    refine ⟨by simp only [zkm,zkn,zjy,zkd];omega,AHeap.Le.refl _,by have:=hclL (m6,l6,e6) ys p a [] ys.length 0 hm6;rw [hHL,hEC] at this;exact this,?_,?_⟩
    · simp [ltF,zkm,zkn,zmv,zmn]
      omega
    · simp [subW,wk2,wk1,wkM,Fr.get]
  obtain ⟨zs,mz,lz,ez⟩:=x
  obtain ⟨z1,z2,z3,z4,z5⟩:=hx
  dsimp only at z1 z2 z3 z4 z5 ⊢
  have bz0:lz.length≤100000:=by omega
  simp only [go_sem]
  refine cond_split (fun hc=>?_) (fun hc=>?_)
  · have hk':zs.length<kd:=by simp at hc;omega
    have e5:IntKind.i64.wrap (((kd - zs.length:Nat):Int) - 1)=((kd - (zs.length+1):Nat):Int):=by rw [wrap_i64]<;>omega
    have hsub:kd - zs.length=(kd - (zs.length+1))+1:=by omega
    rw [hsub] at z2 z3
    unfold readVs at z2 z3
    dsimp only at z2 z3
    have lM:=valueR_l mz lz ez
    have mM:=mkOk_trans z5 (valueR_m mz lz ez)
    generalize hM:valueR (mz,lz,ez)=q at *
    obtain ⟨x,mx,lx,ex⟩:=q
    dsimp only at z2 z3 lM mM
    rw [hHL,hEC]
    have hz:∀ z∈[vv x],allOne z.cells=true:=fun z hz=>by rw [List.mem_singleton.1 hz];rfl
    simp only [blkE,blkP,bhq,Nat.reduceMod,Nat.reduceDiv,stepH,stepM,toMs1,toMs,toMs0,strK,pubK,pubF,pubV,yaq,yar,yao,yap,go_sem,byq,hne,hid,hcs,hcm,hgm,onR,onRo_some,onRo_nil,zlj,zlh,zks,and_true,true_and,hid,e_xValue,hM,bz0,cellR,ybb,e5,cells_vv,one_vv]
    (repeat with_reducible refine And.intro (by first | assumption | decide | omega | exact ⟨by omega,by omega,hz⟩) ?_)
    have hn1:(zs++[x]).length=zs.length+1:=by simp
    have hcl1:=hclL (mx,lx,ex) ys p a (zs++[x]) ys.length (zs.length+1) mM
    rw [hHL,hEC] at hcl1
    refine ⟨(zs++[x],(mx,lx,ex)),⟨by dsimp only;omega,by dsimp only;rw [hn1,List.append_assoc];exact z2,by dsimp only;rw [hn1];exact z3,by dsimp only;omega,mM⟩,by dsimp only;omega,?_⟩
    dsimp only
    rw [hn1]
    rw [List.map_append,yae,yaf]
    dsimp only at hcl1
    rw [List.map_append,yae,yaf] at hcl1
    refine ⟨by simp only [zkm,zkn];omega,by repeat (first | exact AHeap.Le.refl _ | refine AHeap.Le.push ?_ _),hcl1,?_,?_⟩
    · simp [ltF,zkm,zkn,zmv,zmn]
      omega
    · simp [subW,wk2,wk1,wkM,Fr.get]
  have hk2:zs.length=kd:=by simp at hc;omega
  rw [hk2,Nat.sub_self] at z2 z3
  simp only [readVs,yaj] at z2 z3
  subst z2
  cases z3
  rw [hHL,hEC]
  have hclE:=closedR hid hcl m7 hm7 l7 e7
  by_cases h0:e7=0
  · subst h0
    rw [if_pos rfl] at hQ
    subst hQ
    have d0:((0:Int) != 0)=false:=rfl
    simp only [blkE,blkP,bhq,Nat.reduceMod,Nat.reduceDiv,stepH,stepM,toMs1,toMs,toMs0,strK,pubK,pubF,pubV,yaq,yar,yao,yap,go_sem,byq,hne,hid,hcs,hcm,hgm,onR,onRo_some,onRo_nil,zlj,zlh,zks,and_true,true_and,hid,bz0,cellR,ybb,d0]
    refine ⟨⟨rfl,.inl ⟨.inl rfl,rfl,rfl⟩,rfl,rfl,.inl ⟨.inl rfl,rfl,rfl⟩,trivial⟩,by repeat (first | exact AHeap.Le.refl _ | refine AHeap.Le.push ?_ _),hclE,lt_entry _⟩
  · rw [if_neg h0] at hQ
    subst hQ
    have d0:(e7 != 0)=true:=by simpa using h0
    simp only [blkE,blkP,bhq,Nat.reduceMod,Nat.reduceDiv,stepH,stepM,toMs1,toMs,toMs0,strK,pubK,pubF,pubV,yaq,yar,yao,yap,go_sem,byq,hne,hid,hcs,hcm,hgm,onR,onRo_some,onRo_nil,zlj,zlh,zks,and_true,true_and,hid,bz0,cellR,ybb,d0]
    refine ⟨⟨rfl,.inr ⟨rfl,rfl,rfl,rfl⟩,rfl,rfl,.inr ⟨rfl,rfl,rfl,rfl⟩,trivial⟩,by repeat (first | exact AHeap.Le.refl _ | refine AHeap.Le.push ?_ _),hclE,lt_entry _⟩
end Go.AL


open Go Go.AL Go.Proofs
namespace Go.AL
set_option linter.all false
set_option maxRecDepth 10000

/-- what an entry must be for its encoding to be read back -/
structure WMOk (m:SMatch):Prop where
  ok:MOk m
  p0:0≤m.pfx
  p1:m.pfx≤255
  no:m.present=false→m=noMatch
structure WOk (e:SEntry):Prop where
  t0:0≤e.table
  t1:e.table≤65535
  p0:0≤e.prio
  p1:e.prio≤65535
  a0:0≤e.act
  a1:e.act≤65535
  ml:e.ms.length≤4
  al:e.args.length≤4
  mo:∀ m∈e.ms,WMOk m
  ar:∀ x∈e.args,x<2^128
end Go.AL


open Go Go.AL Go.Proofs
namespace Go.AL
set_option linter.all false
set_option maxRecDepth 10000

theorem valueR_lt' (s:RS):(valueR s).1<2^128:=valueR_lt s.1 s.2.1 s.2.2
theorem readM_ok (s:RS):MOk (readM s).1:=by
  unfold readM
  split
  · exact ⟨valueR_lt' _,valueR_lt' _,valueR_lt' _⟩
  · exact ⟨Nat.two_pow_pos 128,Nat.two_pow_pos 128,Nat.two_pow_pos 128⟩
theorem readMs_ok:∀ (k:Nat) (s:RS),∀ m∈(readMs k s).1,MOk m
  | 0,s=>by simp [readMs]
  | k+1,s=>fun m hm=>by
    unfold readMs at hm
    rcases List.mem_cons.1 hm with rfl | hm
    · exact readM_ok s
    · exact readMs_ok k _ m hm
theorem readVs_ok:∀ (k:Nat) (s:RS),∀ m∈(readVs k s).1,m<2^128
  | 0,s=>by simp [readVs]
  | k+1,s=>fun m hm=>by
    unfold readVs at hm
    rcases List.mem_cons.1 hm with rfl | hm
    · exact valueR_lt' s
    · exact readVs_ok k _ m hm
theorem readE_ok (s:RS):COk (readE s).1:=by
  unfold readE
  split
  · unfold readE0
    dsimp only
    have h1:=countR_b (uintR s 2).2 4 (by decide)
    refine ⟨⟨?_,?_,readMs_ok _ _⟩,readVs_ok _ _⟩
    · dsimp only;rw [readMs_n];omega
    · dsimp only
      rw [readVs_n]
      have h2:=countR_b (uintR (uintR (readMs (countR (uintR s 2).2 4).1.toNat (countR (uintR s 2).2 4).2).2 2).2 2).2 4 (by decide)
      omega
  · exact ⟨⟨by simp,by simp,by simp⟩,by simp⟩
/-- the entries that the generator gives can be read back -/
theorem gMatch_no {b:List UInt8} {v:Nat} {w kind:Int}:(gMatch b v w kind).1.present=false→(gMatch b v w kind).1=noMatch:=by
  unfold gMatch
  dsimp only
  repeat' split
  all_goals first | (intro _;rfl) | (intro h;cases h)
theorem gMatches_no {S:Sch} {b:List UInt8}:∀ (ks:List SKey) (v:Nat) (p:Int),∀ m∈(gMatches S b ks v p).1.1,m.present=false→m=noMatch
  | [],v,p=>by simp [gMatches]
  | k::ks,v,p=>fun m hm=>by
    unfold gMatches at hm
    dsimp only at hm
    rcases List.mem_cons.1 hm with rfl | hm
    · exact gMatch_no
    · exact gMatches_no ks _ _ m hm
/-- what is written of the generated schema -/
structure SSm (S:Sch):Prop where
  ti:∀ t∈S.tables,0≤t.id∧t.id≤65535
  ac:∀ t∈S.tables,∀ a∈t.actions,0≤a∧a≤65535
  pl:∀ a:Int,(actionL S.actions a).params.length≤2
  k3:∀ t∈S.tables,t.keys.length≤3
theorem ssm_ok (b:List UInt8) (v:Nat):SSm (gSchema b v).1 where
  ti:=fun t ht=>by
    simp only [gSchema,gTables,List.mem_cons,List.not_mem_nil,or_false] at ht
    rcases ht with rfl | rfl | rfl | rfl<;>(simp only [gTable0,gTable1,gTable2,gTable3];omega)
  ac:=fun t ht a ha=>by
    simp only [gSchema,gTables,List.mem_cons,List.not_mem_nil,or_false] at ht
    rcases ht with rfl | rfl | rfl | rfl<;>simp only [gTable0,gTable1,gTable2,gTable3,List.mem_cons,List.not_mem_nil,or_false] at ha<;>omega
  pl:=fun a=>by
    simp only [gSchema,gActions,actionL]
    repeat' split
    all_goals (simp only [yaz,yba];omega)
  k3:=(tabS_ok b v).k4
theorem gEntry_wok {S:Sch} (hG:GenS S) (hS:SSm S) {b:List UInt8} {v:Nat} {n:Int}:WOk (gEntry S b v n).1:=by
  have hE:=gEntry_ok hG (b:=b) (v:=v) (n:=n)
  have ht:=tableAt_mem (S:=S) (n:=n) hG.t1
  have h1:=hS.ti _ ht
  have h2:=hS.ac _ ht _ hE.am
  have h3:=hS.pl (gEntry S b v n).1.act
  have h4:=hS.k3 _ ht
  refine ⟨by rw [hE.tb];exact h1.1,by rw [hE.tb];exact h1.2,hE.p0,by have:=hE.p1;omega,h2.1,h2.2,by have:=hE.ml;omega,by have:=hE.al;omega,fun m hm=>?_,fun x hx=>Nat.lt_of_lt_of_le (hE.ao x hx) (by decide)⟩
  have g:=hE.mo m hm
  exact ⟨⟨Nat.lt_of_lt_of_le g.v (by decide),Nat.lt_of_lt_of_le g.k (by decide),Nat.lt_of_lt_of_le g.h (by decide)⟩,g.p0,by have:=g.p1;omega,gMatches_no _ _ _ m hm⟩
end Go.AL

