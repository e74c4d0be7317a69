/- Contracts and plain laws, a part of the proof; no condition of its own. -/
import Derived.Test.YtepgdamgklfnmaaGreatM19u
open Go Go.AL Go.Proofs
namespace Go.AL
set_option linter.all false
set_option maxRecDepth 10000

def rd1F (s:RS):SReq × RS:=let q0:=uintR s 2;let q1:=valueR q0.2;({ zReq with role:=q0.1,el:=q1.1 },q1.2)
def rd2F (s:RS):SReq × RS:=(zReq,s)
def rd4F (s:RS):SReq × RS:=let q0:=uintR s 2;let q1:=uintR q0.2 2;({ zReq with role:=q0.1,table:=q1.1 },q1.2)
def rd5F (s:RS):SReq × RS:=let q0:=uintR s 2;let q1:=uintR q0.2 4;let q2:=uintR q1.2 2;({ zReq with role:=q0.1,frm:=q1.1,count:=q2.1 },q2.2)
def rd6F (s:RS):SReq × RS:=let q0:=uintR s 2;let q1:=bytesR q0.2 320;({ zReq with port:=q0.1,data:=q1.1 },q1.2)
def e_rd1:List AV→AHeap→(AEnd→AHeap→Prop)→Prop
  | [.ptr id 0],H,K=>onR H id fun m l e=>True∧K (.ret (reqAV (rd1F (m,l,e)).1)) (H.set id (.cells (cellR (rd1F (m,l,e)).2)))
  | _,_,_=>False
set_option maxHeartbeats 2000000 in
theorem ok_rd1:EntOk Tryz.prog 93 (Ent.effect e_rd1):=by
  refine EntOk.effect fun args H K h=>?_
  unfold e_rd1 at h
  split at h
  rotate_left
  · exact h.elim
  rename_i id
  obtain ⟨m,l,e,hid,hle,h⟩:=onR_out h
  obtain ⟨hpre,hK⟩:=h
  refine ⟨_,_,hK,?_⟩
  clear hK
  have hl0:=AHeap.get_lt hid
  have hne:=far_of hl0
  have hss:=set_same hid
  have hcs:=cells_some hid
  have hcm:=fun cs=>@cells_set_same H id cs hl0
  have hgm:=fun o=>@get_set_same' H id o hl0
  obtain ⟨Q,hQ⟩:∃ Q,rd1F (m,l,e)=Q:=⟨_,rfl⟩
  rw [hQ]
  unfold rd1F at hQ
  try dsimp only at hQ
  have hl0:=uintR_l m l e 2
  have hm0:=uintR_m m l e 2
  generalize h0:uintR (m,l,e) 2=q0 at *
  obtain ⟨v0,m0,l0,e0⟩:=q0
  dsimp only at hQ hl0 hm0
  have hl1:=valueR_l m0 l0 e0
  have hm1:=valueR_m m0 l0 e0
  generalize h1:valueR (m0,l0,e0)=q1 at *
  obtain ⟨v1,m1,l1,e1⟩:=q1
  dsimp only at hQ hl1 hm1
  replace hm1:=mkOk_trans hm0 hm1
  subst hQ
  dsimp only [cellR]
  refine ACalls.of_aw (Ω:=[(94,Ent.effect e_RValue),(76,Ent.effect e_Uint)]) (T:=assoc []) mixed (TblOk.cons ok_RValue (TblOk.cons ok_Uint TblOk.nil)) Tryz.func93 (by kernel_rfl) (by rfl) (rs:=[.cell 2 28]) (by rfl) (by kernel_rfl) (by simp only [Tryz.ntmps93,List.length_cons,List.length_nil];decide) (by simp only [zkn];omega) fun hcl hlt=>?_
  change aw _ _ _ (KI Tryz.prog [(94,Ent.effect e_RValue),(76,Ent.effect e_Uint)] (aEnd Tryz.prog [.cell 2 28] H.nx _ _ (assoc [])) []) _ _
  clear hlt
  have b0:l0.length≤100000:=by omega
  have b1:l1.length≤100000:=by omega
  simp only [go_sem,byq,hne,hid,hcs,hcm,hgm,onR,onRo_some,onRo_nil,zlj,zlh,zks,and_true,true_and,hid,onR,onRo_some,cellR,vv,vc,e_RValue,e_Uint,h0,h1,b0,b1]
  have hclz:(H.set id (.cells [.slice m1 1 (bys l1),.int .i64 e1])).Closed:=closedR hid hcl m1 hm1 l1 e1
  refine ⟨hle,?_,by repeat (first | exact AHeap.Le.refl _ | refine AHeap.Le.push ?_ _),hclz,lt_req _⟩
  simp [wk,wk2,wkL,wk1,wkM,reqAV,reqC,zReq,zkt]
def e_rd2:List AV→AHeap→(AEnd→AHeap→Prop)→Prop
  | [.ptr id 0],H,K=>onR H id fun m l e=>True∧K (.ret (reqAV (rd2F (m,l,e)).1)) (H.set id (.cells (cellR (rd2F (m,l,e)).2)))
  | _,_,_=>False
set_option maxHeartbeats 2000000 in
theorem ok_rd2:EntOk Tryz.prog 97 (Ent.effect e_rd2):=by
  refine EntOk.effect fun args H K h=>?_
  unfold e_rd2 at h
  split at h
  rotate_left
  · exact h.elim
  rename_i id
  obtain ⟨m,l,e,hid,hle,h⟩:=onR_out h
  obtain ⟨hpre,hK⟩:=h
  refine ⟨_,_,hK,?_⟩
  clear hK
  have hl0:=AHeap.get_lt hid
  have hne:=far_of hl0
  have hss:=set_same hid
  have hcs:=cells_some hid
  have hcm:=fun cs=>@cells_set_same H id cs hl0
  have hgm:=fun o=>@get_set_same' H id o hl0
  obtain ⟨Q,hQ⟩:∃ Q,rd2F (m,l,e)=Q:=⟨_,rfl⟩
  rw [hQ]
  unfold rd2F at hQ
  try dsimp only at hQ
  subst hQ
  dsimp only [cellR]
  refine ACalls.of_aw (Ω:=[]) (T:=assoc []) mixed TblOk.nil Tryz.func97 (by kernel_rfl) (by rfl) (rs:=[.cell 2 28]) (by rfl) (by kernel_rfl) (by simp only [Tryz.ntmps97,List.length_cons,List.length_nil];decide) (by simp only [zkn];omega) fun hcl hlt=>?_
  change aw _ _ _ (KI Tryz.prog [] (aEnd Tryz.prog [.cell 2 28] H.nx _ _ (assoc [])) []) _ _
  clear hlt
  simp only [go_sem,byq,hne,hid,hcs,hcm,hgm,onR,onRo_some,onRo_nil,zlj,zlh,zks,and_true,true_and,hid,onR,onRo_some,cellR,vv,vc]
  have hclz:(H.set id (.cells [.slice m 1 (bys l),.int .i64 e])).Closed:=closedR hid hcl m (.inl rfl) l e
  refine ⟨?_,by rw [hss];repeat (first | exact AHeap.Le.refl _ | refine AHeap.Le.push ?_ _),hclz,lt_req _⟩
  simp [wk,wk2,wkL,wk1,wkM,reqAV,reqC,zReq,zkt]
def e_rd4:List AV→AHeap→(AEnd→AHeap→Prop)→Prop
  | [.ptr id 0],H,K=>onR H id fun m l e=>True∧K (.ret (reqAV (rd4F (m,l,e)).1)) (H.set id (.cells (cellR (rd4F (m,l,e)).2)))
  | _,_,_=>False
set_option maxHeartbeats 2000000 in
theorem ok_rd4:EntOk Tryz.prog 104 (Ent.effect e_rd4):=by
  refine EntOk.effect fun args H K h=>?_
  unfold e_rd4 at h
  split at h
  rotate_left
  · exact h.elim
  rename_i id
  obtain ⟨m,l,e,hid,hle,h⟩:=onR_out h
  obtain ⟨hpre,hK⟩:=h
  refine ⟨_,_,hK,?_⟩
  clear hK
  have hl0:=AHeap.get_lt hid
  have hne:=far_of hl0
  have hss:=set_same hid
  have hcs:=cells_some hid
  have hcm:=fun cs=>@cells_set_same H id cs hl0
  have hgm:=fun o=>@get_set_same' H id o hl0
  obtain ⟨Q,hQ⟩:∃ Q,rd4F (m,l,e)=Q:=⟨_,rfl⟩
  rw [hQ]
  unfold rd4F at hQ
  try dsimp only at hQ
  have hl0:=uintR_l m l e 2
  have hm0:=uintR_m m l e 2
  generalize h0:uintR (m,l,e) 2=q0 at *
  obtain ⟨v0,m0,l0,e0⟩:=q0
  dsimp only at hQ hl0 hm0
  have hl1:=uintR_l m0 l0 e0 2
  have hm1:=uintR_m m0 l0 e0 2
  generalize h1:uintR (m0,l0,e0) 2=q1 at *
  obtain ⟨v1,m1,l1,e1⟩:=q1
  dsimp only at hQ hl1 hm1
  replace hm1:=mkOk_trans hm0 hm1
  subst hQ
  dsimp only [cellR]
  refine ACalls.of_aw (Ω:=[(76,Ent.effect e_Uint)]) (T:=assoc []) mixed (TblOk.cons ok_Uint TblOk.nil) Tryz.func104 (by kernel_rfl) (by rfl) (rs:=[.cell 2 28]) (by rfl) (by kernel_rfl) (by simp only [Tryz.ntmps104,List.length_cons,List.length_nil];decide) (by simp only [zkn];omega) fun hcl hlt=>?_
  change aw _ _ _ (KI Tryz.prog [(76,Ent.effect e_Uint)] (aEnd Tryz.prog [.cell 2 28] H.nx _ _ (assoc [])) []) _ _
  clear hlt
  have b0:l0.length≤100000:=by omega
  have b1:l1.length≤100000:=by omega
  simp only [go_sem,byq,hne,hid,hcs,hcm,hgm,onR,onRo_some,onRo_nil,zlj,zlh,zks,and_true,true_and,hid,onR,onRo_some,cellR,vv,vc,e_Uint,h0,h1,b0,b1]
  have hclz:(H.set id (.cells [.slice m1 1 (bys l1),.int .i64 e1])).Closed:=closedR hid hcl m1 hm1 l1 e1
  refine ⟨hle,?_,by repeat (first | exact AHeap.Le.refl _ | refine AHeap.Le.push ?_ _),hclz,lt_req _⟩
  simp [wk,wk2,wkL,wk1,wkM,reqAV,reqC,zReq,zkt]
def e_rd5:List AV→AHeap→(AEnd→AHeap→Prop)→Prop
  | [.ptr id 0],H,K=>onR H id fun m l e=>True∧K (.ret (reqAV (rd5F (m,l,e)).1)) (H.set id (.cells (cellR (rd5F (m,l,e)).2)))
  | _,_,_=>False
set_option maxHeartbeats 2000000 in
theorem ok_rd5:EntOk Tryz.prog 107 (Ent.effect e_rd5):=by
  refine EntOk.effect fun args H K h=>?_
  unfold e_rd5 at h
  split at h
  rotate_left
  · exact h.elim
  rename_i id
  obtain ⟨m,l,e,hid,hle,h⟩:=onR_out h
  obtain ⟨hpre,hK⟩:=h
  refine ⟨_,_,hK,?_⟩
  clear hK
  have hl0:=AHeap.get_lt hid
  have hne:=far_of hl0
  have hss:=set_same hid
  have hcs:=cells_some hid
  have hcm:=fun cs=>@cells_set_same H id cs hl0
  have hgm:=fun o=>@get_set_same' H id o hl0
  obtain ⟨Q,hQ⟩:∃ Q,rd5F (m,l,e)=Q:=⟨_,rfl⟩
  rw [hQ]
  unfold rd5F at hQ
  try dsimp only at hQ
  have hl0:=uintR_l m l e 2
  have hm0:=uintR_m m l e 2
  generalize h0:uintR (m,l,e) 2=q0 at *
  obtain ⟨v0,m0,l0,e0⟩:=q0
  dsimp only at hQ hl0 hm0
  have hl1:=uintR_l m0 l0 e0 4
  have hm1:=uintR_m m0 l0 e0 4
  generalize h1:uintR (m0,l0,e0) 4=q1 at *
  obtain ⟨v1,m1,l1,e1⟩:=q1
  dsimp only at hQ hl1 hm1
  replace hm1:=mkOk_trans hm0 hm1
  have hl2:=uintR_l m1 l1 e1 2
  have hm2:=uintR_m m1 l1 e1 2
  generalize h2:uintR (m1,l1,e1) 2=q2 at *
  obtain ⟨v2,m2,l2,e2⟩:=q2
  dsimp only at hQ hl2 hm2
  replace hm2:=mkOk_trans hm1 hm2
  subst hQ
  dsimp only [cellR]
  refine ACalls.of_aw (Ω:=[(76,Ent.effect e_Uint)]) (T:=assoc []) mixed (TblOk.cons ok_Uint TblOk.nil) Tryz.func107 (by kernel_rfl) (by rfl) (rs:=[.cell 2 28]) (by rfl) (by kernel_rfl) (by simp only [Tryz.ntmps107,List.length_cons,List.length_nil];decide) (by simp only [zkn];omega) fun hcl hlt=>?_
  change aw _ _ _ (KI Tryz.prog [(76,Ent.effect e_Uint)] (aEnd Tryz.prog [.cell 2 28] H.nx _ _ (assoc [])) []) _ _
  clear hlt
  have b0:l0.length≤100000:=by omega
  have b1:l1.length≤100000:=by omega
  have b2:l2.length≤100000:=by omega
  simp only [go_sem,byq,hne,hid,hcs,hcm,hgm,onR,onRo_some,onRo_nil,zlj,zlh,zks,and_true,true_and,hid,onR,onRo_some,cellR,vv,vc,e_Uint,h0,h1,h2,b0,b1,b2]
  have hclz:(H.set id (.cells [.slice m2 1 (bys l2),.int .i64 e2])).Closed:=closedR hid hcl m2 hm2 l2 e2
  refine ⟨hle,?_,by repeat (first | exact AHeap.Le.refl _ | refine AHeap.Le.push ?_ _),hclz,lt_req _⟩
  simp [wk,wk2,wkL,wk1,wkM,reqAV,reqC,zReq,zkt]
def e_rd6:List AV→AHeap→(AEnd→AHeap→Prop)→Prop
  | [.ptr id 0],H,K=>onR H id fun m l e=>True∧K (.ret (reqAV (rd6F (m,l,e)).1)) (H.set id (.cells (cellR (rd6F (m,l,e)).2)))
  | _,_,_=>False
set_option maxHeartbeats 2000000 in
theorem ok_rd6:EntOk Tryz.prog 110 (Ent.effect e_rd6):=by
  refine EntOk.effect fun args H K h=>?_
  unfold e_rd6 at h
  split at h
  rotate_left
  · exact h.elim
  rename_i id
  obtain ⟨m,l,e,hid,hle,h⟩:=onR_out h
  obtain ⟨hpre,hK⟩:=h
  refine ⟨_,_,hK,?_⟩
  clear hK
  have hl0:=AHeap.get_lt hid
  have hne:=far_of hl0
  have hss:=set_same hid
  have hcs:=cells_some hid
  have hcm:=fun cs=>@cells_set_same H id cs hl0
  have hgm:=fun o=>@get_set_same' H id o hl0
  obtain ⟨Q,hQ⟩:∃ Q,rd6F (m,l,e)=Q:=⟨_,rfl⟩
  rw [hQ]
  unfold rd6F at hQ
  try dsimp only at hQ
  have hl0:=uintR_l m l e 2
  have hm0:=uintR_m m l e 2
  generalize h0:uintR (m,l,e) 2=q0 at *
  obtain ⟨v0,m0,l0,e0⟩:=q0
  dsimp only at hQ hl0 hm0
  have hl1:=bytesR_l m0 l0 e0 320
  have hm1:=bytesR_m m0 l0 e0 320
  generalize h1:bytesR (m0,l0,e0) 320=q1 at *
  obtain ⟨v1,m1,l1,e1⟩:=q1
  dsimp only at hQ hl1 hm1
  replace hm1:=mkOk_trans hm0 hm1
  subst hQ
  dsimp only [cellR]
  refine ACalls.of_aw (Ω:=[(81,Ent.effect e_RBytes),(76,Ent.effect e_Uint)]) (T:=assoc []) mixed (TblOk.cons ok_RBytes (TblOk.cons ok_Uint TblOk.nil)) Tryz.func110 (by kernel_rfl) (by rfl) (rs:=[.cell 2 28]) (by rfl) (by kernel_rfl) (by simp only [Tryz.ntmps110,List.length_cons,List.length_nil];decide) (by simp only [zkn];omega) fun hcl hlt=>?_
  change aw _ _ _ (KI Tryz.prog [(81,Ent.effect e_RBytes),(76,Ent.effect e_Uint)] (aEnd Tryz.prog [.cell 2 28] H.nx _ _ (assoc [])) []) _ _
  clear hlt
  have b0:l0.length≤100000:=by omega
  have b1:l1.length≤100000:=by omega
  simp only [go_sem,byq,hne,hid,hcs,hcm,hgm,onR,onRo_some,onRo_nil,zlj,zlh,zks,and_true,true_and,hid,onR,onRo_some,cellR,vv,vc,e_RBytes,e_Uint,h0,h1,b0,b1]
  have hclz:(H.set id (.cells [.slice m1 1 (bys l1),.int .i64 e1])).Closed:=closedR hid hcl m1 hm1 l1 e1
  refine ⟨hle,?_,by repeat (first | exact AHeap.Le.refl _ | refine AHeap.Le.push ?_ _),hclz,lt_req _⟩
  simp [wk,wk2,wkL,wk1,wkM,reqAV,reqC,zReq,zkt]
end Go.AL


open Go Go.AL Go.Proofs
namespace Go.AL
set_option linter.all false
set_option maxRecDepth 10000

/-- updates read; none: a kind that is not permitted, and where the reader stands then -/
def readUs:Nat→RS→Option (List (Int × SEntry)) × RS
  | 0,s=>(some [],s)
  | n+1,s =>
    let q:=uintR s 1
    if badKd q 3 then (none,q.2)
    else
      let e:=readE q.2
      match readUs n e.2 with
      | (some us,t)=>(some ((q.1,e.1)::us),t)
      | (none,t)=>(none,t)
theorem readUs_go:∀ (n:Nat) (s:RS),(readUs n s).2.2.1.length≤s.2.1.length∧mkOk s.1 (readUs n s).2.1
  | 0,s=>⟨Nat.le_refl _,.inl rfl⟩
  | n+1,s=>by
    obtain ⟨m,l,e⟩:=s
    have a1:=uintR_l m l e 1
    have a2:=uintR_m m l e 1
    have b1:=readE0_l (uintR (m,l,e) 1).2
    have b2:=readE0_m (uintR (m,l,e) 1).2
    rw [← readE_2] at b1 b2
    obtain ⟨c1,c2⟩:=readUs_go n (readE (uintR (m,l,e) 1).2).2
    have hu:readUs (n+1) (m,l,e)=if badKd (uintR (m,l,e) 1) 3 then (none,(uintR (m,l,e) 1).2) else match readUs n (readE (uintR (m,l,e) 1).2).2 with
      | (some us,t)=>(some (((uintR (m,l,e) 1).1,(readE (uintR (m,l,e) 1).2).1)::us),t)
      | (none,t)=>(none,t):=rfl
    rw [hu]
    split
    · exact ⟨a1,a2⟩
    · generalize readUs n (readE (uintR (m,l,e) 1).2).2=q at *
      obtain ⟨o,t⟩:=q
      cases o
      · exact ⟨Nat.le_trans c1 (Nat.le_trans b1 a1),mkOk_trans (mkOk_trans a2 b2) c2⟩
      · exact ⟨Nat.le_trans c1 (Nat.le_trans b1 a1),mkOk_trans (mkOk_trans a2 b2) c2⟩
def usEnd (o:Option (List (Int × SEntry))):AEnd :=
  match o with
  | some us=>.ret (.slice .any 6 (us.map updAV))
  | none=>.panic (.iface 189 (.agg []))
def e_mReadUs:List AV→AHeap→(AEnd→AHeap→Prop)→Prop
  | [.ptr id 0],H,K=>onR H id fun m l e=>True∧K (usEnd (readUs (countR (m,l,e) 32).1.toNat (countR (m,l,e) 32).2).1) (H.set id (.cells (cellR (readUs (countR (m,l,e) 32).1.toNat (countR (m,l,e) 32).2).2)))
  | _,_,_=>False
set_option maxHeartbeats 4000000 in
theorem ok_mReadUs:EntOk Tryz.prog 101 (Ent.effect e_mReadUs):=by
  refine EntOk.effect fun args H K h=>?_
  unfold e_mReadUs at h
  split at h
  rotate_left
  · exact h.elim
  rename_i id
  obtain ⟨m,l,e,hid,hle,h⟩:=onR_out h
  obtain ⟨hpre,hK⟩:=h
  refine ⟨_,_,hK,?_⟩
  clear hK
  have hl0:=AHeap.get_lt hid
  have hne:=far_of hl0
  have hss:=set_same hid
  have hcs:=cells_some hid
  have hcm:=fun cs=>@cells_set_same H id cs hl0
  have hgm:=fun o=>@get_set_same' H id o hl0
  have hl1:=countR_l m l e 32
  have hm1:=countR_m m l e 32
  have hc1:=countR_b (m,l,e) 32 (by decide)
  generalize h1:countR (m,l,e) 32=q1 at *
  obtain ⟨c,m1,l1,e1⟩:=q1
  dsimp only at hl1 hm1 hc1 ⊢
  obtain ⟨kc,rfl⟩:∃ kc:Nat,c=(kc:Int):=⟨c.toNat,by omega⟩
  rw [Int.toNat_natCast]
  obtain ⟨Q,hQ⟩:∃ Q,readUs kc (m1,l1,e1)=Q:=⟨_,rfl⟩
  rw [hQ]
  have hQg:=readUs_go kc (m1,l1,e1)
  rw [hQ] at hQg
  refine ACalls.of_aw (Ω:=[(78,Ent.effect e_RCount),(117,Ent.effect e_mKind),(79,Ent.effect e_eRead)]) (T:=assoc []) mixed (TblOk.cons ok_RCount (TblOk.cons ok_mKind (TblOk.cons ok_eRead TblOk.nil))) Tryz.func101 (by kernel_rfl) (by rfl) (rs:=[.tmp 2]) (by rfl) (by kernel_rfl) (by simp only [Tryz.ntmps101,List.length_cons,List.length_nil];decide) (by simp only [zkn];omega) fun hcl hlt=>?_
  change aw _ _ _ (KI Tryz.prog [(78,Ent.effect e_RCount),(117,Ent.effect e_mKind),(79,Ent.effect e_eRead)] (aEnd Tryz.prog [.tmp 2] H.nx _ _ (assoc [])) []) _ _
  clear hlt
  have b1:l1.length≤100000:=by omega
  simp only [blkE,blkP,bhq,Nat.reduceMod,Nat.reduceDiv,stepH,stepM,toMs1,toMs,toMs0,strK,pubK,pubF,pubV,List.take_succ_cons,List.take_zero,List.drop_succ_cons,List.drop_zero,go_sem,byq,hne,hid,hcs,hcm,hgm,onR,onRo_some,onRo_nil,zlj,zlh,zks,and_true,true_and,hid,e_RCount,h1,b1,cellR]
  refine ⟨hle,?_⟩
  have hclL:∀ (s:RS) (k:Nat),mkOk m s.1→(((H.set id (.cells [.slice s.1 1 (bys s.2.1),.int .i64 s.2.2])).push (.buf 6 0)).push (.buf 6 k)).Closed:=fun s k hs=>closed_buf (closed_buf (closedR hid hcl s.1 hs s.2.1 s.2.2))
  refine loop_introW (A:=List (Int × SEntry) × RS) (fun x=>[(0,.ptr id 0),(3,.slice (.own (H.nx+1)) 6 (x.1.map updAV)),(6,.int .i64 (kc:Int)),(7,.int .i64 (x.1.length:Int))]) (fun x=>((H.set id (.cells [.slice x.2.1 1 (bys x.2.2.1),.int .i64 x.2.2.2])).push (.buf 6 0)).push (.buf 6 x.1.length)) (fun x=>x.1.length≤kc∧((readUs (kc - x.1.length) x.2).1.map (x.1++·),(readUs (kc - x.1.length) x.2).2)=Q∧x.2.2.1.length≤l1.length∧mkOk m x.2.1) (fun x=>kc - x.1.length) ([],(m1,l1,e1)) ⟨Nat.zero_le _,by rw [← hQ];simp,Nat.le_refl _,hm1⟩ ?_ fun x hx=>?_
  · refine ⟨by simp only [zjy,zkd,zkm,zkn];omega,AHeap.Le.refl _,hclL (m1,l1,e1) 0 hm1,?_,?_⟩
    · simp [ltF,zmn,zmv,lt_sliceL,znd,zkm,zkn]
      try omega
    · simp [subW,wk2,wk1,wkM,Fr.get]
  obtain ⟨us,m2,l2,e2⟩:=x
  obtain ⟨hx1,hx2,hx3,hx4⟩:=hx
  dsimp only at hx1 hx2 hx3 hx4 ⊢
  have b2:l2.length≤100000:=by omega
  simp only [go_sem]
  refine cond_split (fun hc=>?_) (fun hc=>?_)
  · have hk':us.length<kc:=by simp at hc;omega
    have e5:IntKind.i64.wrap ((us.length:Int)+1)=((us.length+1:Nat):Int):=by rw [wrap_i64]<;>omega
    have hk2:kc - us.length=(kc - (us.length+1))+1:=by omega
    have hu:readUs (kc - us.length) (m2,l2,e2)=if badKd (uintR (m2,l2,e2) 1) 3 then (none,(uintR (m2,l2,e2) 1).2) else match readUs (kc - (us.length+1)) (readE (uintR (m2,l2,e2) 1).2).2 with
      | (some us,t)=>(some (((uintR (m2,l2,e2) 1).1,(readE (uintR (m2,l2,e2) 1).2).1)::us),t)
      | (none,t)=>(none,t):=by rw [hk2];rfl
    rw [hu] at hx2
    have hl3:=uintR_l m2 l2 e2 1
    have hm3:=uintR_m m2 l2 e2 1
    generalize hq3:uintR (m2,l2,e2) 1=q3 at *
    cases hb3:badKd q3 3
    · rw [if_neg (by rw [hb3];decide)] at hx2
      obtain ⟨n3,m3,l3,e3⟩:=q3
      dsimp only at hl3 hm3 hx2
      have hl4:=readE0_l (m3,l3,e3)
      have hm4:=readE0_m (m3,l3,e3)
      rw [← readE_2] at hl4 hm4
      generalize hq4:readE (m3,l3,e3)=q4 at *
      obtain ⟨en,m4,l4,e4⟩:=q4
      dsimp only at hl4 hm4 hx2
      have b3:l3.length≤100000:=by omega
      simp only [go_sem,byq,hne,hid,hcs,hcm,hgm,onR,onRo_some,onRo_nil,zlj,zlh,zks,and_true,true_and,hid,e_mKind,e_eRead,hq3,hb3,hq4,b2,b3,cellR,if_false,Bool.false_eq_true,entryAV,entryC,e5,List.length_map]
      have hlen:(us++[(n3,en)]).length=us.length+1:=by simp
      have hmm:mkOk m m4:=mkOk_trans (mkOk_trans hx4 hm3) hm4
      refine ⟨⟨by omega,by omega,fun z hz=>by rw [List.mem_singleton] at hz;subst hz;rfl⟩,(us++[(n3,en)],(m4,l4,e4)),⟨by dsimp only;omega,?_,by dsimp only;omega,hmm⟩,by dsimp only;omega,?_⟩
      · dsimp only
        rw [hlen,← hx2]
        generalize readUs (kc - (us.length+1)) (m4,l4,e4)=q5
        obtain ⟨o,t⟩:=q5
        cases o
        · rfl
        · simp [List.append_assoc]
      · refine ⟨by simp only [zkm,zkn];omega,?_,hclL (m4,l4,e4) _ hmm,?_,?_⟩
        · simp only [List.map_append,List.map_cons,List.map_nil,updAV,updC,entryC,List.length_append,List.length_cons,List.length_nil,List.cons_append,List.nil_append]
          repeat (first | exact AHeap.Le.refl _ | refine AHeap.Le.push ?_ _)
        · simp [ltF,zmn,zmv,lt_sliceL,zkm,zkn]
          refine ⟨by omega,ltL_iff.2 fun j hj=>?_⟩
          have hmem:=List.getElem_mem hj
          rw [List.mem_append,List.mem_map,List.mem_singleton] at hmem
          rcases hmem with ⟨x,_,e⟩ | e
          · rw [← e];exact lt_upd x
          · rw [e];exact lt_upd _
        · simp [subW,wk2,wk1,wkM,Fr.get,updAV,updC,entryC]
    · rw [if_pos hb3] at hx2
      dsimp only [Option.map] at hx2
      subst hx2
      simp only [go_sem,byq,hne,hid,hcs,hcm,hgm,onR,onRo_some,onRo_nil,zlj,zlh,zks,and_true,true_and,hid,e_mKind,hq3,hb3,b2,cellR,if_true,usEnd]
      exact ⟨rfl,by repeat (first | exact AHeap.Le.refl _ | refine AHeap.Le.push ?_ _),closedR hid hcl _ (mkOk_trans hx4 hm3) _ _,by simp [zmy,zmz,znd]⟩
  · have hk':us.length=kc:=by simp at hc;omega
    subst hk'
    rw [Nat.sub_self] at hx2
    subst hx2
    simp only [go_sem,byq,readUs,Option.map_some,List.append_nil,usEnd]
    exact ⟨by simp [wk,wk2,wk1,wkM],by repeat (first | exact AHeap.Le.refl _ | refine AHeap.Le.push ?_ _),closedR hid hcl _ hx4 _ _,lt_map lt_upd⟩
end Go.AL


open Go Go.AL Go.Proofs
namespace Go.AL
set_option linter.all false
set_option maxRecDepth 10000

def rqEnd (o:Option SReq):AEnd :=
  match o with
  | some r=>.ret (reqAV r)
  | none=>.panic (.iface 189 (.agg []))
def rd3F (s:RS):Option SReq × RS :=
  let q0:=uintR s 2;let q1:=valueR q0.2;let q2:=countR q1.2 32;let q3:=readUs q2.1.toNat q2.2
  (q3.1.map fun us=>{ zReq with role:=q0.1,el:=q1.1,ups:=us },q3.2)
def e_rd3:List AV→AHeap→(AEnd→AHeap→Prop)→Prop
  | [.ptr id 0],H,K=>onR H id fun m l e=>True∧K (rqEnd (rd3F (m,l,e)).1) (H.set id (.cells (cellR (rd3F (m,l,e)).2)))
  | _,_,_=>False
theorem rd3F_go (s:RS):(rd3F s).2.2.1.length≤s.2.1.length∧mkOk s.1 (rd3F s).2.1:=by
  obtain ⟨m,l,e⟩:=s
  unfold rd3F
  dsimp only
  have a1:=uintR_l m l e 2
  have a2:=uintR_m m l e 2
  generalize uintR (m,l,e) 2=q0 at *
  obtain ⟨v0,m0,l0,e0⟩:=q0
  have b1:=valueR_l m0 l0 e0
  have b2:=valueR_m m0 l0 e0
  dsimp only at a1 a2 ⊢
  generalize valueR (m0,l0,e0)=q1 at *
  obtain ⟨v1,m1,l1,e1⟩:=q1
  have c1:=countR_l m1 l1 e1 32
  have c2:=countR_m m1 l1 e1 32
  dsimp only at b1 b2 ⊢
  generalize countR (m1,l1,e1) 32=q2 at *
  obtain ⟨v2,m2,l2,e2⟩:=q2
  obtain ⟨d1,d2⟩:=readUs_go v2.toNat (m2,l2,e2)
  dsimp only at c1 c2 d1 d2 ⊢
  exact ⟨by omega,mkOk_trans (mkOk_trans (mkOk_trans a2 b2) c2) d2⟩
set_option maxHeartbeats 4000000 in
theorem ok_rd3:EntOk Tryz.prog 100 (Ent.effect e_rd3):=by
  refine EntOk.effect fun args H K h=>?_
  unfold e_rd3 at h
  split at h
  rotate_left
  · exact h.elim
  rename_i id
  obtain ⟨m,l,e,hid,hle,h⟩:=onR_out h
  obtain ⟨hpre,hK⟩:=h
  refine ⟨_,_,hK,?_⟩
  clear hK
  have hl0:=AHeap.get_lt hid
  have hne:=far_of hl0
  have hss:=set_same hid
  have hcs:=cells_some hid
  have hcm:=fun cs=>@cells_set_same H id cs hl0
  have hgm:=fun o=>@get_set_same' H id o hl0
  obtain ⟨Q,hQ⟩:∃ Q,rd3F (m,l,e)=Q:=⟨_,rfl⟩
  have hQg:=rd3F_go (m,l,e)
  rw [hQ] at hQg ⊢
  unfold rd3F at hQ
  dsimp only at hQ
  have hl0:=uintR_l m l e 2
  generalize h0:uintR (m,l,e) 2=q0 at *
  obtain ⟨v0,m0,l0,e0⟩:=q0
  dsimp only at hQ hl0
  have hl1:=valueR_l m0 l0 e0
  generalize h1:valueR (m0,l0,e0)=q1 at *
  obtain ⟨v1,m1,l1,e1⟩:=q1
  dsimp only at hQ hl1
  generalize h2:readUs (countR (m1,l1,e1) 32).1.toNat (countR (m1,l1,e1) 32).2=q2 at *
  obtain ⟨o,t⟩:=q2
  dsimp only at hQ
  subst hQ
  obtain ⟨m3,l3,e3⟩:=t
  dsimp only at hQg ⊢
  have b0:l0.length≤100000:=by omega
  have b1:l1.length≤100000:=by omega
  cases o
  all_goals
    refine ACalls.of_aw (Ω:=[(76,Ent.effect e_Uint),(94,Ent.effect e_RValue),(101,Ent.effect e_mReadUs)]) (T:=assoc []) mixed (TblOk.cons ok_Uint (TblOk.cons ok_RValue (TblOk.cons ok_mReadUs TblOk.nil))) Tryz.func100 (by kernel_rfl) (by rfl) (rs:=[.cell 2 28]) (by rfl) (by kernel_rfl) (by simp only [Tryz.ntmps100,List.length_cons,List.length_nil];decide) (by simp only [zkn];omega) fun hcl hlt=>?_
    change aw _ _ _ (KI Tryz.prog [(76,Ent.effect e_Uint),(94,Ent.effect e_RValue),(101,Ent.effect e_mReadUs)] (aEnd Tryz.prog [.cell 2 28] H.nx _ _ (assoc [])) []) _ _
    clear hlt
    have hclz:(H.set id (.cells [.slice m3 1 (bys l3),.int .i64 e3])).Closed:=closedR hid hcl m3 hQg.2 l3 e3
    simp only [go_sem,byq,hne,hid,hcs,hcm,hgm,onR,onRo_some,onRo_nil,zlj,zlh,zks,and_true,true_and,hid,onR,onRo_some,cellR,vv,vc,e_Uint,e_RValue,e_mReadUs,h0,h1,h2,b0,b1,usEnd,rqEnd,Option.map_some,Option.map_none]
    first
      | exact ⟨hle,rfl,by repeat (first | exact AHeap.Le.refl _ | refine AHeap.Le.push ?_ _),hclz,by simp [zmy,zmz,znd]⟩
      | exact ⟨hle,by simp [wk,wk2,wkL,wk1,wkM,reqAV,reqC,zReq,zkt],by repeat (first | exact AHeap.Le.refl _ | refine AHeap.Le.push ?_ _),hclz,lt_req _⟩
end Go.AL


open Go Go.AL Go.Proofs
namespace Go.AL
set_option linter.all false
set_option maxRecDepth 10000

def rdF (k:Int) (s:RS):Option SReq × RS :=
  if k=1 then (some (rd1F s).1,(rd1F s).2) else if k=2 then (some (rd2F s).1,(rd2F s).2) else if k=3 then rd3F s else if k=4 then (some (rd4F s).1,(rd4F s).2)
  else if k=5 then (some (rd5F s).1,(rd5F s).2) else (some (rd6F s).1,(rd6F s).2)
theorem rd1F_go (s:RS):(rd1F s).2.2.1.length≤s.2.1.length∧mkOk s.1 (rd1F s).2.1:=by
  obtain ⟨m,l,e⟩:=s
  unfold rd1F
  dsimp only
  have l0':=uintR_l m l e 2
  have n0:=uintR_m m l e 2
  generalize uintR (m,l,e) 2=q0 at *
  obtain ⟨v0,m0,l0,e0⟩:=q0
  dsimp only at l0' n0 ⊢
  have l1':=valueR_l m0 l0 e0
  have n1:=valueR_m m0 l0 e0
  generalize valueR (m0,l0,e0)=q1 at *
  obtain ⟨v1,m1,l1,e1⟩:=q1
  dsimp only at l1' n1 ⊢
  exact ⟨by omega,(mkOk_trans n0 n1)⟩
theorem rd2F_go (s:RS):(rd2F s).2.2.1.length≤s.2.1.length∧mkOk s.1 (rd2F s).2.1:=by
  exact ⟨Nat.le_refl _,.inl rfl⟩
theorem rd4F_go (s:RS):(rd4F s).2.2.1.length≤s.2.1.length∧mkOk s.1 (rd4F s).2.1:=by
  obtain ⟨m,l,e⟩:=s
  unfold rd4F
  dsimp only
  have l0':=uintR_l m l e 2
  have n0:=uintR_m m l e 2
  generalize uintR (m,l,e) 2=q0 at *
  obtain ⟨v0,m0,l0,e0⟩:=q0
  dsimp only at l0' n0 ⊢
  have l1':=uintR_l m0 l0 e0 2
  have n1:=uintR_m m0 l0 e0 2
  generalize uintR (m0,l0,e0) 2=q1 at *
  obtain ⟨v1,m1,l1,e1⟩:=q1
  dsimp only at l1' n1 ⊢
  exact ⟨by omega,(mkOk_trans n0 n1)⟩
theorem rd5F_go (s:RS):(rd5F s).2.2.1.length≤s.2.1.length∧mkOk s.1 (rd5F s).2.1:=by
  obtain ⟨m,l,e⟩:=s
  unfold rd5F
  dsimp only
  have l0':=uintR_l m l e 2
  have n0:=uintR_m m l e 2
  generalize uintR (m,l,e) 2=q0 at *
  obtain ⟨v0,m0,l0,e0⟩:=q0
  dsimp only at l0' n0 ⊢
  have l1':=uintR_l m0 l0 e0 4
  have n1:=uintR_m m0 l0 e0 4
  generalize uintR (m0,l0,e0) 4=q1 at *
  obtain ⟨v1,m1,l1,e1⟩:=q1
  dsimp only at l1' n1 ⊢
  have l2':=uintR_l m1 l1 e1 2
  have n2:=uintR_m m1 l1 e1 2
  generalize uintR (m1,l1,e1) 2=q2 at *
  obtain ⟨v2,m2,l2,e2⟩:=q2
  dsimp only at l2' n2 ⊢
  exact ⟨by omega,(mkOk_trans (mkOk_trans n0 n1) n2)⟩
theorem rd6F_go (s:RS):(rd6F s).2.2.1.length≤s.2.1.length∧mkOk s.1 (rd6F s).2.1:=by
  obtain ⟨m,l,e⟩:=s
  unfold rd6F
  dsimp only
  have l0':=uintR_l m l e 2
  have n0:=uintR_m m l e 2
  generalize uintR (m,l,e) 2=q0 at *
  obtain ⟨v0,m0,l0,e0⟩:=q0
  dsimp only at l0' n0 ⊢
  have l1':=bytesR_l m0 l0 e0 320
  have n1:=bytesR_m m0 l0 e0 320
  generalize bytesR (m0,l0,e0) 320=q1 at *
  obtain ⟨v1,m1,l1,e1⟩:=q1
  dsimp only at l1' n1 ⊢
  exact ⟨by omega,(mkOk_trans n0 n1)⟩
theorem rdF_go (k:Int) (s:RS):(rdF k s).2.2.1.length≤s.2.1.length∧mkOk s.1 (rdF k s).2.1:=by
  unfold rdF
  (repeat' split)<;>first | exact rd1F_go s | exact rd2F_go s | exact rd3F_go s | exact rd4F_go s | exact rd5F_go s | exact rd6F_go s
/-- a request read: the request, the error, where the reader stands -/
def rqF (s:RS):SReq × Int × RS :=
  if badKd (uintR s 1) 6 then (zReq,2,(uintR s 1).2) else if (uintR s 1).2.2.2≠0 then (zReq,(uintR s 1).2.2.2,(uintR s 1).2)
  else match rdF (uintR s 1).1 (uintR s 1).2 with
    | (none,t)=>(zReq,2,t)
    | (some r,t)=>({ r with kind:=(uintR s 1).1 },finishR t,t)
theorem readReqC_none {H:AHeap} {a b:Nat}:ADefer Tryz.prog 116 [.ptr a 0,.ptr b 0] H none H:=by
  refine ADefer.of_aw mixed (Ω:=[]) TblOk.nil (a:=5) (b:=2) Tryz.func116 (by rfl) (by rfl) (T:=assoc []) (by kernel_rfl) (by decide) (by decide) (by simp only [Tryz.ntmps116,List.length_cons,List.length_nil];decide) fun hcl _=>?_
  change aw _ _ _ (KI Tryz.prog [] (dEnd H.nx H) []) _ _
  simp only [Option.getD_none,go_sem,dEnd_n,dEnd_r,dEnd_T]
  exact ⟨AHeap.Le.refl _,hcl,Nat.le_refl _⟩
theorem readReq_ret {H H1 X:AHeap} {cs:List AV} {r:SReq} {e:Int} {fr:Fr} (hcl:H1.Closed) (hle:H1.Le X) (h0:cellsOf? X H.nx=some cs) (h1:cellsOf? X (H.nx+1)=some [.int .i64 e]) (hl:cs.length=10) (hw:wk2 X H1 (.agg cs) (reqAV r))
    (f2:Fr.get fr 2=.ptr H.nx 0) (f3:Fr.get fr 3=.ptr (H.nx+1) 0) :
    finD Tryz.prog [.cell 2 28,.cell 3 47] H1 (.tup [reqAV r,.int .i64 e]) 116 [.ptr H.nx 0,.ptr (H.nx+1) 0] none fr X:=by
  refine ⟨_,readReqC_none,?_⟩
  have z1:(10≤cs.length)=True:=eq_true (by omega)
  have z2:cs.take 10=cs:=List.take_of_length_le (by omega)
  simp only [resL,resA,f2,f3,zio,go_sem,h0,h1,zip,TD.agg,Option.map_some,List.getD_cons_zero,one,z1,z2,List.drop_zero]
  refine ⟨⟨hw,by simp [wk2,wk1],trivial⟩,hle,hcl,?_⟩
  rw [zna]
  exact ⟨lt_req _,by rw [zmn];trivial,trivial⟩
end Go.AL

