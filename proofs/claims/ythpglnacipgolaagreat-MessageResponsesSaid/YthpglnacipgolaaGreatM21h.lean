/- Contracts and plain laws, a part of the proof; no condition of its own. -/
import Derived.Test.YthpglnacipgolaaGreatM21e
import Derived.Test.YthpglnacipgolaaGreatM20j
import Derived.Test.YthpglnacipgolaaGreatM20a
open List renaming length_cons → yaz, length_nil → yba, length_map → ybb, take_of_length_le → ybc, drop_append → ybd, take_append → ybe, drop_eq_nil_of_le → ybf, take_succ_cons → yaq, take_zero → yar, drop_succ_cons → yao, drop_zero → yap, append_nil → yaj, map_cons → yae, map_nil → yaf, cons_append → yal, nil_append → yak
open Go Go.AL Go.Proofs
namespace Go.AL
set_option linter.all false
set_option maxRecDepth 10000

def okRec (r:SRec):Bool:=rg r.num 4&&(rg r.ctl 1&&(([r.role,r.fail,r.upd].all fun n=>rg n 2)&&(rg r.kind 1&&rg r.code 1)))
theorem okRec_bad (r:SRec):badRec r=!okRec r:=by
  unfold okRec badRec
  simp only [List.all_cons,List.all_nil,Bool.and_true]
  generalize rg r.num 4=a1
  generalize rg r.ctl 1=a2
  generalize rg r.role 2=a3
  generalize rg r.kind 1=a4
  generalize rg r.code 1=a5
  generalize rg r.fail 2=a6
  generalize rg r.upd 2=a7
  revert a1 a2 a3 a4 a5 a6 a7
  decide
theorem lit8 {k:Int} (h:rg k 1=true):∃ x:UInt8,AV.int .u8 (IntKind.u8.wrap k)=ofByte x∧wUint k 1=[x]:=by
  have h':0≤k∧k<256:=of_decide_eq_true h
  obtain ⟨n,rfl⟩:∃ n:Nat,k=(n:Int):=⟨k.toNat,by omega⟩
  have hn:n<256:=by omega
  have hw:∀ n:Fin 256,IntKind.u8.wrap (n.val:Int)=(n.val:Int)∧wUint (n.val:Int) 1=[UInt8.ofNat n.val]:=by decide +kernel
  obtain ⟨e1,e2⟩:=hw ⟨n,hn⟩
  exact ⟨UInt8.ofNat n,by rw [e1];exact u8_ofByte hn,e2⟩
def p_xRec:List AV→AHeap→(AV→Prop)→Prop
  | [.agg l],_,K=>∃ r:SRec,l=recC r∧K (.bool (okRec r))
  | _,_,_=>False
set_option maxHeartbeats 4000000 in
theorem ok_xRec:EntOk Tryz.prog 89 (Ent.pure p_xRec):=by
  refine EntOk.pure fun args H K h=>?_
  unfold p_xRec at h
  split at h
  rotate_left
  · exact h.elim
  rename_i l
  obtain ⟨r,rfl,hK⟩:=h
  refine ⟨_,hK,?_⟩
  clear hK
  have hlr:=fun n=>lt_rec (n:=n) r
  simp only [recAV,zmz] at hlr
  cases hA:rg r.num 4
  case false =>
    rw [show okRec r=false by unfold okRec;rw [hA];rfl]
    refine ACalls.of_aw (Ω:=[(86,Ent.pure p_xWithin),(87,Ent.pure p_xWord)]) (T:=assoc []) mixed (TblOk.cons ok_xWithin (TblOk.cons ok_xWord TblOk.nil)) Tryz.func89 (by kernel_rfl) (by rfl) (rs:=[.tmp 2]) (by rfl) (by kernel_rfl) (by simp only [Tryz.ntmps89,yaz,yba];decide) (Nat.le_refl _) fun hcl hlt=>?_
    change aw _ _ _ (KI Tryz.prog [(86,Ent.pure p_xWithin),(87,Ent.pure p_xWord)] (aEnd Tryz.prog [.tmp 2] H.nx _ _ (assoc [])) []) _ _
    clear hlt
    simp only [go_sem,recC,p_xWithin,p_xWord,rg1,rg4,hA]
    refine ⟨rfl,by repeat (first | exact AHeap.Le.refl _ | refine AHeap.Le.push ?_ _),hcl,by rw [zmo];trivial⟩
  cases hB:rg r.ctl 1
  case false =>
    rw [show okRec r=false by unfold okRec;rw [hA,hB];rfl]
    refine ACalls.of_aw (Ω:=[(86,Ent.pure p_xWithin),(87,Ent.pure p_xWord)]) (T:=assoc []) mixed (TblOk.cons ok_xWithin (TblOk.cons ok_xWord TblOk.nil)) Tryz.func89 (by kernel_rfl) (by rfl) (rs:=[.tmp 2]) (by rfl) (by kernel_rfl) (by simp only [Tryz.ntmps89,yaz,yba];decide) (Nat.le_refl _) fun hcl hlt=>?_
    change aw _ _ _ (KI Tryz.prog [(86,Ent.pure p_xWithin),(87,Ent.pure p_xWord)] (aEnd Tryz.prog [.tmp 2] H.nx _ _ (assoc [])) []) _ _
    clear hlt
    simp only [go_sem,recC,p_xWithin,p_xWord,rg1,rg4,hA,hB]
    refine ⟨rfl,by repeat (first | exact AHeap.Le.refl _ | refine AHeap.Le.push ?_ _),hcl,by rw [zmo];trivial⟩
  cases hW:([r.role,r.fail,r.upd].all fun n=>rg n 2)
  case false =>
    rw [show okRec r=false by unfold okRec;rw [hA,hB,hW];rfl]
    refine ACalls.of_aw (Ω:=[(86,Ent.pure p_xWithin),(87,Ent.pure p_xWord)]) (T:=assoc []) mixed (TblOk.cons ok_xWithin (TblOk.cons ok_xWord TblOk.nil)) Tryz.func89 (by kernel_rfl) (by rfl) (rs:=[.tmp 2]) (by rfl) (by kernel_rfl) (by simp only [Tryz.ntmps89,yaz,yba];decide) (Nat.le_refl _) fun hcl hlt=>?_
    change aw _ _ _ (KI Tryz.prog [(86,Ent.pure p_xWithin),(87,Ent.pure p_xWord)] (aEnd Tryz.prog [.tmp 2] H.nx _ _ (assoc [])) []) _ _
    clear hlt
    simp only [go_sem,recC,p_xWithin,p_xWord,rg1,rg4,hA,hB]
    refine ⟨[r.role,r.fail,r.upd],⟨rfl,by simp⟩,?_⟩
    rw [hW]
    try simp only [go_sem,recC,p_xWithin,p_xWord,rg1,rg4,hA,hB]
    refine ⟨rfl,by repeat (first | exact AHeap.Le.refl _ | refine AHeap.Le.push ?_ _),hcl,by rw [zmo];trivial⟩
  cases hD:rg r.kind 1
  case false =>
    rw [show okRec r=false by unfold okRec;rw [hA,hB,hW,hD];rfl]
    refine ACalls.of_aw (Ω:=[(86,Ent.pure p_xWithin),(87,Ent.pure p_xWord)]) (T:=assoc []) mixed (TblOk.cons ok_xWithin (TblOk.cons ok_xWord TblOk.nil)) Tryz.func89 (by kernel_rfl) (by rfl) (rs:=[.tmp 2]) (by rfl) (by kernel_rfl) (by simp only [Tryz.ntmps89,yaz,yba];decide) (Nat.le_refl _) fun hcl hlt=>?_
    change aw _ _ _ (KI Tryz.prog [(86,Ent.pure p_xWithin),(87,Ent.pure p_xWord)] (aEnd Tryz.prog [.tmp 2] H.nx _ _ (assoc [])) []) _ _
    clear hlt
    simp only [go_sem,recC,p_xWithin,p_xWord,rg1,rg4,hA,hB,hD]
    refine ⟨[r.role,r.fail,r.upd],⟨rfl,by simp⟩,?_⟩
    rw [hW]
    try simp only [go_sem,recC,p_xWithin,p_xWord,rg1,rg4,hA,hB,hD]
    refine ⟨rfl,by repeat (first | exact AHeap.Le.refl _ | refine AHeap.Le.push ?_ _),hcl,by rw [zmo];trivial⟩
  cases hE:rg r.code 1
  case false =>
    rw [show okRec r=false by unfold okRec;rw [hA,hB,hW,hD,hE];rfl]
    refine ACalls.of_aw (Ω:=[(86,Ent.pure p_xWithin),(87,Ent.pure p_xWord)]) (T:=assoc []) mixed (TblOk.cons ok_xWithin (TblOk.cons ok_xWord TblOk.nil)) Tryz.func89 (by kernel_rfl) (by rfl) (rs:=[.tmp 2]) (by rfl) (by kernel_rfl) (by simp only [Tryz.ntmps89,yaz,yba];decide) (Nat.le_refl _) fun hcl hlt=>?_
    change aw _ _ _ (KI Tryz.prog [(86,Ent.pure p_xWithin),(87,Ent.pure p_xWord)] (aEnd Tryz.prog [.tmp 2] H.nx _ _ (assoc [])) []) _ _
    clear hlt
    simp only [go_sem,recC,p_xWithin,p_xWord,rg1,rg4,hA,hB,hD,hE]
    refine ⟨[r.role,r.fail,r.upd],⟨rfl,by simp⟩,?_⟩
    rw [hW]
    try simp only [go_sem,recC,p_xWithin,p_xWord,rg1,rg4,hA,hB,hD,hE]
    refine ⟨rfl,by repeat (first | exact AHeap.Le.refl _ | refine AHeap.Le.push ?_ _),hcl,by rw [zmo];trivial⟩
  rw [show okRec r=true by unfold okRec;rw [hA,hB,hW,hD,hE];rfl]
  refine ACalls.of_aw (Ω:=[(86,Ent.pure p_xWithin),(87,Ent.pure p_xWord)]) (T:=assoc []) mixed (TblOk.cons ok_xWithin (TblOk.cons ok_xWord TblOk.nil)) Tryz.func89 (by kernel_rfl) (by rfl) (rs:=[.tmp 2]) (by rfl) (by kernel_rfl) (by simp only [Tryz.ntmps89,yaz,yba];decide) (Nat.le_refl _) fun hcl hlt=>?_
  change aw _ _ _ (KI Tryz.prog [(86,Ent.pure p_xWithin),(87,Ent.pure p_xWord)] (aEnd Tryz.prog [.tmp 2] H.nx _ _ (assoc [])) []) _ _
  clear hlt
  simp only [go_sem,recC,p_xWithin,p_xWord,rg1,rg4,hA,hB,hD,hE]
  refine ⟨[r.role,r.fail,r.upd],⟨rfl,by simp⟩,?_⟩
  rw [hW]
  try simp only [go_sem,recC,p_xWithin,p_xWord,rg1,rg4,hA,hB,hD,hE]
  refine ⟨rfl,by repeat (first | exact AHeap.Le.refl _ | refine AHeap.Le.push ?_ _),hcl,by rw [zmo];trivial⟩
def okP (r:SResp):Bool:=rg r.code 1&&(([r.fail,r.port].all fun n=>rg n 2)&&rg r.reas 1)
theorem badP_ok {r:SResp} (h1:r.ents.length≤40) (h2:r.recs.length≤24):badP r=!((okP r&&r.ents.all rgE)&&r.recs.all okRec):=by
  have e1:rg (r.ents.length:Int) 2=true:=decide_eq_true ⟨by omega,by show (r.ents.length:Int)<65536;omega⟩
  have e2:rg (r.recs.length:Int) 2=true:=decide_eq_true ⟨by omega,by show (r.recs.length:Int)<65536;omega⟩
  have e3:(r.ents.any fun e=>!rgE e)=!r.ents.all rgE:=by
    generalize r.ents=l
    induction l with
    | nil=>rfl
    | cons x l ih=>rw [List.any_cons,List.all_cons,ih];cases rgE x<;>rfl
  have e4:r.recs.any badRec=!r.recs.all okRec:=by
    generalize r.recs=l
    induction l with
    | nil=>rfl
    | cons x l ih=>rw [List.any_cons,List.all_cons,ih,okRec_bad];cases okRec x<;>rfl
  unfold badP okP
  rw [e1,e2,e3,e4]
  simp only [List.all_cons,List.all_nil,Bool.and_true]
  generalize rg r.code 1=a1
  generalize rg r.fail 2=a2
  generalize rg r.port 2=a3
  generalize rg r.reas 1=a4
  generalize r.ents.all rgE=a5
  generalize r.recs.all okRec=a6
  revert a1 a2 a3 a4 a5 a6
  decide
def p_xEncP:List AV→AHeap→(AV→Prop)→Prop
  | [.agg l],_,K=>∃ r:SResp,(l=respC r∧PE r)∧K (.tup [.slice .any 1 (bys (encP r).1),.int .i64 (encP r).2])
  | _,_,_=>False
set_option maxHeartbeats 16000000 in
theorem ok_xEncP:EntOk Tryz.prog 23 (Ent.pure p_xEncP):=by
  refine EntOk.pure fun args H K h=>?_
  unfold p_xEncP at h
  split at h
  rotate_left
  · exact h.elim
  rename_i l
  obtain ⟨r,⟨rfl,hr⟩,hK⟩:=h
  refine ⟨_,hK,?_⟩
  clear hK
  have hel:=hr.el
  have hrl:=hr.rl
  have hdl:=hr.dl
  have hlr:=fun n=>lt_resp (n:=n) r
  simp only [respAV,zmz] at hlr
  have d1:decide ((r.ents.length:Int) > 512)=false:=decide_eq_false (by omega)
  by_cases h2:24<r.recs.length
  · have d2:decide ((r.recs.length:Int) > 24)=true:=decide_eq_true (by omega)
    rw [show encP r=([],3) by unfold encP;rw [if_pos (.inl h2)]]
    refine ACalls.of_aw (Ω:=[(86,Ent.pure p_xWithin),(87,Ent.pure p_xWord),(88,Ent.pure p_xRanged),(89,Ent.pure p_xRec),(90,Ent.effect e_rUint),(91,Ent.effect e_rBool),(93,Ent.effect e_rBytes),(92,Ent.effect e_rAppend10)]) (T:=assoc [(17,[[],[],[],[2],[],[],[],[2,3,5]]),(27,[[],[],[],[2],[],[],[5],[],[2,3,5]]),(28,[[],[],[],[2],[],[],[5],[],[],[8],[],[2,3,5,8]]),(29,[[],[],[],[2],[],[],[2,3,5]]),(31,[[],[],[],[],[3],[],[],[],[7],[],[3,4,7]]),(32,[[],[],[],[],[3],[],[],[],[3,4,7],[],[3,4,7,8]]),(827,[[100007]]),(828,[[100010]]),(831,[[100009]]),(4,[[1]])]) mixed (TblOk.cons ok_xWithin (TblOk.cons ok_xWord (TblOk.cons ok_xRanged (TblOk.cons ok_xRec (TblOk.cons ok_rUint (TblOk.cons ok_rBool (TblOk.cons ok_rBytes (TblOk.cons ok_rAppend10 TblOk.nil)))))))) Tryz.func23 (by kernel_rfl) (by rfl) (rs:=[.tmp 2,.tmp 3]) (by rfl) (by kernel_rfl) (by simp only [Tryz.ntmps23,yaz,yba];decide) (Nat.le_refl _) fun hcl hlt=>?_
    change aw _ _ _ (KI Tryz.prog [(86,Ent.pure p_xWithin),(87,Ent.pure p_xWord),(88,Ent.pure p_xRanged),(89,Ent.pure p_xRec),(90,Ent.effect e_rUint),(91,Ent.effect e_rBool),(93,Ent.effect e_rBytes),(92,Ent.effect e_rAppend10)] (aEnd Tryz.prog [.tmp 2,.tmp 3] H.nx _ _ (assoc [(17,[[],[],[],[2],[],[],[],[2,3,5]]),(27,[[],[],[],[2],[],[],[5],[],[2,3,5]]),(28,[[],[],[],[2],[],[],[5],[],[],[8],[],[2,3,5,8]]),(29,[[],[],[],[2],[],[],[2,3,5]]),(31,[[],[],[],[],[3],[],[],[],[7],[],[3,4,7]]),(32,[[],[],[],[],[3],[],[],[],[3,4,7],[],[3,4,7,8]]),(827,[[100007]]),(828,[[100010]]),(831,[[100009]]),(4,[[1]])])) []) _ _
    clear hlt
    simp only [go_sem,byq,respC,ybb,d1,d2]
    simp (disch:=first | assumption | omega | (simp;done) | (simp;omega) | (simp only [bt,and_true];first | done | omega | (simp;done))) [↓zlw,beq,ybc,ybd,ybe,endOk,wk,wk2,wk1,wkM,wkL,wkLL,ybf,hcl,zkt]
    first | done | repeat (first | exact AHeap.Le.refl _ | refine AHeap.Le.push ?_ _)
  have d2:decide ((r.recs.length:Int) > 24)=false:=decide_eq_false (by omega)
  by_cases h3:1000<r.data.length
  · have d3:decide ((r.data.length:Int) > 1000)=true:=decide_eq_true (by omega)
    rw [show encP r=([],3) by unfold encP;rw [if_pos (.inr h3)]]
    refine ACalls.of_aw (Ω:=[(86,Ent.pure p_xWithin),(87,Ent.pure p_xWord),(88,Ent.pure p_xRanged),(89,Ent.pure p_xRec),(90,Ent.effect e_rUint),(91,Ent.effect e_rBool),(93,Ent.effect e_rBytes),(92,Ent.effect e_rAppend10)]) (T:=assoc [(17,[[],[],[],[2],[],[],[],[2,3,5]]),(27,[[],[],[],[2],[],[],[5],[],[2,3,5]]),(28,[[],[],[],[2],[],[],[5],[],[],[8],[],[2,3,5,8]]),(29,[[],[],[],[2],[],[],[2,3,5]]),(31,[[],[],[],[],[3],[],[],[],[7],[],[3,4,7]]),(32,[[],[],[],[],[3],[],[],[],[3,4,7],[],[3,4,7,8]]),(827,[[100007]]),(828,[[100010]]),(831,[[100009]]),(4,[[1]])]) mixed (TblOk.cons ok_xWithin (TblOk.cons ok_xWord (TblOk.cons ok_xRanged (TblOk.cons ok_xRec (TblOk.cons ok_rUint (TblOk.cons ok_rBool (TblOk.cons ok_rBytes (TblOk.cons ok_rAppend10 TblOk.nil)))))))) Tryz.func23 (by kernel_rfl) (by rfl) (rs:=[.tmp 2,.tmp 3]) (by rfl) (by kernel_rfl) (by simp only [Tryz.ntmps23,yaz,yba];decide) (Nat.le_refl _) fun hcl hlt=>?_
    change aw _ _ _ (KI Tryz.prog [(86,Ent.pure p_xWithin),(87,Ent.pure p_xWord),(88,Ent.pure p_xRanged),(89,Ent.pure p_xRec),(90,Ent.effect e_rUint),(91,Ent.effect e_rBool),(93,Ent.effect e_rBytes),(92,Ent.effect e_rAppend10)] (aEnd Tryz.prog [.tmp 2,.tmp 3] H.nx _ _ (assoc [(17,[[],[],[],[2],[],[],[],[2,3,5]]),(27,[[],[],[],[2],[],[],[5],[],[2,3,5]]),(28,[[],[],[],[2],[],[],[5],[],[],[8],[],[2,3,5,8]]),(29,[[],[],[],[2],[],[],[2,3,5]]),(31,[[],[],[],[],[3],[],[],[],[7],[],[3,4,7]]),(32,[[],[],[],[],[3],[],[],[],[3,4,7],[],[3,4,7,8]]),(827,[[100007]]),(828,[[100010]]),(831,[[100009]]),(4,[[1]])])) []) _ _
    clear hlt
    simp only [go_sem,byq,respC,ybb,d1,d2,d3]
    simp (disch:=first | assumption | omega | (simp;done) | (simp;omega) | (simp only [bt,and_true];first | done | omega | (simp;done))) [↓zlw,beq,ybc,ybd,ybe,endOk,wk,wk2,wk1,wkM,wkL,wkLL,ybf,hcl,zkt]
    first | done | repeat (first | exact AHeap.Le.refl _ | refine AHeap.Le.push ?_ _)
  have d3:decide ((r.data.length:Int) > 1000)=false:=decide_eq_false (by omega)
  have he0:encP r=if badP r=true then ([],4) else (wireP r,0):=by
    unfold encP;rw [if_neg (by omega)]
  rw [badP_ok hel (by omega)] at he0
  obtain ⟨RE,hRE⟩:∃ RE,encP r=RE:=⟨_,rfl⟩
  rw [hRE] at he0 ⊢
  obtain ⟨OK0,hOK0⟩:∃ O,okP r=O:=⟨_,rfl⟩
  have hOK1:=hOK0
  unfold okP at hOK1
  obtain ⟨HL,hHL⟩:∃ HL,HL=(H.push (.cells (respC r))).push (.buf 1 0):=⟨_,rfl⟩
  have hnL:HL.nx=H.nx+1+1:=by rw [hHL];rfl
  have hcrL:cellsOf? HL H.nx=some (respC r):=by rw [hHL];simp only [go_sem]
  have hleL:H.Le HL:=by rw [hHL];repeat (first | exact AHeap.Le.refl _ | refine AHeap.Le.push ?_ _)
  obtain ⟨A,hA⟩:∃ A,rg r.code 1=A:=⟨_,rfl⟩
  obtain ⟨W,hW⟩:∃ W,([r.fail,r.port].all fun n=>rg n 2)=W:=⟨_,rfl⟩
  obtain ⟨B,hB⟩:∃ B,rg r.reas 1=B:=⟨_,rfl⟩
  rw [hA,hW,hB] at hOK1
  refine ACalls.of_aw (Ω:=[(86,Ent.pure p_xWithin),(87,Ent.pure p_xWord),(88,Ent.pure p_xRanged),(89,Ent.pure p_xRec),(90,Ent.effect e_rUint),(91,Ent.effect e_rBool),(93,Ent.effect e_rBytes),(92,Ent.effect e_rAppend10)]) (T:=assoc [(17,[[],[],[],[2],[],[],[],[2,3,5]]),(27,[[],[],[],[2],[],[],[5],[],[2,3,5]]),(28,[[],[],[],[2],[],[],[5],[],[],[8],[],[2,3,5,8]]),(29,[[],[],[],[2],[],[],[2,3,5]]),(31,[[],[],[],[],[3],[],[],[],[7],[],[3,4,7]]),(32,[[],[],[],[],[3],[],[],[],[3,4,7],[],[3,4,7,8]]),(827,[[100007]]),(828,[[100010]]),(831,[[100009]]),(4,[[1]])]) mixed (TblOk.cons ok_xWithin (TblOk.cons ok_xWord (TblOk.cons ok_xRanged (TblOk.cons ok_xRec (TblOk.cons ok_rUint (TblOk.cons ok_rBool (TblOk.cons ok_rBytes (TblOk.cons ok_rAppend10 TblOk.nil)))))))) Tryz.func23 (by kernel_rfl) (by rfl) (rs:=[.tmp 2,.tmp 3]) (by rfl) (by kernel_rfl) (by simp only [Tryz.ntmps23,yaz,yba];decide) (Nat.le_refl _) fun hcl hlt=>?_
  change aw _ _ _ (KI Tryz.prog [(86,Ent.pure p_xWithin),(87,Ent.pure p_xWord),(88,Ent.pure p_xRanged),(89,Ent.pure p_xRec),(90,Ent.effect e_rUint),(91,Ent.effect e_rBool),(93,Ent.effect e_rBytes),(92,Ent.effect e_rAppend10)] (aEnd Tryz.prog [.tmp 2,.tmp 3] H.nx _ _ (assoc [(17,[[],[],[],[2],[],[],[],[2,3,5]]),(27,[[],[],[],[2],[],[],[5],[],[2,3,5]]),(28,[[],[],[],[2],[],[],[5],[],[],[8],[],[2,3,5,8]]),(29,[[],[],[],[2],[],[],[2,3,5]]),(31,[[],[],[],[],[3],[],[],[],[7],[],[3,4,7]]),(32,[[],[],[],[],[3],[],[],[],[3,4,7],[],[3,4,7,8]]),(827,[[100007]]),(828,[[100010]]),(831,[[100009]]),(4,[[1]])])) []) _ _
  clear hlt
  have hclL:HL.Closed:=by rw [hHL];exact closed_buf (closed_cells hcl (hlr _))
  simp only [go_sem,byq,respC,ybb,d1,d2,d3,p_xWithin,rg1,hA]
  apply join_cut (α:=Bool) (fun O=>[(1,.ptr H.nx 0),(4,.bool O)]) (fun _=>HL) (fun O=>O=OK0)
  · intro J
    cases A
    case' true =>
      simp only [go_sem,p_xWord]
      refine ⟨[r.fail,r.port],⟨rfl,by simp⟩,?_⟩
      rw [hW]
      cases W
      case' true =>
        simp only [go_sem,p_xWithin,rg1,hB]
        try cases B
    all_goals
      try simp only [go_sem]
      refine weak_join J OK0 rfl ⟨by simp only [zkd,zjy,KI_n0,hnL];omega,by rw [hHL];repeat (first | exact AHeap.Le.refl _ | refine AHeap.Le.push ?_ _),hclL,by (simp [ltF,zmv,zmo,hnL];try omega),by rw [← hOK1];simp [subW,wk2,wk1,wkM,Fr.get]⟩
  rintro O rfl
  dsimp only
  simp only [respC] at hcrL
  simp only [blkE,blkP,bhq,Nat.reduceMod,Nat.reduceDiv,stepH,stepM,toMs1,toMs,toMs0,strK,pubK,pubF,pubV,yaq,yar,yao,yap,go_sem,byq,hcrL,ybb]
  refine loop_introW (A:=Nat) (fun k=>[(1,.ptr H.nx 0),(4,.bool (O&&(r.ents.take k).all rgE)),(50,.slice .any 5 (r.ents.map entryAV)),(51,.int .i64 (r.ents.length:Int)),(52,.int .i64 (k:Int))]) (fun _=>HL) (fun k=>k≤r.ents.length) (fun k=>r.ents.length - k) 0 (by omega) ?_ fun k hk=>?_
  · refine ⟨by simp only [zjy,zkd,hnL];omega,by repeat (first | exact AHeap.Le.refl _ | refine AHeap.Le.push ?_ _),hclL,?_,?_⟩
    · simp [ltF,zmn,zmv,zmo,hnL,lt_map lt_entry]
      try omega
    · simp [subW,wk2,wk1,wkM,Fr.get]
  simp only [blkE,blkP,bhq,Nat.reduceMod,Nat.reduceDiv,stepH,stepM,toMs1,toMs,toMs0,strK,pubK,pubF,pubV,yaq,yar,yao,yap,go_sem,byq,hcrL,ybb]
  refine cond_split (fun hc=>?_) (fun hc=>?_)
  · have hk':k<r.ents.length:=by simp at hc;omega
    obtain ⟨x,hx⟩:∃ x,x=r.ents[k]:=⟨_,rfl⟩
    have hg:=getD_map (f:=entryAV) (l:=r.ents) (k:=k) (x:=x) (by rw [List.getElem?_eq_getElem hk',hx])
    have e5:IntKind.i64.wrap ((k:Int)+1)=((k+1:Nat):Int):=by rw [wrap_i64]<;>omega
    have hxm:x∈r.ents:=by rw [hx];exact List.getElem_mem hk'
    have et:r.ents.take (k+1)=r.ents.take k++[x]:=by rw [hx,List.take_succ_eq_append_getElem hk']
    have eO:(O&&(r.ents.take (k+1)).all rgE)=((O&&(r.ents.take k).all rgE)&&rgE x):=by rw [et,List.all_append,List.all_cons,List.all_nil,Bool.and_true,Bool.and_assoc]
    obtain ⟨O1,hO1⟩:∃ O1,(O&&(r.ents.take (k+1)).all rgE)=O1:=⟨_,rfl⟩
    rw [hO1] at eO
    generalize (O&&(r.ents.take k).all rgE)=Ok at *
    cases Ok
    all_goals
      simp only [Bool.false_and,Bool.true_and] at eO
      have hxo:=hr.eo x hxm
      simp only [go_sem,Int.toNat_natCast,ybb,hg,entryAV,entryC,p_xRanged,e5]
      (repeat with_reducible refine And.intro (by first | assumption | decide | omega) ?_)
      try refine ⟨x,⟨rfl,hxo⟩,?_⟩
      try simp only [go_sem,Int.toNat_natCast,ybb,e5]
      refine ⟨k+1,by omega,by omega,by (try simp only [zkm]);omega,by repeat (first | exact AHeap.Le.refl _ | refine AHeap.Le.push ?_ _),hclL,?_,?_⟩
      · simp [ltF,zmn,zmv,zmo,hnL,lt_map lt_entry]
        try omega
      · simp [subW,wk2,wk1,wkM,Fr.get,hO1,eO]
  have hk':k=r.ents.length:=by simp at hc;omega
  subst hk'
  rw [List.take_length]
  clear hc hk
  obtain ⟨O2,hO2⟩:∃ O2,(O&&r.ents.all rgE)=O2:=⟨_,rfl⟩
  rw [hO2]
  simp only [blkE,blkP,bhq,Nat.reduceMod,Nat.reduceDiv,stepH,stepM,toMs1,toMs,toMs0,strK,pubK,pubF,pubV,yaq,yar,yao,yap,go_sem,byq,hcrL,ybb]
  refine loop_introW (A:=Nat) (fun k=>[(1,.ptr H.nx 0),(4,.bool (O2&&(r.recs.take k).all okRec)),(63,.slice .any 7 (r.recs.map recAV)),(64,.int .i64 (r.recs.length:Int)),(65,.int .i64 (k:Int))]) (fun _=>HL) (fun k=>k≤r.recs.length) (fun k=>r.recs.length - k) 0 (by omega) ?_ fun k hk=>?_
  · refine ⟨by simp only [zjy,zkd,hnL];omega,by repeat (first | exact AHeap.Le.refl _ | refine AHeap.Le.push ?_ _),hclL,?_,?_⟩
    · simp [ltF,zmn,zmv,zmo,hnL,lt_map lt_rec]
      try omega
    · simp [subW,wk2,wk1,wkM,Fr.get]
  simp only [blkE,blkP,bhq,Nat.reduceMod,Nat.reduceDiv,stepH,stepM,toMs1,toMs,toMs0,strK,pubK,pubF,pubV,yaq,yar,yao,yap,go_sem,byq,hcrL,ybb]
  refine cond_split (fun hc=>?_) (fun hc=>?_)
  · have hk':k<r.recs.length:=by simp at hc;omega
    obtain ⟨x,hx⟩:∃ x,x=r.recs[k]:=⟨_,rfl⟩
    have hg:=getD_map (f:=recAV) (l:=r.recs) (k:=k) (x:=x) (by rw [List.getElem?_eq_getElem hk',hx])
    have e5:IntKind.i64.wrap ((k:Int)+1)=((k+1:Nat):Int):=by rw [wrap_i64]<;>omega
    have hxm:x∈r.recs:=by rw [hx];exact List.getElem_mem hk'
    have et:r.recs.take (k+1)=r.recs.take k++[x]:=by rw [hx,List.take_succ_eq_append_getElem hk']
    have eO:(O2&&(r.recs.take (k+1)).all okRec)=((O2&&(r.recs.take k).all okRec)&&okRec x):=by rw [et,List.all_append,List.all_cons,List.all_nil,Bool.and_true,Bool.and_assoc]
    obtain ⟨O1,hO1⟩:∃ O1,(O2&&(r.recs.take (k+1)).all okRec)=O1:=⟨_,rfl⟩
    rw [hO1] at eO
    generalize (O2&&(r.recs.take k).all okRec)=Ok at *
    cases Ok
    all_goals
      simp only [Bool.false_and,Bool.true_and] at eO
      simp only [go_sem,Int.toNat_natCast,ybb,hg,recAV,recC,p_xRec,e5]
      (repeat with_reducible refine And.intro (by first | assumption | decide | omega) ?_)
      try refine ⟨x,rfl,?_⟩
      try simp only [go_sem,Int.toNat_natCast,ybb,e5]
      refine ⟨k+1,by omega,by omega,by (try simp only [zkm]);omega,by repeat (first | exact AHeap.Le.refl _ | refine AHeap.Le.push ?_ _),hclL,?_,?_⟩
      · simp [ltF,zmn,zmv,zmo,hnL,lt_map lt_rec]
        try omega
      · simp [subW,wk2,wk1,wkM,Fr.get,hO1,eO]
  have hk':k=r.recs.length:=by simp at hc;omega
  subst hk'
  rw [List.take_length]
  clear hc hk
  obtain ⟨O3,hO3⟩:∃ O3,(O2&&r.recs.all okRec)=O3:=⟨_,rfl⟩
  rw [hO3]
  rw [hOK0,hO2,hO3] at he0
  simp only [blkE,blkP,bhq,Nat.reduceMod,Nat.reduceDiv,stepH,stepM,toMs1,toMs,toMs0,strK,pubK,pubF,pubV,yaq,yar,yao,yap,go_sem,byq,hcrL,ybb]
  cases O3
  · rw [if_pos (by decide)] at he0
    subst he0
    simp only [go_sem,byq]
    refine ⟨⟨.inl ⟨.inl rfl,rfl,rfl⟩,rfl,trivial⟩,by repeat (first | exact hleL | refine AHeap.Le.push ?_ _),hcl,?_⟩
    first | exact lt_resB | exact lt_resB (l:=[])
  rw [if_neg (by decide)] at he0
  rw [Bool.and_eq_true] at hO3
  obtain ⟨hO3,hrecs⟩:=hO3
  rw [hO3,Bool.and_eq_true] at hO2
  obtain ⟨hO2,hents⟩:=hO2
  rw [hO2] at hOK1
  rw [Bool.and_eq_true,Bool.and_eq_true] at hOK1
  obtain ⟨hA1,hW1,hB1⟩:=hOK1
  obtain ⟨xc,hc1,hc2⟩:=lit8 (k:=r.code) (by rw [hA,hA1])
  obtain ⟨xr,hr1,hr2⟩:=lit8 (k:=r.reas) (by rw [hB,hB1])
  have ln:=fun n w=>wUint_len n w
  have a2:=ln r.fail 2
  have a3:=ln (r.ents.length:Int) 2
  have a4:=ln (r.recs.length:Int) 2
  have a6:=ln r.port 2
  simp only [blkE,blkP,bhq,Nat.reduceMod,Nat.reduceDiv,stepH,stepM,toMs1,toMs,toMs0,strK,pubK,pubF,pubV,yaq,yar,yao,yap,go_sem,byq,Bool.not_true,hcrL,hnL,hc1,e_rUint,e_rBool,ybb]
  (repeat with_reducible refine And.intro (by first | omega | (simp only [List.length_append,yaz,yba];omega) | (simp only [List.length_append,yaz,yba,Nat.zero_add,Nat.reduceAdd];done) | (simp only [List.length_append,yaz,yba,Nat.zero_add,Nat.reduceAdd,Nat.add_comm,Nat.add_left_comm,Nat.add_assoc];done) | exact ⟨by first | omega | (simp only [List.length_append,yaz,yba];omega),by simp only [List.length_append,yaz,yba,Nat.zero_add,Nat.add_comm,Nat.add_left_comm,Nat.add_assoc]⟩ | exact ⟨by first | omega | (simp only [List.length_append,yaz,yba];omega),by first | omega | (simp only [List.length_append,yaz,yba];omega)⟩) ?_)
  obtain ⟨B0,hB0⟩:∃ B0,B0=xc::(wUint r.fail 2++[if r.prim=true then 1 else 0]++wUint (r.ents.length:Int) 2):=⟨_,rfl⟩
  have hb0:B0=headP r:=by rw [hB0];unfold headP;rw [hc2];rfl
  have hlb0:(wUint r.fail 2++[if r.prim=true then 1 else 0]).length+1+(wUint (r.ents.length:Int) 2).length=B0.length:=by rw [hB0];simp only [List.length_append,yaz,yba];omega
  rw [← hB0,hlb0]
  have hl0:B0.length≤30:=by rw [← hlb0];simp only [List.length_append,yaz,yba];omega
  refine loop_introW (A:=Nat) (fun k=>[(1,.ptr H.nx 0),(9,.slice (.own (H.nx+1+1)) 1 (bys (B0++(r.ents.take k).flatMap bodyE))),(93,.slice .any 5 (r.ents.map entryAV)),(94,.int .i64 (r.ents.length:Int)),(95,.int .i64 (k:Int))]) (fun k=>HL.push (.buf 1 (B0++(r.ents.take k).flatMap bodyE).length)) (fun k=>k≤r.ents.length) (fun k=>r.ents.length - k) 0 (by omega) ?_ fun k hk=>?_
  · rw [yar,List.flatMap_nil,yaj]
    refine ⟨by simp only [zjy,zkd,zkm,hnL];omega,by repeat (first | exact AHeap.Le.refl _ | refine AHeap.Le.push ?_ _),closed_buf hclL,?_,?_⟩
    · simp [ltF,zmn,zmv,zmo,zkm,hnL,lt_sliceL,zlx,lt_map lt_entry]
      try omega
    · simp [subW,wk2,wk1,wkM,Fr.get]
  simp only [blkE,blkP,bhq,Nat.reduceMod,Nat.reduceDiv,stepH,stepM,toMs1,toMs,toMs0,strK,pubK,pubF,pubV,yaq,yar,yao,yap,go_sem,byq,hcrL,ybb]
  have hlk:(B0++(r.ents.take k).flatMap bodyE).length≤17000:=by
    rw [List.length_append]
    have:=bodyEs_len (r.ents.take k) fun x hx=>hr.eo x (List.mem_of_mem_take hx)
    rw [List.length_take] at this
    omega
  refine cond_split (fun hc=>?_) (fun hc=>?_)
  · have hk':k<r.ents.length:=by simp at hc;omega
    obtain ⟨x,hx⟩:∃ x,x=r.ents[k]:=⟨_,rfl⟩
    have hg:=getD_map (f:=entryAV) (l:=r.ents) (k:=k) (x:=x) (by rw [List.getElem?_eq_getElem hk',hx])
    have e5:IntKind.i64.wrap ((k:Int)+1)=((k+1:Nat):Int):=by rw [wrap_i64]<;>omega
    have hxm:x∈r.ents:=by rw [hx];exact List.getElem_mem hk'
    have et:r.ents.take (k+1)=r.ents.take k++[x]:=by rw [hx,List.take_succ_eq_append_getElem hk']
    have eb:B0++(r.ents.take (k+1)).flatMap bodyE=B0++(r.ents.take k).flatMap bodyE++bodyE x:=by
      rw [et,List.flatMap_append,List.flatMap_cons,List.flatMap_nil,yaj,List.append_assoc]
    obtain ⟨B',hB'⟩:∃ B',B'=B0++(r.ents.take (k+1)).flatMap bodyE:=⟨_,rfl⟩
    rw [← hB'] at eb
    generalize B0++(r.ents.take k).flatMap bodyE=Bk at *
    have hxo:=hr.eo x hxm
    have hxe:=List.all_eq_true.1 hents x hxm
    have hbe:bodyE x=wEntry x:=by unfold bodyE;rw [if_pos hxe]
    obtain ⟨r1,r2⟩:=rgE_len (show rgE x=true from hxe)
    rw [hbe] at eb
    simp only [go_sem,byq,Int.toNat_natCast,ybb,hg,entryAV,entryC,hnL,e_rAppend10]
    (repeat with_reducible refine And.intro (by first | assumption | decide | omega | exact ⟨by omega,by omega⟩) ?_)
    refine ⟨x,Bk,⟨rfl,rfl,by omega,by omega,by omega,hxo,rfl⟩,k+1,by omega,by omega,?_⟩
    rw [← hB',eb]
    refine ⟨by simp only [zkm,hnL];omega,by (try simp only [List.length_append,yaz,yba]);repeat (first | exact AHeap.Le.refl _ | refine AHeap.Le.push ?_ _),closed_buf hclL,?_,?_⟩
    · simp [ltF,zmn,zmv,zmo,zkm,hnL,lt_sliceL,zlx,lt_map lt_entry]
      try omega
    · simp [subW,wk2,wk1,wkM,Fr.get,e5]
  have hk':k=r.ents.length:=by simp at hc;omega
  subst hk'
  rw [List.take_length]
  clear hc hk
  obtain ⟨B1,hB1⟩:∃ B1,B1=B0++r.ents.flatMap bodyE:=⟨_,rfl⟩
  rw [← hB1]
  have hl1:B1.length≤17000:=by
    rw [hB1,List.length_append]
    have:=bodyEs_len r.ents hr.eo
    omega
  simp only [blkE,blkP,bhq,Nat.reduceMod,Nat.reduceDiv,stepH,stepM,toMs1,toMs,toMs0,strK,pubK,pubF,pubV,yaq,yar,yao,yap,go_sem,byq,Bool.not_true,hcrL,hnL,e_rUint,e_rBool,ybb]
  (repeat with_reducible refine And.intro (by first | omega | (simp only [List.length_append,yaz,yba];omega) | (simp only [List.length_append,yaz,yba,Nat.zero_add,Nat.reduceAdd];done) | (simp only [List.length_append,yaz,yba,Nat.zero_add,Nat.reduceAdd,Nat.add_comm,Nat.add_left_comm,Nat.add_assoc];done) | exact ⟨by first | omega | (simp only [List.length_append,yaz,yba];omega),by simp only [List.length_append,yaz,yba,Nat.zero_add,Nat.add_comm,Nat.add_left_comm,Nat.add_assoc]⟩ | exact ⟨by first | omega | (simp only [List.length_append,yaz,yba];omega),by first | omega | (simp only [List.length_append,yaz,yba];omega)⟩) ?_)
  obtain ⟨B2,hB2⟩:∃ B2,B2=B1++wUint (r.recs.length:Int) 2:=⟨_,rfl⟩
  have hlb2:B1.length+(wUint (r.recs.length:Int) 2).length=B2.length:=by rw [hB2,List.length_append]
  rw [← hB2,hlb2]
  have hl2:B2.length≤17010:=by rw [← hlb2];omega
  refine loop_introW (A:=Nat) (fun k=>[(1,.ptr H.nx 0),(9,.slice (.own (H.nx+1+1)) 1 (bys (B2++(r.recs.take k).flatMap bodyRec))),(109,.slice .any 7 (r.recs.map recAV)),(110,.int .i64 (r.recs.length:Int)),(111,.int .i64 (k:Int))]) (fun k=>HL.push (.buf 1 (B2++(r.recs.take k).flatMap bodyRec).length)) (fun k=>k≤r.recs.length) (fun k=>r.recs.length - k) 0 (by omega) ?_ fun k hk=>?_
  · rw [yar,List.flatMap_nil,yaj]
    refine ⟨by simp only [zjy,zkd,zkm,hnL];omega,by repeat (first | exact AHeap.Le.refl _ | refine AHeap.Le.push ?_ _),closed_buf hclL,?_,?_⟩
    · simp [ltF,zmn,zmv,zmo,zkm,hnL,lt_sliceL,zlx,lt_map lt_rec]
      try omega
    · simp [subW,wk2,wk1,wkM,Fr.get]
  simp only [blkE,blkP,bhq,Nat.reduceMod,Nat.reduceDiv,stepH,stepM,toMs1,toMs,toMs0,strK,pubK,pubF,pubV,yaq,yar,yao,yap,go_sem,byq,hcrL,ybb]
  have hlk:(B2++(r.recs.take k).flatMap bodyRec).length≤18000:=by
    rw [List.length_append]
    have:=bodyRecs_len (r.recs.take k)
    rw [List.length_take] at this
    omega
  refine cond_split (fun hc=>?_) (fun hc=>?_)
  · have hk':k<r.recs.length:=by simp at hc;omega
    obtain ⟨x,hx⟩:∃ x,x=r.recs[k]:=⟨_,rfl⟩
    have hg:=getD_map (f:=recAV) (l:=r.recs) (k:=k) (x:=x) (by rw [List.getElem?_eq_getElem hk',hx])
    have e5:IntKind.i64.wrap ((k:Int)+1)=((k+1:Nat):Int):=by rw [wrap_i64]<;>omega
    have hxm:x∈r.recs:=by rw [hx];exact List.getElem_mem hk'
    have et:r.recs.take (k+1)=r.recs.take k++[x]:=by rw [hx,List.take_succ_eq_append_getElem hk']
    have eb:B2++(r.recs.take (k+1)).flatMap bodyRec=B2++(r.recs.take k).flatMap bodyRec++bodyRec x:=by
      rw [et,List.flatMap_append,List.flatMap_cons,List.flatMap_nil,yaj,List.append_assoc]
    obtain ⟨B',hB'⟩:∃ B',B'=B2++(r.recs.take (k+1)).flatMap bodyRec:=⟨_,rfl⟩
    rw [← hB'] at eb
    generalize B2++(r.recs.take k).flatMap bodyRec=Bk at *
    have hxe:=List.all_eq_true.1 hrecs x hxm
    unfold okRec at hxe
    simp only [Bool.and_eq_true] at hxe
    obtain ⟨x1,x2,x3,x4,x5⟩:=hxe
    obtain ⟨c2,e21,e22⟩:=lit8 x2
    obtain ⟨c4,e41,e42⟩:=lit8 x4
    obtain ⟨c6,e61,e62⟩:=lit8 x5
    have hbr:bodyRec x=wUint x.num 4++[c2]++wUint x.role 2++[c4,c6]++wUint x.fail 2++wUint x.upd 2:=by
      unfold bodyRec;rw [e22,e42,e62];simp [List.append_assoc]
    rw [hbr] at eb
    have y1:=ln x.num 4
    have y2:=ln x.role 2
    have y3:=ln x.fail 2
    have y4:=ln x.upd 2
    simp only [blkE,blkP,bhq,Nat.reduceMod,Nat.reduceDiv,stepH,stepM,toMs1,toMs,toMs0,strK,pubK,pubF,pubV,yaq,yar,yao,yap,go_sem,byq,Int.toNat_natCast,ybb,hg,recAV,recC,hnL,e_rUint,e21,e41,e61]
    simp only [and_assoc]
    (repeat with_reducible refine And.intro (by first | omega | (simp only [List.length_append,yaz,yba];omega) | (simp only [List.length_append,yaz,yba,Nat.zero_add,Nat.reduceAdd];done) | (simp only [List.length_append,yaz,yba,Nat.zero_add,Nat.reduceAdd,Nat.add_comm,Nat.add_left_comm,Nat.add_assoc];done) | exact ⟨by first | omega | (simp only [List.length_append,yaz,yba];omega),by simp only [List.length_append,yaz,yba,Nat.zero_add,Nat.add_comm,Nat.add_left_comm,Nat.add_assoc]⟩ | exact ⟨by first | omega | (simp only [List.length_append,yaz,yba];omega),by first | omega | (simp only [List.length_append,yaz,yba];omega)⟩) ?_)
    refine ⟨k+1,by omega,by omega,?_⟩
    rw [← hB']
    have hlb:(Bk++wUint x.num 4++[c2]++wUint x.role 2++[c4,c6]++wUint x.fail 2).length+(wUint x.upd 2).length=B'.length:=by rw [eb];simp only [List.length_append,yaz,yba];omega
    have hbe:Bk++wUint x.num 4++[c2]++wUint x.role 2++[c4,c6]++wUint x.fail 2++wUint x.upd 2=B':=by rw [eb];simp [List.append_assoc]
    rw [hbe,hlb]
    refine ⟨by simp only [zkm,hnL];omega,by (try simp only [List.length_append,yaz,yba]);repeat (first | exact AHeap.Le.refl _ | refine AHeap.Le.push ?_ _),closed_buf hclL,?_,?_⟩
    · simp [ltF,zmn,zmv,zmo,zkm,hnL,lt_sliceL,zlx,lt_map lt_rec]
      try omega
    · simp [subW,wk2,wk1,wkM,Fr.get,e5]
  have hk':k=r.recs.length:=by simp at hc;omega
  subst hk'
  rw [List.take_length]
  clear hc hk
  obtain ⟨B3,hB3⟩:∃ B3,B3=B2++r.recs.flatMap bodyRec:=⟨_,rfl⟩
  rw [← hB3]
  have hl3:B3.length≤18000:=by
    rw [hB3,List.length_append]
    have:=bodyRecs_len r.recs
    omega
  have hw:B3++[if r.drop=true then 1 else 0]++[xr]++wUint r.port 2++wBytes r.data=wireP r:=by
    rw [hB3,hB2,hB1,hb0];unfold wireP tailP;rw [hr2];simp [List.append_assoc,wBit]
  simp only [blkE,blkP,bhq,Nat.reduceMod,Nat.reduceDiv,stepH,stepM,toMs1,toMs,toMs0,strK,pubK,pubF,pubV,yaq,yar,yao,yap,go_sem,byq,Bool.not_true,hcrL,hnL,e_rUint,e_rBool,e_rBytes,hr1,ybb]
  try simp only [and_assoc]
  (repeat with_reducible refine And.intro (by first | omega | (simp only [List.length_append,yaz,yba];omega) | (simp only [List.length_append,yaz,yba,Nat.zero_add,Nat.reduceAdd];done) | (simp only [List.length_append,yaz,yba,Nat.zero_add,Nat.reduceAdd,Nat.add_comm,Nat.add_left_comm,Nat.add_assoc];done) | exact ⟨by first | omega | (simp only [List.length_append,yaz,yba];omega),by simp only [List.length_append,yaz,yba,Nat.zero_add,Nat.add_comm,Nat.add_left_comm,Nat.add_assoc]⟩ | exact ⟨by first | omega | (simp only [List.length_append,yaz,yba];omega),by first | omega | (simp only [List.length_append,yaz,yba];omega)⟩) ?_)
  rw [hw]
  subst he0
  refine ⟨⟨.inl ⟨.inl rfl,rfl,rfl⟩,rfl,trivial⟩,by repeat (first | exact hleL | refine AHeap.Le.push ?_ _),hcl,?_⟩
  first | exact lt_resB | exact lt_resB (l:=[])
end Go.AL


open Go Go.AL Go.Proofs
namespace Go.AL
set_option linter.all false
set_option maxRecDepth 10000

/-- a response whose records are told by a value -/
def respRv (r:SResp) (rv:AV):List AV:=[.int .i64 r.code,.int .i64 r.fail,.bool r.prim,.slice .any 5 (r.ents.map entryAV),rv,.bool r.drop,.int .i64 r.reas,.int .i64 r.port,.slice .any 1 (bys r.data)]
def gRV (S:Sch) (b:List UInt8) (v n:Nat):AV:=if cv b (cp v 3) 3=1 then .slice (.own n) 7 ((gResp S b v).1.recs.map recAV) else .slice .nil 1 []
def gCells (b:List UInt8) (v n:Nat) (us:List SRec):List AV:=[.int .i64 (cv b (cp v 0) 27:Nat),.int .i64 (cv b (cp v 1) 20:Nat),.bool (decide (cv b (cp v 2) 2=1)),.slice .nil 1 [],.slice (.own (n)) 7 (us.map recAV),.bool false,.int .i64 0,.int .i64 0,.slice .nil 1 []]
def garb (S:Sch) (b:List UInt8) (v:Nat) (H:AHeap) (us:List SRec):AHeap:=(((H.push (.cells (schC S))).push (.cells (gCells b v (H.nx+1+1+1) us))).push (.cells (gCells b v (H.nx+1+1+1) us))).push (.buf 7 us.length)
def gRH (S:Sch) (b:List UInt8) (v:Nat) (H:AHeap):AHeap:=if cv b (cp v 3) 3=1 then garb S b v H (gResp S b v).1.recs else H
theorem gRH_nx {S:Sch} {b:List UInt8} {v:Nat} {H:AHeap} {id:Nat} {x:AObj}:H.nx≤(gRH S b v (H.set id x)).nx:=by
  unfold gRH garb
  split<;>simp only [zkm,zkn]<;>omega
theorem lt_slice0 {n:Nat}:AV.lt n (.slice .nil 1 [])=True:=by rw [lt_sliceL];simp [znd]
theorem lt_respRv {n:Nat} (r:SResp) {rv:AV} (h:rv.lt n):AV.lt n (.agg (respRv r rv)):=by
  have h1:AV.lt n (.slice .any 5 (r.ents.map entryAV)):=lt_map lt_entry
  simp only [respRv,zmz,znc,znd,zmn,zmo,h1,h,zma,and_true,true_and]
  intro i e;cases e
def e_CResponseG:List AV→AHeap→(AEnd→AHeap→Prop)→Prop
  | [.ptr id 0,.agg l],H,K=>∃ S:Sch,(l=schC S∧GenS S)∧onC (H.get id) fun b v=>K (.ret (.agg (respRv (gResp S b v).1 (gRV S b v (H.nx+1+1+1))))) (gRH S b v (H.set id (codV b (gResp S b v).2)))
  | _,_,_=>False
set_option maxHeartbeats 4000000 in
theorem ok_CResponseG:EntOk Tryz.prog 21 (Ent.effect e_CResponseG):=by
  refine EntOk.effect fun args H K h=>?_
  unfold e_CResponseG at h
  split at h
  rotate_left
  · exact h.elim
  rename_i id l
  obtain ⟨S,⟨rfl,hS⟩,h⟩:=h
  obtain ⟨b,v,hg,hb,hv,hK⟩:=onC_out h
  refine ⟨_,_,hK,?_⟩
  clear hK h
  obtain ⟨R,hR⟩:∃ R,gResp S b v=R:=⟨_,rfl⟩
  rw [hR]
  have hR0:=hR
  unfold gResp at hR
  dsimp only at hR
  refine ACalls.of_aw (Ω:=[(48,Ent.effect e_ZNext),(53,Ent.effect e_CBoolD),(78,Ent.effect e_CEntriesX),(79,Ent.effect e_CBig),(80,Ent.effect e_CBytes)]) (T:=assoc [(10,[[],[],[],[],[],[3],[],[3,5],[],[3,5,7],[],[3,5,7,9],[],[3,5,7,9,11],[],[3,5,7,9,11,13],[],[3,5,7,9,11,13,15],[1,3,5,7,9,11,13,15],[],[1,3,5,7,9,11,13,15]]),(7,[[1]])]) mixed (TblOk.cons ok_ZNext (TblOk.cons ok_CBoolD (TblOk.cons ok_CEntriesX (TblOk.cons ok_CBig (TblOk.cons ok_CBytes TblOk.nil))))) Tryz.func21 (by kernel_rfl) (by rfl) (rs:=[.cell 4 60]) (by rfl) (by kernel_rfl) (by simp only [Tryz.ntmps21,yaz,yba];decide) gRH_nx fun hcl hlt=>?_
  change aw _ _ _ (KI Tryz.prog [(48,Ent.effect e_ZNext),(53,Ent.effect e_CBoolD),(78,Ent.effect e_CEntriesX),(79,Ent.effect e_CBig),(80,Ent.effect e_CBytes)] (aEnd Tryz.prog [.cell 4 60] H.nx _ _ (assoc [(10,[[],[],[],[],[],[3],[],[3,5],[],[3,5,7],[],[3,5,7,9],[],[3,5,7,9,11],[],[3,5,7,9,11,13],[],[3,5,7,9,11,13,15],[1,3,5,7,9,11,13,15],[],[1,3,5,7,9,11,13,15]]),(7,[[1]])])) []) _ _
  clear hlt
  unfold gRV gRH
  rw [hR0]
  have hid:=AHeap.get_lt hg
  have hne:=ne_nx hid
  have hgc:=get_codV (b:=b) hid
  have hcl2:∀ w,(H.set id (codV b w)).Closed:=fun w=>closed_set hcl codV_lt
  have t27:(27:Int).toNat=27:=rfl
  have t20:(20:Int).toNat=20:=rfl
  have t3:(3:Int).toNat=3:=rfl
  have t5:(5:Int).toNat=5:=rfl
  have t6:(6:Int).toNat=6:=rfl
  have t8:(8:Int).toNat=8:=rfl
  have t7:(7:Int).toNat=7:=rfl
  have t60:(60:Int).toNat=60:=rfl
  have t2:(2:Int).toNat=2:=rfl
  have h3:=cv_lt (b:=b) (v:=cp v 3) (n:=3) (by decide)
  simp only [go_sem,byq,Int.reduceBEq,e_ZNext,e_CBoolD,e_CBig,e_CBytes,hg,hgc,hne,onC_cod hb,cv_min,codV_min,cp_add,Int.toNat_natCast,gBig_min,gB_min,t27,t20,t3,t5,t6,t8,t7,t60,t2,schC]
  refine ⟨⟨by decide,by decide⟩,⟨by decide,by decide⟩,⟨by decide,by decide⟩,?_⟩
  have hk3:cv b (cp v 3) 3=0∨cv b (cp v 3) 3=1∨cv b (cp v 3) 3=2:=by omega
  rcases hk3 with hk | hk | hk
  · rw [hk] at hR ⊢
    simp only [Nat.reduceEqDiff,if_true,if_false] at hR
    subst hR
    simp only [go_sem,byq,Int.reduceBEq,e_ZNext,e_CBoolD,e_CBig,e_CBytes,hg,hgc,hne,onC_cod hb,cv_min,codV_min,cp_add,Int.toNat_natCast,gBig_min,gB_min,t27,t20,t3,t5,t6,t8,t7,t60,t2,Int.natCast_zero,e_CEntriesX,schC]
    refine ⟨S,⟨rfl,hS,by decide,by decide⟩,?_,by repeat (first | exact AHeap.Le.refl _ | refine AHeap.Le.push ?_ _),hcl2 _,lt_respRv _ (by rw [lt_slice0];trivial)⟩
    simp [wk,wk2,wkL,wk1,wkM,respRv,zkt]
  · rw [hk] at hR ⊢
    simp only [Nat.reduceEqDiff,if_true,if_false,Nat.one_ne_zero,reduceCtorEq] at hR
    subst hR
    simp only [go_sem,byq,Int.reduceBEq,e_ZNext,e_CBoolD,e_CBig,e_CBytes,hg,hgc,hne,onC_cod hb,cv_min,codV_min,cp_add,Int.toNat_natCast,gBig_min,gB_min,t27,t20,t3,t5,t6,t8,t7,t60,t2,Int.natCast_one,e_CEntriesX,schC]
    refine weak_cell 5 4 7 (cs:=[.int .i64 ((cv b (cp v 0) 27:Nat):Int),.int .i64 ((cv b (cp v 1) 20:Nat):Int),.bool (decide (cv b (cp v 2) 2=1)),.slice .nil 1 [],.slice .nil 1 [],.bool false,.int .i64 0,.int .i64 0,.slice .nil 1 []]) rfl (by simp only [go_sem]) rfl ?_
    simp only [blkE,blkP,bhq,Nat.reduceMod,Nat.reduceDiv,stepH,stepM,toMs1,toMs,toMs0,strK,pubK,pubF,pubV,yaq,yar,yao,yap,go_sem,byq,Int.reduceBEq,e_ZNext,e_CBoolD,e_CBig,e_CBytes,hg,hgc,hne,onC_cod hb,cv_min,codV_min,cp_add,Int.toNat_natCast,gBig_min,gB_min,t27,t20,t3,t5,t6,t8,t7,t60,t2,List.set_cons_succ,List.set_cons_zero]
    have hc5:=cv_lt (b:=b) (v:=cp v 4) (n:=5) (by decide)
    refine ⟨⟨by decide,by decide⟩,?_⟩
    generalize hU:gRecs b (cv b (cp v 4) 5) (cp v 5)=U
    have hcR:∀ (w:Nat) (us:List SRec),(((((H.set id (codV b w)).push (.cells (schC S))).push (.cells [.int .i64 0,.int .i64 0,.bool false,.slice .nil 1 [],.slice .nil 1 [],.bool false,.int .i64 0,.int .i64 0,.slice .nil 1 []])).push (.cells [.int .i64 (cv b (cp v 0) 27:Nat),.int .i64 (cv b (cp v 1) 20:Nat),.bool (decide (cv b (cp v 2) 2=1)),.slice .nil 1 [],.slice (.own (H.nx+1+1+1)) 7 (us.map recAV),.bool false,.int .i64 0,.int .i64 0,.slice .nil 1 []])).push (.buf 7 us.length)).Closed:=fun w us=>by
      have h0:(((((H.set id (codV b w)).push (.cells (schC S))).push (.cells [.int .i64 0,.int .i64 0,.bool false,.slice .nil 1 [],.slice .nil 1 [],.bool false,.int .i64 0,.int .i64 0,.slice .nil 1 []])).push (.cells [])).push (.buf 7 us.length)).Closed:=by
        repeat' (first | exact hcl2 _ | refine closed_buf ?_ | refine closed_cells ?_ ?_)
        · exact ltL_iff.2 fun j hj=>AV.lt_cells (lt_sch S) j hj
        · simp [lt_sliceL,znc,znd,zmn,zmo]
        · trivial
      have h1:=closed_set (i:=H.nx+1+1) (cs:=[.int .i64 (cv b (cp v 0) 27:Nat),.int .i64 (cv b (cp v 1) 20:Nat),.bool (decide (cv b (cp v 2) 2=1)),.slice .nil 1 [],.slice (.own (H.nx+1+1+1)) 7 (us.map recAV),.bool false,.int .i64 0,.int .i64 0,.slice .nil 1 []]) h0 (by
        simp [znc,znd,zmn,zmo,zkm,zkn,lt_sliceL]
        exact ltL_iff.2 fun j hj=>by rw [List.getElem_map];exact lt_rec _)
      simp only [go_sem,hne] at h1
      exact h1
    refine loop_introW (A:=Nat × Nat × List SRec) (fun x=>[(0,.ptr id 0),(4,.ptr (H.nx+1) 0),(5,.ptr (H.nx+1+1) 0),(6,.int .i64 (x.1:Int))]) (fun x=>(((((H.set id (codV b x.2.1)).push (.cells (schC S))).push (.cells [.int .i64 0,.int .i64 0,.bool false,.slice .nil 1 [],.slice .nil 1 [],.bool false,.int .i64 0,.int .i64 0,.slice .nil 1 []])).push (.cells [.int .i64 (cv b (cp v 0) 27:Nat),.int .i64 (cv b (cp v 1) 20:Nat),.bool (decide (cv b (cp v 2) 2=1)),.slice .nil 1 [],.slice (.own (H.nx+1+1+1)) 7 (x.2.2.map recAV),.bool false,.int .i64 0,.int .i64 0,.slice .nil 1 []])).push (.buf 7 x.2.2.length))) (fun x=>x.2.2.length+x.1≤4∧x.2.2++(gRecs b x.1 x.2.1).1=U.1∧(gRecs b x.1 x.2.1).2=U.2) (fun x=>x.1) (cv b (cp v 4) 5,cp v 5,[]) ⟨by simp;omega,by rw [hU];rfl,by rw [hU]⟩ ?_ fun x hx=>?_
    · refine ⟨by simp only [zjy,zkd,zkm,zkn];omega,AHeap.Le.refl _,hcR _ _,?_,?_⟩
      · simp [ltF,zmn,zmv,zkm,zkn]
        try omega
      · simp [subW,wk2,wk1,wkM,Fr.get]
    obtain ⟨n,w,us⟩:=x
    obtain ⟨hn,h1,h2⟩:=hx
    dsimp only at hn h1 h2 ⊢
    simp only [go_sem]
    refine cond_split (fun hc=>?_) (fun hc=>?_)
    · obtain ⟨n,rfl⟩:∃ m,n=m+1:=⟨n - 1,by simp at hc;omega⟩
      have e5:IntKind.i64.wrap (((n+1:Nat):Int) - 1)=((n:Nat):Int):=by rw [wrap_i64]<;>omega
      have hcp:codV b w=codV b (cp w 0):=rfl
      have hcp2:codV b (w+3)=codV b (cp w 3):=rfl
      simp only [go_sem,byq,Int.reduceBEq,e_ZNext,e_CBoolD,e_CBig,e_CBytes,hg,hgc,hne,onC_cod hb,cv_min,codV_min,cp_add,Int.toNat_natCast,gBig_min,gB_min,t27,t20,t3,t5,t6,t8,t7,t60,t2,hcp,List.set_cons_succ,List.set_cons_zero,ybb,e5]
      have hge:gRecs b (n+1) w=((gRec b w).1::(gRecs b n (gRec b w).2).1,(gRecs b n (gRec b w).2).2):=rfl
      rw [hge] at h1 h2
      dsimp only at h1 h2
      refine ⟨⟨by decide,by decide⟩,⟨by decide,by decide⟩,⟨by decide,by decide⟩,⟨by decide,by decide⟩,⟨by decide,by decide⟩,⟨by decide,by decide⟩,⟨by decide,by decide⟩,⟨by omega,by omega,fun z hz=>by rw [List.mem_singleton] at hz;subst hz;rfl⟩,(n,cp w 9,us++[(gRec b w).1]),⟨by simp only [List.length_append,yaz,yba];omega,by rw [← h1];simp [List.append_assoc,gRec],h2⟩,by dsimp only;omega,?_⟩
      refine ⟨by simp only [zkm,zkn];omega,?_,hcR _ _,?_,?_⟩
      · simp only [List.map_append,yae,yaf,recAV,recC,gRec,cp0,List.length_append,yaz,yba,schC,yal,yak]
        repeat (first | exact AHeap.Le.refl _ | refine AHeap.Le.push ?_ _)
      · simp [ltF,zmn,zmv,zkm,zkn]
        try omega
      · simp [subW,wk2,wk1,wkM,Fr.get]
    · have hn0:n=0:=by simp at hc;omega
      subst hn0
      simp only [gRecs,yaj] at h1 h2
      rw [h1]
      simp only [go_sem,byq,Int.reduceBEq,e_ZNext,e_CBoolD,e_CBig,e_CBytes,hg,hgc,hne,onC_cod hb,cv_min,codV_min,cp_add,Int.toNat_natCast,gBig_min,gB_min,t27,t20,t3,t5,t6,t8,t7,t60,t2]
      rw [← h2]
      rw [← h1]
      have hcG:(garb S b v (H.set id (codV b w)) us).Closed:=by
        have h1:=closed_set (i:=H.nx+1) (cs:=[.int .i64 (cv b (cp v 0) 27:Nat),.int .i64 (cv b (cp v 1) 20:Nat),.bool (decide (cv b (cp v 2) 2=1)),.slice .nil 1 [],.slice (.own (H.nx+1+1+1)) 7 (us.map recAV),.bool false,.int .i64 0,.int .i64 0,.slice .nil 1 []]) (hcR w us) (by
          simp [znc,znd,zmn,zmo,zkm,zkn,lt_sliceL]
          exact ltL_iff.2 fun j hj=>by rw [List.getElem_map];exact lt_rec _)
        simp only [go_sem,hne] at h1
        unfold garb gCells;exact h1
      refine ⟨?_,by unfold garb gCells;exact AHeap.Le.refl _,hcG,lt_respRv _ ?_⟩
      · simp [wk,wk2,wkL,wk1,wkM,respRv,zkt]
      · rw [lt_sliceL]
        refine ⟨fun i e=>(by cases e;simp only [garb,zkm,zkn];omega),ltL_iff.2 fun j hj=>by rw [List.getElem_map];exact lt_rec _⟩
  · rw [hk] at hR ⊢
    simp only [Nat.reduceEqDiff,if_true,if_false,reduceCtorEq] at hR
    subst hR
    rw [show ((2:Nat):Int)=2 from rfl]
    simp only [go_sem,byq,Int.reduceBEq,e_ZNext,e_CBoolD,e_CBig,e_CBytes,hg,hgc,hne,onC_cod hb,cv_min,codV_min,cp_add,Int.toNat_natCast,gBig_min,gB_min,t27,t20,t3,t5,t6,t8,t7,t60,t2,e_CEntriesX,schC]
    have h60:=cv_lt (b:=b) (v:=cp v 9) (n:=60) (by decide)
    have hGl:=gB_len (b:=b) (n:=cv b (cp v 9) 60) (v:=cp v 10)
    refine ⟨⟨by decide,by decide⟩,⟨by decide,by decide⟩,⟨by decide,by decide⟩,⟨by omega,by omega⟩,?_,by repeat (first | exact AHeap.Le.refl _ | refine AHeap.Le.push ?_ _),hcl2 _,lt_respRv _ (by rw [lt_slice0];trivial)⟩
    simp [wk,wk2,wkL,wk1,wkM,respRv,zkt]
    simp only [go_sem]
    refine ⟨?_,zmd (by simp only [zkn];omega)⟩
    rw [zlz (by omega),ybc (by omega)]
end Go.AL


open Go Go.AL Go.Proofs
namespace Go.AL
set_option linter.all false
set_option maxRecDepth 10000

theorem gBig_b {b:List UInt8} {v:Nat} {n:Int} (hn:0<n):0≤gBig b v n∧gBig b v n<n:=by
  have h0:=cv_256 (b:=b) (v:=cp v 0) (n:=256)
  have h1:=cv_256 (b:=b) (v:=cp v 1) (n:=256)
  have h2:=cv_256 (b:=b) (v:=cp v 2) (n:=256)
  unfold gBig
  generalize cv b (cp v 0) 256=x at *
  generalize cv b (cp v 1) 256=y at *
  generalize cv b (cp v 2) 256=z at *
  have e1:ishl .i64 (x:Int) 16=((x*65536:Nat):Int):=by
    show IntKind.i64.wrap ((x:Int)*65536)=_
    rw [wrap_i64]<;>omega
  have e2:ishl .i64 (y:Int) 8=((y*256:Nat):Int):=by
    show IntKind.i64.wrap ((y:Int)*256)=_
    rw [wrap_i64]<;>omega
  have hor:x*65536 ||| y*256<2^63:=Nat.or_lt_two_pow (by omega) (by omega)
  rw [e1,e2,ior_i64 _ _ (by omega) (by omega),ior_i64 _ _ hor (by omega)]
  exact ⟨Int.tmod_nonneg _ (by omega),Int.tmod_lt_of_pos _ hn⟩
theorem rg1_cv {b:List UInt8} {u n:Nat}:rg ((cv b u n:Nat):Int) 1=true:=by
  have:=cv_256 (b:=b) (v:=u) (n:=n)
  exact decide_eq_true ⟨by omega,by show ((cv b u n:Nat):Int)<256;omega⟩
theorem gRec_ok {b:List UInt8} {v:Nat}:okRec (gRec b v).1=true:=by
  obtain ⟨h1,h2⟩:=gBig_b (b:=b) (v:=v) (n:=1048576) (by decide)
  have h4:rg (gBig b v 1048576) 4=true:=decide_eq_true ⟨h1,by show gBig b v 1048576<4294967296;omega⟩
  unfold okRec gRec
  dsimp only
  rw [h4]
  simp only [List.all_cons,List.all_nil,rg1_cv,rg_cv,Bool.and_true]
theorem gRecs_rok {b:List UInt8}:∀ (n v:Nat),∀ x∈(gRecs b n v).1,okRec x=true
  | 0,v=>fun x hx=>by cases hx
  | n+1,v=>fun x hx=>by
    simp only [gRecs,List.mem_cons] at hx
    rcases hx with rfl | hx
    · exact gRec_ok
    · exact gRecs_rok n _ x hx
theorem gEntries_wok {S:Sch} (hG:GenS S) (hS:SSm S) {b:List UInt8}:∀ (n v:Nat),∀ e∈(gEntries S b n v).1,rgE e=true
  | 0,v=>fun x hx=>by cases hx
  | n+1,v=>fun x hx=>by
    unfold gEntries at hx
    split at hx
    · simp only [List.mem_cons] at hx
      rcases hx with rfl | hx
      · exact wok_rgE (gEntry_wok hG hS)
      · exact gEntries_wok hG hS n _ x hx
    · cases hx
/-- what is known of a response that is made of choices -/
structure GP (r:SResp):Prop where
  e:r.ents.length≤4
  rl:r.recs.length≤4
  d:r.data.length≤60
  c:∀ e∈r.ents,COk e
  re:r.ents.all rgE=true
  rr:r.recs.all okRec=true
  ok:okP r=true
theorem GP.pe {r:SResp} (h:GP r):PE r:=⟨by have:=h.e;omega,by have:=h.rl;omega,by have:=h.d;omega,h.c⟩
theorem gResp_gp {S:Sch} (hG:GenS S) (hS:SSm S) {b:List UInt8} {v:Nat}:GP (gResp S b v).1:=by
  have z:∀ e:SEntry,e∈([]:List SEntry)→COk e:=fun e he=>by cases he
  obtain ⟨g1,g2⟩:=gEntries_ok hG (b:=b) 4 (min (cp v 4) b.length)
  have g3:=gEntries_wok hG hS (b:=b) 4 (min (cp v 4) b.length)
  have h5:=cv_lt (b:=b) (v:=cp v 4) (n:=5) (by decide)
  have h60:=cv_lt (b:=b) (v:=cp v 9) (n:=60) (by decide)
  have hr:=gRecs_len (b:=b) (cv b (cp v 4) 5) (cp v 5)
  have hrr:=gRecs_rok (b:=b) (cv b (cp v 4) 5) (cp v 5)
  have r0:rg 0 2=true:=rg0 2
  have r01:rg 0 1=true:=rg0 1
  obtain ⟨p1,p2⟩:=gBig_b (b:=b) (v:=cp v 6) (n:=65536) (by decide)
  have hp:rg (gBig b (cp v 6) 65536) 2=true:=decide_eq_true ⟨p1,by show gBig b (cp v 6) 65536<65536;omega⟩
  unfold gResp
  dsimp only
  repeat' split
  · exact ⟨by dsimp only;omega,Nat.zero_le _,Nat.zero_le _,fun e he=>by obtain ⟨m,hm⟩:=g2 e he;exact ge_cok hG hm,List.all_eq_true.2 g3,rfl,by simp only [okP,List.all_cons,List.all_nil,rg1_cv,rg_cv,r0,r01,Bool.and_true]⟩
  · exact ⟨Nat.zero_le _,by dsimp only;omega,Nat.zero_le _,z,rfl,List.all_eq_true.2 hrr,by simp only [okP,List.all_cons,List.all_nil,rg1_cv,rg_cv,r0,r01,Bool.and_true]⟩
  · exact ⟨Nat.zero_le _,Nat.zero_le _,by dsimp only;rw [gB_len];omega,z,rfl,rfl,by simp only [okP,List.all_cons,List.all_nil,rg1_cv,rg_cv,hp,Bool.and_true]⟩
theorem GP.enc {r:SResp} (h:GP r):encP r=(wireP r,0):=by
  have h1:=h.e
  have h2:=h.rl
  have h3:=h.d
  unfold encP
  rw [if_neg (by omega),badP_ok (by omega) (by omega),h.re,h.rr,h.ok]
  rfl
theorem wireP_len {r:SResp} (h1:r.ents.length≤40) (h2:r.recs.length≤100) (h3:r.data.length≤1100) (h4:∀ e∈r.ents,COk e):(wireP r).length≤60000:=by
  have ln:=fun n w=>wUint_len n w
  have a1:=ln r.code 1
  have a2:=ln r.fail 2
  have a3:=ln (r.ents.length:Int) 2
  have a4:=ln (r.recs.length:Int) 2
  have a5:=ln r.reas 1
  have a6:=ln r.port 2
  have b1:=bodyEs_len r.ents h4
  have b2:=bodyRecs_len r.recs
  have b3:(wBytes r.data).length≤1110:=by
    unfold wBytes
    rw [List.length_append,be_len,List.length_take]
    omega
  unfold wireP headP tailP wBit
  simp only [List.length_append,yaz,yba]
  omega
theorem wireP_ne (r:SResp):wireP r≠[]:=by
  intro h
  have:=congrArg List.length h
  unfold wireP headP wBit at this
  simp at this
end Go.AL


open Go Go.AL Go.Proofs
namespace Go.AL
set_option linter.all false
set_option maxRecDepth 10000
theorem ti_resps:ti Tryz.prog 64=some ⟨.slice 60,1,24,.slice .nil 1 []⟩:=by kernel_rfl
theorem ti_bytess:ti Tryz.prog 66=some ⟨.slice 32,1,24,.slice .nil 1 []⟩:=by kernel_rfl
attribute [go_sem] ti_resps ti_bytess
theorem get_push_at {H:AHeap} {o:AObj} {i:Nat} (h:i=H.nx):(H.push o).get i=some o:=by subst h;exact AHeap.get_push_new _ _
theorem cs_same {H:AHeap} {i:Nat} {cs:List AV} (h:i<H.nx):cellsOf? (H.set i (.cells cs)) i=some cs:=cells_some (AHeap.get_set_same _ _ h)
theorem cs_ne {H:AHeap} {i j:Nat} {o:AObj} (h:j≠i):cellsOf? (H.set i o) j=cellsOf? H j:=by unfold cellsOf?;rw [AHeap.get_set_ne _ _ h]
theorem cs_push {H:AHeap} {j:Nat} {o:AObj} (h:j<H.nx):cellsOf? (H.push o) j=cellsOf? H j:=by unfold cellsOf?;rw [AHeap.get_push_lt _ _ h]
/-- the heap while records are appended to a response's object -/
def rcH (H:AHeap) (i q:Nat) (D:SResp) (us:List SRec):AHeap:=(H.set q (.buf 7 us.length)).set i (.cells (respRv D (.slice (.own q) 7 (us.map recAV))))
theorem rcH_nx {H:AHeap} {i q:Nat} {D:SResp} {us:List SRec}:(rcH H i q D us).nx=H.nx:=rfl
theorem rcH_rcH {H:AHeap} {i q:Nat} {D:SResp} {us vs:List SRec}:rcH (rcH H i q D us) i q D vs=rcH H i q D vs:=by
  unfold rcH AHeap.set
  dsimp only
  congr 1
  funext j
  by_cases h1:j=i
  · simp [h1]
  · by_cases h2:j=q<;>simp [h1,h2]
theorem rcH_i {H:AHeap} {i q:Nat} {D:SResp} {us:List SRec} (h:i<H.nx):cellsOf? (rcH H i q D us) i=some (respRv D (.slice (.own q) 7 (us.map recAV))):=cs_same (by rw [AHeap.nx_set];exact h)
theorem rcH_q {H:AHeap} {i q:Nat} {D:SResp} {us:List SRec} (h:q<H.nx) (hn:i≠q):(rcH H i q D us).get q=some (.buf 7 us.length):=by
  unfold rcH
  rw [AHeap.get_set_ne _ _ hn.symm,AHeap.get_set_same _ _ h]
theorem rcH_ne {H:AHeap} {i q j:Nat} {D:SResp} {us:List SRec} (h1:j≠i) (h2:j≠q):cellsOf? (rcH H i q D us) j=cellsOf? H j:=by
  unfold rcH
  rw [cs_ne h1,cs_ne h2]
theorem rcH_closed {H:AHeap} {i q:Nat} {D:SResp} {us:List SRec} (hc:H.Closed) (hq:q<H.nx):(rcH H i q D us).Closed:=by
  refine closed_set (closed_set_buf hc) ?_
  simp [respRv,znc,znd,zmn,zmo,zkn,lt_sliceL,zlx]
  exact ⟨ltL_iff.2 fun j hj=>by rw [List.getElem_map];exact lt_entry _,hq,ltL_iff.2 fun j hj=>by rw [List.getElem_map];exact lt_rec _⟩
theorem le_same {H:AHeap} {i:Nat} {o:AObj} (h:H.get i=some o):(H.set i o).Le H:=⟨Nat.le_refl _,fun j x hj=>by
  by_cases e:j=i
  · subst e;rw [AHeap.get_set_same _ _ (AHeap.get_lt h)] at hj;rw [h];exact hj
  · rw [AHeap.get_set_ne _ _ e] at hj;exact hj⟩
theorem rcH_same {H:AHeap} {i q:Nat} {D:SResp} {us:List SRec} (h1:H.get i=some (.cells (respRv D (.slice (.own q) 7 (us.map recAV))))) (h2:H.get q=some (.buf 7 us.length)) (hn:i≠q):(rcH H i q D us).Le H :=
  (le_same (by rw [AHeap.get_set_ne _ _ hn];exact h1)).trans (le_same h2)
theorem rcH_le {H0 H:AHeap} {i q:Nat} {D:SResp} {us:List SRec} (h:H0.Le H) (h1:H0.nx≤i) (h2:H0.nx≤q):H0.Le (rcH H i q D us):=⟨h.nx,fun j x hj=>by
  have:=AHeap.get_lt hj
  unfold rcH
  rw [AHeap.get_set_ne _ _ (by omega),AHeap.get_set_ne _ _ (by omega)]
  exact h.get j x hj⟩
/-- the records that the law appends -/
def nrec (k:Nat):List SRec:=(List.range k).map fun i:Nat=>⟨(i:Int),0,0,0,0,0,0⟩
theorem nrec_len (k:Nat):(nrec k).length=k:=by simp [nrec]
theorem nrec_succ (k:Nat):nrec (k+1)=nrec k++[⟨(k:Int),0,0,0,0,0,0⟩]:=by simp [nrec,List.range_succ]
theorem rows_junkP {l:List UInt8} {n k:Nat} (h:n=l.length):rowsOf 1 n (bys l++List.replicate k AV.junk)=bys l:=by
  subst h
  induction l with
  | nil=>rfl
  | cons a l ih =>
    show rowsOf 1 (l.length+1) (ofByte a::(bys l++List.replicate k AV.junk))=ofByte a::bys l
    simp only [rowsOf,if_true,yao,yap,ih]
    rfl
theorem ltL_junkedP {n k:Nat} {l:List UInt8}:ltL n (bys l++List.replicate k AV.junk):=ltL_iff.2 fun j hj=>by
  rw [List.getElem_append]
  split
  · exact ltL_iff.1 (of_eq_true zlx) j _
  · rw [List.getElem_replicate,AV.lt]<;>simp
theorem readEs_ok:∀ (n:Nat) (s:RS),(readEs n s).1.length=n∧∀ e∈(readEs n s).1,COk e
  | 0,s=>⟨rfl,fun e he=>by cases he⟩
  | n+1,s=>by
    obtain ⟨h1,h2⟩:=readEs_ok n (readE s).2
    refine ⟨by show ((readE s).1::(readEs n (readE s).2).1).length=_;rw [yaz,h1],fun e he=>?_⟩
    rcases List.mem_cons.1 (show e∈(readE s).1::(readEs n (readE s).2).1 from he) with rfl | he
    · exact readE_ok _
    · exact h2 e he
theorem readRs_len:∀ (n:Nat) (s:RS),(readRs n s).1.length=n
  | 0,s=>rfl
  | n+1,s=>by show ((readRec s).1::(readRs n (readRec s).2).1).length=_;rw [yaz,readRs_len n]
theorem rspF_pc (b:List UInt8):PC (rspF b).1:=by
  have z:PC zResp:=⟨Nat.zero_le _,Nat.zero_le _,fun e he=>by cases he⟩
  unfold rspF
  split
  · exact z
  · unfold dpF
    dsimp only
    obtain ⟨h1,h2⟩:=readEs_ok (countR (boolR (uintR (uintR (.any,b,0) 1).2 2).2).2 512).1.toNat (countR (boolR (uintR (uintR (.any,b,0) 1).2 2).2).2 512).2
    have c1:=countR_b (boolR (uintR (uintR (.any,b,0) 1).2 2).2).2 512 (by decide)
    refine ⟨by dsimp only;omega,?_,h2⟩
    dsimp only
    rw [readRs_len]
    have c2:=countR_b (readEs (countR (boolR (uintR (uintR (.any,b,0) 1).2 2).2).2 512).1.toNat (countR (boolR (uintR (uintR (.any,b,0) 1).2 2).2).2 512).2).2 24 (by decide)
    omega
def p_MessageResponses:List AV→AHeap→(AV→Prop)→Prop
  | [.agg la,.slice _ 1 l1,.slice _ 1 l2,.int .i64 at',.int .i64 n,.int .u8 by'],_,K=>∃ A:SResp,(la=respC A∧PC A∧isB l1∧isB l2 ∧ -9223372036854775808≤at'∧at'≤9223372036854775807∧0≤by'∧by'<256)∧K (.bool true)
  | _,_,_=>False
set_option maxHeartbeats 16000000 in
theorem ok_MessageResponses:EntOk Tryz.prog 5 (Ent.pure p_MessageResponses):=by
  refine EntOk.pure fun args H K h=>?_
  unfold p_MessageResponses at h
  split at h
  rotate_left
  · exact h.elim
  rename_i la m1 l1 m2 l2 at' n by'
  obtain ⟨A,⟨rfl,hA,c1,c2,ha1,ha2,hb1,hb2⟩,hK⟩:=h
  refine ⟨_,hK,?_⟩
  clear hK
  obtain ⟨x1,rfl⟩:=isB_out c1
  obtain ⟨x2,rfl⟩:=isB_out c2
  clear c1 c2
  by_cases h1:1100<A.data.length
  · have d1:decide ((A.data.length:Int) > 1100)=true:=decide_eq_true (by omega)
    refine ACalls.of_aw (Ω:=[(20,Ent.pure p_begun19),(14,Ent.effect e_ZNew),(15,Ent.effect e_CSchema),(21,Ent.effect e_CResponseG),(19,Ent.pure p_ZMod),(22,Ent.pure p_mEncP),(23,Ent.pure p_xEncP),(24,Ent.pure p_mDecP),(25,Ent.pure p_xDecP),(26,Ent.pure p_xSameP)]) (T:=assoc [(4,[[],[],[],[1,2],[],[1,2,3,4]]),(24,[[],[],[],[],[],[],[],[6],[],[],[],[6],[6,7]]),(804,[[4,60]]),(5,[[4]]),(6,[[13]]),(7,[[1,1]]),(11,[[1]]),(22,[[0,3]]),(23,[[30]])]) mixed (TblOk.cons ok_begun19 (TblOk.cons ok_ZNew (TblOk.cons ok_CSchema (TblOk.cons ok_CResponseG (TblOk.cons ok_ZMod (TblOk.cons ok_mEncP (TblOk.cons ok_xEncP (TblOk.cons ok_mDecP (TblOk.cons ok_xDecP (TblOk.cons ok_xSameP TblOk.nil)))))))))) Tryz.func5 (by kernel_rfl) (by rfl) (rs:=[.tmp 12]) (by rfl) (by kernel_rfl) (by simp only [Tryz.ntmps5,yaz,yba];decide) (Nat.le_refl _) fun hcl hlt=>?_
    change aw _ _ _ (KI Tryz.prog [(20,Ent.pure p_begun19),(14,Ent.effect e_ZNew),(15,Ent.effect e_CSchema),(21,Ent.effect e_CResponseG),(19,Ent.pure p_ZMod),(22,Ent.pure p_mEncP),(23,Ent.pure p_xEncP),(24,Ent.pure p_mDecP),(25,Ent.pure p_xDecP),(26,Ent.pure p_xSameP)] (aEnd Tryz.prog [.tmp 12] H.nx _ _ (assoc [(4,[[],[],[],[1,2],[],[1,2,3,4]]),(24,[[],[],[],[],[],[],[],[6],[],[],[],[6],[6,7]]),(804,[[4,60]]),(5,[[4]]),(6,[[13]]),(7,[[1,1]]),(11,[[1]]),(22,[[0,3]]),(23,[[30]])])) []) _ _
    clear hlt
    simp only [go_sem,byq,respC,ybb,d1,p_begun19]
    exact ⟨rfl,by repeat (first | exact AHeap.Le.refl _ | refine AHeap.Le.push ?_ _),hcl,by rw [zmo];trivial⟩
  have d1:decide ((A.data.length:Int) > 1100)=false:=decide_eq_false (by omega)
  by_cases h2:30<A.ents.length
  · have d2:decide ((A.ents.length:Int) > 30)=true:=decide_eq_true (by omega)
    refine ACalls.of_aw (Ω:=[(20,Ent.pure p_begun19),(14,Ent.effect e_ZNew),(15,Ent.effect e_CSchema),(21,Ent.effect e_CResponseG),(19,Ent.pure p_ZMod),(22,Ent.pure p_mEncP),(23,Ent.pure p_xEncP),(24,Ent.pure p_mDecP),(25,Ent.pure p_xDecP),(26,Ent.pure p_xSameP)]) (T:=assoc [(4,[[],[],[],[1,2],[],[1,2,3,4]]),(24,[[],[],[],[],[],[],[],[6],[],[],[],[6],[6,7]]),(804,[[4,60]]),(5,[[4]]),(6,[[13]]),(7,[[1,1]]),(11,[[1]]),(22,[[0,3]]),(23,[[30]])]) mixed (TblOk.cons ok_begun19 (TblOk.cons ok_ZNew (TblOk.cons ok_CSchema (TblOk.cons ok_CResponseG (TblOk.cons ok_ZMod (TblOk.cons ok_mEncP (TblOk.cons ok_xEncP (TblOk.cons ok_mDecP (TblOk.cons ok_xDecP (TblOk.cons ok_xSameP TblOk.nil)))))))))) Tryz.func5 (by kernel_rfl) (by rfl) (rs:=[.tmp 12]) (by rfl) (by kernel_rfl) (by simp only [Tryz.ntmps5,yaz,yba];decide) (Nat.le_refl _) fun hcl hlt=>?_
    change aw _ _ _ (KI Tryz.prog [(20,Ent.pure p_begun19),(14,Ent.effect e_ZNew),(15,Ent.effect e_CSchema),(21,Ent.effect e_CResponseG),(19,Ent.pure p_ZMod),(22,Ent.pure p_mEncP),(23,Ent.pure p_xEncP),(24,Ent.pure p_mDecP),(25,Ent.pure p_xDecP),(26,Ent.pure p_xSameP)] (aEnd Tryz.prog [.tmp 12] H.nx _ _ (assoc [(4,[[],[],[],[1,2],[],[1,2,3,4]]),(24,[[],[],[],[],[],[],[],[6],[],[],[],[6],[6,7]]),(804,[[4,60]]),(5,[[4]]),(6,[[13]]),(7,[[1,1]]),(11,[[1]]),(22,[[0,3]]),(23,[[30]])])) []) _ _
    clear hlt
    simp only [go_sem,byq,respC,ybb,d1,d2,p_begun19]
    exact ⟨rfl,by repeat (first | exact AHeap.Le.refl _ | refine AHeap.Le.push ?_ _),hcl,by rw [zmo];trivial⟩
  have d2:decide ((A.ents.length:Int) > 30)=false:=decide_eq_false (by omega)
  by_cases h3:40<A.recs.length
  · have d3:decide ((A.recs.length:Int) > 40)=true:=decide_eq_true (by omega)
    refine ACalls.of_aw (Ω:=[(20,Ent.pure p_begun19),(14,Ent.effect e_ZNew),(15,Ent.effect e_CSchema),(21,Ent.effect e_CResponseG),(19,Ent.pure p_ZMod),(22,Ent.pure p_mEncP),(23,Ent.pure p_xEncP),(24,Ent.pure p_mDecP),(25,Ent.pure p_xDecP),(26,Ent.pure p_xSameP)]) (T:=assoc [(4,[[],[],[],[1,2],[],[1,2,3,4]]),(24,[[],[],[],[],[],[],[],[6],[],[],[],[6],[6,7]]),(804,[[4,60]]),(5,[[4]]),(6,[[13]]),(7,[[1,1]]),(11,[[1]]),(22,[[0,3]]),(23,[[30]])]) mixed (TblOk.cons ok_begun19 (TblOk.cons ok_ZNew (TblOk.cons ok_CSchema (TblOk.cons ok_CResponseG (TblOk.cons ok_ZMod (TblOk.cons ok_mEncP (TblOk.cons ok_xEncP (TblOk.cons ok_mDecP (TblOk.cons ok_xDecP (TblOk.cons ok_xSameP TblOk.nil)))))))))) Tryz.func5 (by kernel_rfl) (by rfl) (rs:=[.tmp 12]) (by rfl) (by kernel_rfl) (by simp only [Tryz.ntmps5,yaz,yba];decide) (Nat.le_refl _) fun hcl hlt=>?_
    change aw _ _ _ (KI Tryz.prog [(20,Ent.pure p_begun19),(14,Ent.effect e_ZNew),(15,Ent.effect e_CSchema),(21,Ent.effect e_CResponseG),(19,Ent.pure p_ZMod),(22,Ent.pure p_mEncP),(23,Ent.pure p_xEncP),(24,Ent.pure p_mDecP),(25,Ent.pure p_xDecP),(26,Ent.pure p_xSameP)] (aEnd Tryz.prog [.tmp 12] H.nx _ _ (assoc [(4,[[],[],[],[1,2],[],[1,2,3,4]]),(24,[[],[],[],[],[],[],[],[6],[],[],[],[6],[6,7]]),(804,[[4,60]]),(5,[[4]]),(6,[[13]]),(7,[[1,1]]),(11,[[1]]),(22,[[0,3]]),(23,[[30]])])) []) _ _
    clear hlt
    simp only [go_sem,byq,respC,ybb,d1,d2,d3,p_begun19]
    exact ⟨rfl,by repeat (first | exact AHeap.Le.refl _ | refine AHeap.Le.push ?_ _),hcl,by rw [zmo];trivial⟩
  have d3:decide ((A.recs.length:Int) > 40)=false:=decide_eq_false (by omega)
  have hPA:PE A:=⟨by omega,by omega,by omega,hA.eo⟩
  obtain ⟨B1,hB1⟩:∃ B1,x1.take (min (x1.length:Int) 120).toNat=B1:=⟨_,rfl⟩
  obtain ⟨B2,hB2⟩:∃ B2,x2.take (min (x2.length:Int) 80).toNat=B2:=⟨_,rfl⟩
  have hL1:B1.length≤1000000:=by rw [← hB1,List.length_take];omega
  have hL2:B2.length≤1000000:=by rw [← hB2,List.length_take];omega
  have hG:=genS_ok B1 0
  have hSS:=ssm_ok B1 0
  generalize hS:gSchema B1 0=SS at *
  obtain ⟨S,w1⟩:=SS
  dsimp only at hG hSS
  have hz1:zod B1 0=codV B1 (cp 0 0):=zod_codV
  have hz2:zod B2 0=codV B2 (cp 0 0):=zod_codV
  have hR:=gResp_gp hG hSS (b:=B2) (v:=0)
  obtain ⟨NN,hNN⟩:∃ NN:Nat,iand .i64 n 3=(NN:Int)∧NN≤3:=⟨(iand .i64 n 3).toNat,by have:=iand3 n;omega,by have:=iand3 n;omega⟩
  obtain ⟨hNN,hN3⟩:=hNN
  have hw998:IntKind.i64.wrap (998+(NN:Int))=((998+NN:Nat):Int):=by rw [wrap_i64]<;>omega
  have hw22:IntKind.i64.wrap (22+(NN:Int))=((22+NN:Nat):Int):=by rw [wrap_i64]<;>omega
  refine ACalls.of_aw (Ω:=[(20,Ent.pure p_begun19),(14,Ent.effect e_ZNew),(15,Ent.effect e_CSchema),(21,Ent.effect e_CResponseG),(19,Ent.pure p_ZMod),(22,Ent.pure p_mEncP),(23,Ent.pure p_xEncP),(24,Ent.pure p_mDecP),(25,Ent.pure p_xDecP),(26,Ent.pure p_xSameP)]) (T:=assoc [(4,[[],[],[],[1,2],[],[1,2,3,4]]),(24,[[],[],[],[],[],[],[],[6],[],[],[],[6],[6,7]]),(804,[[4,60]]),(5,[[4]]),(6,[[13]]),(7,[[1,1]]),(11,[[1]]),(22,[[0,3]]),(23,[[30]])]) mixed (TblOk.cons ok_begun19 (TblOk.cons ok_ZNew (TblOk.cons ok_CSchema (TblOk.cons ok_CResponseG (TblOk.cons ok_ZMod (TblOk.cons ok_mEncP (TblOk.cons ok_xEncP (TblOk.cons ok_mDecP (TblOk.cons ok_xDecP (TblOk.cons ok_xSameP TblOk.nil)))))))))) Tryz.func5 (by kernel_rfl) (by rfl) (rs:=[.tmp 12]) (by rfl) (by kernel_rfl) (by simp only [Tryz.ntmps5,yaz,yba];decide) (Nat.le_refl _) fun hcl hlt=>?_
  change aw _ _ _ (KI Tryz.prog [(20,Ent.pure p_begun19),(14,Ent.effect e_ZNew),(15,Ent.effect e_CSchema),(21,Ent.effect e_CResponseG),(19,Ent.pure p_ZMod),(22,Ent.pure p_mEncP),(23,Ent.pure p_xEncP),(24,Ent.pure p_mDecP),(25,Ent.pure p_xDecP),(26,Ent.pure p_xSameP)] (aEnd Tryz.prog [.tmp 12] H.nx _ _ (assoc [(4,[[],[],[],[1,2],[],[1,2,3,4]]),(24,[[],[],[],[],[],[],[],[6],[],[],[],[6],[6,7]]),(804,[[4,60]]),(5,[[4]]),(6,[[13]]),(7,[[1,1]]),(11,[[1]]),(22,[[0,3]]),(23,[[30]])])) []) _ _
  clear hlt
  simp only [blkE,blkP,bhq,Nat.reduceMod,Nat.reduceDiv,stepH,stepM,toMs1,toMs,toMs0,strK,pubK,pubF,pubV,yaq,yar,yao,yap,go_sem,byq,respC,ybb,d1,d2,d3,e_ZNew]
  refine ⟨x1,⟨rfl,by omega⟩,?_⟩
  rw [hB1,hz1]
  have hSch:e_CSchema=eG fun b v=>(schAV (gSchema b v).1,(gSchema b v).2):=rfl
  simp only [blkE,blkP,bhq,Nat.reduceMod,Nat.reduceDiv,stepH,stepM,toMs1,toMs,toMs0,strK,pubK,pubF,pubV,yaq,yar,yao,yap,go_sem,byq,e_ZNew,hSch,eG,onC_cod hL1,Nat.zero_min,cp0,hS,schAV,schC]
  refine ⟨x2,⟨rfl,by omega⟩,?_⟩
  rw [hB2,hz2]
  generalize hPP:gResp S B2 0=PP at *
  obtain ⟨R,w2⟩:=PP
  dsimp only at hR
  have hRV:∀ n,gRV S B2 0 n=if cv B2 (cp 0 3) 3=1 then .slice (.own n) 7 (R.recs.map recAV) else .slice .nil 1 []:=fun n=>by unfold gRV;rw [hPP]
  have hRH:∀ X,gRH S B2 0 X=if cv B2 (cp 0 3) 3=1 then garb S B2 0 X R.recs else X:=fun X=>by unfold gRH;rw [hPP]
  have hnil:cv B2 (cp 0 3) 3≠1→R.recs=[]:=fun h=>by
    have e:=congrArg (fun x=>x.1.recs) hPP
    dsimp only at e
    rw [← e]
    unfold gResp
    dsimp only
    split
    · rfl
    · simp only [if_neg h]
  simp only [blkE,blkP,bhq,Nat.reduceMod,Nat.reduceDiv,stepH,stepM,toMs1,toMs,toMs0,strK,pubK,pubF,pubV,yaq,yar,yao,yap,go_sem,byq,e_CResponseG,onC_cod hL2,Nat.zero_min,cp0]
  refine ⟨S,⟨rfl,hG⟩,?_⟩
  rw [hPP,hRV,hRH]
  obtain ⟨HA,hHA⟩:∃ HA,((H.push (AObj.cells [AV.int IntKind.i64 A.code,AV.int IntKind.i64 A.fail,AV.bool A.prim,AV.slice Mark.any 5 (List.map entryAV A.ents),AV.slice Mark.any 7 (List.map recAV A.recs),AV.bool A.drop,AV.int IntKind.i64 A.reas,AV.int IntKind.i64 A.port,AV.slice Mark.any 1 (bys A.data)])).push (codV B1 w1)).push (AObj.cells [AV.slice Mark.any 3 (List.map fieldAV S.fields),AV.slice Mark.any 3 (List.map headerAV S.headers),AV.slice Mark.any 5 (List.map stateAV S.states),AV.slice Mark.any 5 (List.map actionAV S.actions),AV.slice Mark.any 8 (List.map tableAV S.tables),AV.slice Mark.any 2 (List.map stageAV S.stages),AV.slice Mark.any 6 (List.map roleAV S.roles),AV.slice Mark.any 6 (List.map refAV S.refs),AV.int IntKind.i64 S.maxBatch,AV.int IntKind.i64 S.budget])=HA:=⟨_,rfl⟩
  rw [hHA]
  have hnA:HA.nx=H.nx+1+1+1:=by rw [← hHA];rfl
  have hclA:HA.Closed:=by
    rw [← hHA]
    refine closed_cells (closed_cells (closed_cells hcl ?_) codV_lt) (ltL_iff.2 fun j hj=>AV.lt_cells (lt_sch S) j hj)
    have:=lt_resp (n:=H.nx+1) A
    simp only [respAV,zmz] at this
    exact this
  have hleA:H.Le HA:=by rw [← hHA];repeat (first | exact AHeap.Le.refl _ | refine AHeap.Le.push ?_ _)
  have hcA:cellsOf? HA H.nx=some (respC A):=by rw [← hHA];simp only [go_sem,respC]
  simp only [respC] at hcA
  clear hHA
  apply join_cut (α:=AHeap × Nat × Nat) (fun x=>[(3,.int .i64 at'),(4,.int .i64 n),(5,.int .u8 by'),(6,.ptr H.nx 0),(14,.ptr (H.nx+1+1+1) 0),(15,.ptr x.2.1 0)]) (fun x=>x.1) (fun x=>x.1.Closed∧H.Le x.1∧cellsOf? x.1 H.nx=some (respC A)∧cellsOf? x.1 (H.nx+1+1+1)=some (respC R)∧x.1.get x.2.1=some (.cells (respRv { R with data:=List.replicate (998+NN) 0 } (.slice (.own x.2.2) 7 (R.recs.map recAV))))∧x.1.get x.2.2=some (.buf 7 R.recs.length)∧H.nx+1+1+1<x.2.1∧H.nx+1+1+1<x.2.2∧x.2.1≠x.2.2)
  · intro J
    by_cases hk:cv B2 (cp 0 3) 3=1
    · rw [if_pos hk,if_pos hk]
      unfold garb
      simp only [blkE,blkP,bhq,Nat.reduceMod,Nat.reduceDiv,stepH,stepM,toMs1,toMs,toMs0,strK,pubK,pubF,pubV,yaq,yar,yao,yap,go_sem,byq,respRv,hnA,hcA]
      refine weak_obj (H.nx+1+1+1) (cs:=respRv R (.slice (.own (H.nx+1+1+1+1+1+1+1+1)) 7 (R.recs.map recAV))) (respC R) (by simp only [go_sem,hnA,respRv]) ?_ ?_
      · simp [respC,respRv,wkD_agg,wkD_slice,wkDL_cons,wkDL_nil,wkDR_cons,wkDR_nil,wkD_int,wkD_bool,wkM,wkDR_same]
      simp only [blkE,blkP,bhq,Nat.reduceMod,Nat.reduceDiv,stepH,stepM,toMs1,toMs,toMs0,strK,pubK,pubF,pubV,yaq,yar,yao,yap,go_sem,byq,respC,hnA,hcA,hNN,hw998,Int.toNat_natCast]
      refine ⟨⟨by omega,by omega,by omega⟩,?_⟩
      obtain ⟨HW,hHW⟩:∃ HW,HW=(((((((HA.push (.cells (respC R))).push (codV B2 w2)).push (.cells (schC S))).push (.cells (gCells B2 0 (H.nx+1+1+1+1+1+1+1+1) R.recs))).push (.cells (gCells B2 0 (H.nx+1+1+1+1+1+1+1+1) R.recs))).push (.buf 7 R.recs.length))).push (.cells (respRv R (.slice (.own (H.nx+1+1+1+1+1+1+1+1)) 7 (R.recs.map recAV)))):=⟨_,rfl⟩
      have hnW:HW.nx=H.nx+1+1+1+1+1+1+1+1+1+1:=by rw [hHW];simp only [zkm,hnA]
      have hclW:HW.Closed:=by
        have hc0:((((((((HA.push (.cells (respC R))).push (codV B2 w2)).push (.cells (schC S))).push (.cells ([]))).push (.cells ([]))).push (.buf 7 R.recs.length))).push (.cells [])).Closed:=by
          refine closed_cells (closed_buf (closed_cells (closed_cells (closed_cells (closed_cells (closed_cells hclA (by have:=lt_resp (n:=HA.nx+1) R;simp only [respAV,zmz] at this;exact this)) codV_lt) (ltL_iff.2 fun j hj=>AV.lt_cells (lt_sch S) j hj)) trivial) trivial)) trivial
        have g1:=closed_set (i:=H.nx+1+1+1+1+1+1+1+1+1) (cs:=respRv R (.slice (.own (H.nx+1+1+1+1+1+1+1+1)) 7 (R.recs.map recAV))) hc0 (by
          simp [respRv,znc,znd,zmn,zmo,zkm,zkn,lt_sliceL,hnA,zlx]
          exact ⟨ltL_iff.2 fun j hj=>by rw [List.getElem_map];exact lt_entry _,ltL_iff.2 fun j hj=>by rw [List.getElem_map];exact lt_rec _⟩)
        have g2:=closed_set (i:=H.nx+1+1+1+1+1+1) (cs:=gCells B2 0 (H.nx+1+1+1+1+1+1+1+1) R.recs) g1 (by
          simp [gCells,znc,znd,zmn,zmo,zkm,zkn,lt_sliceL,hnA,zlx]
          exact ltL_iff.2 fun j hj=>by rw [List.getElem_map];exact lt_rec _)
        have g3:=closed_set (i:=H.nx+1+1+1+1+1+1+1) (cs:=gCells B2 0 (H.nx+1+1+1+1+1+1+1+1) R.recs) g2 (by
          simp [gCells,znc,znd,zmn,zmo,zkm,zkn,lt_sliceL,hnA,zlx]
          exact ltL_iff.2 fun j hj=>by rw [List.getElem_map];exact lt_rec _)
        simp only [go_sem,hnA] at g3
        rw [hHW]
        exact g3
      refine weak_here [(3,.int .i64 at'),(4,.int .i64 n),(5,.int .u8 by'),(6,.ptr H.nx 0),(14,.ptr (H.nx+1+1+1) 0),(15,.ptr (H.nx+1+1+1+1+1+1+1+1+1) 0),(61,.slice .any 1 (bys (List.replicate (998+NN) 0)))] HW ?_ ?_
      · refine ⟨by simp only [zkd,zjy,KI_n0,hnW];omega,by rw [hHW];simp only [respC,respRv,gCells,schC];repeat (first | exact AHeap.Le.refl _ | refine AHeap.Le.push ?_ _),hclW,?_,?_⟩
        · simp [ltF,zmn,zmv,zma,hnW]
          try omega
        · simp [subW,wk2,wk1,wkM,Fr.get]
          simp only [go_sem,hnA]
          refine ⟨?_,zmd (by rw [hnW];omega)⟩
          rw [zlz (by rw [List.length_replicate];exact Nat.le_refl _),ybc (by rw [List.length_replicate];exact Nat.le_refl _)]
      have hcW:cellsOf? HW (H.nx+1+1+1+1+1+1+1+1+1)=some (respRv R (.slice (.own (H.nx+1+1+1+1+1+1+1+1)) 7 (R.recs.map recAV))):=by rw [hHW];simp only [go_sem,hnA]
      have hleW:H.Le HW:=by rw [hHW];repeat (first | exact hleA | refine AHeap.Le.push ?_ _)
      have hcA2:cellsOf? HW H.nx=some (respC A):=by rw [hHW];simp only [go_sem,hnA,hcA,respC]
      have hcR2:cellsOf? HW (H.nx+1+1+1)=some (respC R):=by rw [hHW];simp only [go_sem,hnA]
      have hbq:HW.get (H.nx+1+1+1+1+1+1+1+1)=some (.buf 7 R.recs.length):=by rw [hHW];simp only [go_sem,hnA]
      clear hHW
      simp only [respC,respRv] at hcW
      simp only [blkE,blkP,bhq,Nat.reduceMod,Nat.reduceDiv,stepH,stepM,toMs1,toMs,toMs0,strK,pubK,pubF,pubV,yaq,yar,yao,yap,go_sem,byq,respC,respRv,hnW,hcW,hNN,hw998,Int.toNat_natCast]
      refine weak_obj (H.nx+1+1+1+1+1+1+1+1+1) (cs:=respRv { R with data:=List.replicate (998+NN) 0 } (.slice (.own (H.nx+1+1+1+1+1+1+1+1)) 7 (R.recs.map recAV))) (respRv { R with data:=List.replicate (998+NN) 0 } (.slice (.own (H.nx+1+1+1+1+1+1+1+1)) 7 (R.recs.map recAV))) (by rw [cs_same (by omega)];rfl) (by simp [respRv,wkDL_cons,wkDL_nil,wkD_int,wkD_bool,wkD_slice,wkDR_same,wkM]) ?_
      simp only [blkE,blkP,bhq,Nat.reduceMod,Nat.reduceDiv,stepH,stepM,toMs1,toMs,toMs0,strK,pubK,pubF,pubV,yaq,yar,yao,yap,go_sem,byq,respRv,hnW,List.set_cons_succ,List.set_cons_zero]
      have hi15:H.nx+1+1+1+1+1+1+1+1+1<HW.nx:=by omega
      refine weak_join J ((HW.set (H.nx+1+1+1+1+1+1+1+1+1) (.cells (respRv { R with data:=List.replicate (998+NN) 0 } (.slice (.own (H.nx+1+1+1+1+1+1+1+1)) 7 (R.recs.map recAV))))),H.nx+1+1+1+1+1+1+1+1+1,H.nx+1+1+1+1+1+1+1+1) ⟨?_,?_,?_,?_,?_,?_,by dsimp only;omega,by dsimp only;omega,by dsimp only;omega⟩ ⟨by simp only [zkd,zjy,KI_n0,zkm,zkn,hnW];omega,?_,?_,?_,?_⟩
      · exact closed_set hclW (by
          simp [respRv,znc,znd,zmn,zmo,zkm,zkn,lt_sliceL,hnW,zlx]
          exact ⟨ltL_iff.2 fun j hj=>by rw [List.getElem_map];exact lt_entry _,ltL_iff.2 fun j hj=>by rw [List.getElem_map];exact lt_rec _⟩)
      · refine ⟨by simp only [zkm,zkn];have:=hleW.nx;omega,fun j x hj=>?_⟩
        have hj2:=AHeap.get_lt hj
        rw [AHeap.get_set_ne _ _ (by omega)]
        exact hleW.get _ _ hj
      · dsimp only;rw [cs_ne (by omega),hcA2]
      · dsimp only;rw [cs_ne (by omega),hcR2]
      · dsimp only;rw [AHeap.get_set_same _ _ (by omega)]
      · dsimp only;rw [AHeap.get_set_ne _ _ (by omega)];exact hbq
      · simp only [respRv]
        repeat (first | exact AHeap.Le.refl _ | refine AHeap.Le.push ?_ _)
      · exact closed_set hclW (by
          simp [respRv,znc,znd,zmn,zmo,zkm,zkn,lt_sliceL,hnW,zlx]
          exact ⟨ltL_iff.2 fun j hj=>by rw [List.getElem_map];exact lt_entry _,ltL_iff.2 fun j hj=>by rw [List.getElem_map];exact lt_rec _⟩)
      · simp [ltF,zmn,zmv,zkm,zkn,hnW]
        try omega
      · simp [subW,wk2,wk1,wkM,Fr.get]
    · rw [if_neg hk,if_neg hk]
      simp only [blkE,blkP,bhq,Nat.reduceMod,Nat.reduceDiv,stepH,stepM,toMs1,toMs,toMs0,strK,pubK,pubF,pubV,yaq,yar,yao,yap,go_sem,byq,respRv,hnA,hcA]
      refine weak_obj (H.nx+1+1+1) (cs:=respRv R (.slice .nil 1 [])) (respC R) (by simp only [go_sem,hnA,respRv]) ?_ ?_
      · simp [respC,respRv,wkD_agg,wkD_slice,wkDL_cons,wkDL_nil,wkDR_cons,wkDR_nil,wkD_int,wkD_bool,wkM,wkDR_same,hnil hk]
      simp only [blkE,blkP,bhq,Nat.reduceMod,Nat.reduceDiv,stepH,stepM,toMs1,toMs,toMs0,strK,pubK,pubF,pubV,yaq,yar,yao,yap,go_sem,byq,respC,hnA,hcA,hNN,hw998,Int.toNat_natCast]
      refine ⟨⟨by omega,by omega,by omega⟩,?_⟩
      obtain ⟨HW,hHW⟩:∃ HW,HW=((HA.push (.cells (respC R))).push (codV B2 w2)).push (.cells (respRv R (.slice .nil 1 []))):=⟨_,rfl⟩
      have hnW:HW.nx=H.nx+1+1+1+1+1+1:=by rw [hHW];simp only [zkm,hnA]
      have hclW:HW.Closed:=by
        have hc0:(((HA.push (.cells (respC R))).push (codV B2 w2)).push (.cells [])).Closed:=by
          refine closed_cells (closed_cells (closed_cells hclA (by have:=lt_resp (n:=HA.nx+1) R;simp only [respAV,zmz] at this;exact this)) codV_lt) trivial
        have g1:=closed_set (i:=H.nx+1+1+1+1+1) (cs:=respRv R (.slice .nil 1 [])) hc0 (by
          simp [respRv,znc,znd,zmn,zmo,zkm,zkn,lt_sliceL,hnA,zlx]
          exact ltL_iff.2 fun j hj=>by rw [List.getElem_map];exact lt_entry _)
        simp only [go_sem,hnA] at g1
        rw [hHW]
        exact g1
      refine weak_here [(3,.int .i64 at'),(4,.int .i64 n),(5,.int .u8 by'),(6,.ptr H.nx 0),(14,.ptr (H.nx+1+1+1) 0),(15,.ptr (H.nx+1+1+1+1+1) 0),(61,.slice .any 1 (bys (List.replicate (998+NN) 0)))] HW ?_ ?_
      · refine ⟨by simp only [zkd,zjy,KI_n0,hnW];omega,by rw [hHW];simp only [respC,respRv];repeat (first | exact AHeap.Le.refl _ | refine AHeap.Le.push ?_ _),hclW,?_,?_⟩
        · simp [ltF,zmn,zmv,zma,hnW]
          try omega
        · simp [subW,wk2,wk1,wkM,Fr.get]
          simp only [go_sem,hnA]
          refine ⟨?_,zmd (by rw [hnW];omega)⟩
          rw [zlz (by rw [List.length_replicate];exact Nat.le_refl _),ybc (by rw [List.length_replicate];exact Nat.le_refl _)]
      have hcW:cellsOf? HW (H.nx+1+1+1+1+1)=some (respRv R (.slice .nil 1 [])):=by rw [hHW];simp only [go_sem,hnA]
      have hleW:H.Le HW:=by rw [hHW];repeat (first | exact hleA | refine AHeap.Le.push ?_ _)
      have hcA2:cellsOf? HW H.nx=some (respC A):=by rw [hHW];simp only [go_sem,hnA,hcA,respC]
      have hcR2:cellsOf? HW (H.nx+1+1+1)=some (respC R):=by rw [hHW];simp only [go_sem,hnA]
      clear hHW
      simp only [respC,respRv] at hcW
      simp only [blkE,blkP,bhq,Nat.reduceMod,Nat.reduceDiv,stepH,stepM,toMs1,toMs,toMs0,strK,pubK,pubF,pubV,yaq,yar,yao,yap,go_sem,byq,respC,respRv,hnW,hcW,hNN,hw998,Int.toNat_natCast]
      refine weak_cell 15 4 7 (cs:=respRv { R with data:=List.replicate (998+NN) 0 } (.slice .nil 1 [])) rfl (by rw [cs_same (by omega)];rfl) rfl ?_
      have hrn:=hnil hk
      simp only [blkE,blkP,bhq,Nat.reduceMod,Nat.reduceDiv,stepH,stepM,toMs1,toMs,toMs0,strK,pubK,pubF,pubV,yaq,yar,yao,yap,go_sem,byq,respRv,hnW,List.set_cons_succ,List.set_cons_zero]
      have hi15:H.nx+1+1+1+1+1<HW.nx:=by omega
      refine weak_join J (((HW.set (H.nx+1+1+1+1+1) (.cells (respRv { R with data:=List.replicate (998+NN) 0 } (.slice (.own (H.nx+1+1+1+1+1+1)) 7 (R.recs.map recAV))))).push (.buf 7 0)),H.nx+1+1+1+1+1,H.nx+1+1+1+1+1+1) ⟨?_,?_,?_,?_,?_,?_,by dsimp only;omega,by dsimp only;omega,by dsimp only;omega⟩ ⟨by simp only [zkd,zjy,KI_n0,zkm,zkn,hnW];omega,?_,?_,?_,?_⟩
      · have g1:=closed_set (i:=H.nx+1+1+1+1+1) (cs:=respRv { R with data:=List.replicate (998+NN) 0 } (.slice (.own (H.nx+1+1+1+1+1+1)) 7 (R.recs.map recAV))) (closed_buf (a:=7) (b:=0) hclW) (by
          simp [respRv,znc,znd,zmn,zmo,zkm,zkn,lt_sliceL,hnW,zlx]
          exact ⟨ltL_iff.2 fun j hj=>by rw [List.getElem_map];exact lt_entry _,ltL_iff.2 fun j hj=>by rw [List.getElem_map];exact lt_rec _⟩)
        simp only [go_sem,hnW] at g1
        exact g1
      · refine ⟨by simp only [zkm,zkn];have:=hleW.nx;omega,fun j x hj=>?_⟩
        have hj2:=AHeap.get_lt hj
        have hj3:=hleW.nx
        rw [AHeap.get_push_lt _ _ (by simp only [zkn];omega),AHeap.get_set_ne _ _ (by omega)]
        exact hleW.get _ _ hj
      · dsimp only;rw [cs_push (by simp only [zkn];omega),cs_ne (by omega),hcA2]
      · dsimp only;rw [cs_push (by simp only [zkn];omega),cs_ne (by omega),hcR2]
      · dsimp only;rw [AHeap.get_push_lt _ _ (by simp only [zkn];omega),AHeap.get_set_same _ _ (by omega)]
      · dsimp only;rw [get_push_at (by simp only [zkn];omega),hrn];rfl
      · simp only [respRv,hrn,yaf]
        repeat (first | exact AHeap.Le.refl _ | refine AHeap.Le.push ?_ _)
      · have g1:=closed_set (i:=H.nx+1+1+1+1+1) (cs:=respRv { R with data:=List.replicate (998+NN) 0 } (.slice (.own (H.nx+1+1+1+1+1+1)) 7 (R.recs.map recAV))) (closed_buf (a:=7) (b:=0) hclW) (by
          simp [respRv,znc,znd,zmn,zmo,zkm,zkn,lt_sliceL,hnW,zlx]
          exact ⟨ltL_iff.2 fun j hj=>by rw [List.getElem_map];exact lt_entry _,ltL_iff.2 fun j hj=>by rw [List.getElem_map];exact lt_rec _⟩)
        simp only [go_sem,hnW] at g1
        exact g1
      · simp [ltF,zmn,zmv,zkm,zkn,hnW]
        try omega
      · simp [subW,wk2,wk1,wkM,Fr.get]
  rintro ⟨Hb,i15,q⟩ ⟨q1,q2,q3,q4,q5,q6,q7,q8,q9⟩
  dsimp only at q1 q2 q3 q4 q5 q6 q7 q8 q9 ⊢
  have h15:=AHeap.get_lt q5
  have hqb:=AHeap.get_lt q6
  have hrl:=hR.rl
  obtain ⟨D,hD⟩:∃ D,D={ R with data:=List.replicate (998+NN) (0:UInt8) }:=⟨_,rfl⟩
  rw [← hD] at q5
  have hnq:∀ us,(rcH Hb i15 q D us).nx=Hb.nx:=fun us=>rfl
  simp only [blkE,blkP,bhq,Nat.reduceMod,Nat.reduceDiv,stepH,stepM,toMs1,toMs,toMs0,strK,pubK,pubF,pubV,yaq,yar,yao,yap,go_sem,byq]
  refine loop_introW (A:=Nat) (fun k=>[(3,.int .i64 at'),(4,.int .i64 n),(5,.int .u8 by'),(6,.ptr H.nx 0),(14,.ptr (H.nx+1+1+1) 0),(15,.ptr i15 0),(16,.int .i64 (k:Int))]) (fun k=>rcH Hb i15 q D (R.recs++nrec k)) (fun k=>k≤22+NN) (fun k=>22+NN - k) 0 (by omega) ?_ fun k hk=>?_
  · refine ⟨by simp only [zjy,zkd,KI_n0,hnq];have:=q2.nx;omega,by rw [show R.recs++nrec 0=R.recs by simp [nrec]];exact rcH_same q5 q6 q9,rcH_closed q1 hqb,?_,?_⟩
    · simp [ltF,zmn,zmv,hnq]
      omega
    · simp [subW,wk2,wk1,wkM,Fr.get]
  have hlk:(R.recs++nrec k).length≤100:=by rw [List.length_append,nrec_len];omega
  have hk15:=rcH_i (H:=Hb) (q:=q) (D:=D) (us:=R.recs++nrec k) h15
  have hkq:=rcH_q (H:=Hb) (D:=D) (us:=R.recs++nrec k) hqb q9
  have hst:rcH Hb i15 q D (R.recs++nrec (k+1))=rcH (rcH Hb i15 q D (R.recs++nrec k)) i15 q D (R.recs++nrec (k+1)):=rcH_rcH.symm
  have hcl1:=rcH_closed (i:=i15) (D:=D) (us:=R.recs++nrec (k+1)) q1 hqb
  have hclk:=rcH_closed (i:=i15) (D:=D) (us:=R.recs++nrec k) q1 hqb
  have hlek:=rcH_le (D:=D) (us:=R.recs++nrec k) q2 (by omega) (by omega) (i:=i15) (q:=q)
  have hkA:cellsOf? (rcH Hb i15 q D (R.recs++nrec k)) H.nx=some (respC A):=by rw [rcH_ne (by omega) (by omega),q3]
  have hkR:cellsOf? (rcH Hb i15 q D (R.recs++nrec k)) (H.nx+1+1+1)=some (respC R):=by rw [rcH_ne (by omega) (by omega),q4]
  have hkn:=hnq (R.recs++nrec k)
  generalize hHk:rcH Hb i15 q D (R.recs++nrec k)=Hk at *
  simp only [blkE,blkP,bhq,Nat.reduceMod,Nat.reduceDiv,stepH,stepM,toMs1,toMs,toMs0,strK,pubK,pubF,pubV,yaq,yar,yao,yap,go_sem,byq,hNN,hw22]
  refine cond_split (fun hc=>?_) (fun hc=>?_)
  · have hk':k<22+NN:=by simp at hc;omega
    have e5:IntKind.i64.wrap ((k:Int)+1)=((k+1:Nat):Int):=by rw [wrap_i64]<;>omega
    simp only [respRv] at hk15
    have f1:(q=Hb.nx)=False:=eq_false (by omega)
    have f2:(i15=Hb.nx)=False:=eq_false (by omega)
    have f3:(i15=q)=False:=eq_false q9
    have f4:∀ o o',cellsOf? ((Hk.set q o).push o') i15=some (respRv D (.slice (.own q) 7 ((R.recs++nrec k).map recAV))):=fun o o'=>by
      rw [cs_push (by simp only [zkn];omega),cs_ne q9,hk15];rfl
    simp only [respRv] at f4
    simp only [blkE,blkP,bhq,Nat.reduceMod,Nat.reduceDiv,stepH,stepM,toMs1,toMs,toMs0,strK,pubK,pubF,pubV,yaq,yar,yao,yap,go_sem,byq,hNN,hw22,hk15,hkq,hkn,e5,f1,f2,f3,f4,if_false,ybb,List.set_cons_succ,List.set_cons_zero]
    refine ⟨⟨by omega,by omega,fun z hz=>by rw [List.mem_singleton] at hz;subst hz;rfl⟩,k+1,by omega,by omega,?_⟩
    have hnx:=q2.nx
    refine ⟨by rw [hst];simp only [rcH_nx,hkn];omega,?_,hcl1,?_,?_⟩
    · rw [hst,nrec_succ,← List.append_assoc]
      unfold rcH
      rw [List.map_append,List.length_append]
      exact (AHeap.Le.refl _).push _
    · rw [hst]
      simp [ltF,zmn,zmv,rcH_nx,hkn]
      omega
    · simp [subW,wk2,wk1,wkM,Fr.get]
  have hk':k=22+NN:=by simp at hc;omega
  subst hk'
  obtain ⟨LG,hLG⟩:∃ LG,LG={ D with recs:=R.recs++nrec (22+NN) }:=⟨_,rfl⟩
  have hDL:PE LG∧LG.recs.length≤100∧LG.data.length≤1100∧LG.ents.length≤40:=by
    rw [hLG,hD]
    have h1:=hR.e
    exact ⟨⟨by dsimp only;omega,by dsimp only;omega,by dsimp only;rw [List.length_replicate];omega,hR.c⟩,by dsimp only;omega,by dsimp only;rw [List.length_replicate];omega,by dsimp only;omega⟩
  obtain ⟨hPL,hL1',hL2',hL3'⟩:=hDL
  simp only [blkE,blkP,bhq,Nat.reduceMod,Nat.reduceDiv,stepH,stepM,toMs1,toMs,toMs0,strK,pubK,pubF,pubV,yaq,yar,yao,yap,go_sem,byq]
  refine weak_obj i15 (cs:=respRv D (.slice (.own q) 7 ((R.recs++nrec (22+NN)).map recAV))) (respC LG) hk15 ?_ ?_
  · rw [hLG]
    simp [respC,respRv,wkDL_cons,wkDL_nil,wkDR_cons,wkDR_nil,wkD_int,wkD_bool,wkD_slice,wkM,wkDR_same]
  obtain ⟨HL,hHL⟩:∃ HL,HL=Hk.set i15 (.cells (respC LG)):=⟨_,rfl⟩
  have hlA:cellsOf? HL H.nx=some (respC A):=by rw [hHL,cs_ne (by omega),hkA]
  have hlR:cellsOf? HL (H.nx+1+1+1)=some (respC R):=by rw [hHL,cs_ne (by omega),hkR]
  have hlL:cellsOf? HL i15=some (respC LG):=by rw [hHL,cs_same (by omega)]
  have hln:HL.nx=Hb.nx:=by rw [hHL];exact hkn
  have hlc:HL.Closed:=by
    rw [hHL]
    refine closed_set hclk ?_
    have:=lt_resp (n:=Hk.nx) LG
    simp only [respAV,zmz] at this
    exact this
  have hll:H.Le HL:=by
    rw [hHL]
    refine ⟨hlek.nx,fun j x hj=>?_⟩
    have:=AHeap.get_lt hj
    rw [AHeap.get_set_ne _ _ (by omega)]
    exact hlek.get j x hj
  rw [← hHL]
  simp only [respC] at hlA hlR hlL
  simp only [blkE,blkP,bhq,Nat.reduceMod,Nat.reduceDiv,stepH,stepM,toMs1,toMs,toMs0,strK,pubK,pubF,pubV,yaq,yar,yao,yap,go_sem,byq,hlA,hlR,hlL,hln]
  have hlb:=hll.nx
  have hs0:=hlc
  generalize hRl:[AV.agg [AV.int IntKind.i64 A.code,AV.int IntKind.i64 A.fail,AV.bool A.prim,AV.slice Mark.any 5 (List.map entryAV A.ents),AV.slice Mark.any 7 (List.map recAV A.recs),AV.bool A.drop,AV.int IntKind.i64 A.reas,AV.int IntKind.i64 A.port,AV.slice Mark.any 1 (bys A.data)],AV.agg [AV.int IntKind.i64 R.code,AV.int IntKind.i64 R.fail,AV.bool R.prim,AV.slice Mark.any 5 (List.map entryAV R.ents),AV.slice Mark.any 7 (List.map recAV R.recs),AV.bool R.drop,AV.int IntKind.i64 R.reas,AV.int IntKind.i64 R.port,AV.slice Mark.any 1 (bys R.data)],AV.agg [AV.int IntKind.i64 LG.code,AV.int IntKind.i64 LG.fail,AV.bool LG.prim,AV.slice Mark.any 5 (List.map entryAV LG.ents),AV.slice Mark.any 7 (List.map recAV LG.recs),AV.bool LG.drop,AV.int IntKind.i64 LG.reas,AV.int IntKind.i64 LG.port,AV.slice Mark.any 1 (bys LG.data)]]=Rl
  have hR3:Rl.length=3:=by rw [← hRl];rfl
  have hRb:∀ i,i<3→∃ r,Rl.getD i .junk=.agg (respC r)∧PE r:=by
    intro i hi
    rw [← hRl]
    rcases (by omega:i=0∨i=1∨i=2) with rfl | rfl | rfl
    · exact ⟨A,rfl,hPA⟩
    · exact ⟨R,rfl,hR.pe⟩
    · exact ⟨LG,rfl,hPL⟩
  have hRlt:∀ n,(AV.slice .any 9 Rl).lt n:=fun n=>by
    rw [lt_sliceL]
    refine ⟨fun i e=>(by cases e),?_⟩
    rw [← hRl]
    have l1:=lt_resp (n:=n) A
    have l2:=lt_resp (n:=n) R
    have l3:=lt_resp (n:=n) LG
    simp only [respAV,respC] at l1 l2 l3
    simp only [znc,znd,l1,l2,l3,and_true]
  refine loop_introW (A:=Nat) (fun j=>[(3,.int .i64 at'),(5,.int .u8 by'),(14,.ptr (H.nx+1+1+1) 0),(81,.slice .any 9 Rl),(82,.int .i64 ((3:Nat):Int)),(83,.int .i64 (j:Int))]) (fun _=>HL) (fun j=>j≤3) (fun j=>3 - j) 0 (by omega) ?_ fun j hj=>?_
  · refine ⟨by simp only [zjy,zkd,KI_n0];omega,(AHeap.Le.refl _).push _,hlc,?_,?_⟩
    · simp only [ltF,zmn,zmv,and_true,hRlt,true_and]
      omega
    · simp [subW,wk2,wk1,wkM,Fr.get]
  simp only [go_sem,byq]
  refine cond_split (fun hc2=>?_) (fun hc2=>?_)
  · have hj3:j<3:=by simp at hc2;omega
    obtain ⟨x,hRj,hx⟩:=hRb j hj3
    have ej:IntKind.i64.wrap ((j:Int)+1)=((j+1:Nat):Int):=by rw [wrap_i64]<;>omega
    simp only [respC] at hRj
    obtain ⟨⟨bb,ee⟩,hE⟩:∃ E,encP x=E:=⟨_,rfl⟩
    have hbb:(bb != bb)=false:=by simp
    have hee:(ee != ee)=false:=by simp
    simp only [blkE,blkP,bhq,Nat.reduceMod,Nat.reduceDiv,stepH,stepM,toMs1,toMs,toMs0,strK,pubK,pubF,pubV,yaq,yar,yao,yap,go_sem,byq,Int.toNat_natCast,hR3,hRj,hln,p_mEncP]
    refine ⟨⟨by omega,by omega⟩,x,⟨rfl,hx⟩,?_⟩
    rw [hE]
    simp only [blkE,blkP,bhq,Nat.reduceMod,Nat.reduceDiv,stepH,stepM,toMs1,toMs,toMs0,strK,pubK,pubF,pubV,yaq,yar,yao,yap,go_sem,byq,hln,p_xEncP]
    refine ⟨x,⟨rfl,hx⟩,?_⟩
    rw [hE]
    simp only [blkE,blkP,bhq,Nat.reduceMod,Nat.reduceDiv,stepH,stepM,toMs1,toMs,toMs0,strK,pubK,pubF,pubV,yaq,yar,yao,yap,go_sem,byq,hln,hbb,hee,ej]
    refine both_split (fun h=>by simp at h) (fun _=>⟨j+1,by omega,by omega,?_⟩)
    refine ⟨by omega,(AHeap.Le.refl _).push _,hlc,?_,?_⟩
    · simp only [ltF,zmn,zmv,and_true,hRlt,true_and]
      omega
    · simp [subW,wk2,wk1,wkM,Fr.get]
  clear hRlt hRb hR3 hRl hlL hj hc2
  obtain ⟨W,hWe⟩:∃ W,W=wireP R:=⟨_,rfl⟩
  have hW:encP R=(W,0):=by rw [hWe];exact hR.enc
  have hWn:W≠[]:=by rw [hWe];exact wireP_ne R
  have hWl:W.length≤60000:=by
    have h1:=hR.e
    have h2:=hR.rl
    have h3:=hR.d
    rw [hWe];exact wireP_len (by omega) (by omega) (by omega) hR.c
  simp only [blkE,blkP,bhq,Nat.reduceMod,Nat.reduceDiv,stepH,stepM,toMs1,toMs,toMs0,strK,pubK,pubF,pubV,yaq,yar,yao,yap,go_sem,byq,hlR,p_xEncP]
  refine ⟨R,⟨rfl,hR.pe⟩,?_⟩
  rw [hW]
  have hpos:0<W.length:=List.length_pos_iff.2 hWn
  have c0:((W.length:Int)==0)=false:=by simp;omega
  have hwb:W.isEmpty=false:=by cases W<;>simp_all
  have hwn:bys W≠[]:=fun e=>hWn (by rwa [zmb] at e)
  have htk:W.take W.length=W:=List.take_length
  dsimp only
  obtain ⟨ia,hia⟩:∃ ia:Nat,at' % (W.length:Int)=(ia:Int):=⟨(at' % (W.length:Int)).toNat,by have:=Int.emod_nonneg at' (show ((W.length:Nat):Int)≠0 by omega);omega⟩
  have hial:ia<W.length:=by have:=Int.emod_lt_of_pos at' (show (0:Int)<((W.length:Nat):Int) by omega);omega
  simp only [blkE,blkP,bhq,Nat.reduceMod,Nat.reduceDiv,stepH,stepM,toMs1,toMs,toMs0,strK,pubK,pubF,pubV,yaq,yar,yao,yap,go_sem,byq,c0,hwb,htk,p_ZMod,hia,Int.toNat_natCast,hln]
  refine ⟨⟨by omega,by omega⟩,hwn,fun kk=>⟨⟨by omega,by omega,by omega,by omega⟩,⟨by omega,by omega⟩,by rw [List.length_append,zks];omega,?_⟩⟩
  have hgd:(bys W++List.replicate kk AV.junk).getD ia .junk=ofByte W[ia]:=by
    rw [List.getD_eq_getElem?_getD,List.getElem?_append_left (by rw [zks];exact hial),← List.getD_eq_getElem?_getD,bys_get hial]
    simp [List.getD_eq_getElem?_getD,hial]
  obtain ⟨eb,heb⟩:∃ eb:UInt8,AV.int .u8 (ixor .u8 ((W[ia].toNat:Nat):Int) by')=ofByte eb:=by unfold ixor;exact ⟨_,wrap_u8⟩
  obtain ⟨e7,he7⟩:∃ e7:UInt8,AV.int .u8 by'=ofByte e7:=⟨UInt8.ofNat by'.toNat,by
    have:=u8_ofByte (a:=by'.toNat) (by omega)
    rw [← this];congr 1;omega⟩
  have hsp:splice (bys W++List.replicate kk AV.junk) ia (bys [eb])=bys (W.set ia eb)++List.replicate kk AV.junk:=by
    show splice _ ia [ofByte eb]=_
    rw [splice_one,List.set_append_left _ _ (by rw [zks];exact hial)]
    congr 1
    unfold bys;rw [List.map_set]
  have hrw:rowsOf 1 W.length (bys (W.set ia eb)++List.replicate kk AV.junk)=bys (W.set ia eb):=rows_junkP (by rw [List.length_set])
  have hbl:(W.set ia eb).length=W.length:=List.length_set
  generalize W[ia]=cc at *
  generalize W.set ia eb=Bd at *
  have hgd':(bys W++List.replicate kk AV.junk).getD ia .junk=.int .u8 ((cc.toNat:Nat):Int):=hgd
  have hlc2:(bys W++List.replicate kk AV.junk).length=W.length+kk:=by rw [List.length_append,zks,List.length_replicate]
  have hle1:(1=1∧W.length≤W.length)=True:=eq_true ⟨rfl,Nat.le_refl _⟩
  simp only [blkE,blkP,bhq,Nat.reduceMod,Nat.reduceDiv,stepH,stepM,toMs1,toMs,toMs0,strK,pubK,pubF,pubV,yaq,yar,yao,yap,go_sem,byq,hgd',heb,hsp,hlc2,zll,zlm,hln]
  refine ⟨by omega,by omega,1,W.length,?_⟩
  have z01:((0:Nat)=1)=False:=by simp
  have z01':((0:Int)=1)=False:=by simp
  simp only [blkE,blkP,bhq,Nat.reduceMod,Nat.reduceDiv,stepH,stepM,toMs1,toMs,toMs0,strK,pubK,pubF,pubV,yaq,yar,yao,yap,go_sem,byq,hle1,hrw,Nat.le_refl,eq_self,hbl,zns,zll,zlm,hln,p_ZMod,hia,he7,z01,z01',if_false]
  refine ⟨⟨by omega,by omega,by omega,by omega⟩,⟨by omega,by omega,by omega⟩,.inr ⟨by omega,by omega,by omega,by omega⟩,⟨by omega,by omega⟩,?_⟩
  generalize hRl:[AV.slice Mark.any 1 (bys W),AV.slice (Mark.own (Hb.nx+1)) 1 (bys Bd),AV.slice Mark.any 1 (bys (List.take ia W)),AV.slice (Mark.own (Hb.nx+1)) 1 (bys (Bd++[e7]))]=Rm
  have hR4:Rm.length=4:=by rw [← hRl];rfl
  have hRb:∀ i,i<4→∃ m s,Rm.getD i .junk=.slice m 1 (bys s)∧s.length≤61000:=by
    intro i hi
    rw [← hRl]
    rcases (by omega:i=0∨i=1∨i=2∨i=3) with rfl | rfl | rfl | rfl
    · exact ⟨_,W,rfl,by omega⟩
    · exact ⟨_,Bd,rfl,by omega⟩
    · exact ⟨_,W.take ia,rfl,by rw [List.length_take];omega⟩
    · exact ⟨_,Bd++[e7],rfl,by rw [List.length_append,List.length_singleton];omega⟩
  obtain ⟨Hx,hHx⟩:∃ Hx,(((((HL.push (AObj.cells (bys Bd++List.replicate kk AV.junk))).del Hb.nx).push (AObj.buf 1 (W.length+1))).push (AObj.buf 1 1)).push (AObj.buf 1 4))=Hx:=⟨_,rfl⟩
  rw [hHx]
  have hx1:Hx.nx=Hb.nx+1+1+1+1:=by rw [← hHx];simp only [zkm,heap_nx_del,hln]
  have hx2:Hx.Closed:=by rw [← hHx];exact closed_buf (closed_buf (closed_buf (closed_del (closed_cells hlc ltL_junkedP))))
  have hx0:H.Le Hx:=by rw [← hHx];exact ((((hll.push _).del (by omega)).push _).push _).push _
  have hx3:(AV.slice .any 1 Rm).lt Hx.nx:=by
    rw [← hRl,hx1];simp (disch:=first | assumption | omega | (simp;done) | (simp;omega) | (simp only [bt,and_true];first | done | omega | (simp;done))) [↓zlw,beq,ybc,ybd,ybe,endOk,wk,wk2,wk1,wkM,wkL,wkLL,ybf,lt_sliceL,zkm,heap_nx_del,zlv]
    try omega
  refine loop_introW (A:=Nat) (fun j=>[(141,.slice .any 1 Rm),(142,.int .i64 ((4:Nat):Int)),(143,.int .i64 (j:Int))]) (fun _=>Hx) (fun j=>j≤4) (fun j=>4 - j) 0 (by omega) ?_ fun j hj=>?_
  · refine ⟨by simp only [zjy,zkd,hx1];omega,AHeap.Le.refl _,hx2,?_,?_⟩
    · simp only [ltF,zmn,and_true]
      exact hx3
    · simp [subW,wk2,wk1,wkM,Fr.get]
  simp only [go_sem,byq]
  refine cond_split (fun hc2=>?_) (fun hc2=>?_)
  · have hj5:j<4:=by simp at hc2;omega
    obtain ⟨ms,s,hRj,hsl⟩:=hRb j hj5
    have ej:IntKind.i64.wrap ((j:Int)+1)=((j+1:Nat):Int):=by rw [wrap_i64]<;>omega
    simp only [blkE,blkP,bhq,Nat.reduceMod,Nat.reduceDiv,stepH,stepM,toMs1,toMs,toMs0,strK,pubK,pubF,pubV,yaq,yar,yao,yap,go_sem,byq,Int.toNat_natCast,hR4,hRj,hx1,p_mDecP,p_xDecP]
    refine ⟨⟨by omega,by omega⟩,s,⟨rfl,by omega⟩,?_⟩
    have hpc:=rspF_pc s
    obtain ⟨⟨Dd,De⟩,hDD⟩:∃ D,rspF s=D:=⟨_,rfl⟩
    rw [hDD] at hpc ⊢
    dsimp only at hpc
    have hne:(De != De)=false:=by simp
    simp only [blkE,blkP,bhq,Nat.reduceMod,Nat.reduceDiv,stepH,stepM,toMs1,toMs,toMs0,strK,pubK,pubF,pubV,yaq,yar,yao,yap,go_sem,byq,hx1,respAV,respC,p_xDecP]
    refine ⟨s,⟨rfl,by omega⟩,?_⟩
    rw [hDD]
    simp only [blkE,blkP,bhq,Nat.reduceMod,Nat.reduceDiv,stepH,stepM,toMs1,toMs,toMs0,strK,pubK,pubF,pubV,yaq,yar,yao,yap,go_sem,byq,hx1,respAV,respC,p_xSameP,hne]
    refine ⟨Dd,Dd,⟨rfl,rfl,hpc,hpc⟩,?_⟩
    have hee:eqP Dd Dd=true:=eqP_refl Dd
    simp only [blkE,blkP,bhq,Nat.reduceMod,Nat.reduceDiv,stepH,stepM,toMs1,toMs,toMs0,strK,pubK,pubF,pubV,yaq,yar,yao,yap,go_sem,byq,hx1,hee,ej]
    refine ⟨j+1,by omega,by omega,by (try simp only [zkm]);omega,by repeat (first | exact AHeap.Le.refl _ | refine AHeap.Le.push ?_ _),hx2,?_,?_⟩
    · simp only [ltF,zmn,and_true]
      exact hx3
    · simp [subW,wk2,wk1,wkM,Fr.get]
  · simp only [go_sem,byq,p_begun19]
    exact ⟨rfl,by first | exact hx0 | exact hx0.push _,hcl,by rw [zmo];trivial⟩
end Go.AL

