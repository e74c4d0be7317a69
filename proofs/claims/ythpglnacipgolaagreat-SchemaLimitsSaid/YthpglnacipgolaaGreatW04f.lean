/- Contracts and plain laws, a part of the proof; no condition of its own. -/
import Derived.Test.YthpglnacipgolaaGreatW04c
open Go Go.AL Go.Proofs
namespace Go.AL
set_option linter.all false
set_option maxRecDepth 10000

def pDec:List AV→AHeap→(AV→Prop)→Prop
  | [.slice _ 1 l],_,K=>∃ b:List UInt8,(l=bys b∧b.length≤100000)∧K (.tup [schAV (decF b).1,.int .i64 (decF b).2])
  | _,_,_=>False
def p_zDec:List AV→AHeap→(AV→Prop)→Prop:=pDec
theorem lt_res {n:Nat} (x:Sch) (e:Int):AV.lt n (.tup [schAV x,.int .i64 e]):=by rw [znm];exact ⟨lt_sch x,by rw [zmz];trivial,trivial⟩
set_option maxHeartbeats 16000000 in
theorem ok_zDec:EntOk Tryz.prog 27 (Ent.pure p_zDec):=by
  unfold p_zDec
  refine EntOk.pure fun args H K h=>?_
  unfold pDec at h
  split at h
  rotate_left
  · exact h.elim
  rename_i m l
  obtain ⟨b,⟨rfl,hb⟩,hK⟩:=h
  refine ⟨_,hK,?_⟩
  clear hK
  obtain ⟨D,hD⟩:∃ D,decF b=D:=⟨_,rfl⟩
  rw [hD]
  unfold decF at hD
  by_cases hlen:8000<b.length
  · have d1:decide ((b.length:Int) > 8000)=true:=decide_eq_true (by omega)
    rw [if_pos hlen] at hD
    subst hD
    refine ACalls.of_aw (Ω:=[(94,Ent.effect e_New),(95,Ent.effect e_Uint),(101,Ent.effect e_RFinishE),(57,Ent.pure p_cdFld),(111,Ent.effect e_gtFld),(59,Ent.pure p_cdHdr),(112,Ent.effect e_gtHdr),(61,Ent.pure p_cdSta),(113,Ent.effect e_gtSta),(63,Ent.pure p_cdAct),(114,Ent.effect e_gtAct),(65,Ent.pure p_cdTab),(115,Ent.effect e_gtTab),(67,Ent.pure p_cdStg),(116,Ent.effect e_gtStg),(69,Ent.pure p_cdRol),(117,Ent.effect e_gtRol),(71,Ent.pure p_cdRef),(118,Ent.effect e_gtRef)]) (T:=assoc []) mixed (TblOk.cons ok_New (TblOk.cons ok_Uint (TblOk.cons ok_RFinishE (TblOk.cons ok_cdFld (TblOk.cons ok_gtFld (TblOk.cons ok_cdHdr (TblOk.cons ok_gtHdr (TblOk.cons ok_cdSta (TblOk.cons ok_gtSta (TblOk.cons ok_cdAct (TblOk.cons ok_gtAct (TblOk.cons ok_cdTab (TblOk.cons ok_gtTab (TblOk.cons ok_cdStg (TblOk.cons ok_gtStg (TblOk.cons ok_cdRol (TblOk.cons ok_gtRol (TblOk.cons ok_cdRef (TblOk.cons ok_gtRef TblOk.nil))))))))))))))))))) Tryz.func27 (by kernel_rfl) (by rfl) (rs:=[.cell 2 31,.tmp 3]) (by rfl) (by kernel_rfl) (by simp only [Tryz.ntmps27,List.length_cons,List.length_nil];decide) (Nat.le_refl _) fun hcl hlt=>?_
    change aw _ _ _ (KI Tryz.prog [(94,Ent.effect e_New),(95,Ent.effect e_Uint),(101,Ent.effect e_RFinishE),(57,Ent.pure p_cdFld),(111,Ent.effect e_gtFld),(59,Ent.pure p_cdHdr),(112,Ent.effect e_gtHdr),(61,Ent.pure p_cdSta),(113,Ent.effect e_gtSta),(63,Ent.pure p_cdAct),(114,Ent.effect e_gtAct),(65,Ent.pure p_cdTab),(115,Ent.effect e_gtTab),(67,Ent.pure p_cdStg),(116,Ent.effect e_gtStg),(69,Ent.pure p_cdRol),(117,Ent.effect e_gtRol),(71,Ent.pure p_cdRef),(118,Ent.effect e_gtRef)] (aEnd Tryz.prog [.cell 2 31,.tmp 3] H.nx _ _ (assoc [])) []) _ _
    clear hlt
    try simp only [List.append_eq,List.cons_append,List.nil_append]
    simp only [bhq,Nat.reduceMod,Nat.reduceDiv,stepH,stepM,toMs1,toMs,toMs0,strK,pubK,pubF,pubV,List.take_succ_cons,List.take_zero,List.drop_succ_cons,List.drop_zero,go_sem,byq,d1]
    refine ⟨?_,by repeat (first | exact AHeap.Le.refl _ | refine AHeap.Le.push ?_ _),hcl,lt_res _ _⟩
    simp [wk,wkLL,wk2,wkL,wk1,wkM,schAV,schC,zSch]
  have d1:decide ((b.length:Int) > 8000)=false:=decide_eq_false (by omega)
  rw [if_neg hlen,← decS_same] at hD
  unfold decS at hD
  obtain ⟨Q,hQ⟩:∃ Q,rdSch LP (.any,b,0)=Q:=⟨_,rfl⟩
  rw [hQ] at hD
  unfold rdSch at hQ
  dsimp only [rap,rpure,rU,LP_l,mkS] at hQ
  have hl0:=uintR_l .any b 0 2
  generalize h0:uintR (.any,b,0) 2=q0 at *
  obtain ⟨v0,m0,l0,e0⟩:=q0
  dsimp only [rU,rV,rB] at hQ hl0
  have b0:l0.length≤100000:=by omega
  have hl1:=uintR_l m0 l0 e0 2
  generalize h1:uintR (m0,l0,e0) 2=q1 at *
  obtain ⟨v1,m1,l1,e1⟩:=q1
  dsimp only [rU,rV,rB] at hQ hl1
  have b1:l1.length≤100000:=by omega
  have hl2:=(rlP_go rdFld_go 32).l (m1,l1,e1)
  generalize h2:rlP rdFld 32 (m1,l1,e1)=q2 at *
  obtain ⟨v2,m2,l2,e2⟩:=q2
  dsimp only [rU,rV,rB] at hQ hl2
  have b2:l2.length≤100000:=by omega
  have hl3:=(rlP_go (rdHdr_go LP_go) 8).l (m2,l2,e2)
  generalize h3:rlP (rdHdr LP) 8 (m2,l2,e2)=q3 at *
  obtain ⟨v3,m3,l3,e3⟩:=q3
  dsimp only [rU,rV,rB] at hQ hl3
  have b3:l3.length≤100000:=by omega
  have hl4:=(rlP_go (rdSta_go LP_go) 12).l (m3,l3,e3)
  generalize h4:rlP (rdSta LP) 12 (m3,l3,e3)=q4 at *
  obtain ⟨v4,m4,l4,e4⟩:=q4
  dsimp only [rU,rV,rB] at hQ hl4
  have b4:l4.length≤100000:=by omega
  have hl5:=(rlP_go (rdAct_go LP_go) 12).l (m4,l4,e4)
  generalize h5:rlP (rdAct LP) 12 (m4,l4,e4)=q5 at *
  obtain ⟨v5,m5,l5,e5⟩:=q5
  dsimp only [rU,rV,rB] at hQ hl5
  have b5:l5.length≤100000:=by omega
  have hl6:=(rlP_go (rdTab_go LP_go) 8).l (m5,l5,e5)
  generalize h6:rlP (rdTab LP) 8 (m5,l5,e5)=q6 at *
  obtain ⟨v6,m6,l6,e6⟩:=q6
  dsimp only [rU,rV,rB] at hQ hl6
  have b6:l6.length≤100000:=by omega
  have hl7:=(rlP_go rdStg_go 12).l (m6,l6,e6)
  generalize h7:rlP rdStg 12 (m6,l6,e6)=q7 at *
  obtain ⟨v7,m7,l7,e7⟩:=q7
  dsimp only [rU,rV,rB] at hQ hl7
  have b7:l7.length≤100000:=by omega
  have hl8:=(rlP_go (rdRol_go LP_go) 6).l (m7,l7,e7)
  generalize h8:rlP (rdRol LP) 6 (m7,l7,e7)=q8 at *
  obtain ⟨v8,m8,l8,e8⟩:=q8
  dsimp only [rU,rV,rB] at hQ hl8
  have b8:l8.length≤100000:=by omega
  have hl9:=(rlP_go rdRef_go 8).l (m8,l8,e8)
  generalize h9:rlP rdRef 8 (m8,l8,e8)=q9 at *
  obtain ⟨v9,m9,l9,e9⟩:=q9
  dsimp only [rU,rV,rB] at hQ hl9
  have b9:l9.length≤100000:=by omega
  subst hQ
  dsimp only at hD
  obtain ⟨F,hF'⟩:∃ F,finishR (m9,l9,e9)=F:=⟨_,rfl⟩
  rw [hF'] at hD
  refine ACalls.of_aw (Ω:=[(94,Ent.effect e_New),(95,Ent.effect e_Uint),(101,Ent.effect e_RFinishE),(57,Ent.pure p_cdFld),(111,Ent.effect e_gtFld),(59,Ent.pure p_cdHdr),(112,Ent.effect e_gtHdr),(61,Ent.pure p_cdSta),(113,Ent.effect e_gtSta),(63,Ent.pure p_cdAct),(114,Ent.effect e_gtAct),(65,Ent.pure p_cdTab),(115,Ent.effect e_gtTab),(67,Ent.pure p_cdStg),(116,Ent.effect e_gtStg),(69,Ent.pure p_cdRol),(117,Ent.effect e_gtRol),(71,Ent.pure p_cdRef),(118,Ent.effect e_gtRef)]) (T:=assoc []) mixed (TblOk.cons ok_New (TblOk.cons ok_Uint (TblOk.cons ok_RFinishE (TblOk.cons ok_cdFld (TblOk.cons ok_gtFld (TblOk.cons ok_cdHdr (TblOk.cons ok_gtHdr (TblOk.cons ok_cdSta (TblOk.cons ok_gtSta (TblOk.cons ok_cdAct (TblOk.cons ok_gtAct (TblOk.cons ok_cdTab (TblOk.cons ok_gtTab (TblOk.cons ok_cdStg (TblOk.cons ok_gtStg (TblOk.cons ok_cdRol (TblOk.cons ok_gtRol (TblOk.cons ok_cdRef (TblOk.cons ok_gtRef TblOk.nil))))))))))))))))))) Tryz.func27 (by kernel_rfl) (by rfl) (rs:=[.cell 2 31,.tmp 3]) (by rfl) (by kernel_rfl) (by simp only [Tryz.ntmps27,List.length_cons,List.length_nil];decide) (Nat.le_refl _) fun hcl hlt=>?_
  change aw _ _ _ (KI Tryz.prog [(94,Ent.effect e_New),(95,Ent.effect e_Uint),(101,Ent.effect e_RFinishE),(57,Ent.pure p_cdFld),(111,Ent.effect e_gtFld),(59,Ent.pure p_cdHdr),(112,Ent.effect e_gtHdr),(61,Ent.pure p_cdSta),(113,Ent.effect e_gtSta),(63,Ent.pure p_cdAct),(114,Ent.effect e_gtAct),(65,Ent.pure p_cdTab),(115,Ent.effect e_gtTab),(67,Ent.pure p_cdStg),(116,Ent.effect e_gtStg),(69,Ent.pure p_cdRol),(117,Ent.effect e_gtRol),(71,Ent.pure p_cdRef),(118,Ent.effect e_gtRef)] (aEnd Tryz.prog [.cell 2 31,.tmp 3] H.nx _ _ (assoc [])) []) _ _
  clear hlt
  try simp only [List.append_eq,List.cons_append,List.nil_append]
  simp only [blkE,blkP,bhq,Nat.reduceMod,Nat.reduceDiv,stepH,stepM,toMs1,toMs,toMs0,strK,pubK,pubF,pubV,List.take_succ_cons,List.take_zero,List.drop_succ_cons,List.drop_zero,go_sem,byq,d1,onR,onRo_some,cellR,List.set_cons_succ,List.set_cons_zero,hb,e_New,e_RFinishE,p_RFinish,hF',e_Uint,p_cdFld,codecC,e_gtFld,p_cdHdr,e_gtHdr,p_cdSta,e_gtSta,p_cdAct,e_gtAct,p_cdTab,e_gtTab,p_cdStg,e_gtStg,p_cdRol,e_gtRol,p_cdRef,e_gtRef,h0,b0,h1,b1,h2,b2,h3,b3,h4,b4,h5,b5,h6,b6,h7,b7,h8,b8,h9,b9]
  refine ⟨by omega,?_⟩
  try simp only [blkE,blkP,bhq,Nat.reduceMod,Nat.reduceDiv,stepH,stepM,toMs1,toMs,toMs0,strK,pubK,pubF,pubV,List.take_succ_cons,List.take_zero,List.drop_succ_cons,List.drop_zero,go_sem,byq,d1,onR,onRo_some,cellR,List.set_cons_succ,List.set_cons_zero,hb,e_New,e_RFinishE,p_RFinish,hF',e_Uint,p_cdFld,codecC,e_gtFld,p_cdHdr,e_gtHdr,p_cdSta,e_gtSta,p_cdAct,e_gtAct,p_cdTab,e_gtTab,p_cdStg,e_gtStg,p_cdRol,e_gtRol,p_cdRef,e_gtRef,h0,b0,h1,b1,h2,b2,h3,b3,h4,b4,h5,b5,h6,b6,h7,b7,h8,b8,h9,b9]
  refine cond_split (fun hf=>?_) (fun hf=>?_)
  · have hf':F≠0:=by simpa using hf
    rw [if_pos hf'] at hD
    subst hD
    simp only [bhq,Nat.reduceMod,Nat.reduceDiv,stepH,stepM,toMs1,toMs,toMs0,strK,pubK,pubF,pubV,List.take_succ_cons,List.take_zero,List.drop_succ_cons,List.drop_zero,go_sem]
    refine ⟨?_,by repeat (first | exact AHeap.Le.refl _ | refine AHeap.Le.push ?_ _),hcl,lt_res _ _⟩
    simp [wk,wkLL,wk2,wkL,wk1,wkM,schAV,schC,zSch]
  · have hf':F=0:=by simpa using hf
    rw [if_neg (by rw [hf'];decide)] at hD
    subst hD
    simp only [bhq,Nat.reduceMod,Nat.reduceDiv,stepH,stepM,toMs1,toMs,toMs0,strK,pubK,pubF,pubV,List.take_succ_cons,List.take_zero,List.drop_succ_cons,List.drop_zero,go_sem]
    refine ⟨?_,by repeat (first | exact AHeap.Le.refl _ | refine AHeap.Le.push ?_ _),hcl,lt_res _ _⟩
    simp [wk,wkLL,wk2,wkL,wk1,wkM,schAV,schC]
end Go.AL


open Go Go.AL Go.Proofs
namespace Go.AL
set_option linter.all false
set_option maxRecDepth 10000

end Go.AL


open Go Go.AL Go.Proofs
namespace Go.AL
set_option linter.all false
set_option maxRecDepth 10000

theorem ltM_Fld {n:Nat} {l:List SField}:ltL n (l.map (fieldAV)):=ltL_iff.2 fun j hj=>by rw [List.getElem_map];exact (fun x=>lt_fieldAV x) _
theorem ltM_Stg {n:Nat} {l:List SStage}:ltL n (l.map (stageAV)):=ltL_iff.2 fun j hj=>by rw [List.getElem_map];exact (fun x=>lt_stageAV x) _
end Go.AL

