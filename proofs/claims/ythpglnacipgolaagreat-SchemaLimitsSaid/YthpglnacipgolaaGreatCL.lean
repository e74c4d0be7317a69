/- Contracts and plain laws, a part of the proof; no condition of its own. -/
import Derived.Test.YthpglnacipgolaaGreatCG
import Derived.Test.YthpglnacipgolaaGreatLRd2
open List renaming length_cons → yaz, length_nil → yba, take_of_length_le → ybc, drop_append → ybd, take_append → ybe, drop_eq_nil_of_le → ybf, drop_zero → yap
open Go Go.AL Go.Proofs
namespace Go.AL
set_option linter.all false
set_option maxRecDepth 10000

def e_RValue:List AV→AHeap→(AEnd→AHeap→Prop)→Prop
  | [.ptr id 0],H,K=>onR H id fun m l e=>True∧K (.ret (vv (valueR (m,l,e)).1)) (H.set id (.cells (cellR (valueR (m,l,e)).2)))
  | _,_,_=>False
theorem ok_RValue:EntOk Tryz.prog 234 (Ent.effect e_RValue):=by
  refine EntOk.effect fun args H K h=>?_
  unfold e_RValue at h
  split at h
  rotate_left
  · exact h.elim
  rename_i id
  obtain ⟨m,l,e,hid,hle,h⟩:=onR_out h
  obtain ⟨hpre,hK⟩:=h
  refine ⟨_,_,hK,?_⟩
  clear hK
  have hl0:=AHeap.get_lt hid
  have hne:=far_of hl0
  have hss:=set_same hid
  have hcs:=cells_some hid
  have hcm:=fun cs=>@cells_set_same H id cs hl0
  have hgm:=fun o=>@get_set_same' H id o hl0
  have v0:vv 0=.agg [.int .u64 0,.int .u64 0]:=rfl
  by_cases h0:e=0
  case neg =>
    have d0:(e != 0)=true:=by simpa using h0
    rw [show valueR (m,l,e)=(0,m,l,e) by simp [valueR,h0]]
    dsimp only [cellR]
    try rw [hss]
    refine ACalls.of_aw (Ω:=[(229,Ent.pure p_done),(231,Ent.effect e_peek),(230,Ent.effect e_fail),(332,Ent.pure p_vParse)]) (T:=assoc []) mixed (TblOk.cons ok_done (TblOk.cons ok_peek (TblOk.cons ok_fail (TblOk.cons ok_vParse TblOk.nil)))) Tryz.func234 (by kernel_rfl) (by rfl) (rs:=[.cell 2 83]) (by rfl) (by kernel_rfl) (by simp only [Tryz.ntmps234,yaz,yba];decide) (by simp [zkz]) fun hcl hlt=>?_
    change aw _ _ _ (KI Tryz.prog [(229,Ent.pure p_done),(231,Ent.effect e_peek),(230,Ent.effect e_fail),(332,Ent.pure p_vParse)] (aEnd Tryz.prog [.cell 2 83] H.nx _ _) []) _ _
    clear hlt
    have hcl1:=fun l' e'=>closedR hid hcl m (.inl rfl) l' e'
    have hcl2:=fun l' e'=>closedR hid hcl .any (.inr rfl) l' e' 
    simp only [go_sem,zav,reduceCtorEq,Nat.reduceEqDiff,Nat.reduceAdd,Nat.reduceMul,Nat.reduceSub,Nat.reduceLeDiff,Nat.reduceLT,Int.reduceMul,Int.reduceAdd,Int.reduceSub,Int.reduceToNat,byq,hne,hid,hcs,hcm,hgm,onR,onRo_some,onRo_nil,zlv,zlt,zle,and_true,true_and,hid,p_done,d0,v0]
    simp (disch:=first | assumption | omega | (simp;done) | (simp;omega) | (simp only [bt,and_true];first | done | omega | (simp;done))) [↓zmi,beq,ybc,ybd,ybe,endOk,wk,wk2,wk1,wkM,wkL,wkLL,ybf,hss,hl0,hcl,hcl1,hcl2,hle]
    try omega
  subst h0
  have d0:((0:Int) != 0)=false:=rfl
  by_cases h1:l.length<1
  · have d1:(l.length:Int)<1:=by omega
    rw [show valueR (m,l,0)=(0,m,l,1) by simp [valueR,h1]]
    dsimp only [cellR]
    try rw [hss]
    refine ACalls.of_aw (Ω:=[(229,Ent.pure p_done),(231,Ent.effect e_peek),(230,Ent.effect e_fail),(332,Ent.pure p_vParse)]) (T:=assoc []) mixed (TblOk.cons ok_done (TblOk.cons ok_peek (TblOk.cons ok_fail (TblOk.cons ok_vParse TblOk.nil)))) Tryz.func234 (by kernel_rfl) (by rfl) (rs:=[.cell 2 83]) (by rfl) (by kernel_rfl) (by simp only [Tryz.ntmps234,yaz,yba];decide) (by simp [zkz]) fun hcl hlt=>?_
    change aw _ _ _ (KI Tryz.prog [(229,Ent.pure p_done),(231,Ent.effect e_peek),(230,Ent.effect e_fail),(332,Ent.pure p_vParse)] (aEnd Tryz.prog [.cell 2 83] H.nx _ _) []) _ _
    clear hlt
    have hcl1:=fun l' e'=>closedR hid hcl m (.inl rfl) l' e'
    have hcl2:=fun l' e'=>closedR hid hcl .any (.inr rfl) l' e' 
    simp only [go_sem,zav,reduceCtorEq,Nat.reduceEqDiff,Nat.reduceAdd,Nat.reduceMul,Nat.reduceSub,Nat.reduceLeDiff,Nat.reduceLT,Int.reduceMul,Int.reduceAdd,Int.reduceSub,Int.reduceToNat,byq,hne,hid,hcs,hcm,hgm,onR,onRo_some,onRo_nil,zlv,zlt,zle,and_true,true_and,hid,p_done,e_peek,d0,if_pos d1,v0]
    simp (disch:=first | assumption | omega | (simp;done) | (simp;omega) | (simp only [bt,and_true];first | done | omega | (simp;done))) [↓zmi,beq,ybc,ybd,ybe,endOk,wk,wk2,wk1,wkM,wkL,wkLL,ybf,hss,hl0,hcl,hcl1,hcl2,hle]
    try omega
  have d1:¬ (l.length:Int)<1:=by omega
  have d6:(l.take 1).length=1:=by rw [List.length_take];omega
  have d7:List.take (l.length:Int).toNat l=l:=by simp
  have d8:(bys (l.take 1)).getD 0 .junk=ofByte (b0 l):=b0_get l 1 (by omega) (by omega)
  have hbl:=UInt8.toNat_lt (b0 l)
  have d9:IntKind.i64.wrap (((b0 l).toNat:Nat):Int)=(((b0 l).toNat:Nat):Int):=wrap_i64_nat _ (by omega)
  by_cases h2:(b0 l).toNat<1
  · have d2:decide (((b0 l).toNat:Int)<1)=true:=by simp;omega
    rw [show valueR (m,l,0)=(0,m,l,2) by simp [valueR,h1,h2]]
    dsimp only [cellR]
    try rw [hss]
    refine ACalls.of_aw (Ω:=[(229,Ent.pure p_done),(231,Ent.effect e_peek),(230,Ent.effect e_fail),(332,Ent.pure p_vParse)]) (T:=assoc []) mixed (TblOk.cons ok_done (TblOk.cons ok_peek (TblOk.cons ok_fail (TblOk.cons ok_vParse TblOk.nil)))) Tryz.func234 (by kernel_rfl) (by rfl) (rs:=[.cell 2 83]) (by rfl) (by kernel_rfl) (by simp only [Tryz.ntmps234,yaz,yba];decide) (by simp [zkz]) fun hcl hlt=>?_
    change aw _ _ _ (KI Tryz.prog [(229,Ent.pure p_done),(231,Ent.effect e_peek),(230,Ent.effect e_fail),(332,Ent.pure p_vParse)] (aEnd Tryz.prog [.cell 2 83] H.nx _ _) []) _ _
    clear hlt
    have hcl1:=fun l' e'=>closedR hid hcl m (.inl rfl) l' e'
    have hcl2:=fun l' e'=>closedR hid hcl .any (.inr rfl) l' e' 
    simp only [go_sem,zav,reduceCtorEq,Nat.reduceEqDiff,Nat.reduceAdd,Nat.reduceMul,Nat.reduceSub,Nat.reduceLeDiff,Nat.reduceLT,Int.reduceMul,Int.reduceAdd,Int.reduceSub,Int.reduceToNat,byq,hne,hid,hcs,hcm,hgm,onR,onRo_some,onRo_nil,zlv,zlt,zle,and_true,true_and,hid,p_done,e_peek,e_fail,d0,if_neg d1,d2,d6,d7,d8,d9,yap,ofByte,v0]
    simp (disch:=first | assumption | omega | (simp;done) | (simp;omega) | (simp only [bt,and_true];first | done | omega | (simp;done))) [↓zmi,beq,ybc,ybd,ybe,endOk,wk,wk2,wk1,wkM,wkL,wkLL,ybf,hss,hl0,hcl,hcl1,hcl2,hle]
    try omega
  have d2:decide (((b0 l).toNat:Int)<1)=false:=by simp;omega
  by_cases h3:16<(b0 l).toNat
  · have d3:decide (((b0 l).toNat:Int) > 16)=true:=by simp;omega
    rw [show valueR (m,l,0)=(0,m,l,2) by simp [valueR,h1,h2,h3]]
    dsimp only [cellR]
    try rw [hss]
    refine ACalls.of_aw (Ω:=[(229,Ent.pure p_done),(231,Ent.effect e_peek),(230,Ent.effect e_fail),(332,Ent.pure p_vParse)]) (T:=assoc []) mixed (TblOk.cons ok_done (TblOk.cons ok_peek (TblOk.cons ok_fail (TblOk.cons ok_vParse TblOk.nil)))) Tryz.func234 (by kernel_rfl) (by rfl) (rs:=[.cell 2 83]) (by rfl) (by kernel_rfl) (by simp only [Tryz.ntmps234,yaz,yba];decide) (by simp [zkz]) fun hcl hlt=>?_
    change aw _ _ _ (KI Tryz.prog [(229,Ent.pure p_done),(231,Ent.effect e_peek),(230,Ent.effect e_fail),(332,Ent.pure p_vParse)] (aEnd Tryz.prog [.cell 2 83] H.nx _ _) []) _ _
    clear hlt
    have hcl1:=fun l' e'=>closedR hid hcl m (.inl rfl) l' e'
    have hcl2:=fun l' e'=>closedR hid hcl .any (.inr rfl) l' e' 
    simp only [go_sem,zav,reduceCtorEq,Nat.reduceEqDiff,Nat.reduceAdd,Nat.reduceMul,Nat.reduceSub,Nat.reduceLeDiff,Nat.reduceLT,Int.reduceMul,Int.reduceAdd,Int.reduceSub,Int.reduceToNat,byq,hne,hid,hcs,hcm,hgm,onR,onRo_some,onRo_nil,zlv,zlt,zle,and_true,true_and,hid,p_done,e_peek,e_fail,d0,if_neg d1,d2,d3,d6,d7,d8,d9,yap,ofByte,v0]
    simp (disch:=first | assumption | omega | (simp;done) | (simp;omega) | (simp only [bt,and_true];first | done | omega | (simp;done))) [↓zmi,beq,ybc,ybd,ybe,endOk,wk,wk2,wk1,wkM,wkL,wkLL,ybf,hss,hl0,hcl,hcl1,hcl2,hle]
    try omega
  have d3:decide (((b0 l).toNat:Int) > 16)=false:=by simp;omega
  by_cases h4:l.length<1+(b0 l).toNat
  · have d4:(l.length:Int)<1+(((b0 l).toNat:Nat):Int):=by omega
    rw [show valueR (m,l,0)=(0,m,l,1) by simp [valueR,h1,h2,h3,h4]]
    dsimp only [cellR]
    try rw [hss]
    refine ACalls.of_aw (Ω:=[(229,Ent.pure p_done),(231,Ent.effect e_peek),(230,Ent.effect e_fail),(332,Ent.pure p_vParse)]) (T:=assoc []) mixed (TblOk.cons ok_done (TblOk.cons ok_peek (TblOk.cons ok_fail (TblOk.cons ok_vParse TblOk.nil)))) Tryz.func234 (by kernel_rfl) (by rfl) (rs:=[.cell 2 83]) (by rfl) (by kernel_rfl) (by simp only [Tryz.ntmps234,yaz,yba];decide) (by simp [zkz]) fun hcl hlt=>?_
    change aw _ _ _ (KI Tryz.prog [(229,Ent.pure p_done),(231,Ent.effect e_peek),(230,Ent.effect e_fail),(332,Ent.pure p_vParse)] (aEnd Tryz.prog [.cell 2 83] H.nx _ _) []) _ _
    clear hlt
    have hcl1:=fun l' e'=>closedR hid hcl m (.inl rfl) l' e'
    have hcl2:=fun l' e'=>closedR hid hcl .any (.inr rfl) l' e' 
    simp only [go_sem,zav,reduceCtorEq,Nat.reduceEqDiff,Nat.reduceAdd,Nat.reduceMul,Nat.reduceSub,Nat.reduceLeDiff,Nat.reduceLT,Int.reduceMul,Int.reduceAdd,Int.reduceSub,Int.reduceToNat,byq,hne,hid,hcs,hcm,hgm,onR,onRo_some,onRo_nil,zlv,zlt,zle,and_true,true_and,hid,p_done,e_peek,e_fail,d0,if_neg d1,if_pos d4,d2,d3,d6,d7,d8,d9,yap,ofByte,v0]
    simp (disch:=first | assumption | omega | (simp;done) | (simp;omega) | (simp only [bt,and_true];first | done | omega | (simp;done))) [↓zmi,beq,ybc,ybd,ybe,endOk,wk,wk2,wk1,wkM,wkL,wkLL,ybf,hss,hl0,hcl,hcl1,hcl2,hle]
    try omega
  have d4:¬ (l.length:Int)<1+(((b0 l).toNat:Nat):Int):=by omega
  have d5:(1+(((b0 l).toNat:Nat):Int)).toNat=1+(b0 l).toNat:=by omega
  have w1:IntKind.i64.wrap (1+(((b0 l).toNat:Nat):Int))=((1+(b0 l).toNat:Nat):Int):=by rw [wrap_i64]<;>omega
  have hpl:((l.take (1+(b0 l).toNat)).drop 1).length≤140737488355328:=by simp;omega
  have v1:∀ v,vv v=.agg [.int .u64 ((v/2^64:Nat):Int),.int .u64 ((v % 2^64:Nat):Int)]:=fun _=>rfl
  by_cases h5:(parseV ((l.take (1+(b0 l).toNat)).drop 1)).2=0
  · have dp:parseV ((l.take (1+(b0 l).toNat)).drop 1)=((parseV ((l.take (1+(b0 l).toNat)).drop 1)).1,0):=by rw [← h5]
    generalize (parseV ((l.take (1+(b0 l).toNat)).drop 1)).1=q at *
    rw [show valueR (m,l,0)=(q,Mark.any,l.drop (1+(b0 l).toNat),(0:Int)) by simp only [valueR];rw [if_neg (by simp),if_neg h1,if_neg (by omega),if_neg h4,dp,if_neg (by simp)]]
    dsimp only [cellR]
    refine ACalls.of_aw (Ω:=[(229,Ent.pure p_done),(231,Ent.effect e_peek),(230,Ent.effect e_fail),(332,Ent.pure p_vParse)]) (T:=assoc []) mixed (TblOk.cons ok_done (TblOk.cons ok_peek (TblOk.cons ok_fail (TblOk.cons ok_vParse TblOk.nil)))) Tryz.func234 (by kernel_rfl) (by rfl) (rs:=[.cell 2 83]) (by rfl) (by kernel_rfl) (by simp only [Tryz.ntmps234,yaz,yba];decide) (by simp [zkz]) fun hcl hlt=>?_
    change aw _ _ _ (KI Tryz.prog [(229,Ent.pure p_done),(231,Ent.effect e_peek),(230,Ent.effect e_fail),(332,Ent.pure p_vParse)] (aEnd Tryz.prog [.cell 2 83] H.nx _ _) []) _ _
    clear hlt
    have hcl1:=fun l' e'=>closedR hid hcl m (.inl rfl) l' e'
    have hcl2:=fun l' e'=>closedR hid hcl .any (.inr rfl) l' e' 
    simp only [go_sem,zav,reduceCtorEq,Nat.reduceEqDiff,Nat.reduceAdd,Nat.reduceMul,Nat.reduceSub,Nat.reduceLeDiff,Nat.reduceLT,Int.reduceMul,Int.reduceAdd,Int.reduceSub,Int.reduceToNat,byq,hne,hid,hcs,hcm,hgm,onR,onRo_some,onRo_nil,zlv,zlt,zle,and_true,true_and,hid,p_done,e_peek,e_fail,p_vParse,d0,if_neg d1,if_neg d4,d2,d3,d5,d6,d7,d8,d9,w1,dp,hpl,Int.toNat_natCast,yap,ofByte,v1]
    simp (disch:=first | assumption | omega | (simp;done) | (simp;omega) | (simp only [bt,and_true];first | done | omega | (simp;done))) [↓zmi,beq,ybc,ybd,ybe,endOk,wk,wk2,wk1,wkM,wkL,wkLL,ybf,hss,hl0,hcl,hcl1,hcl2,hle]
    try omega
  · have d10:((parseV ((l.take (1+(b0 l).toNat)).drop 1)).2 != 0)=true:=by simpa using h5
    rw [show valueR (m,l,0)=(0,m,l,5) by simp only [valueR];rw [if_neg (by simp),if_neg h1,if_neg (by omega),if_neg h4,if_pos h5]]
    generalize hq:parseV ((l.take (1+(b0 l).toNat)).drop 1)=q at *
    dsimp only [cellR]
    refine ACalls.of_aw (Ω:=[(229,Ent.pure p_done),(231,Ent.effect e_peek),(230,Ent.effect e_fail),(332,Ent.pure p_vParse)]) (T:=assoc []) mixed (TblOk.cons ok_done (TblOk.cons ok_peek (TblOk.cons ok_fail (TblOk.cons ok_vParse TblOk.nil)))) Tryz.func234 (by kernel_rfl) (by rfl) (rs:=[.cell 2 83]) (by rfl) (by kernel_rfl) (by simp only [Tryz.ntmps234,yaz,yba];decide) (by simp [zkz]) fun hcl hlt=>?_
    change aw _ _ _ (KI Tryz.prog [(229,Ent.pure p_done),(231,Ent.effect e_peek),(230,Ent.effect e_fail),(332,Ent.pure p_vParse)] (aEnd Tryz.prog [.cell 2 83] H.nx _ _) []) _ _
    clear hlt
    have hcl1:=fun l' e'=>closedR hid hcl m (.inl rfl) l' e'
    have hcl2:=fun l' e'=>closedR hid hcl .any (.inr rfl) l' e' 
    simp only [go_sem,zav,reduceCtorEq,Nat.reduceEqDiff,Nat.reduceAdd,Nat.reduceMul,Nat.reduceSub,Nat.reduceLeDiff,Nat.reduceLT,Int.reduceMul,Int.reduceAdd,Int.reduceSub,Int.reduceToNat,byq,hne,hid,hcs,hcm,hgm,onR,onRo_some,onRo_nil,zlv,zlt,zle,and_true,true_and,hid,p_done,e_peek,e_fail,p_vParse,d0,if_neg d1,if_neg d4,d2,d3,d5,d6,d7,d8,d9,d10,w1,hq,hpl,Int.toNat_natCast,yap,ofByte,v1]
    simp (disch:=first | assumption | omega | (simp;done) | (simp;omega) | (simp only [bt,and_true];first | done | omega | (simp;done))) [↓zmi,beq,ybc,ybd,ybe,endOk,wk,wk2,wk1,wkM,wkL,wkLL,ybf,hss,hl0,hcl,hcl1,hcl2,hle]
    try omega

end Go.AL


open Go Go.AL Go.Proofs
namespace Go.AL
set_option linter.all false
set_option maxRecDepth 10000

end Go.AL


open Go Go.AL Go.Proofs
namespace Go.AL
set_option linter.all false
set_option maxRecDepth 10000

end Go.AL


open Go Go.AL Go.Proofs
namespace Go.AL
set_option linter.all false
set_option maxRecDepth 10000

theorem EntOk.eff {P:Program} {f:FuncId} {p:List AV→AHeap→(AV→Prop)→Prop} (h:EntOk P f (Ent.pure p)):EntOk P f (Ent.effect fun args H K=>p args H fun v=>K (.ret v) H) :=
  EntOk.effect fun args H K hh=>by
    obtain ⟨x,hx,hc⟩:=h.1 rfl args H (fun v=>K (.ret v) H) hh
    exact ⟨_,_,hx,hc⟩
def e_RErrE (args:List AV) (H:AHeap) (K:AEnd→AHeap→Prop):Prop:=p_RErr args H fun v=>K (.ret v) H
def e_RFinishE (args:List AV) (H:AHeap) (K:AEnd→AHeap→Prop):Prop:=p_RFinish args H fun v=>K (.ret v) H
theorem ok_RErrE:EntOk Tryz.prog 235 (Ent.effect e_RErrE):=ok_RErr.eff
theorem ok_RFinishE:EntOk Tryz.prog 101 (Ent.effect e_RFinishE):=ok_RFinish.eff

end Go.AL

