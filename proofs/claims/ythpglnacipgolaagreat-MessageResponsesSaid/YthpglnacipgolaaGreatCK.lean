/- Contracts and plain laws, a part of the proof; no condition of its own. -/
import Derived.Test.YthpglnacipgolaaGreatS10v
import Derived.Test.YthpglnacipgolaaGreatLBack
open List renaming length_cons → yaz, length_nil → yba, take_of_length_le → ybc, drop_append → ybd, take_append → ybe, drop_eq_nil_of_le → ybf, drop_zero → yap, take_zero → yar
open Go Go.AL Go.Proofs
namespace Go.AL
set_option linter.all false
set_option maxRecDepth 10000

def e_RValue:List AV→AHeap→(AEnd→AHeap→Prop)→Prop
  | [.ptr id 0],H,K=>onR H id fun m l e=>True∧K (.ret (vv (valueR (m,l,e)).1)) (H.set id (.cells (cellR (valueR (m,l,e)).2)))
  | _,_,_=>False
theorem ok_RValue:EntOk Tryz.prog 234 (Ent.effect e_RValue):=by
  refine EntOk.effect fun args H K h=>?_
  unfold e_RValue at h
  split at h
  rotate_left
  · exact h.elim
  rename_i id
  obtain ⟨m,l,e,hid,hle,h⟩:=onR_out h
  obtain ⟨hpre,hK⟩:=h
  refine ⟨_,_,hK,?_⟩
  clear hK
  have hl0:=AHeap.get_lt hid
  have hne:=far_of hl0
  have hss:=set_same hid
  have hcs:=cells_some hid
  have hcm:=fun cs=>@cells_set_same H id cs hl0
  have hgm:=fun o=>@get_set_same' H id o hl0
  have v0:vv 0=.agg [.int .u64 0,.int .u64 0]:=rfl
  by_cases h0:e=0
  case neg =>
    have d0:(e != 0)=true:=by simpa using h0
    rw [show valueR (m,l,e)=(0,m,l,e) by simp [valueR,h0]]
    dsimp only [cellR]
    try rw [hss]
    refine ACalls.of_aw (Ω:=[(229,Ent.pure p_done),(231,Ent.effect e_peek),(230,Ent.effect e_fail),(332,Ent.pure p_vParse)]) (T:=assoc []) mixed (TblOk.cons ok_done (TblOk.cons ok_peek (TblOk.cons ok_fail (TblOk.cons ok_vParse TblOk.nil)))) Tryz.func234 (by kernel_rfl) (by rfl) (rs:=[.cell 2 83]) (by rfl) (by kernel_rfl) (by simp only [Tryz.ntmps234,yaz,yba];decide) (by simp [zkn]) fun hcl hlt=>?_
    change aw _ _ _ (KI Tryz.prog [(229,Ent.pure p_done),(231,Ent.effect e_peek),(230,Ent.effect e_fail),(332,Ent.pure p_vParse)] (aEnd Tryz.prog [.cell 2 83] H.nx _ _) []) _ _
    clear hlt
    have hcl1:=fun l' e'=>closedR hid hcl m (.inl rfl) l' e'
    have hcl2:=fun l' e'=>closedR hid hcl .any (.inr rfl) l' e' 
    simp only [go_sem,zav,reduceCtorEq,Nat.reduceEqDiff,Nat.reduceAdd,Nat.reduceMul,Nat.reduceSub,Nat.reduceLeDiff,Nat.reduceLT,Int.reduceMul,Int.reduceAdd,Int.reduceSub,Int.reduceToNat,byq,hne,hid,hcs,hcm,hgm,onR,onRo_some,onRo_nil,zlj,zlh,zks,and_true,true_and,hid,p_done,d0,v0]
    simp (disch:=first | assumption | omega | (simp;done) | (simp;omega) | (simp only [bt,and_true];first | done | omega | (simp;done))) [↓zlw,beq,ybc,ybd,ybe,endOk,wk,wk2,wk1,wkM,wkL,wkLL,ybf,hss,hl0,hcl,hcl1,hcl2,hle]
    try omega
  subst h0
  have d0:((0:Int) != 0)=false:=rfl
  by_cases h1:l.length<1
  · have d1:(l.length:Int)<1:=by omega
    rw [show valueR (m,l,0)=(0,m,l,1) by simp [valueR,h1]]
    dsimp only [cellR]
    try rw [hss]
    refine ACalls.of_aw (Ω:=[(229,Ent.pure p_done),(231,Ent.effect e_peek),(230,Ent.effect e_fail),(332,Ent.pure p_vParse)]) (T:=assoc []) mixed (TblOk.cons ok_done (TblOk.cons ok_peek (TblOk.cons ok_fail (TblOk.cons ok_vParse TblOk.nil)))) Tryz.func234 (by kernel_rfl) (by rfl) (rs:=[.cell 2 83]) (by rfl) (by kernel_rfl) (by simp only [Tryz.ntmps234,yaz,yba];decide) (by simp [zkn]) fun hcl hlt=>?_
    change aw _ _ _ (KI Tryz.prog [(229,Ent.pure p_done),(231,Ent.effect e_peek),(230,Ent.effect e_fail),(332,Ent.pure p_vParse)] (aEnd Tryz.prog [.cell 2 83] H.nx _ _) []) _ _
    clear hlt
    have hcl1:=fun l' e'=>closedR hid hcl m (.inl rfl) l' e'
    have hcl2:=fun l' e'=>closedR hid hcl .any (.inr rfl) l' e' 
    simp only [go_sem,zav,reduceCtorEq,Nat.reduceEqDiff,Nat.reduceAdd,Nat.reduceMul,Nat.reduceSub,Nat.reduceLeDiff,Nat.reduceLT,Int.reduceMul,Int.reduceAdd,Int.reduceSub,Int.reduceToNat,byq,hne,hid,hcs,hcm,hgm,onR,onRo_some,onRo_nil,zlj,zlh,zks,and_true,true_and,hid,p_done,e_peek,d0,if_pos d1,v0]
    simp (disch:=first | assumption | omega | (simp;done) | (simp;omega) | (simp only [bt,and_true];first | done | omega | (simp;done))) [↓zlw,beq,ybc,ybd,ybe,endOk,wk,wk2,wk1,wkM,wkL,wkLL,ybf,hss,hl0,hcl,hcl1,hcl2,hle]
    try omega
  have d1:¬ (l.length:Int)<1:=by omega
  have d6:(l.take 1).length=1:=by rw [List.length_take];omega
  have d7:List.take (l.length:Int).toNat l=l:=by simp
  have d8:(bys (l.take 1)).getD 0 .junk=ofByte (b0 l):=b0_get l 1 (by omega) (by omega)
  have hbl:=UInt8.toNat_lt (b0 l)
  have d9:IntKind.i64.wrap (((b0 l).toNat:Nat):Int)=(((b0 l).toNat:Nat):Int):=wrap_i64_nat _ (by omega)
  by_cases h2:(b0 l).toNat<1
  · have d2:decide (((b0 l).toNat:Int)<1)=true:=by simp;omega
    rw [show valueR (m,l,0)=(0,m,l,2) by simp [valueR,h1,h2]]
    dsimp only [cellR]
    try rw [hss]
    refine ACalls.of_aw (Ω:=[(229,Ent.pure p_done),(231,Ent.effect e_peek),(230,Ent.effect e_fail),(332,Ent.pure p_vParse)]) (T:=assoc []) mixed (TblOk.cons ok_done (TblOk.cons ok_peek (TblOk.cons ok_fail (TblOk.cons ok_vParse TblOk.nil)))) Tryz.func234 (by kernel_rfl) (by rfl) (rs:=[.cell 2 83]) (by rfl) (by kernel_rfl) (by simp only [Tryz.ntmps234,yaz,yba];decide) (by simp [zkn]) fun hcl hlt=>?_
    change aw _ _ _ (KI Tryz.prog [(229,Ent.pure p_done),(231,Ent.effect e_peek),(230,Ent.effect e_fail),(332,Ent.pure p_vParse)] (aEnd Tryz.prog [.cell 2 83] H.nx _ _) []) _ _
    clear hlt
    have hcl1:=fun l' e'=>closedR hid hcl m (.inl rfl) l' e'
    have hcl2:=fun l' e'=>closedR hid hcl .any (.inr rfl) l' e' 
    simp only [go_sem,zav,reduceCtorEq,Nat.reduceEqDiff,Nat.reduceAdd,Nat.reduceMul,Nat.reduceSub,Nat.reduceLeDiff,Nat.reduceLT,Int.reduceMul,Int.reduceAdd,Int.reduceSub,Int.reduceToNat,byq,hne,hid,hcs,hcm,hgm,onR,onRo_some,onRo_nil,zlj,zlh,zks,and_true,true_and,hid,p_done,e_peek,e_fail,d0,if_neg d1,d2,d6,d7,d8,d9,yap,ofByte,v0]
    simp (disch:=first | assumption | omega | (simp;done) | (simp;omega) | (simp only [bt,and_true];first | done | omega | (simp;done))) [↓zlw,beq,ybc,ybd,ybe,endOk,wk,wk2,wk1,wkM,wkL,wkLL,ybf,hss,hl0,hcl,hcl1,hcl2,hle]
    try omega
  have d2:decide (((b0 l).toNat:Int)<1)=false:=by simp;omega
  by_cases h3:16<(b0 l).toNat
  · have d3:decide (((b0 l).toNat:Int) > 16)=true:=by simp;omega
    rw [show valueR (m,l,0)=(0,m,l,2) by simp [valueR,h1,h2,h3]]
    dsimp only [cellR]
    try rw [hss]
    refine ACalls.of_aw (Ω:=[(229,Ent.pure p_done),(231,Ent.effect e_peek),(230,Ent.effect e_fail),(332,Ent.pure p_vParse)]) (T:=assoc []) mixed (TblOk.cons ok_done (TblOk.cons ok_peek (TblOk.cons ok_fail (TblOk.cons ok_vParse TblOk.nil)))) Tryz.func234 (by kernel_rfl) (by rfl) (rs:=[.cell 2 83]) (by rfl) (by kernel_rfl) (by simp only [Tryz.ntmps234,yaz,yba];decide) (by simp [zkn]) fun hcl hlt=>?_
    change aw _ _ _ (KI Tryz.prog [(229,Ent.pure p_done),(231,Ent.effect e_peek),(230,Ent.effect e_fail),(332,Ent.pure p_vParse)] (aEnd Tryz.prog [.cell 2 83] H.nx _ _) []) _ _
    clear hlt
    have hcl1:=fun l' e'=>closedR hid hcl m (.inl rfl) l' e'
    have hcl2:=fun l' e'=>closedR hid hcl .any (.inr rfl) l' e' 
    simp only [go_sem,zav,reduceCtorEq,Nat.reduceEqDiff,Nat.reduceAdd,Nat.reduceMul,Nat.reduceSub,Nat.reduceLeDiff,Nat.reduceLT,Int.reduceMul,Int.reduceAdd,Int.reduceSub,Int.reduceToNat,byq,hne,hid,hcs,hcm,hgm,onR,onRo_some,onRo_nil,zlj,zlh,zks,and_true,true_and,hid,p_done,e_peek,e_fail,d0,if_neg d1,d2,d3,d6,d7,d8,d9,yap,ofByte,v0]
    simp (disch:=first | assumption | omega | (simp;done) | (simp;omega) | (simp only [bt,and_true];first | done | omega | (simp;done))) [↓zlw,beq,ybc,ybd,ybe,endOk,wk,wk2,wk1,wkM,wkL,wkLL,ybf,hss,hl0,hcl,hcl1,hcl2,hle]
    try omega
  have d3:decide (((b0 l).toNat:Int) > 16)=false:=by simp;omega
  by_cases h4:l.length<1+(b0 l).toNat
  · have d4:(l.length:Int)<1+(((b0 l).toNat:Nat):Int):=by omega
    rw [show valueR (m,l,0)=(0,m,l,1) by simp [valueR,h1,h2,h3,h4]]
    dsimp only [cellR]
    try rw [hss]
    refine ACalls.of_aw (Ω:=[(229,Ent.pure p_done),(231,Ent.effect e_peek),(230,Ent.effect e_fail),(332,Ent.pure p_vParse)]) (T:=assoc []) mixed (TblOk.cons ok_done (TblOk.cons ok_peek (TblOk.cons ok_fail (TblOk.cons ok_vParse TblOk.nil)))) Tryz.func234 (by kernel_rfl) (by rfl) (rs:=[.cell 2 83]) (by rfl) (by kernel_rfl) (by simp only [Tryz.ntmps234,yaz,yba];decide) (by simp [zkn]) fun hcl hlt=>?_
    change aw _ _ _ (KI Tryz.prog [(229,Ent.pure p_done),(231,Ent.effect e_peek),(230,Ent.effect e_fail),(332,Ent.pure p_vParse)] (aEnd Tryz.prog [.cell 2 83] H.nx _ _) []) _ _
    clear hlt
    have hcl1:=fun l' e'=>closedR hid hcl m (.inl rfl) l' e'
    have hcl2:=fun l' e'=>closedR hid hcl .any (.inr rfl) l' e' 
    simp only [go_sem,zav,reduceCtorEq,Nat.reduceEqDiff,Nat.reduceAdd,Nat.reduceMul,Nat.reduceSub,Nat.reduceLeDiff,Nat.reduceLT,Int.reduceMul,Int.reduceAdd,Int.reduceSub,Int.reduceToNat,byq,hne,hid,hcs,hcm,hgm,onR,onRo_some,onRo_nil,zlj,zlh,zks,and_true,true_and,hid,p_done,e_peek,e_fail,d0,if_neg d1,if_pos d4,d2,d3,d6,d7,d8,d9,yap,ofByte,v0]
    simp (disch:=first | assumption | omega | (simp;done) | (simp;omega) | (simp only [bt,and_true];first | done | omega | (simp;done))) [↓zlw,beq,ybc,ybd,ybe,endOk,wk,wk2,wk1,wkM,wkL,wkLL,ybf,hss,hl0,hcl,hcl1,hcl2,hle]
    try omega
  have d4:¬ (l.length:Int)<1+(((b0 l).toNat:Nat):Int):=by omega
  have d5:(1+(((b0 l).toNat:Nat):Int)).toNat=1+(b0 l).toNat:=by omega
  have w1:IntKind.i64.wrap (1+(((b0 l).toNat:Nat):Int))=((1+(b0 l).toNat:Nat):Int):=by rw [wrap_i64]<;>omega
  have hpl:((l.take (1+(b0 l).toNat)).drop 1).length≤140737488355328:=by simp;omega
  have v1:∀ v,vv v=.agg [.int .u64 ((v/2^64:Nat):Int),.int .u64 ((v % 2^64:Nat):Int)]:=fun _=>rfl
  by_cases h5:(parseV ((l.take (1+(b0 l).toNat)).drop 1)).2=0
  · have dp:parseV ((l.take (1+(b0 l).toNat)).drop 1)=((parseV ((l.take (1+(b0 l).toNat)).drop 1)).1,0):=by rw [← h5]
    generalize (parseV ((l.take (1+(b0 l).toNat)).drop 1)).1=q at *
    rw [show valueR (m,l,0)=(q,Mark.any,l.drop (1+(b0 l).toNat),(0:Int)) by simp only [valueR];rw [if_neg (by simp),if_neg h1,if_neg (by omega),if_neg h4,dp,if_neg (by simp)]]
    dsimp only [cellR]
    refine ACalls.of_aw (Ω:=[(229,Ent.pure p_done),(231,Ent.effect e_peek),(230,Ent.effect e_fail),(332,Ent.pure p_vParse)]) (T:=assoc []) mixed (TblOk.cons ok_done (TblOk.cons ok_peek (TblOk.cons ok_fail (TblOk.cons ok_vParse TblOk.nil)))) Tryz.func234 (by kernel_rfl) (by rfl) (rs:=[.cell 2 83]) (by rfl) (by kernel_rfl) (by simp only [Tryz.ntmps234,yaz,yba];decide) (by simp [zkn]) fun hcl hlt=>?_
    change aw _ _ _ (KI Tryz.prog [(229,Ent.pure p_done),(231,Ent.effect e_peek),(230,Ent.effect e_fail),(332,Ent.pure p_vParse)] (aEnd Tryz.prog [.cell 2 83] H.nx _ _) []) _ _
    clear hlt
    have hcl1:=fun l' e'=>closedR hid hcl m (.inl rfl) l' e'
    have hcl2:=fun l' e'=>closedR hid hcl .any (.inr rfl) l' e' 
    simp only [go_sem,zav,reduceCtorEq,Nat.reduceEqDiff,Nat.reduceAdd,Nat.reduceMul,Nat.reduceSub,Nat.reduceLeDiff,Nat.reduceLT,Int.reduceMul,Int.reduceAdd,Int.reduceSub,Int.reduceToNat,byq,hne,hid,hcs,hcm,hgm,onR,onRo_some,onRo_nil,zlj,zlh,zks,and_true,true_and,hid,p_done,e_peek,e_fail,p_vParse,d0,if_neg d1,if_neg d4,d2,d3,d5,d6,d7,d8,d9,w1,dp,hpl,Int.toNat_natCast,yap,ofByte,v1]
    simp (disch:=first | assumption | omega | (simp;done) | (simp;omega) | (simp only [bt,and_true];first | done | omega | (simp;done))) [↓zlw,beq,ybc,ybd,ybe,endOk,wk,wk2,wk1,wkM,wkL,wkLL,ybf,hss,hl0,hcl,hcl1,hcl2,hle]
    try omega
  · have d10:((parseV ((l.take (1+(b0 l).toNat)).drop 1)).2 != 0)=true:=by simpa using h5
    rw [show valueR (m,l,0)=(0,m,l,5) by simp only [valueR];rw [if_neg (by simp),if_neg h1,if_neg (by omega),if_neg h4,if_pos h5]]
    generalize hq:parseV ((l.take (1+(b0 l).toNat)).drop 1)=q at *
    dsimp only [cellR]
    refine ACalls.of_aw (Ω:=[(229,Ent.pure p_done),(231,Ent.effect e_peek),(230,Ent.effect e_fail),(332,Ent.pure p_vParse)]) (T:=assoc []) mixed (TblOk.cons ok_done (TblOk.cons ok_peek (TblOk.cons ok_fail (TblOk.cons ok_vParse TblOk.nil)))) Tryz.func234 (by kernel_rfl) (by rfl) (rs:=[.cell 2 83]) (by rfl) (by kernel_rfl) (by simp only [Tryz.ntmps234,yaz,yba];decide) (by simp [zkn]) fun hcl hlt=>?_
    change aw _ _ _ (KI Tryz.prog [(229,Ent.pure p_done),(231,Ent.effect e_peek),(230,Ent.effect e_fail),(332,Ent.pure p_vParse)] (aEnd Tryz.prog [.cell 2 83] H.nx _ _) []) _ _
    clear hlt
    have hcl1:=fun l' e'=>closedR hid hcl m (.inl rfl) l' e'
    have hcl2:=fun l' e'=>closedR hid hcl .any (.inr rfl) l' e' 
    simp only [go_sem,zav,reduceCtorEq,Nat.reduceEqDiff,Nat.reduceAdd,Nat.reduceMul,Nat.reduceSub,Nat.reduceLeDiff,Nat.reduceLT,Int.reduceMul,Int.reduceAdd,Int.reduceSub,Int.reduceToNat,byq,hne,hid,hcs,hcm,hgm,onR,onRo_some,onRo_nil,zlj,zlh,zks,and_true,true_and,hid,p_done,e_peek,e_fail,p_vParse,d0,if_neg d1,if_neg d4,d2,d3,d5,d6,d7,d8,d9,d10,w1,hq,hpl,Int.toNat_natCast,yap,ofByte,v1]
    simp (disch:=first | assumption | omega | (simp;done) | (simp;omega) | (simp only [bt,and_true];first | done | omega | (simp;done))) [↓zlw,beq,ybc,ybd,ybe,endOk,wk,wk2,wk1,wkM,wkL,wkLL,ybf,hss,hl0,hcl,hcl1,hcl2,hle]
    try omega

def e_xfail:List AV→AHeap→(AEnd→AHeap→Prop)→Prop
  | [.ptr id 0,.int .i64 x],H,K=>onR H id fun m l e=>True∧K (.ret (.tup [])) (H.set id (.cells [.slice m 1 (bys l),.int .i64 x]))
  | _,_,_=>False
theorem ok_xfail:EntOk Tryz.prog 237 (Ent.effect e_xfail):=by
  refine EntOk.effect fun args H K h=>?_
  unfold e_xfail at h
  split at h
  rotate_left
  · exact h.elim
  rename_i id x
  obtain ⟨m,l,e,hid,hle,h⟩:=onR_out h
  obtain ⟨hpre,hK⟩:=h
  refine ⟨_,_,hK,?_⟩
  clear hK
  have hl0:=AHeap.get_lt hid
  have hne:=far_of hl0
  have hss:=set_same hid
  have hcs:=cells_some hid
  have hcm:=fun cs=>@cells_set_same H id cs hl0
  have hgm:=fun o=>@get_set_same' H id o hl0
  refine ACalls.of_aw (Ω:=[]) (T:=assoc []) mixed TblOk.nil Tryz.func237 (by kernel_rfl) (by rfl) (rs:=[]) (by rfl) (by kernel_rfl) (by simp only [Tryz.ntmps237,yaz,yba];decide) (Nat.le_refl _) fun hcl hlt=>?_
  change aw _ _ _ (KI Tryz.prog [] (aEnd Tryz.prog [] H.nx _ _) []) _ _
  clear hlt
  have hcl1:=fun l' e'=>closedR hid hcl m (.inl rfl) l' e'
  have hcl2:=fun l' e'=>closedR hid hcl .any (.inr rfl) l' e' 
  simp only [go_sem,zav,reduceCtorEq,Nat.reduceEqDiff,Nat.reduceAdd,Nat.reduceMul,Nat.reduceSub,Nat.reduceLeDiff,Nat.reduceLT,Int.reduceMul,Int.reduceAdd,Int.reduceSub,Int.reduceToNat,byq,hne,hid,hcs,hcm,hgm,onR,onRo_some,onRo_nil,zlj,zlh,zks,and_true,true_and]
  simp (disch:=first | assumption | omega | (simp;done) | (simp;omega) | (simp only [bt,and_true];first | done | omega | (simp;done))) [↓zlw,beq,ybc,ybd,ybe,endOk,wk,wk2,wk1,wkM,wkL,wkLL,ybf,hss,hl0,hcl1,hcl2,zlj,zlh,zks]

def e_xBool:List AV→AHeap→(AEnd→AHeap→Prop)→Prop
  | [.ptr id 0],H,K=>onR H id fun m l e=>True∧K (.ret (.bool (boolR (m,l,e)).1)) (H.set id (.cells (cellR (boolR (m,l,e)).2)))
  | _,_,_=>False
theorem ok_xBool:EntOk Tryz.prog 103 (Ent.effect e_xBool):=by
  refine EntOk.effect fun args H K h=>?_
  unfold e_xBool at h
  split at h
  rotate_left
  · exact h.elim
  rename_i id
  obtain ⟨m,l,e,hid,hle,h⟩:=onR_out h
  obtain ⟨hpre,hK⟩:=h
  refine ⟨_,_,hK,?_⟩
  clear hK
  have hl0:=AHeap.get_lt hid
  have hne:=far_of hl0
  have hss:=set_same hid
  have hcs:=cells_some hid
  have hcm:=fun cs=>@cells_set_same H id cs hl0
  have hgm:=fun o=>@get_set_same' H id o hl0
  by_cases h0:e=0
  case neg =>
    have d0:(e != 0)=true:=by simpa using h0
    rw [show boolR (m,l,e)=(false,m,l,e) by simp [boolR,h0]]
    dsimp only [cellR]
    try rw [hss]
    refine ACalls.of_aw (Ω:=[(237,Ent.effect e_xfail)]) (T:=assoc []) mixed (TblOk.cons ok_xfail TblOk.nil) Tryz.func103 (by kernel_rfl) (by rfl) (rs:=[.tmp 2]) (by rfl) (by kernel_rfl) (by simp only [Tryz.ntmps103,yaz,yba];decide) (by simp [zkn]) fun hcl hlt=>?_
    change aw _ _ _ (KI Tryz.prog [(237,Ent.effect e_xfail)] (aEnd Tryz.prog [.tmp 2] H.nx _ _) []) _ _
    clear hlt
    have hcl1:=fun l' e'=>closedR hid hcl m (.inl rfl) l' e'
    have hcl2:=fun l' e'=>closedR hid hcl .any (.inr rfl) l' e' 
    simp only [go_sem,zav,reduceCtorEq,Nat.reduceEqDiff,Nat.reduceAdd,Nat.reduceMul,Nat.reduceSub,Nat.reduceLeDiff,Nat.reduceLT,Int.reduceMul,Int.reduceAdd,Int.reduceSub,Int.reduceToNat,byq,hne,hid,hcs,hcm,hgm,onR,onRo_some,onRo_nil,zlj,zlh,zks,and_true,true_and,hid,d0]
    simp (disch:=first | assumption | omega | (simp;done) | (simp;omega) | (simp only [bt,and_true];first | done | omega | (simp;done))) [↓zlw,beq,ybc,ybd,ybe,endOk,wk,wk2,wk1,wkM,wkL,wkLL,ybf,hss,hl0,hcl,hcl1,hcl2,hle]
    try omega
  subst h0
  have d0:((0:Int) != 0)=false:=rfl
  by_cases h1:l.length<1
  · have d1:((l.length:Int)==0)=true:=by simp;exact List.eq_nil_of_length_eq_zero (by omega)
    rw [show boolR (m,l,0)=(false,m,l,1) by simp [boolR,h1]]
    dsimp only [cellR]
    try rw [hss]
    refine ACalls.of_aw (Ω:=[(237,Ent.effect e_xfail)]) (T:=assoc []) mixed (TblOk.cons ok_xfail TblOk.nil) Tryz.func103 (by kernel_rfl) (by rfl) (rs:=[.tmp 2]) (by rfl) (by kernel_rfl) (by simp only [Tryz.ntmps103,yaz,yba];decide) (by simp [zkn]) fun hcl hlt=>?_
    change aw _ _ _ (KI Tryz.prog [(237,Ent.effect e_xfail)] (aEnd Tryz.prog [.tmp 2] H.nx _ _) []) _ _
    clear hlt
    have hcl1:=fun l' e'=>closedR hid hcl m (.inl rfl) l' e'
    have hcl2:=fun l' e'=>closedR hid hcl .any (.inr rfl) l' e' 
    simp only [go_sem,zav,reduceCtorEq,Nat.reduceEqDiff,Nat.reduceAdd,Nat.reduceMul,Nat.reduceSub,Nat.reduceLeDiff,Nat.reduceLT,Int.reduceMul,Int.reduceAdd,Int.reduceSub,Int.reduceToNat,byq,hne,hid,hcs,hcm,hgm,onR,onRo_some,onRo_nil,zlj,zlh,zks,and_true,true_and,hid,e_xfail,d0,d1]
    simp (disch:=first | assumption | omega | (simp;done) | (simp;omega) | (simp only [bt,and_true];first | done | omega | (simp;done))) [↓zlw,beq,ybc,ybd,ybe,endOk,wk,wk2,wk1,wkM,wkL,wkLL,ybf,hss,hl0,hcl,hcl1,hcl2,hle]
    try omega
  have d1:((l.length:Int)==0)=false:=by simp;intro e;exact h1 (by rw [e];simp)
  have d7:List.take (l.length:Int).toNat l=l:=by simp
  have d8:(bys l).getD 0 .junk=ofByte (b0 l):=b0_get' l (by omega)
  by_cases h2:1<(b0 l).toNat
  · have d2:decide (((b0 l).toNat:Int) > 1)=true:=by simp;omega
    rw [show boolR (m,l,0)=(false,m,l,2) by simp [boolR,h1,h2]]
    dsimp only [cellR]
    try rw [hss]
    refine ACalls.of_aw (Ω:=[(237,Ent.effect e_xfail)]) (T:=assoc []) mixed (TblOk.cons ok_xfail TblOk.nil) Tryz.func103 (by kernel_rfl) (by rfl) (rs:=[.tmp 2]) (by rfl) (by kernel_rfl) (by simp only [Tryz.ntmps103,yaz,yba];decide) (by simp [zkn]) fun hcl hlt=>?_
    change aw _ _ _ (KI Tryz.prog [(237,Ent.effect e_xfail)] (aEnd Tryz.prog [.tmp 2] H.nx _ _) []) _ _
    clear hlt
    have hcl1:=fun l' e'=>closedR hid hcl m (.inl rfl) l' e'
    have hcl2:=fun l' e'=>closedR hid hcl .any (.inr rfl) l' e' 
    simp only [go_sem,zav,reduceCtorEq,Nat.reduceEqDiff,Nat.reduceAdd,Nat.reduceMul,Nat.reduceSub,Nat.reduceLeDiff,Nat.reduceLT,Int.reduceMul,Int.reduceAdd,Int.reduceSub,Int.reduceToNat,byq,hne,hid,hcs,hcm,hgm,onR,onRo_some,onRo_nil,zlj,zlh,zks,and_true,true_and,hid,e_xfail,d0,d1,d2,d7,d8,ofByte]
    simp (disch:=first | assumption | omega | (simp;done) | (simp;omega) | (simp only [bt,and_true];first | done | omega | (simp;done))) [↓zlw,beq,ybc,ybd,ybe,endOk,wk,wk2,wk1,wkM,wkL,wkLL,ybf,hss,hl0,hcl,hcl1,hcl2,hle]
    try omega
  · have d2:decide (((b0 l).toNat:Int) > 1)=false:=by simp;omega
    have d3:((((b0 l).toNat:Nat):Int)==1)=((b0 l).toNat==1):=by rw [Bool.eq_iff_iff];simp;omega
    rw [show boolR (m,l,0)=((b0 l).toNat==1,Mark.any,l.drop 1,(0:Int)) by simp [boolR,h1,h2]]
    dsimp only [cellR]
    try rw [hss]
    refine ACalls.of_aw (Ω:=[(237,Ent.effect e_xfail)]) (T:=assoc []) mixed (TblOk.cons ok_xfail TblOk.nil) Tryz.func103 (by kernel_rfl) (by rfl) (rs:=[.tmp 2]) (by rfl) (by kernel_rfl) (by simp only [Tryz.ntmps103,yaz,yba];decide) (by simp [zkn]) fun hcl hlt=>?_
    change aw _ _ _ (KI Tryz.prog [(237,Ent.effect e_xfail)] (aEnd Tryz.prog [.tmp 2] H.nx _ _) []) _ _
    clear hlt
    have hcl1:=fun l' e'=>closedR hid hcl m (.inl rfl) l' e'
    have hcl2:=fun l' e'=>closedR hid hcl .any (.inr rfl) l' e' 
    simp only [go_sem,zav,reduceCtorEq,Nat.reduceEqDiff,Nat.reduceAdd,Nat.reduceMul,Nat.reduceSub,Nat.reduceLeDiff,Nat.reduceLT,Int.reduceMul,Int.reduceAdd,Int.reduceSub,Int.reduceToNat,byq,hne,hid,hcs,hcm,hgm,onR,onRo_some,onRo_nil,zlj,zlh,zks,and_true,true_and,hid,e_xfail,d0,d1,d2,d3,d7,d8,ofByte]
    simp (disch:=first | assumption | omega | (simp;done) | (simp;omega) | (simp only [bt,and_true];first | done | omega | (simp;done))) [↓zlw,beq,ybc,ybd,ybe,endOk,wk,wk2,wk1,wkM,wkL,wkLL,ybf,hss,hl0,hcl,hcl1,hcl2,hle]
    try omega

theorem beVal_two (l:List UInt8) (h:2≤l.length):beVal (l.take 2)=(l.getD 0 0).toNat*256+(l.getD 1 0).toNat:=by
  match l,h with
  | a::b::t,_=>simp [beVal]

def e_xBytes:List AV→AHeap→(AEnd→AHeap→Prop)→Prop
  | [.ptr id 0,.int .i64 most],H,K=>onR H id fun m l e=>True∧K (.ret (.slice .any 1 (bys (bytesR (m,l,e) most).1))) (H.set id (.cells (cellR (bytesR (m,l,e) most).2)))
  | _,_,_=>False
theorem ok_xBytes:EntOk Tryz.prog 106 (Ent.effect e_xBytes):=by
  refine EntOk.effect fun args H K h=>?_
  unfold e_xBytes at h
  split at h
  rotate_left
  · exact h.elim
  rename_i id most
  obtain ⟨m,l,e,hid,hle,h⟩:=onR_out h
  obtain ⟨hpre,hK⟩:=h
  refine ⟨_,_,hK,?_⟩
  clear hK
  have hl0:=AHeap.get_lt hid
  have hne:=far_of hl0
  have hss:=set_same hid
  have hcs:=cells_some hid
  have hcm:=fun cs=>@cells_set_same H id cs hl0
  have hgm:=fun o=>@get_set_same' H id o hl0
  by_cases h0:e=0
  case neg =>
    have d0:(e != 0)=true:=by simpa using h0
    rw [show bytesR (m,l,e) most=([],m,l,e) by simp [bytesR,h0]]
    dsimp only [cellR]
    try rw [hss]
    refine ACalls.of_aw (Ω:=[(237,Ent.effect e_xfail)]) (T:=assoc []) mixed (TblOk.cons ok_xfail TblOk.nil) Tryz.func106 (by kernel_rfl) (by rfl) (rs:=[.tmp 4]) (by rfl) (by kernel_rfl) (by simp only [Tryz.ntmps106,yaz,yba];decide) (by simp [zkn]) fun hcl hlt=>?_
    change aw _ _ _ (KI Tryz.prog [(237,Ent.effect e_xfail)] (aEnd Tryz.prog [.tmp 4] H.nx _ _) []) _ _
    clear hlt
    have hcl1:=fun l' e'=>closedR hid hcl m (.inl rfl) l' e'
    have hcl2:=fun l' e'=>closedR hid hcl .any (.inr rfl) l' e' 
    simp only [go_sem,zav,reduceCtorEq,Nat.reduceEqDiff,Nat.reduceAdd,Nat.reduceMul,Nat.reduceSub,Nat.reduceLeDiff,Nat.reduceLT,Int.reduceMul,Int.reduceAdd,Int.reduceSub,Int.reduceToNat,byq,hne,hid,hcs,hcm,hgm,onR,onRo_some,onRo_nil,zlj,zlh,zks,and_true,true_and,hid,d0]
    simp (disch:=first | assumption | omega | (simp;done) | (simp;omega) | (simp only [bt,and_true];first | done | omega | (simp;done))) [↓zlw,beq,ybc,ybd,ybe,endOk,wk,wk2,wk1,wkM,wkL,wkLL,ybf,hss,hl0,hcl,hcl1,hcl2,hle]
    try omega
  subst h0
  have d0:((0:Int) != 0)=false:=rfl
  by_cases h1:l.length<2
  · have d1:decide ((l.length:Int)<2)=true:=by simp;omega
    rw [show bytesR (m,l,0) most=([],m,l,1) by simp [bytesR,h1]]
    dsimp only [cellR]
    try rw [hss]
    refine ACalls.of_aw (Ω:=[(237,Ent.effect e_xfail)]) (T:=assoc []) mixed (TblOk.cons ok_xfail TblOk.nil) Tryz.func106 (by kernel_rfl) (by rfl) (rs:=[.tmp 4]) (by rfl) (by kernel_rfl) (by simp only [Tryz.ntmps106,yaz,yba];decide) (by simp [zkn]) fun hcl hlt=>?_
    change aw _ _ _ (KI Tryz.prog [(237,Ent.effect e_xfail)] (aEnd Tryz.prog [.tmp 4] H.nx _ _) []) _ _
    clear hlt
    have hcl1:=fun l' e'=>closedR hid hcl m (.inl rfl) l' e'
    have hcl2:=fun l' e'=>closedR hid hcl .any (.inr rfl) l' e' 
    simp only [go_sem,zav,reduceCtorEq,Nat.reduceEqDiff,Nat.reduceAdd,Nat.reduceMul,Nat.reduceSub,Nat.reduceLeDiff,Nat.reduceLT,Int.reduceMul,Int.reduceAdd,Int.reduceSub,Int.reduceToNat,byq,hne,hid,hcs,hcm,hgm,onR,onRo_some,onRo_nil,zlj,zlh,zks,and_true,true_and,hid,e_xfail,d0,d1]
    simp (disch:=first | assumption | omega | (simp;done) | (simp;omega) | (simp only [bt,and_true];first | done | omega | (simp;done))) [↓zlw,beq,ybc,ybd,ybe,endOk,wk,wk2,wk1,wkM,wkL,wkLL,ybf,hss,hl0,hcl,hcl1,hcl2,hle]
    try omega
  have d1:decide ((l.length:Int)<2)=false:=by simp;omega
  have d2:(bys l).getD 0 .junk=.int .u8 (((l.getD 0 0).toNat:Nat):Int):=bys_get (by omega)
  have d3:(bys l).getD 1 .junk=.int .u8 (((l.getD 1 0).toNat:Nat):Int):=bys_get (by omega)
  have hv:=beVal_two l (by omega)
  have b1:=UInt8.toNat_lt (l.getD 0 0)
  have b2:=UInt8.toNat_lt (l.getD 1 0)
  generalize (l.getD 0 0).toNat=x at *
  generalize (l.getD 1 0).toNat=y at *
  have w1:IntKind.i64.wrap (x:Int)=(x:Int):=wrap_i64_nat _ (by omega)
  have w2:IntKind.i64.wrap (y:Int)=(y:Int):=wrap_i64_nat _ (by omega)
  have w3:IntKind.i64.wrap ((x:Int)*256)=((x*256:Nat):Int):=by rw [wrap_i64]<;>omega
  have w4:IntKind.i64.wrap (((x*256:Nat):Int)+(y:Int))=((beVal (l.take 2):Nat):Int):=by rw [wrap_i64]<;>omega
  have hb:beVal (l.take 2)<65536:=by omega
  clear hv
  generalize hn:beVal (l.take 2)=n at *
  have w5:IntKind.i64.wrap (2+(n:Int))=((2+n:Nat):Int):=by rw [wrap_i64]<;>omega
  by_cases h2:most<(n:Int)
  · have d4:decide ((n:Int) > most)=true:=by simpa using h2
    rw [show bytesR (m,l,0) most=([],m,l,3) by simp [bytesR,hn,h1,h2]]
    dsimp only [cellR]
    try rw [hss]
    refine ACalls.of_aw (Ω:=[(237,Ent.effect e_xfail)]) (T:=assoc []) mixed (TblOk.cons ok_xfail TblOk.nil) Tryz.func106 (by kernel_rfl) (by rfl) (rs:=[.tmp 4]) (by rfl) (by kernel_rfl) (by simp only [Tryz.ntmps106,yaz,yba];decide) (by simp [zkn]) fun hcl hlt=>?_
    change aw _ _ _ (KI Tryz.prog [(237,Ent.effect e_xfail)] (aEnd Tryz.prog [.tmp 4] H.nx _ _) []) _ _
    clear hlt
    have hcl1:=fun l' e'=>closedR hid hcl m (.inl rfl) l' e'
    have hcl2:=fun l' e'=>closedR hid hcl .any (.inr rfl) l' e' 
    simp only [go_sem,zav,reduceCtorEq,Nat.reduceEqDiff,Nat.reduceAdd,Nat.reduceMul,Nat.reduceSub,Nat.reduceLeDiff,Nat.reduceLT,Int.reduceMul,Int.reduceAdd,Int.reduceSub,Int.reduceToNat,byq,hne,hid,hcs,hcm,hgm,onR,onRo_some,onRo_nil,zlj,zlh,zks,and_true,true_and,hid,e_xfail,d0,d1,d2,d3,d4,w1,w2,w3,w4]
    simp (disch:=first | assumption | omega | (simp;done) | (simp;omega) | (simp only [bt,and_true];first | done | omega | (simp;done))) [↓zlw,beq,ybc,ybd,ybe,endOk,wk,wk2,wk1,wkM,wkL,wkLL,ybf,hss,hl0,hcl,hcl1,hcl2,hle]
    try omega
  have d4:decide ((n:Int) > most)=false:=by simpa using h2
  by_cases h3:l.length<2+n
  · have d5:decide ((l.length:Int)<((2+n:Nat):Int))=true:=by simp;omega
    rw [show bytesR (m,l,0) most=([],m,l,1) by simp [bytesR,hn,h1,h2,h3]]
    dsimp only [cellR]
    try rw [hss]
    refine ACalls.of_aw (Ω:=[(237,Ent.effect e_xfail)]) (T:=assoc []) mixed (TblOk.cons ok_xfail TblOk.nil) Tryz.func106 (by kernel_rfl) (by rfl) (rs:=[.tmp 4]) (by rfl) (by kernel_rfl) (by simp only [Tryz.ntmps106,yaz,yba];decide) (by simp [zkn]) fun hcl hlt=>?_
    change aw _ _ _ (KI Tryz.prog [(237,Ent.effect e_xfail)] (aEnd Tryz.prog [.tmp 4] H.nx _ _) []) _ _
    clear hlt
    have hcl1:=fun l' e'=>closedR hid hcl m (.inl rfl) l' e'
    have hcl2:=fun l' e'=>closedR hid hcl .any (.inr rfl) l' e' 
    simp only [go_sem,zav,reduceCtorEq,Nat.reduceEqDiff,Nat.reduceAdd,Nat.reduceMul,Nat.reduceSub,Nat.reduceLeDiff,Nat.reduceLT,Int.reduceMul,Int.reduceAdd,Int.reduceSub,Int.reduceToNat,byq,hne,hid,hcs,hcm,hgm,onR,onRo_some,onRo_nil,zlj,zlh,zks,and_true,true_and,hid,e_xfail,d0,d1,d2,d3,d4,d5,w1,w2,w3,w4,w5]
    simp (disch:=first | assumption | omega | (simp;done) | (simp;omega) | (simp only [bt,and_true];first | done | omega | (simp;done))) [↓zlw,beq,ybc,ybd,ybe,endOk,wk,wk2,wk1,wkM,wkL,wkLL,ybf,hss,hl0,hcl,hcl1,hcl2,hle]
    try omega
  · have d5:decide ((l.length:Int)<((2+n:Nat):Int))=false:=by simp;omega
    have d7:List.take (l.length:Int).toNat l=l:=by simp
    have d8:((l.take (2+n)).drop 2).length≤140737488355328:=by simp;omega
    rw [show bytesR (m,l,0) most=((l.take (2+n)).drop 2,Mark.any,l.drop (2+n),(0:Int)) by simp [bytesR,hn,h1,h2,h3]]
    dsimp only [cellR]
    try rw [hss]
    refine ACalls.of_aw (Ω:=[(237,Ent.effect e_xfail)]) (T:=assoc []) mixed (TblOk.cons ok_xfail TblOk.nil) Tryz.func106 (by kernel_rfl) (by rfl) (rs:=[.tmp 4]) (by rfl) (by kernel_rfl) (by simp only [Tryz.ntmps106,yaz,yba];decide) (by simp [zkn]) fun hcl hlt=>?_
    change aw _ _ _ (KI Tryz.prog [(237,Ent.effect e_xfail)] (aEnd Tryz.prog [.tmp 4] H.nx _ _) []) _ _
    clear hlt
    have hcl1:=fun l' e'=>closedR hid hcl m (.inl rfl) l' e'
    have hcl2:=fun l' e'=>closedR hid hcl .any (.inr rfl) l' e' 
    simp only [go_sem,zav,reduceCtorEq,Nat.reduceEqDiff,Nat.reduceAdd,Nat.reduceMul,Nat.reduceSub,Nat.reduceLeDiff,Nat.reduceLT,Int.reduceMul,Int.reduceAdd,Int.reduceSub,Int.reduceToNat,byq,hne,hid,hcs,hcm,hgm,onR,onRo_some,onRo_nil,zlj,zlh,zks,and_true,true_and,hid,e_xfail,d0,d1,d2,d3,d4,d5,d7,d8,w1,w2,w3,w4,w5,Int.toNat_natCast]
    simp (disch:=first | assumption | omega | (simp;done) | (simp;omega) | (simp only [bt,and_true];first | done | omega | (simp;done))) [↓zlw,beq,ybc,ybd,ybe,endOk,wk,wk2,wk1,wkM,wkL,wkLL,ybf,hss,hl0,hcl,hcl1,hcl2,hle]
    try omega
theorem uintR_two (m:Mark) (l:List UInt8) (e:Int):uintR (m,l,e) 2=if e≠0 then (0,m,l,e) else if l.length<2 then (0,m,l,1) else (((beVal (l.take 2):Nat):Int),.any,l.drop 2,0):=by
  unfold uintR
  by_cases h:e=0
  · subst h
    by_cases h2:l.length<2
    · rw [if_neg (by simp),if_neg (by decide),if_pos (by simp;omega),if_neg (by simp),if_pos h2]
    · rw [if_neg (by simp),if_neg (by decide),if_neg (by simp;omega),if_neg (by simp),if_neg h2];rfl
  · rw [if_pos h,if_pos h]

def e_xUint:List AV→AHeap→(AEnd→AHeap→Prop)→Prop
  | [.ptr id 0,.int .i64 w],H,K=>onR H id fun m l e=>True∧K (.ret (.int .i64 (uintR (m,l,e) w).1)) (H.set id (.cells (cellR (uintR (m,l,e) w).2)))
  | _,_,_=>False
theorem ok_xUint:EntOk Tryz.prog 102 (Ent.effect e_xUint):=by
  refine EntOk.effect fun args H K h=>?_
  unfold e_xUint at h
  split at h
  rotate_left
  · exact h.elim
  rename_i id w
  obtain ⟨m,l,e,hid,hle,h⟩:=onR_out h
  obtain ⟨hpre,hK⟩:=h
  refine ⟨_,_,hK,?_⟩
  clear hK
  have hl0:=AHeap.get_lt hid
  have hne:=far_of hl0
  have hss:=set_same hid
  have hcs:=cells_some hid
  have hcm:=fun cs=>@cells_set_same H id cs hl0
  have hgm:=fun o=>@get_set_same' H id o hl0
  by_cases h0:e=0
  case neg =>
    have d0:(e != 0)=true:=by simpa using h0
    rw [show uintR (m,l,e) w=(0,m,l,e) by simp [uintR,h0]]
    dsimp only [cellR]
    try rw [hss]
    refine ACalls.of_aw (Ω:=[(237,Ent.effect e_xfail)]) (T:=assoc []) mixed (TblOk.cons ok_xfail TblOk.nil) Tryz.func102 (by kernel_rfl) (by rfl) (rs:=[.tmp 4]) (by rfl) (by kernel_rfl) (by simp only [Tryz.ntmps102,yaz,yba];decide) (by simp [zkn]) fun hcl hlt=>?_
    change aw _ _ _ (KI Tryz.prog [(237,Ent.effect e_xfail)] (aEnd Tryz.prog [.tmp 4] H.nx _ _) []) _ _
    clear hlt
    have hcl1:=fun l' e'=>closedR hid hcl m (.inl rfl) l' e'
    have hcl2:=fun l' e'=>closedR hid hcl .any (.inr rfl) l' e' 
    simp only [go_sem,zav,reduceCtorEq,Nat.reduceEqDiff,Nat.reduceAdd,Nat.reduceMul,Nat.reduceSub,Nat.reduceLeDiff,Nat.reduceLT,Int.reduceMul,Int.reduceAdd,Int.reduceSub,Int.reduceToNat,byq,hne,hid,hcs,hcm,hgm,onR,onRo_some,onRo_nil,zlj,zlh,zks,and_true,true_and,hid,d0]
    simp (disch:=first | assumption | omega | (simp;done) | (simp;omega) | (simp only [bt,and_true];first | done | omega | (simp;done))) [↓zlw,beq,ybc,ybd,ybe,endOk,wk,wk2,wk1,wkM,wkL,wkLL,ybf,hss,hl0,hcl,hcl1,hcl2,hle]
    try omega
  subst h0
  have d0:((0:Int) != 0)=false:=rfl
  by_cases h1:w<1
  · have d1:decide (w<1)=true:=by simpa using h1
    rw [show uintR (m,l,0) w=(0,m,l,4) by simp [uintR,h1]]
    dsimp only [cellR]
    try rw [hss]
    refine ACalls.of_aw (Ω:=[(237,Ent.effect e_xfail)]) (T:=assoc []) mixed (TblOk.cons ok_xfail TblOk.nil) Tryz.func102 (by kernel_rfl) (by rfl) (rs:=[.tmp 4]) (by rfl) (by kernel_rfl) (by simp only [Tryz.ntmps102,yaz,yba];decide) (by simp [zkn]) fun hcl hlt=>?_
    change aw _ _ _ (KI Tryz.prog [(237,Ent.effect e_xfail)] (aEnd Tryz.prog [.tmp 4] H.nx _ _) []) _ _
    clear hlt
    have hcl1:=fun l' e'=>closedR hid hcl m (.inl rfl) l' e'
    have hcl2:=fun l' e'=>closedR hid hcl .any (.inr rfl) l' e' 
    simp only [go_sem,zav,reduceCtorEq,Nat.reduceEqDiff,Nat.reduceAdd,Nat.reduceMul,Nat.reduceSub,Nat.reduceLeDiff,Nat.reduceLT,Int.reduceMul,Int.reduceAdd,Int.reduceSub,Int.reduceToNat,byq,hne,hid,hcs,hcm,hgm,onR,onRo_some,onRo_nil,zlj,zlh,zks,and_true,true_and,hid,e_xfail,d0,d1]
    simp (disch:=first | assumption | omega | (simp;done) | (simp;omega) | (simp only [bt,and_true];first | done | omega | (simp;done))) [↓zlw,beq,ybc,ybd,ybe,endOk,wk,wk2,wk1,wkM,wkL,wkLL,ybf,hss,hl0,hcl,hcl1,hcl2,hle]
    try omega
  have d1:decide (w<1)=false:=by simpa using h1
  by_cases h2:4<w
  · have d2:decide (w > 4)=true:=by simpa using h2
    rw [show uintR (m,l,0) w=(0,m,l,4) by simp [uintR,h2]]
    dsimp only [cellR]
    try rw [hss]
    refine ACalls.of_aw (Ω:=[(237,Ent.effect e_xfail)]) (T:=assoc []) mixed (TblOk.cons ok_xfail TblOk.nil) Tryz.func102 (by kernel_rfl) (by rfl) (rs:=[.tmp 4]) (by rfl) (by kernel_rfl) (by simp only [Tryz.ntmps102,yaz,yba];decide) (by simp [zkn]) fun hcl hlt=>?_
    change aw _ _ _ (KI Tryz.prog [(237,Ent.effect e_xfail)] (aEnd Tryz.prog [.tmp 4] H.nx _ _) []) _ _
    clear hlt
    have hcl1:=fun l' e'=>closedR hid hcl m (.inl rfl) l' e'
    have hcl2:=fun l' e'=>closedR hid hcl .any (.inr rfl) l' e' 
    simp only [go_sem,zav,reduceCtorEq,Nat.reduceEqDiff,Nat.reduceAdd,Nat.reduceMul,Nat.reduceSub,Nat.reduceLeDiff,Nat.reduceLT,Int.reduceMul,Int.reduceAdd,Int.reduceSub,Int.reduceToNat,byq,hne,hid,hcs,hcm,hgm,onR,onRo_some,onRo_nil,zlj,zlh,zks,and_true,true_and,hid,e_xfail,d0,d1,d2]
    simp (disch:=first | assumption | omega | (simp;done) | (simp;omega) | (simp only [bt,and_true];first | done | omega | (simp;done))) [↓zlw,beq,ybc,ybd,ybe,endOk,wk,wk2,wk1,wkM,wkL,wkLL,ybf,hss,hl0,hcl,hcl1,hcl2,hle]
    try omega
  have d2:decide (w > 4)=false:=by simp;omega
  by_cases h3:(l.length:Int)<w
  · have d3:decide ((l.length:Int)<w)=true:=by simpa using h3
    rw [show uintR (m,l,0) w=(0,m,l,1) by simp [uintR,h1,h2,h3]]
    dsimp only [cellR]
    try rw [hss]
    refine ACalls.of_aw (Ω:=[(237,Ent.effect e_xfail)]) (T:=assoc []) mixed (TblOk.cons ok_xfail TblOk.nil) Tryz.func102 (by kernel_rfl) (by rfl) (rs:=[.tmp 4]) (by rfl) (by kernel_rfl) (by simp only [Tryz.ntmps102,yaz,yba];decide) (by simp [zkn]) fun hcl hlt=>?_
    change aw _ _ _ (KI Tryz.prog [(237,Ent.effect e_xfail)] (aEnd Tryz.prog [.tmp 4] H.nx _ _) []) _ _
    clear hlt
    have hcl1:=fun l' e'=>closedR hid hcl m (.inl rfl) l' e'
    have hcl2:=fun l' e'=>closedR hid hcl .any (.inr rfl) l' e' 
    simp only [go_sem,zav,reduceCtorEq,Nat.reduceEqDiff,Nat.reduceAdd,Nat.reduceMul,Nat.reduceSub,Nat.reduceLeDiff,Nat.reduceLT,Int.reduceMul,Int.reduceAdd,Int.reduceSub,Int.reduceToNat,byq,hne,hid,hcs,hcm,hgm,onR,onRo_some,onRo_nil,zlj,zlh,zks,and_true,true_and,hid,e_xfail,d0,d1,d2,d3]
    simp (disch:=first | assumption | omega | (simp;done) | (simp;omega) | (simp only [bt,and_true];first | done | omega | (simp;done))) [↓zlw,beq,ybc,ybd,ybe,endOk,wk,wk2,wk1,wkM,wkL,wkLL,ybf,hss,hl0,hcl,hcl1,hcl2,hle]
    try omega
  · have d3:decide ((l.length:Int)<w)=false:=by simpa using h3
    have d6:(l.take w.toNat).length=w.toNat:=by rw [List.length_take];omega
    have d7:List.take (l.length:Int).toNat l=l:=by simp
    rw [show uintR (m,l,0) w=(((beVal (l.take w.toNat):Nat):Int),Mark.any,l.drop w.toNat,(0:Int)) by simp [uintR,h1,h2,h3]]
    dsimp only [cellR]
    refine ACalls.of_aw (Ω:=[(237,Ent.effect e_xfail)]) (T:=assoc []) mixed (TblOk.cons ok_xfail TblOk.nil) Tryz.func102 (by kernel_rfl) (by rfl) (rs:=[.tmp 4]) (by rfl) (by kernel_rfl) (by simp only [Tryz.ntmps102,yaz,yba];decide) (by simp [zkn]) fun hcl hlt=>?_
    change aw _ _ _ (KI Tryz.prog [(237,Ent.effect e_xfail)] (aEnd Tryz.prog [.tmp 4] H.nx _ _) []) _ _
    clear hlt
    have hcl1:=fun l' e'=>closedR hid hcl m (.inl rfl) l' e'
    have hcl2:=fun l' e'=>closedR hid hcl .any (.inr rfl) l' e' 
    simp only [go_sem,zat,zau,byq,hne,hid,hcs,hcm,hgm,onR,onRo_some,onRo_nil,zlj,zlh,zks,and_true,true_and,hid,d0,d1,d2,d3,d6,d7,yap]
    refine ⟨by omega,?_⟩
    have hw:w.toNat≤4:=by omega
    generalize hll:l.take w.toNat=ll at *
    refine loop_intro (A:=Nat) (fun k=>[(40,.int .i64 (k:Int)),(39,.int .i64 (w.toNat:Int)),(38,.slice .any 1 (bys ll)),(5,.int .i64 (beVal (ll.take k):Nat)),(0,.ptr id 0),(1,.int .i64 w)])
      (fun k=>H) (fun k=>k≤w.toNat) (fun k=>w.toNat - k) 0 (by omega) ?_ fun k hk=>?_
    · simp only [bnq,enter,subF,ltF,ne_eq,Nat.reduceEqDiff,reduceCtorEq,yar,beVal_nil,true_or,and_true]
    simp only [go_sem,byq]
    refine cond_split (fun hc=>?_) (fun hc=>?_)
    · have hk:k<w.toNat:=by simp at hc;omega
      have e1:IntKind.i64.wrap ((k:Int)+1)=((k+1:Nat):Int):=by rw [wrap_i64]<;>omega
      have hb:beVal (ll.take k)<256^6:=beVal_take_lt ll k 6 (by omega)
      have hx:(bys ll).getD k .junk=ofByte (ll.getD k 0):=bys_get (by omega)
      have hxl:=UInt8.toNat_lt (ll.getD k 0)
      have e2:IntKind.i64.wrap (((ll.getD k 0).toNat:Nat):Int)=(((ll.getD k 0).toNat:Nat):Int):=wrap_i64_nat _ (by omega)
      have e3:IntKind.i64.wrap (((beVal (ll.take k):Nat):Int)*256)=((beVal (ll.take k)*256:Nat):Int):=by rw [wrap_i64]<;>omega
      have e4:=beVal_step ll k (by omega)
      have e5:IntKind.i64.wrap (((beVal (ll.take k)*256:Nat):Int)+(((ll.getD k 0).toNat:Nat):Int))=((beVal (ll.take (k+1)):Nat):Int):=by rw [wrap_i64]<;>omega
      simp only [go_sem,byq,Int.toNat_natCast,hx,e1,zks,ofByte,e2,e3,e5,d6]
      refine ⟨by omega,k+1,by omega,by omega,?_⟩
      simp only [bnq,enter,subF,ltF,ne_eq,Nat.reduceEqDiff,reduceCtorEq,true_or,and_self]
    · have hk:k=w.toNat:=by simp at hc;omega
      subst hk
      have et:ll.take w.toNat=ll:=ybc (by omega)
      simp only [go_sem,byq,hne,hid,hcs,hcm,hgm,onR,onRo_some,onRo_nil,zlj,zlh,zks,and_true,true_and,et,d7]
      simp (disch:=first | assumption | omega | (simp;done) | (simp;omega) | (simp only [bt,and_true];first | done | omega | (simp;done))) [↓zlw,beq,ybc,ybd,ybe,endOk,wk,wk2,wk1,wkM,wkL,wkLL,ybf,hss,hl0,hcl,hcl1,hcl2,hle]
      try omega
end Go.AL


open Go Go.AL Go.Proofs
namespace Go.AL
set_option linter.all false
set_option maxRecDepth 10000

def e_xCount:List AV→AHeap→(AEnd→AHeap→Prop)→Prop
  | [.ptr id 0,.int .i64 most],H,K=>onR H id fun m l e=>True∧K (.ret (.int .i64 (countR (m,l,e) most).1)) (H.set id (.cells (cellR (countR (m,l,e) most).2)))
  | _,_,_=>False
theorem ok_xCount:EntOk Tryz.prog 104 (Ent.effect e_xCount):=by
  refine EntOk.effect fun args H K h=>?_
  unfold e_xCount at h
  split at h
  rotate_left
  · exact h.elim
  rename_i id most
  obtain ⟨m,l,e,hid,hle,h⟩:=onR_out h
  obtain ⟨hpre,hK⟩:=h
  refine ⟨_,_,hK,?_⟩
  clear hK
  have hl0:=AHeap.get_lt hid
  have hne:=far_of hl0
  have hss:=set_same hid
  have hcs:=cells_some hid
  have hcm:=fun cs=>@cells_set_same H id cs hl0
  have hgm:=fun o=>@get_set_same' H id o hl0
  have hu:=uintR_two m l e
  by_cases h0:e=0
  case neg =>
    have d0:(e==0)=false:=by simpa using h0
    rw [if_pos h0] at hu
    rw [show countR (m,l,e) most=(0,m,l,e) by simp [countR,h0]]
    dsimp only [cellR]
    try rw [hss]
    refine ACalls.of_aw (Ω:=[(102,Ent.effect e_xUint),(237,Ent.effect e_xfail)]) (T:=assoc []) mixed (TblOk.cons ok_xUint (TblOk.cons ok_xfail TblOk.nil)) Tryz.func104 (by kernel_rfl) (by rfl) (rs:=[.tmp 4]) (by rfl) (by kernel_rfl) (by simp only [Tryz.ntmps104,yaz,yba];decide) (by simp [zkn]) fun hcl hlt=>?_
    change aw _ _ _ (KI Tryz.prog [(102,Ent.effect e_xUint),(237,Ent.effect e_xfail)] (aEnd Tryz.prog [.tmp 4] H.nx _ _) []) _ _
    clear hlt
    have hcl1:=fun l' e'=>closedR hid hcl m (.inl rfl) l' e'
    have hcl2:=fun l' e'=>closedR hid hcl .any (.inr rfl) l' e' 
    simp only [go_sem,zav,reduceCtorEq,Nat.reduceEqDiff,Nat.reduceAdd,Nat.reduceMul,Nat.reduceSub,Nat.reduceLeDiff,Nat.reduceLT,Int.reduceMul,Int.reduceAdd,Int.reduceSub,Int.reduceToNat,byq,hne,hid,hcs,hcm,hgm,onR,onRo_some,onRo_nil,zlj,zlh,zks,and_true,true_and,hid,e_xUint,cellR,hu,d0]
    simp (disch:=first | assumption | omega | (simp;done) | (simp;omega) | (simp only [bt,and_true];first | done | omega | (simp;done))) [↓zlw,beq,ybc,ybd,ybe,endOk,wk,wk2,wk1,wkM,wkL,wkLL,ybf,hss,hl0,hcl,hcl1,hcl2,hle]
    try omega
  subst h0
  rw [if_neg (by simp)] at hu
  have d0:((0:Int)==0)=true:=rfl
  by_cases h1:l.length<2
  · rw [if_pos h1] at hu
    have d1:((1:Int)==0)=false:=rfl
    rw [show countR (m,l,0) most=(0,m,l,1) by simp [countR,h1]]
    dsimp only [cellR]
    try rw [hss]
    refine ACalls.of_aw (Ω:=[(102,Ent.effect e_xUint),(237,Ent.effect e_xfail)]) (T:=assoc []) mixed (TblOk.cons ok_xUint (TblOk.cons ok_xfail TblOk.nil)) Tryz.func104 (by kernel_rfl) (by rfl) (rs:=[.tmp 4]) (by rfl) (by kernel_rfl) (by simp only [Tryz.ntmps104,yaz,yba];decide) (by simp [zkn]) fun hcl hlt=>?_
    change aw _ _ _ (KI Tryz.prog [(102,Ent.effect e_xUint),(237,Ent.effect e_xfail)] (aEnd Tryz.prog [.tmp 4] H.nx _ _) []) _ _
    clear hlt
    have hcl1:=fun l' e'=>closedR hid hcl m (.inl rfl) l' e'
    have hcl2:=fun l' e'=>closedR hid hcl .any (.inr rfl) l' e' 
    simp only [go_sem,zav,reduceCtorEq,Nat.reduceEqDiff,Nat.reduceAdd,Nat.reduceMul,Nat.reduceSub,Nat.reduceLeDiff,Nat.reduceLT,Int.reduceMul,Int.reduceAdd,Int.reduceSub,Int.reduceToNat,byq,hne,hid,hcs,hcm,hgm,onR,onRo_some,onRo_nil,zlj,zlh,zks,and_true,true_and,hid,e_xUint,cellR,hu,d0,d1]
    simp (disch:=first | assumption | omega | (simp;done) | (simp;omega) | (simp only [bt,and_true];first | done | omega | (simp;done))) [↓zlw,beq,ybc,ybd,ybe,endOk,wk,wk2,wk1,wkM,wkL,wkLL,ybf,hss,hl0,hcl,hcl1,hcl2,hle]
    try omega
  rw [if_neg h1] at hu
  have hb:beVal (l.take 2)<65536:=by have:=beVal_take_lt (l.take 2) 2 2 (by rw [List.length_take];omega);rw [List.take_take] at this;simpa using this
  generalize hn:beVal (l.take 2)=n at *
  by_cases h2:most<(n:Int)
  · have d4:decide ((n:Int) > most)=true:=by simpa using h2
    rw [show countR (m,l,0) most=(0,m,l,3) by simp [countR,hn,h1,h2]]
    dsimp only [cellR]
    try rw [hss]
    refine ACalls.of_aw (Ω:=[(102,Ent.effect e_xUint),(237,Ent.effect e_xfail)]) (T:=assoc []) mixed (TblOk.cons ok_xUint (TblOk.cons ok_xfail TblOk.nil)) Tryz.func104 (by kernel_rfl) (by rfl) (rs:=[.tmp 4]) (by rfl) (by kernel_rfl) (by simp only [Tryz.ntmps104,yaz,yba];decide) (by simp [zkn]) fun hcl hlt=>?_
    change aw _ _ _ (KI Tryz.prog [(102,Ent.effect e_xUint),(237,Ent.effect e_xfail)] (aEnd Tryz.prog [.tmp 4] H.nx _ _) []) _ _
    clear hlt
    have hcl1:=fun l' e'=>closedR hid hcl m (.inl rfl) l' e'
    have hcl2:=fun l' e'=>closedR hid hcl .any (.inr rfl) l' e' 
    simp only [go_sem,zav,reduceCtorEq,Nat.reduceEqDiff,Nat.reduceAdd,Nat.reduceMul,Nat.reduceSub,Nat.reduceLeDiff,Nat.reduceLT,Int.reduceMul,Int.reduceAdd,Int.reduceSub,Int.reduceToNat,byq,hne,hid,hcs,hcm,hgm,onR,onRo_some,onRo_nil,zlj,zlh,zks,and_true,true_and,hid,e_xUint,e_xfail,cellR,hu,d0,d4]
    simp (disch:=first | assumption | omega | (simp;done) | (simp;omega) | (simp only [bt,and_true];first | done | omega | (simp;done))) [↓zlw,beq,ybc,ybd,ybe,endOk,wk,wk2,wk1,wkM,wkL,wkLL,ybf,hss,hl0,hcl,hcl1,hcl2,hle]
    try omega
  · have d4:decide ((n:Int) > most)=false:=by simpa using h2
    rw [show countR (m,l,0) most=((n:Int),Mark.any,l.drop 2,(0:Int)) by simp [countR,hn,h1,h2]]
    dsimp only [cellR]
    try rw [hss]
    refine ACalls.of_aw (Ω:=[(102,Ent.effect e_xUint),(237,Ent.effect e_xfail)]) (T:=assoc []) mixed (TblOk.cons ok_xUint (TblOk.cons ok_xfail TblOk.nil)) Tryz.func104 (by kernel_rfl) (by rfl) (rs:=[.tmp 4]) (by rfl) (by kernel_rfl) (by simp only [Tryz.ntmps104,yaz,yba];decide) (by simp [zkn]) fun hcl hlt=>?_
    change aw _ _ _ (KI Tryz.prog [(102,Ent.effect e_xUint),(237,Ent.effect e_xfail)] (aEnd Tryz.prog [.tmp 4] H.nx _ _) []) _ _
    clear hlt
    have hcl1:=fun l' e'=>closedR hid hcl m (.inl rfl) l' e'
    have hcl2:=fun l' e'=>closedR hid hcl .any (.inr rfl) l' e' 
    simp only [go_sem,zav,reduceCtorEq,Nat.reduceEqDiff,Nat.reduceAdd,Nat.reduceMul,Nat.reduceSub,Nat.reduceLeDiff,Nat.reduceLT,Int.reduceMul,Int.reduceAdd,Int.reduceSub,Int.reduceToNat,byq,hne,hid,hcs,hcm,hgm,onR,onRo_some,onRo_nil,zlj,zlh,zks,and_true,true_and,hid,e_xUint,e_xfail,cellR,hu,d0,d4]
    simp (disch:=first | assumption | omega | (simp;done) | (simp;omega) | (simp only [bt,and_true];first | done | omega | (simp;done))) [↓zlw,beq,ybc,ybd,ybe,endOk,wk,wk2,wk1,wkM,wkL,wkLL,ybf,hss,hl0,hcl,hcl1,hcl2,hle]
    try omega

def p_xFinish:List AV→AHeap→(AV→Prop)→Prop
  | [.ptr id 0],H,K=>onR H id fun m l e=>K (.int .i64 (finishR (m,l,e)))
  | _,_,_=>False
theorem ok_xFinish:EntOk Tryz.prog 107 (Ent.pure p_xFinish):=by
  refine EntOk.pure fun args H K h=>?_
  unfold p_xFinish at h
  split at h
  rotate_left
  · exact h.elim
  rename_i id
  obtain ⟨m,l,e,hid,hle,hK⟩:=onR_out h
  refine ⟨_,hK,?_⟩
  have hcs:=cells_some hid
  by_cases h0:e=0
  · subst h0
    have d0:((0:Int)==0)=true:=rfl
    by_cases h1:0<l.length
    · have d1:decide ((l.length:Int) > 0)=true:=by simpa using h1
      rw [show finishR (m,l,0)=2 by simp [finishR,h1]]
      refine ACalls.of_aw (Ω:=[]) (T:=assoc []) mixed TblOk.nil Tryz.func107 (by kernel_rfl) (by rfl) (rs:=[.tmp 2]) (by rfl) (by kernel_rfl) (by simp only [Tryz.ntmps107,yaz,yba];decide) (Nat.le_refl _) fun hcl hlt=>?_
      change aw _ _ _ (KI Tryz.prog [] (aEnd Tryz.prog [.tmp 2] H.nx _ _) []) _ _
      clear h hK hlt
      simp only [go_sem,zav,reduceCtorEq,Nat.reduceEqDiff,Nat.reduceAdd,Nat.reduceMul,Nat.reduceSub,Nat.reduceLeDiff,Nat.reduceLT,Int.reduceMul,Int.reduceAdd,Int.reduceSub,Int.reduceToNat,byq,hcs,hid,d0,d1]
      simp (disch:=first | assumption | omega | (simp;done) | (simp;omega) | (simp only [bt,and_true];first | done | omega | (simp;done))) [↓zlw,beq,ybc,ybd,ybe,endOk,wk,wk2,wk1,wkM,wkL,wkLL,ybf,hcl,hle,zlj,zks]
    · have hl:l=[]:=List.eq_nil_of_length_eq_zero (by omega)
      subst hl
      have d1:decide ((([]:List UInt8).length:Int) > 0)=false:=rfl
      rw [show finishR (m,[],0)=0 by simp [finishR]]
      refine ACalls.of_aw (Ω:=[]) (T:=assoc []) mixed TblOk.nil Tryz.func107 (by kernel_rfl) (by rfl) (rs:=[.tmp 2]) (by rfl) (by kernel_rfl) (by simp only [Tryz.ntmps107,yaz,yba];decide) (Nat.le_refl _) fun hcl hlt=>?_
      change aw _ _ _ (KI Tryz.prog [] (aEnd Tryz.prog [.tmp 2] H.nx _ _) []) _ _
      clear h hK hlt
      simp only [go_sem,zav,reduceCtorEq,Nat.reduceEqDiff,Nat.reduceAdd,Nat.reduceMul,Nat.reduceSub,Nat.reduceLeDiff,Nat.reduceLT,Int.reduceMul,Int.reduceAdd,Int.reduceSub,Int.reduceToNat,byq,hcs,hid,d0,d1]
      simp (disch:=first | assumption | omega | (simp;done) | (simp;omega) | (simp only [bt,and_true];first | done | omega | (simp;done))) [↓zlw,beq,ybc,ybd,ybe,endOk,wk,wk2,wk1,wkM,wkL,wkLL,ybf,hcl,zlj,zlk,zks,both]
  · have d0:(e==0)=false:=by simpa using h0
    rw [show finishR (m,l,e)=e by simp [finishR,h0]]
    refine ACalls.of_aw (Ω:=[]) (T:=assoc []) mixed TblOk.nil Tryz.func107 (by kernel_rfl) (by rfl) (rs:=[.tmp 2]) (by rfl) (by kernel_rfl) (by simp only [Tryz.ntmps107,yaz,yba];decide) (Nat.le_refl _) fun hcl hlt=>?_
    change aw _ _ _ (KI Tryz.prog [] (aEnd Tryz.prog [.tmp 2] H.nx _ _) []) _ _
    clear h hK hlt
    simp only [go_sem,zav,reduceCtorEq,Nat.reduceEqDiff,Nat.reduceAdd,Nat.reduceMul,Nat.reduceSub,Nat.reduceLeDiff,Nat.reduceLT,Int.reduceMul,Int.reduceAdd,Int.reduceSub,Int.reduceToNat,byq,hcs,hid,d0,zlh]
    simp (disch:=first | assumption | omega | (simp;done) | (simp;omega) | (simp only [bt,and_true];first | done | omega | (simp;done))) [↓zlw,beq,ybc,ybd,ybe,endOk,wk,wk2,wk1,wkM,wkL,wkLL,ybf,hcl,hle,zlj,zks]

def e_xValue:List AV→AHeap→(AEnd→AHeap→Prop)→Prop
  | [.ptr id 0],H,K=>onR H id fun m l e=>True∧K (.ret (vv (valueR (m,l,e)).1)) (H.set id (.cells (cellR (valueR (m,l,e)).2)))
  | _,_,_=>False
theorem ok_xValue:EntOk Tryz.prog 238 (Ent.effect e_xValue):=by
  refine EntOk.effect fun args H K h=>?_
  unfold e_xValue at h
  split at h
  rotate_left
  · exact h.elim
  rename_i id
  obtain ⟨m,l,e,hid,hle,h⟩:=onR_out h
  obtain ⟨hpre,hK⟩:=h
  refine ⟨_,_,hK,?_⟩
  clear hK
  have hl0:=AHeap.get_lt hid
  have hne:=far_of hl0
  have hss:=set_same hid
  have hcs:=cells_some hid
  have hcm:=fun cs=>@cells_set_same H id cs hl0
  have hgm:=fun o=>@get_set_same' H id o hl0
  have v0:vv 0=.agg [.int .u64 0,.int .u64 0]:=rfl
  by_cases h0:e=0
  case neg =>
    have d0:(e != 0)=true:=by simpa using h0
    rw [show valueR (m,l,e)=(0,m,l,e) by simp [valueR,h0]]
    dsimp only [cellR]
    try rw [hss]
    refine ACalls.of_aw (Ω:=[(237,Ent.effect e_xfail),(333,Ent.pure p_rParse)]) (T:=assoc []) mixed (TblOk.cons ok_xfail (TblOk.cons ok_rParse TblOk.nil)) Tryz.func238 (by kernel_rfl) (by rfl) (rs:=[.cell 2 83]) (by rfl) (by kernel_rfl) (by simp only [Tryz.ntmps238,yaz,yba];decide) (by simp [zkn]) fun hcl hlt=>?_
    change aw _ _ _ (KI Tryz.prog [(237,Ent.effect e_xfail),(333,Ent.pure p_rParse)] (aEnd Tryz.prog [.cell 2 83] H.nx _ _) []) _ _
    clear hlt
    have hcl1:=fun l' e'=>closedR hid hcl m (.inl rfl) l' e'
    have hcl2:=fun l' e'=>closedR hid hcl .any (.inr rfl) l' e' 
    simp only [go_sem,zav,reduceCtorEq,Nat.reduceEqDiff,Nat.reduceAdd,Nat.reduceMul,Nat.reduceSub,Nat.reduceLeDiff,Nat.reduceLT,Int.reduceMul,Int.reduceAdd,Int.reduceSub,Int.reduceToNat,byq,hne,hid,hcs,hcm,hgm,onR,onRo_some,onRo_nil,zlj,zlh,zks,and_true,true_and,hid,d0,v0]
    simp (disch:=first | assumption | omega | (simp;done) | (simp;omega) | (simp only [bt,and_true];first | done | omega | (simp;done))) [↓zlw,beq,ybc,ybd,ybe,endOk,wk,wk2,wk1,wkM,wkL,wkLL,ybf,hss,hl0,hcl,hcl1,hcl2,hle]
    try omega
  subst h0
  have d0:((0:Int) != 0)=false:=rfl
  by_cases h1:l.length<1
  · have d1:((l.length:Int)==0)=true:=by simp;exact List.eq_nil_of_length_eq_zero (by omega)
    rw [show valueR (m,l,0)=(0,m,l,1) by simp [valueR,h1]]
    dsimp only [cellR]
    try rw [hss]
    refine ACalls.of_aw (Ω:=[(237,Ent.effect e_xfail),(333,Ent.pure p_rParse)]) (T:=assoc []) mixed (TblOk.cons ok_xfail (TblOk.cons ok_rParse TblOk.nil)) Tryz.func238 (by kernel_rfl) (by rfl) (rs:=[.cell 2 83]) (by rfl) (by kernel_rfl) (by simp only [Tryz.ntmps238,yaz,yba];decide) (by simp [zkn]) fun hcl hlt=>?_
    change aw _ _ _ (KI Tryz.prog [(237,Ent.effect e_xfail),(333,Ent.pure p_rParse)] (aEnd Tryz.prog [.cell 2 83] H.nx _ _) []) _ _
    clear hlt
    have hcl1:=fun l' e'=>closedR hid hcl m (.inl rfl) l' e'
    have hcl2:=fun l' e'=>closedR hid hcl .any (.inr rfl) l' e' 
    simp only [go_sem,zav,reduceCtorEq,Nat.reduceEqDiff,Nat.reduceAdd,Nat.reduceMul,Nat.reduceSub,Nat.reduceLeDiff,Nat.reduceLT,Int.reduceMul,Int.reduceAdd,Int.reduceSub,Int.reduceToNat,byq,hne,hid,hcs,hcm,hgm,onR,onRo_some,onRo_nil,zlj,zlh,zks,and_true,true_and,hid,e_xfail,d0,d1,v0]
    simp (disch:=first | assumption | omega | (simp;done) | (simp;omega) | (simp only [bt,and_true];first | done | omega | (simp;done))) [↓zlw,beq,ybc,ybd,ybe,endOk,wk,wk2,wk1,wkM,wkL,wkLL,ybf,hss,hl0,hcl,hcl1,hcl2,hle]
    try omega
  have d1:((l.length:Int)==0)=false:=by simp;intro e;exact h1 (by rw [e];simp)
  have d7:List.take (l.length:Int).toNat l=l:=by simp
  have d8:(bys l).getD 0 .junk=ofByte (b0 l):=b0_get' l (by omega)
  have hbl:=UInt8.toNat_lt (b0 l)
  have d9:IntKind.i64.wrap (((b0 l).toNat:Nat):Int)=(((b0 l).toNat:Nat):Int):=wrap_i64_nat _ (by omega)
  by_cases h2:(b0 l).toNat<1
  · have d2:decide (((b0 l).toNat:Int)<1)=true:=by simp;omega
    rw [show valueR (m,l,0)=(0,m,l,2) by simp [valueR,h1,h2]]
    dsimp only [cellR]
    try rw [hss]
    refine ACalls.of_aw (Ω:=[(237,Ent.effect e_xfail),(333,Ent.pure p_rParse)]) (T:=assoc []) mixed (TblOk.cons ok_xfail (TblOk.cons ok_rParse TblOk.nil)) Tryz.func238 (by kernel_rfl) (by rfl) (rs:=[.cell 2 83]) (by rfl) (by kernel_rfl) (by simp only [Tryz.ntmps238,yaz,yba];decide) (by simp [zkn]) fun hcl hlt=>?_
    change aw _ _ _ (KI Tryz.prog [(237,Ent.effect e_xfail),(333,Ent.pure p_rParse)] (aEnd Tryz.prog [.cell 2 83] H.nx _ _) []) _ _
    clear hlt
    have hcl1:=fun l' e'=>closedR hid hcl m (.inl rfl) l' e'
    have hcl2:=fun l' e'=>closedR hid hcl .any (.inr rfl) l' e' 
    simp only [go_sem,zav,reduceCtorEq,Nat.reduceEqDiff,Nat.reduceAdd,Nat.reduceMul,Nat.reduceSub,Nat.reduceLeDiff,Nat.reduceLT,Int.reduceMul,Int.reduceAdd,Int.reduceSub,Int.reduceToNat,byq,hne,hid,hcs,hcm,hgm,onR,onRo_some,onRo_nil,zlj,zlh,zks,and_true,true_and,hid,e_xfail,d0,d1,d2,d7,d8,d9,ofByte,v0]
    simp (disch:=first | assumption | omega | (simp;done) | (simp;omega) | (simp only [bt,and_true];first | done | omega | (simp;done))) [↓zlw,beq,ybc,ybd,ybe,endOk,wk,wk2,wk1,wkM,wkL,wkLL,ybf,hss,hl0,hcl,hcl1,hcl2,hle]
    try omega
  have d2:decide (((b0 l).toNat:Int)<1)=false:=by simp;omega
  by_cases h3:16<(b0 l).toNat
  · have d3:decide (((b0 l).toNat:Int) > 16)=true:=by simp;omega
    rw [show valueR (m,l,0)=(0,m,l,2) by simp [valueR,h1,h2,h3]]
    dsimp only [cellR]
    try rw [hss]
    refine ACalls.of_aw (Ω:=[(237,Ent.effect e_xfail),(333,Ent.pure p_rParse)]) (T:=assoc []) mixed (TblOk.cons ok_xfail (TblOk.cons ok_rParse TblOk.nil)) Tryz.func238 (by kernel_rfl) (by rfl) (rs:=[.cell 2 83]) (by rfl) (by kernel_rfl) (by simp only [Tryz.ntmps238,yaz,yba];decide) (by simp [zkn]) fun hcl hlt=>?_
    change aw _ _ _ (KI Tryz.prog [(237,Ent.effect e_xfail),(333,Ent.pure p_rParse)] (aEnd Tryz.prog [.cell 2 83] H.nx _ _) []) _ _
    clear hlt
    have hcl1:=fun l' e'=>closedR hid hcl m (.inl rfl) l' e'
    have hcl2:=fun l' e'=>closedR hid hcl .any (.inr rfl) l' e' 
    simp only [go_sem,zav,reduceCtorEq,Nat.reduceEqDiff,Nat.reduceAdd,Nat.reduceMul,Nat.reduceSub,Nat.reduceLeDiff,Nat.reduceLT,Int.reduceMul,Int.reduceAdd,Int.reduceSub,Int.reduceToNat,byq,hne,hid,hcs,hcm,hgm,onR,onRo_some,onRo_nil,zlj,zlh,zks,and_true,true_and,hid,e_xfail,d0,d1,d2,d3,d7,d8,d9,ofByte,v0]
    simp (disch:=first | assumption | omega | (simp;done) | (simp;omega) | (simp only [bt,and_true];first | done | omega | (simp;done))) [↓zlw,beq,ybc,ybd,ybe,endOk,wk,wk2,wk1,wkM,wkL,wkLL,ybf,hss,hl0,hcl,hcl1,hcl2,hle]
    try omega
  have d3:decide (((b0 l).toNat:Int) > 16)=false:=by simp;omega
  have w1:IntKind.i64.wrap (1+(((b0 l).toNat:Nat):Int))=((1+(b0 l).toNat:Nat):Int):=by rw [wrap_i64]<;>omega
  by_cases h4:l.length<1+(b0 l).toNat
  · have d4:decide ((l.length:Int)<((1+(b0 l).toNat:Nat):Int))=true:=by simp;omega
    rw [show valueR (m,l,0)=(0,m,l,1) by simp [valueR,h1,h2,h3,h4]]
    dsimp only [cellR]
    try rw [hss]
    refine ACalls.of_aw (Ω:=[(237,Ent.effect e_xfail),(333,Ent.pure p_rParse)]) (T:=assoc []) mixed (TblOk.cons ok_xfail (TblOk.cons ok_rParse TblOk.nil)) Tryz.func238 (by kernel_rfl) (by rfl) (rs:=[.cell 2 83]) (by rfl) (by kernel_rfl) (by simp only [Tryz.ntmps238,yaz,yba];decide) (by simp [zkn]) fun hcl hlt=>?_
    change aw _ _ _ (KI Tryz.prog [(237,Ent.effect e_xfail),(333,Ent.pure p_rParse)] (aEnd Tryz.prog [.cell 2 83] H.nx _ _) []) _ _
    clear hlt
    have hcl1:=fun l' e'=>closedR hid hcl m (.inl rfl) l' e'
    have hcl2:=fun l' e'=>closedR hid hcl .any (.inr rfl) l' e' 
    simp only [go_sem,zav,reduceCtorEq,Nat.reduceEqDiff,Nat.reduceAdd,Nat.reduceMul,Nat.reduceSub,Nat.reduceLeDiff,Nat.reduceLT,Int.reduceMul,Int.reduceAdd,Int.reduceSub,Int.reduceToNat,byq,hne,hid,hcs,hcm,hgm,onR,onRo_some,onRo_nil,zlj,zlh,zks,and_true,true_and,hid,e_xfail,d0,d1,d2,d3,d4,d7,d8,d9,w1,ofByte,v0]
    simp (disch:=first | assumption | omega | (simp;done) | (simp;omega) | (simp only [bt,and_true];first | done | omega | (simp;done))) [↓zlw,beq,ybc,ybd,ybe,endOk,wk,wk2,wk1,wkM,wkL,wkLL,ybf,hss,hl0,hcl,hcl1,hcl2,hle]
    try omega
  have d4:decide ((l.length:Int)<((1+(b0 l).toNat:Nat):Int))=false:=by simp;omega
  have hpl:((l.take (1+(b0 l).toNat)).drop 1).length≤140737488355328:=by simp;omega
  have v1:∀ v,vv v=.agg [.int .u64 ((v/2^64:Nat):Int),.int .u64 ((v % 2^64:Nat):Int)]:=fun _=>rfl
  by_cases h5:(parseV ((l.take (1+(b0 l).toNat)).drop 1)).2=0
  · have dp:parseV ((l.take (1+(b0 l).toNat)).drop 1)=((parseV ((l.take (1+(b0 l).toNat)).drop 1)).1,0):=by rw [← h5]
    generalize (parseV ((l.take (1+(b0 l).toNat)).drop 1)).1=q at *
    rw [show valueR (m,l,0)=(q,Mark.any,l.drop (1+(b0 l).toNat),(0:Int)) by simp only [valueR];rw [if_neg (by simp),if_neg h1,if_neg (by omega),if_neg h4,dp,if_neg (by simp)]]
    dsimp only [cellR]
    refine ACalls.of_aw (Ω:=[(237,Ent.effect e_xfail),(333,Ent.pure p_rParse)]) (T:=assoc []) mixed (TblOk.cons ok_xfail (TblOk.cons ok_rParse TblOk.nil)) Tryz.func238 (by kernel_rfl) (by rfl) (rs:=[.cell 2 83]) (by rfl) (by kernel_rfl) (by simp only [Tryz.ntmps238,yaz,yba];decide) (by simp [zkn]) fun hcl hlt=>?_
    change aw _ _ _ (KI Tryz.prog [(237,Ent.effect e_xfail),(333,Ent.pure p_rParse)] (aEnd Tryz.prog [.cell 2 83] H.nx _ _) []) _ _
    clear hlt
    have hcl1:=fun l' e'=>closedR hid hcl m (.inl rfl) l' e'
    have hcl2:=fun l' e'=>closedR hid hcl .any (.inr rfl) l' e' 
    simp only [go_sem,zav,reduceCtorEq,Nat.reduceEqDiff,Nat.reduceAdd,Nat.reduceMul,Nat.reduceSub,Nat.reduceLeDiff,Nat.reduceLT,Int.reduceMul,Int.reduceAdd,Int.reduceSub,Int.reduceToNat,byq,hne,hid,hcs,hcm,hgm,onR,onRo_some,onRo_nil,zlj,zlh,zks,and_true,true_and,hid,e_xfail,p_rParse,d0,d1,d2,d3,d4,d7,d8,d9,w1,dp,hpl,Int.toNat_natCast,ofByte,v1]
    simp (disch:=first | assumption | omega | (simp;done) | (simp;omega) | (simp only [bt,and_true];first | done | omega | (simp;done))) [↓zlw,beq,ybc,ybd,ybe,endOk,wk,wk2,wk1,wkM,wkL,wkLL,ybf,hss,hl0,hcl,hcl1,hcl2,hle]
    try omega
  · have d10:((parseV ((l.take (1+(b0 l).toNat)).drop 1)).2 != 0)=true:=by simpa using h5
    rw [show valueR (m,l,0)=(0,m,l,5) by simp only [valueR];rw [if_neg (by simp),if_neg h1,if_neg (by omega),if_neg h4,if_pos h5]]
    generalize hq:parseV ((l.take (1+(b0 l).toNat)).drop 1)=q at *
    dsimp only [cellR]
    refine ACalls.of_aw (Ω:=[(237,Ent.effect e_xfail),(333,Ent.pure p_rParse)]) (T:=assoc []) mixed (TblOk.cons ok_xfail (TblOk.cons ok_rParse TblOk.nil)) Tryz.func238 (by kernel_rfl) (by rfl) (rs:=[.cell 2 83]) (by rfl) (by kernel_rfl) (by simp only [Tryz.ntmps238,yaz,yba];decide) (by simp [zkn]) fun hcl hlt=>?_
    change aw _ _ _ (KI Tryz.prog [(237,Ent.effect e_xfail),(333,Ent.pure p_rParse)] (aEnd Tryz.prog [.cell 2 83] H.nx _ _) []) _ _
    clear hlt
    have hcl1:=fun l' e'=>closedR hid hcl m (.inl rfl) l' e'
    have hcl2:=fun l' e'=>closedR hid hcl .any (.inr rfl) l' e' 
    simp only [go_sem,zav,reduceCtorEq,Nat.reduceEqDiff,Nat.reduceAdd,Nat.reduceMul,Nat.reduceSub,Nat.reduceLeDiff,Nat.reduceLT,Int.reduceMul,Int.reduceAdd,Int.reduceSub,Int.reduceToNat,byq,hne,hid,hcs,hcm,hgm,onR,onRo_some,onRo_nil,zlj,zlh,zks,and_true,true_and,hid,e_xfail,p_rParse,d0,d1,d2,d3,d4,d7,d8,d9,d10,w1,hq,hpl,Int.toNat_natCast,ofByte,v1]
    simp (disch:=first | assumption | omega | (simp;done) | (simp;omega) | (simp only [bt,and_true];first | done | omega | (simp;done))) [↓zlw,beq,ybc,ybd,ybe,endOk,wk,wk2,wk1,wkM,wkL,wkLL,ybf,hss,hl0,hcl,hcl1,hcl2,hle]
    try omega
end Go.AL


open Go Go.AL Go.Proofs
namespace Go.AL
set_option linter.all false
set_option maxRecDepth 10000

end Go.AL


open Go Go.AL Go.Proofs
namespace Go.AL
set_option linter.all false
set_option maxRecDepth 10000

theorem EntOk.eff {P:Program} {f:FuncId} {p:List AV→AHeap→(AV→Prop)→Prop} (h:EntOk P f (Ent.pure p)):EntOk P f (Ent.effect fun args H K=>p args H fun v=>K (.ret v) H) :=
  EntOk.effect fun args H K hh=>by
    obtain ⟨x,hx,hc⟩:=h.1 rfl args H (fun v=>K (.ret v) H) hh
    exact ⟨_,_,hx,hc⟩
end Go.AL


open Go Go.AL Go.Proofs
namespace Go.AL
set_option linter.all false
set_option maxRecDepth 10000

end Go.AL


open Go Go.AL Go.Proofs
namespace Go.AL
set_option linter.all false
set_option maxRecDepth 10000

end Go.AL

