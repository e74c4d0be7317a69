/- Contracts and plain laws, a part of the proof; no condition of its own. -/
import Derived.Test.YthpglnacipgolaaGreatCW
import Derived.Test.YthpglnacipgolaaGreatLGen
open List renaming length_cons → yaz, length_nil → yba, take_of_length_le → ybc, drop_append → ybd, take_append → ybe, drop_eq_nil_of_le → ybf, take_zero → yar, drop_zero → yap
open Go Go.AL Go.Proofs
namespace Go.AL
set_option linter.all false
set_option maxRecDepth 10000
theorem ti_reader:ti Tryz.prog 371=some ⟨.struct [(0,32,false),(1,40,false)],2,32,.agg [.slice .nil 1 [],.int .i64 0]⟩:=by kernel_rfl
theorem ti_errno:ti Tryz.prog 40=some ⟨.int .i64,1,8,.int .i64 0⟩:=by kernel_rfl
theorem ti_preader:ti Tryz.prog 211=some ⟨.ptr 371,1,8,.nilp⟩:=by kernel_rfl
attribute [go_sem] ti_reader ti_errno ti_preader

def p_Clone:List AV→AHeap→(AV→Prop)→Prop
  | [.slice _ 1 l],_,K=>(isB l∧l.length≤140737488355328)∧K (.slice .any 1 (bys (unb l)))
  | _,_,_=>False
theorem ok_Clone:EntOk Tryz.prog 228 (Ent.pure p_Clone):=by
  refine EntOk.pure fun args H K h=>?_
  unfold p_Clone at h
  split at h
  rotate_left
  · exact h.elim
  rename_i m l
  obtain ⟨⟨c1,hle⟩,hK⟩:=h
  refine ⟨_,hK,?_⟩
  obtain ⟨xs,rfl⟩:=isB_out c1
  simp only [zlt,zle] at *
  refine ACalls.of_aw (Ω:=[]) (T:=assoc []) mixed TblOk.nil Tryz.func228 (by kernel_rfl) (by rfl) (rs:=[.tmp 2]) (by rfl) (by kernel_rfl) (by simp only [Tryz.ntmps228,yaz,yba];decide) (Nat.le_refl _) fun hcl hlt=>?_
  change aw _ _ _ (KI Tryz.prog [] (aEnd Tryz.prog [.tmp 2] H.nx _ _) []) _ _
  clear hK hlt
  simp only [go_sem,zav,reduceCtorEq,Nat.reduceEqDiff,Nat.reduceAdd,Nat.reduceMul,Nat.reduceSub,Nat.reduceLeDiff,Nat.reduceLT,Int.reduceMul,Int.reduceAdd,Int.reduceSub,Int.reduceToNat,byq]
  intro b hb
  refine both_split (fun h1=>?_) (fun h1=>?_)
  · subst h1
    have:xs=[]:=by
      cases xs with
      | nil=>rfl
      | cons a t=>simp [bys] at hb
    subst this
    simp (disch:=first | assumption | omega | (simp;done) | (simp;omega) | (simp only [bt,and_true];first | done | omega | (simp;done))) [↓zmi,beq,ybc,ybd,ybe,endOk,wk,wk2,wk1,wkM,wkL,wkLL,ybf,hcl]
  · refine ⟨by omega,?_⟩
    simp (disch:=first | assumption | omega | (simp;done) | (simp;omega) | (simp only [bt,and_true];first | done | omega | (simp;done))) [↓zmi,beq,ybc,ybd,ybe,endOk,wk,wk2,wk1,wkM,wkL,wkLL,ybf,hcl]

def e_New:List AV→AHeap→(AEnd→AHeap→Prop)→Prop
  | [.slice _ 1 l],H,K=>(isB l∧l.length≤140737488355328)∧K (.ret (.ptr H.nx 0)) (H.push (.cells [.slice .any 1 (bys (unb l)),.int .i64 0]))
  | _,_,_=>False
theorem ok_New:EntOk Tryz.prog 94 (Ent.effect e_New):=by
  refine EntOk.effect fun args H K h=>?_
  unfold e_New at h
  split at h
  rotate_left
  · exact h.elim
  rename_i m l
  obtain ⟨⟨c1,hle⟩,hK⟩:=h
  refine ⟨_,_,hK,?_⟩
  obtain ⟨xs,rfl⟩:=isB_out c1
  simp only [zlt,zle] at *
  refine ACalls.of_aw (Ω:=[(228,Ent.pure p_Clone)]) (T:=assoc []) mixed (TblOk.cons ok_Clone TblOk.nil) Tryz.func94 (by kernel_rfl) (by rfl) (rs:=[.tmp 2]) (by rfl) (by kernel_rfl) (by simp only [Tryz.ntmps94,yaz,yba];decide) (by simp only [zky];omega) fun hcl hlt=>?_
  change aw _ _ _ (KI Tryz.prog [(228,Ent.pure p_Clone)] (aEnd Tryz.prog [.tmp 2] H.nx _ _) []) _ _
  clear hK hlt
  simp only [go_sem,zav,reduceCtorEq,Nat.reduceEqDiff,Nat.reduceAdd,Nat.reduceMul,Nat.reduceSub,Nat.reduceLeDiff,Nat.reduceLT,Int.reduceMul,Int.reduceAdd,Int.reduceSub,Int.reduceToNat,byq,p_Clone]
  refine ⟨by omega,?_⟩
  have hc:(H.push (.cells [.slice .any 1 (bys xs),.int .i64 0])).Closed:=closed_cells hcl (by simp [ltL,zmm,zmz])
  simp (disch:=first | assumption | omega | (simp;done) | (simp;omega) | (simp only [bt,and_true];first | done | omega | (simp;done))) [↓zmi,beq,ybc,ybd,ybe,endOk,wk,wk2,wk1,wkM,wkL,wkLL,ybf,hc]

def p_done:List AV→AHeap→(AV→Prop)→Prop
  | [.nilp],_,K=>K (.bool true)
  | [.ptr id 0],H,K=>onR H id fun m l e=>K (.bool (e != 0))
  | _,_,_=>False
theorem ok_done:EntOk Tryz.prog 229 (Ent.pure p_done):=by
  refine EntOk.pure fun args H K h=>?_
  unfold p_done at h
  split at h
  · refine ⟨_,h,?_⟩
    refine ACalls.of_aw (Ω:=[]) (T:=assoc []) mixed TblOk.nil Tryz.func229 (by kernel_rfl) (by rfl) (rs:=[.tmp 2]) (by rfl) (by kernel_rfl) (by simp only [Tryz.ntmps229,yaz,yba];decide) (Nat.le_refl _) fun hcl hlt=>?_
    change aw _ _ _ (KI Tryz.prog [] (aEnd Tryz.prog [.tmp 2] H.nx _ _) []) _ _
    clear h hlt
    simp only [go_sem,zav,reduceCtorEq,Nat.reduceEqDiff,Nat.reduceAdd,Nat.reduceMul,Nat.reduceSub,Nat.reduceLeDiff,Nat.reduceLT,Int.reduceMul,Int.reduceAdd,Int.reduceSub,Int.reduceToNat,byq]
    simp (disch:=first | assumption | omega | (simp;done) | (simp;omega) | (simp only [bt,and_true];first | done | omega | (simp;done))) [↓zmi,beq,ybc,ybd,ybe,endOk,wk,wk2,wk1,wkM,wkL,wkLL,ybf,hcl]
  · rename_i id
    obtain ⟨m,l,e,hid,hle,hK⟩:=onR_out h
    refine ⟨_,hK,?_⟩
    have hcs:=cells_some hid
    refine ACalls.of_aw (Ω:=[]) (T:=assoc []) mixed TblOk.nil Tryz.func229 (by kernel_rfl) (by rfl) (rs:=[.tmp 2]) (by rfl) (by kernel_rfl) (by simp only [Tryz.ntmps229,yaz,yba];decide) (Nat.le_refl _) fun hcl hlt=>?_
    change aw _ _ _ (KI Tryz.prog [] (aEnd Tryz.prog [.tmp 2] H.nx _ _) []) _ _
    clear h hK hlt
    simp only [go_sem,zav,reduceCtorEq,Nat.reduceEqDiff,Nat.reduceAdd,Nat.reduceMul,Nat.reduceSub,Nat.reduceLeDiff,Nat.reduceLT,Int.reduceMul,Int.reduceAdd,Int.reduceSub,Int.reduceToNat,byq,hcs]
    simp (disch:=first | assumption | omega | (simp;done) | (simp;omega) | (simp only [bt,and_true];first | done | omega | (simp;done))) [↓zmi,beq,ybc,ybd,ybe,endOk,wk,wk2,wk1,wkM,wkL,wkLL,ybf,hcl]
  · exact h.elim

def e_fail:List AV→AHeap→(AEnd→AHeap→Prop)→Prop
  | [.ptr id 0,.int .i64 x],H,K=>onR H id fun m l e=>True∧K (.ret (.tup [])) (H.set id (.cells [.slice m 1 (bys l),.int .i64 x]))
  | _,_,_=>False
theorem ok_fail:EntOk Tryz.prog 230 (Ent.effect e_fail):=by
  refine EntOk.effect fun args H K h=>?_
  unfold e_fail at h
  split at h
  rotate_left
  · exact h.elim
  rename_i id x
  obtain ⟨m,l,e,hid,hle,h⟩:=onR_out h
  obtain ⟨hpre,hK⟩:=h
  refine ⟨_,_,hK,?_⟩
  clear hK
  have hl0:=AHeap.get_lt hid
  have hne:=far_of hl0
  have hss:=set_same hid
  have hcs:=cells_some hid
  have hcm:=fun cs=>@cells_set_same H id cs hl0
  have hgm:=fun o=>@get_set_same' H id o hl0
  refine ACalls.of_aw (Ω:=[]) (T:=assoc []) mixed TblOk.nil Tryz.func230 (by kernel_rfl) (by rfl) (rs:=[]) (by rfl) (by kernel_rfl) (by simp only [Tryz.ntmps230,yaz,yba];decide) (Nat.le_refl _) fun hcl hlt=>?_
  change aw _ _ _ (KI Tryz.prog [] (aEnd Tryz.prog [] H.nx _ _) []) _ _
  clear hlt
  have hcl1:=fun l' e'=>closedR hid hcl m (.inl rfl) l' e'
  have hcl2:=fun l' e'=>closedR hid hcl .any (.inr rfl) l' e' 
  simp only [go_sem,zav,reduceCtorEq,Nat.reduceEqDiff,Nat.reduceAdd,Nat.reduceMul,Nat.reduceSub,Nat.reduceLeDiff,Nat.reduceLT,Int.reduceMul,Int.reduceAdd,Int.reduceSub,Int.reduceToNat,byq,hne,hid,hcs,hcm,hgm,onR,onRo_some,onRo_nil,zlv,zlt,zle,and_true,true_and]
  simp (disch:=first | assumption | omega | (simp;done) | (simp;omega) | (simp only [bt,and_true];first | done | omega | (simp;done))) [↓zmi,beq,ybc,ybd,ybe,endOk,wk,wk2,wk1,wkM,wkL,wkLL,ybf,hss,hl0,hcl1,hcl2,zlv,zlt,zle]

def e_peek:List AV→AHeap→(AEnd→AHeap→Prop)→Prop
  | [.ptr id 0,.int .i64 a,.int .i64 n],H,K=>onR H id fun m l e=>(0≤a∧a≤100000∧0≤n∧n≤100000) ∧
      (if (l.length:Int)<a+n then K (.ret (.tup [.slice .any 1 [],.bool false])) (H.set id (.cells [.slice m 1 (bys l),.int .i64 1]))
       else K (.ret (.tup [.slice .any 1 (bys ((l.take (a+n).toNat).drop a.toNat)),.bool true])) H)
  | _,_,_=>False
theorem ok_peek:EntOk Tryz.prog 231 (Ent.effect e_peek):=by
  refine EntOk.effect fun args H K h=>?_
  unfold e_peek at h
  split at h
  rotate_left
  · exact h.elim
  rename_i id a n
  obtain ⟨m,l,e,hid,hle,h⟩:=onR_out h
  obtain ⟨hpre,hK⟩:=h
  have hl0:=AHeap.get_lt hid
  have hne:=far_of hl0
  have hss:=set_same hid
  have hcs:=cells_some hid
  have hcm:=fun cs=>@cells_set_same H id cs hl0
  have hgm:=fun o=>@get_set_same' H id o hl0
  have hw:IntKind.i64.wrap (a+n)=a+n:=by rw [wrap_i64]<;>omega
  split at hK
  · rename_i hlt0
    refine ⟨_,_,hK,?_⟩
    refine ACalls.of_aw (Ω:=[(230,Ent.effect e_fail)]) (T:=assoc []) mixed (TblOk.cons ok_fail TblOk.nil) Tryz.func231 (by kernel_rfl) (by rfl) (rs:=[.tmp 6,.tmp 7]) (by rfl) (by kernel_rfl) (by simp only [Tryz.ntmps231,yaz,yba];decide) (Nat.le_refl _) fun hcl hlt=>?_
    change aw _ _ _ (KI Tryz.prog [(230,Ent.effect e_fail)] (aEnd Tryz.prog [.tmp 6,.tmp 7] H.nx _ _) []) _ _
    clear hlt hK
    have hcl1:=fun l' e'=>closedR hid hcl m (.inl rfl) l' e'
    have hd:decide ((l.length:Int)<a+n)=true:=by simpa using hlt0
    simp only [go_sem,zav,reduceCtorEq,Nat.reduceEqDiff,Nat.reduceAdd,Nat.reduceMul,Nat.reduceSub,Nat.reduceLeDiff,Nat.reduceLT,Int.reduceMul,Int.reduceAdd,Int.reduceSub,Int.reduceToNat,byq,hne,hid,hcs,hcm,hgm,onR,onRo_some,onRo_nil,zlv,zlt,zle,and_true,true_and,e_fail,hw,hd]
    refine ⟨by omega,?_⟩
    simp (disch:=first | assumption | omega | (simp;done) | (simp;omega) | (simp only [bt,and_true];first | done | omega | (simp;done))) [↓zmi,beq,ybc,ybd,ybe,endOk,wk,wk2,wk1,wkM,wkL,wkLL,ybf,hss,hl0,hcl1]
  · rename_i hlt0
    refine ⟨_,_,hK,?_⟩
    refine ACalls.of_aw (Ω:=[(230,Ent.effect e_fail)]) (T:=assoc []) mixed (TblOk.cons ok_fail TblOk.nil) Tryz.func231 (by kernel_rfl) (by rfl) (rs:=[.tmp 6,.tmp 7]) (by rfl) (by kernel_rfl) (by simp only [Tryz.ntmps231,yaz,yba];decide) (Nat.le_refl _) fun hcl hlt=>?_
    change aw _ _ _ (KI Tryz.prog [(230,Ent.effect e_fail)] (aEnd Tryz.prog [.tmp 6,.tmp 7] H.nx _ _) []) _ _
    clear hlt hK
    have hd:decide ((l.length:Int)<a+n)=false:=by simpa using hlt0
    simp only [go_sem,zav,reduceCtorEq,Nat.reduceEqDiff,Nat.reduceAdd,Nat.reduceMul,Nat.reduceSub,Nat.reduceLeDiff,Nat.reduceLT,Int.reduceMul,Int.reduceAdd,Int.reduceSub,Int.reduceToNat,byq,hne,hid,hcs,hcm,hgm,onR,onRo_some,onRo_nil,zlv,zlt,zle,and_true,true_and,e_fail,hw,hd]
    refine ⟨by omega,?_⟩
    simp (disch:=first | assumption | omega | (simp;done) | (simp;omega) | (simp only [bt,and_true];first | done | omega | (simp;done))) [↓zmi,beq,ybc,ybd,ybe,endOk,wk,wk2,wk1,wkM,wkL,wkLL,ybf,hcl]

def p_unsigned:List AV→AHeap→(AV→Prop)→Prop
  | [.slice _ 1 l],_,K=>(isB l∧l.length≤6)∧K (.int .i64 (beVal (unb l):Nat))
  | _,_,_=>False
theorem ok_unsigned:EntOk Tryz.prog 232 (Ent.pure p_unsigned):=by
  refine EntOk.pure fun args H K h=>?_
  unfold p_unsigned at h
  split at h
  rotate_left
  · exact h.elim
  rename_i m l
  obtain ⟨⟨c1,hle⟩,hK⟩:=h
  refine ⟨_,hK,?_⟩
  obtain ⟨xs,rfl⟩:=isB_out c1
  simp only [zlt,zle] at *
  refine ACalls.of_aw (Ω:=[]) (T:=assoc []) mixed TblOk.nil Tryz.func232 (by kernel_rfl) (by rfl) (rs:=[.tmp 2]) (by rfl) (by kernel_rfl) (by simp only [Tryz.ntmps232,yaz,yba];decide) (Nat.le_refl _) fun hcl hlt=>?_
  change aw _ _ _ (KI Tryz.prog [] (aEnd Tryz.prog [.tmp 2] H.nx _ _) []) _ _
  clear hK hlt
  simp only [go_sem,byq]
  refine loop_intro (A:=Nat) (fun k=>[(8,.int .i64 (k:Int)),(7,.int .i64 (xs.length:Int)),(6,.slice m 1 (bys xs)),(3,.int .i64 (beVal (xs.take k):Nat))])
    (fun k=>H) (fun k=>k≤xs.length) (fun k=>xs.length - k) 0 (by omega) ?_ fun k hk=>?_
  · simp only [bnq,enter,subF,ltF,ne_eq,Nat.reduceEqDiff,reduceCtorEq,yar,beVal_nil,true_or,and_true]
  simp only [go_sem,byq]
  refine cond_split (fun hc=>?_) (fun hc=>?_)
  · have hk:k<xs.length:=by simp at hc;omega
    have e1:IntKind.i64.wrap ((k:Int)+1)=((k+1:Nat):Int):=by rw [wrap_i64]<;>omega
    have hb:beVal (xs.take k)<256^6:=beVal_take_lt xs k 6 hle
    have hx:(bys xs).getD k .junk=ofByte (xs.getD k 0):=bys_get hk
    have e2:IntKind.i64.wrap (((xs.getD k 0).toNat:Nat):Int)=(((xs.getD k 0).toNat:Nat):Int):=wrap_i64_nat _ (by have:=UInt8.toNat_lt (xs.getD k 0);omega)
    have e3:=shl8_or (beVal (xs.take k)) (xs.getD k 0).toNat (by omega) (UInt8.toNat_lt _)
    rw [← beVal_step xs k hk] at e3
    simp only [go_sem,byq,Int.toNat_natCast,hx,e1,zle,ofByte,e2,e3]
    refine ⟨by omega,by decide,k+1,by omega,by omega,?_⟩
    simp only [bnq,enter,subF,ltF,ne_eq,Nat.reduceEqDiff,reduceCtorEq,true_or,and_self]
  · have hk:k=xs.length:=by simp at hc;omega
    subst hk
    simp only [go_sem,byq,List.take_length]
    simp (disch:=first | assumption | omega | (simp;done) | (simp;omega) | (simp only [bt,and_true];first | done | omega | (simp;done))) [↓zmi,beq,ybc,ybd,ybe,endOk,wk,wk2,wk1,wkM,wkL,wkLL,ybf,hcl]
end Go.AL


open Go Go.AL Go.Proofs
namespace Go.AL
set_option linter.all false
set_option maxRecDepth 10000

def e_Uint:List AV→AHeap→(AEnd→AHeap→Prop)→Prop
  | [.ptr id 0,.int .i64 w],H,K=>onR H id fun m l e=>True∧K (.ret (.int .i64 (uintR (m,l,e) w).1)) (H.set id (.cells (cellR (uintR (m,l,e) w).2)))
  | _,_,_=>False
theorem ok_Uint:EntOk Tryz.prog 95 (Ent.effect e_Uint):=by
  refine EntOk.effect fun args H K h=>?_
  unfold e_Uint at h
  split at h
  rotate_left
  · exact h.elim
  rename_i id w
  obtain ⟨m,l,e,hid,hle,h⟩:=onR_out h
  obtain ⟨hpre,hK⟩:=h
  refine ⟨_,_,hK,?_⟩
  clear hK
  have hl0:=AHeap.get_lt hid
  have hne:=far_of hl0
  have hss:=set_same hid
  have hcs:=cells_some hid
  have hcm:=fun cs=>@cells_set_same H id cs hl0
  have hgm:=fun o=>@get_set_same' H id o hl0
  by_cases h0:e=0
  case neg =>
    have d0:(e != 0)=true:=by simpa using h0
    rw [show uintR (m,l,e) w=(0,m,l,e) by simp [uintR,h0]]
    dsimp only [cellR]
    try rw [hss]
    refine ACalls.of_aw (Ω:=[(229,Ent.pure p_done),(230,Ent.effect e_fail),(231,Ent.effect e_peek),(232,Ent.pure p_unsigned)]) (T:=assoc []) mixed (TblOk.cons ok_done (TblOk.cons ok_fail (TblOk.cons ok_peek (TblOk.cons ok_unsigned TblOk.nil)))) Tryz.func95 (by kernel_rfl) (by rfl) (rs:=[.tmp 4]) (by rfl) (by kernel_rfl) (by simp only [Tryz.ntmps95,yaz,yba];decide) (by simp [zkz]) fun hcl hlt=>?_
    change aw _ _ _ (KI Tryz.prog [(229,Ent.pure p_done),(230,Ent.effect e_fail),(231,Ent.effect e_peek),(232,Ent.pure p_unsigned)] (aEnd Tryz.prog [.tmp 4] H.nx _ _) []) _ _
    clear hlt
    have hcl1:=fun l' e'=>closedR hid hcl m (.inl rfl) l' e'
    have hcl2:=fun l' e'=>closedR hid hcl .any (.inr rfl) l' e' 
    simp only [go_sem,zav,reduceCtorEq,Nat.reduceEqDiff,Nat.reduceAdd,Nat.reduceMul,Nat.reduceSub,Nat.reduceLeDiff,Nat.reduceLT,Int.reduceMul,Int.reduceAdd,Int.reduceSub,Int.reduceToNat,byq,hne,hid,hcs,hcm,hgm,onR,onRo_some,onRo_nil,zlv,zlt,zle,and_true,true_and,hid,p_done,d0]
    simp (disch:=first | assumption | omega | (simp;done) | (simp;omega) | (simp only [bt,and_true];first | done | omega | (simp;done))) [↓zmi,beq,ybc,ybd,ybe,endOk,wk,wk2,wk1,wkM,wkL,wkLL,ybf,hss,hl0,hcl,hcl1,hcl2,hle]
    try omega
  subst h0
  have d0:((0:Int) != 0)=false:=rfl
  by_cases h1:w<1
  · have d1:decide (w<1)=true:=by simpa using h1
    rw [show uintR (m,l,0) w=(0,m,l,4) by simp [uintR,h1]]
    dsimp only [cellR]
    try rw [hss]
    refine ACalls.of_aw (Ω:=[(229,Ent.pure p_done),(230,Ent.effect e_fail),(231,Ent.effect e_peek),(232,Ent.pure p_unsigned)]) (T:=assoc []) mixed (TblOk.cons ok_done (TblOk.cons ok_fail (TblOk.cons ok_peek (TblOk.cons ok_unsigned TblOk.nil)))) Tryz.func95 (by kernel_rfl) (by rfl) (rs:=[.tmp 4]) (by rfl) (by kernel_rfl) (by simp only [Tryz.ntmps95,yaz,yba];decide) (by simp [zkz]) fun hcl hlt=>?_
    change aw _ _ _ (KI Tryz.prog [(229,Ent.pure p_done),(230,Ent.effect e_fail),(231,Ent.effect e_peek),(232,Ent.pure p_unsigned)] (aEnd Tryz.prog [.tmp 4] H.nx _ _) []) _ _
    clear hlt
    have hcl1:=fun l' e'=>closedR hid hcl m (.inl rfl) l' e'
    have hcl2:=fun l' e'=>closedR hid hcl .any (.inr rfl) l' e' 
    simp only [go_sem,zav,reduceCtorEq,Nat.reduceEqDiff,Nat.reduceAdd,Nat.reduceMul,Nat.reduceSub,Nat.reduceLeDiff,Nat.reduceLT,Int.reduceMul,Int.reduceAdd,Int.reduceSub,Int.reduceToNat,byq,hne,hid,hcs,hcm,hgm,onR,onRo_some,onRo_nil,zlv,zlt,zle,and_true,true_and,hid,p_done,e_fail,d0,d1]
    simp (disch:=first | assumption | omega | (simp;done) | (simp;omega) | (simp only [bt,and_true];first | done | omega | (simp;done))) [↓zmi,beq,ybc,ybd,ybe,endOk,wk,wk2,wk1,wkM,wkL,wkLL,ybf,hss,hl0,hcl,hcl1,hcl2,hle]
    try omega
  have d1:decide (w<1)=false:=by simpa using h1
  by_cases h2:4<w
  · have d2:decide (w > 4)=true:=by simpa using h2
    rw [show uintR (m,l,0) w=(0,m,l,4) by simp [uintR,h2]]
    dsimp only [cellR]
    try rw [hss]
    refine ACalls.of_aw (Ω:=[(229,Ent.pure p_done),(230,Ent.effect e_fail),(231,Ent.effect e_peek),(232,Ent.pure p_unsigned)]) (T:=assoc []) mixed (TblOk.cons ok_done (TblOk.cons ok_fail (TblOk.cons ok_peek (TblOk.cons ok_unsigned TblOk.nil)))) Tryz.func95 (by kernel_rfl) (by rfl) (rs:=[.tmp 4]) (by rfl) (by kernel_rfl) (by simp only [Tryz.ntmps95,yaz,yba];decide) (by simp [zkz]) fun hcl hlt=>?_
    change aw _ _ _ (KI Tryz.prog [(229,Ent.pure p_done),(230,Ent.effect e_fail),(231,Ent.effect e_peek),(232,Ent.pure p_unsigned)] (aEnd Tryz.prog [.tmp 4] H.nx _ _) []) _ _
    clear hlt
    have hcl1:=fun l' e'=>closedR hid hcl m (.inl rfl) l' e'
    have hcl2:=fun l' e'=>closedR hid hcl .any (.inr rfl) l' e' 
    simp only [go_sem,zav,reduceCtorEq,Nat.reduceEqDiff,Nat.reduceAdd,Nat.reduceMul,Nat.reduceSub,Nat.reduceLeDiff,Nat.reduceLT,Int.reduceMul,Int.reduceAdd,Int.reduceSub,Int.reduceToNat,byq,hne,hid,hcs,hcm,hgm,onR,onRo_some,onRo_nil,zlv,zlt,zle,and_true,true_and,hid,p_done,e_fail,d0,d1,d2]
    simp (disch:=first | assumption | omega | (simp;done) | (simp;omega) | (simp only [bt,and_true];first | done | omega | (simp;done))) [↓zmi,beq,ybc,ybd,ybe,endOk,wk,wk2,wk1,wkM,wkL,wkLL,ybf,hss,hl0,hcl,hcl1,hcl2,hle]
    try omega
  have d2:decide (w > 4)=false:=by simp;omega
  by_cases h3:(l.length:Int)<w
  · have d3:(l.length:Int)<0+w:=by omega
    rw [show uintR (m,l,0) w=(0,m,l,1) by simp [uintR,h1,h2,h3]]
    dsimp only [cellR]
    try rw [hss]
    refine ACalls.of_aw (Ω:=[(229,Ent.pure p_done),(230,Ent.effect e_fail),(231,Ent.effect e_peek),(232,Ent.pure p_unsigned)]) (T:=assoc []) mixed (TblOk.cons ok_done (TblOk.cons ok_fail (TblOk.cons ok_peek (TblOk.cons ok_unsigned TblOk.nil)))) Tryz.func95 (by kernel_rfl) (by rfl) (rs:=[.tmp 4]) (by rfl) (by kernel_rfl) (by simp only [Tryz.ntmps95,yaz,yba];decide) (by simp [zkz]) fun hcl hlt=>?_
    change aw _ _ _ (KI Tryz.prog [(229,Ent.pure p_done),(230,Ent.effect e_fail),(231,Ent.effect e_peek),(232,Ent.pure p_unsigned)] (aEnd Tryz.prog [.tmp 4] H.nx _ _) []) _ _
    clear hlt
    have hcl1:=fun l' e'=>closedR hid hcl m (.inl rfl) l' e'
    have hcl2:=fun l' e'=>closedR hid hcl .any (.inr rfl) l' e' 
    simp only [go_sem,zav,reduceCtorEq,Nat.reduceEqDiff,Nat.reduceAdd,Nat.reduceMul,Nat.reduceSub,Nat.reduceLeDiff,Nat.reduceLT,Int.reduceMul,Int.reduceAdd,Int.reduceSub,Int.reduceToNat,byq,hne,hid,hcs,hcm,hgm,onR,onRo_some,onRo_nil,zlv,zlt,zle,and_true,true_and,hid,p_done,e_peek,d0,d1,d2,if_pos d3]
    simp (disch:=first | assumption | omega | (simp;done) | (simp;omega) | (simp only [bt,and_true];first | done | omega | (simp;done))) [↓zmi,beq,ybc,ybd,ybe,endOk,wk,wk2,wk1,wkM,wkL,wkLL,ybf,hss,hl0,hcl,hcl1,hcl2,hle]
    try omega
  · have d3:¬ (l.length:Int)<0+w:=by omega
    have d4:(0+w).toNat=w.toNat:=by omega
    have d5:Int.toNat 0=0:=rfl
    have d6:(l.take w.toNat).length=w.toNat:=by rw [List.length_take];omega
    have d7:List.take (l.length:Int).toNat l=l:=by simp
    rw [show uintR (m,l,0) w=(((beVal (l.take w.toNat):Nat):Int),Mark.any,l.drop w.toNat,(0:Int)) by simp [uintR,h1,h2,h3]]
    dsimp only [cellR]
    try rw [hss]
    refine ACalls.of_aw (Ω:=[(229,Ent.pure p_done),(230,Ent.effect e_fail),(231,Ent.effect e_peek),(232,Ent.pure p_unsigned)]) (T:=assoc []) mixed (TblOk.cons ok_done (TblOk.cons ok_fail (TblOk.cons ok_peek (TblOk.cons ok_unsigned TblOk.nil)))) Tryz.func95 (by kernel_rfl) (by rfl) (rs:=[.tmp 4]) (by rfl) (by kernel_rfl) (by simp only [Tryz.ntmps95,yaz,yba];decide) (by simp [zkz]) fun hcl hlt=>?_
    change aw _ _ _ (KI Tryz.prog [(229,Ent.pure p_done),(230,Ent.effect e_fail),(231,Ent.effect e_peek),(232,Ent.pure p_unsigned)] (aEnd Tryz.prog [.tmp 4] H.nx _ _) []) _ _
    clear hlt
    have hcl1:=fun l' e'=>closedR hid hcl m (.inl rfl) l' e'
    have hcl2:=fun l' e'=>closedR hid hcl .any (.inr rfl) l' e' 
    simp only [go_sem,zav,reduceCtorEq,Nat.reduceEqDiff,Nat.reduceAdd,Nat.reduceMul,Nat.reduceSub,Nat.reduceLeDiff,Nat.reduceLT,Int.reduceMul,Int.reduceAdd,Int.reduceSub,Int.reduceToNat,byq,hne,hid,hcs,hcm,hgm,onR,onRo_some,onRo_nil,zlv,zlt,zle,and_true,true_and,hid,p_done,e_peek,d0,d1,d2,if_neg d3,d4,d5,yap,p_unsigned,d6,d7]
    simp (disch:=first | assumption | omega | (simp;done) | (simp;omega) | (simp only [bt,and_true];first | done | omega | (simp;done))) [↓zmi,beq,ybc,ybd,ybe,endOk,wk,wk2,wk1,wkM,wkL,wkLL,ybf,hss,hl0,hcl,hcl1,hcl2,hle]
    try omega

def e_RBool:List AV→AHeap→(AEnd→AHeap→Prop)→Prop
  | [.ptr id 0],H,K=>onR H id fun m l e=>True∧K (.ret (.bool (boolR (m,l,e)).1)) (H.set id (.cells (cellR (boolR (m,l,e)).2)))
  | _,_,_=>False
theorem ok_RBool:EntOk Tryz.prog 96 (Ent.effect e_RBool):=by
  refine EntOk.effect fun args H K h=>?_
  unfold e_RBool at h
  split at h
  rotate_left
  · exact h.elim
  rename_i id
  obtain ⟨m,l,e,hid,hle,h⟩:=onR_out h
  obtain ⟨hpre,hK⟩:=h
  refine ⟨_,_,hK,?_⟩
  clear hK
  have hl0:=AHeap.get_lt hid
  have hne:=far_of hl0
  have hss:=set_same hid
  have hcs:=cells_some hid
  have hcm:=fun cs=>@cells_set_same H id cs hl0
  have hgm:=fun o=>@get_set_same' H id o hl0
  by_cases h0:e=0
  case neg =>
    have d0:(e != 0)=true:=by simpa using h0
    rw [show boolR (m,l,e)=(false,m,l,e) by simp [boolR,h0]]
    dsimp only [cellR]
    try rw [hss]
    refine ACalls.of_aw (Ω:=[(229,Ent.pure p_done),(230,Ent.effect e_fail),(231,Ent.effect e_peek)]) (T:=assoc []) mixed (TblOk.cons ok_done (TblOk.cons ok_fail (TblOk.cons ok_peek TblOk.nil))) Tryz.func96 (by kernel_rfl) (by rfl) (rs:=[.tmp 2]) (by rfl) (by kernel_rfl) (by simp only [Tryz.ntmps96,yaz,yba];decide) (by simp [zkz]) fun hcl hlt=>?_
    change aw _ _ _ (KI Tryz.prog [(229,Ent.pure p_done),(230,Ent.effect e_fail),(231,Ent.effect e_peek)] (aEnd Tryz.prog [.tmp 2] H.nx _ _) []) _ _
    clear hlt
    have hcl1:=fun l' e'=>closedR hid hcl m (.inl rfl) l' e'
    have hcl2:=fun l' e'=>closedR hid hcl .any (.inr rfl) l' e' 
    simp only [go_sem,zav,reduceCtorEq,Nat.reduceEqDiff,Nat.reduceAdd,Nat.reduceMul,Nat.reduceSub,Nat.reduceLeDiff,Nat.reduceLT,Int.reduceMul,Int.reduceAdd,Int.reduceSub,Int.reduceToNat,byq,hne,hid,hcs,hcm,hgm,onR,onRo_some,onRo_nil,zlv,zlt,zle,and_true,true_and,hid,p_done,d0]
    simp (disch:=first | assumption | omega | (simp;done) | (simp;omega) | (simp only [bt,and_true];first | done | omega | (simp;done))) [↓zmi,beq,ybc,ybd,ybe,endOk,wk,wk2,wk1,wkM,wkL,wkLL,ybf,hss,hl0,hcl,hcl1,hcl2,hle]
    try omega
  subst h0
  have d0:((0:Int) != 0)=false:=rfl
  by_cases h1:l.length<1
  · have d1:(l.length:Int)<1:=by omega
    rw [show boolR (m,l,0)=(false,m,l,1) by simp [boolR,h1]]
    dsimp only [cellR]
    try rw [hss]
    refine ACalls.of_aw (Ω:=[(229,Ent.pure p_done),(230,Ent.effect e_fail),(231,Ent.effect e_peek)]) (T:=assoc []) mixed (TblOk.cons ok_done (TblOk.cons ok_fail (TblOk.cons ok_peek TblOk.nil))) Tryz.func96 (by kernel_rfl) (by rfl) (rs:=[.tmp 2]) (by rfl) (by kernel_rfl) (by simp only [Tryz.ntmps96,yaz,yba];decide) (by simp [zkz]) fun hcl hlt=>?_
    change aw _ _ _ (KI Tryz.prog [(229,Ent.pure p_done),(230,Ent.effect e_fail),(231,Ent.effect e_peek)] (aEnd Tryz.prog [.tmp 2] H.nx _ _) []) _ _
    clear hlt
    have hcl1:=fun l' e'=>closedR hid hcl m (.inl rfl) l' e'
    have hcl2:=fun l' e'=>closedR hid hcl .any (.inr rfl) l' e' 
    simp only [go_sem,zav,reduceCtorEq,Nat.reduceEqDiff,Nat.reduceAdd,Nat.reduceMul,Nat.reduceSub,Nat.reduceLeDiff,Nat.reduceLT,Int.reduceMul,Int.reduceAdd,Int.reduceSub,Int.reduceToNat,byq,hne,hid,hcs,hcm,hgm,onR,onRo_some,onRo_nil,zlv,zlt,zle,and_true,true_and,hid,p_done,e_peek,d0,if_pos d1]
    simp (disch:=first | assumption | omega | (simp;done) | (simp;omega) | (simp only [bt,and_true];first | done | omega | (simp;done))) [↓zmi,beq,ybc,ybd,ybe,endOk,wk,wk2,wk1,wkM,wkL,wkLL,ybf,hss,hl0,hcl,hcl1,hcl2,hle]
    try omega
  have d1:¬ (l.length:Int)<1:=by omega
  have d5:Int.toNat 0=0:=rfl
  have d6:(l.take 1).length=1:=by rw [List.length_take];omega
  have d7:List.take (l.length:Int).toNat l=l:=by simp
  have d8:(bys (l.take 1)).getD 0 .junk=ofByte (b0 l):=b0_get l 1 (by omega) (by omega)
  have d9:Int.toNat (0+1)=1:=rfl
  have d10:Int.toNat 1=1:=rfl
  by_cases h2:1<(b0 l).toNat
  · have d2:decide (((b0 l).toNat:Int) > 1)=true:=by simp;omega
    rw [show boolR (m,l,0)=(false,m,l,2) by simp [boolR,h1,h2]]
    dsimp only [cellR]
    try rw [hss]
    refine ACalls.of_aw (Ω:=[(229,Ent.pure p_done),(230,Ent.effect e_fail),(231,Ent.effect e_peek)]) (T:=assoc []) mixed (TblOk.cons ok_done (TblOk.cons ok_fail (TblOk.cons ok_peek TblOk.nil))) Tryz.func96 (by kernel_rfl) (by rfl) (rs:=[.tmp 2]) (by rfl) (by kernel_rfl) (by simp only [Tryz.ntmps96,yaz,yba];decide) (by simp [zkz]) fun hcl hlt=>?_
    change aw _ _ _ (KI Tryz.prog [(229,Ent.pure p_done),(230,Ent.effect e_fail),(231,Ent.effect e_peek)] (aEnd Tryz.prog [.tmp 2] H.nx _ _) []) _ _
    clear hlt
    have hcl1:=fun l' e'=>closedR hid hcl m (.inl rfl) l' e'
    have hcl2:=fun l' e'=>closedR hid hcl .any (.inr rfl) l' e' 
    simp only [go_sem,zav,reduceCtorEq,Nat.reduceEqDiff,Nat.reduceAdd,Nat.reduceMul,Nat.reduceSub,Nat.reduceLeDiff,Nat.reduceLT,Int.reduceMul,Int.reduceAdd,Int.reduceSub,Int.reduceToNat,byq,hne,hid,hcs,hcm,hgm,onR,onRo_some,onRo_nil,zlv,zlt,zle,and_true,true_and,hid,p_done,e_peek,e_fail,d0,if_neg d1,d2,d5,d6,d7,d8,d9,d10,yap,ofByte]
    simp (disch:=first | assumption | omega | (simp;done) | (simp;omega) | (simp only [bt,and_true];first | done | omega | (simp;done))) [↓zmi,beq,ybc,ybd,ybe,endOk,wk,wk2,wk1,wkM,wkL,wkLL,ybf,hss,hl0,hcl,hcl1,hcl2,hle]
    try omega
  · have d2:decide (((b0 l).toNat:Int) > 1)=false:=by simp;omega
    have d3:((((b0 l).toNat:Nat):Int)==1)=((b0 l).toNat==1):=by rw [Bool.eq_iff_iff];simp;omega
    rw [show boolR (m,l,0)=((b0 l).toNat==1,Mark.any,l.drop 1,(0:Int)) by simp [boolR,h1,h2]]
    dsimp only [cellR]
    try rw [hss]
    refine ACalls.of_aw (Ω:=[(229,Ent.pure p_done),(230,Ent.effect e_fail),(231,Ent.effect e_peek)]) (T:=assoc []) mixed (TblOk.cons ok_done (TblOk.cons ok_fail (TblOk.cons ok_peek TblOk.nil))) Tryz.func96 (by kernel_rfl) (by rfl) (rs:=[.tmp 2]) (by rfl) (by kernel_rfl) (by simp only [Tryz.ntmps96,yaz,yba];decide) (by simp [zkz]) fun hcl hlt=>?_
    change aw _ _ _ (KI Tryz.prog [(229,Ent.pure p_done),(230,Ent.effect e_fail),(231,Ent.effect e_peek)] (aEnd Tryz.prog [.tmp 2] H.nx _ _) []) _ _
    clear hlt
    have hcl1:=fun l' e'=>closedR hid hcl m (.inl rfl) l' e'
    have hcl2:=fun l' e'=>closedR hid hcl .any (.inr rfl) l' e' 
    simp only [go_sem,zav,reduceCtorEq,Nat.reduceEqDiff,Nat.reduceAdd,Nat.reduceMul,Nat.reduceSub,Nat.reduceLeDiff,Nat.reduceLT,Int.reduceMul,Int.reduceAdd,Int.reduceSub,Int.reduceToNat,byq,hne,hid,hcs,hcm,hgm,onR,onRo_some,onRo_nil,zlv,zlt,zle,and_true,true_and,hid,p_done,e_peek,e_fail,d0,if_neg d1,d2,d3,d5,d6,d7,d8,d9,d10,yap,ofByte]
    simp (disch:=first | assumption | omega | (simp;done) | (simp;omega) | (simp only [bt,and_true];first | done | omega | (simp;done))) [↓zmi,beq,ybc,ybd,ybe,endOk,wk,wk2,wk1,wkM,wkL,wkLL,ybf,hss,hl0,hcl,hcl1,hcl2,hle]
    try omega

/-- the pieces of a counted row -/
def countedR (s:RS) (most:Int):List UInt8 × Int × Bool × Int :=
  if s.2.1.length<2 then ([],0,false,1) else if most<(beVal (s.2.1.take 2):Nat) then ([],0,false,3)
  else if s.2.1.length<2+beVal (s.2.1.take 2) then ([],((2+beVal (s.2.1.take 2):Nat):Int),false,1)
  else ((s.2.1.take (2+beVal (s.2.1.take 2))).drop 2,((2+beVal (s.2.1.take 2):Nat):Int),true,s.2.2)

def e_counted:List AV→AHeap→(AEnd→AHeap→Prop)→Prop
  | [.ptr id 0,.int .i64 most],H,K=>onR H id fun m l e=>True∧K (.ret (.tup [.slice .any 1 (bys (countedR (m,l,e) most).1),.int .i64 (countedR (m,l,e) most).2.1,.bool (countedR (m,l,e) most).2.2.1])) (H.set id (.cells (cellR (m,l,(countedR (m,l,e) most).2.2.2))))
  | _,_,_=>False
theorem ok_counted:EntOk Tryz.prog 236 (Ent.effect e_counted):=by
  refine EntOk.effect fun args H K h=>?_
  unfold e_counted at h
  split at h
  rotate_left
  · exact h.elim
  rename_i id most
  obtain ⟨m,l,e,hid,hle,h⟩:=onR_out h
  obtain ⟨hpre,hK⟩:=h
  refine ⟨_,_,hK,?_⟩
  clear hK
  have hl0:=AHeap.get_lt hid
  have hne:=far_of hl0
  have hss:=set_same hid
  have hcs:=cells_some hid
  have hcm:=fun cs=>@cells_set_same H id cs hl0
  have hgm:=fun o=>@get_set_same' H id o hl0
  by_cases h1:l.length<2
  · have d1:(l.length:Int)<2:=by omega
    rw [show countedR (m,l,e) most=([],0,false,1) by simp [countedR,h1]]
    dsimp only [cellR]
    try rw [hss]
    refine ACalls.of_aw (Ω:=[(230,Ent.effect e_fail),(231,Ent.effect e_peek),(232,Ent.pure p_unsigned)]) (T:=assoc []) mixed (TblOk.cons ok_fail (TblOk.cons ok_peek (TblOk.cons ok_unsigned TblOk.nil))) Tryz.func236 (by kernel_rfl) (by rfl) (rs:=[.tmp 4,.tmp 5,.tmp 6]) (by rfl) (by kernel_rfl) (by simp only [Tryz.ntmps236,yaz,yba];decide) (by simp [zkz]) fun hcl hlt=>?_
    change aw _ _ _ (KI Tryz.prog [(230,Ent.effect e_fail),(231,Ent.effect e_peek),(232,Ent.pure p_unsigned)] (aEnd Tryz.prog [.tmp 4,.tmp 5,.tmp 6] H.nx _ _) []) _ _
    clear hlt
    have hcl1:=fun l' e'=>closedR hid hcl m (.inl rfl) l' e'
    have hcl2:=fun l' e'=>closedR hid hcl .any (.inr rfl) l' e' 
    simp only [go_sem,zav,reduceCtorEq,Nat.reduceEqDiff,Nat.reduceAdd,Nat.reduceMul,Nat.reduceSub,Nat.reduceLeDiff,Nat.reduceLT,Int.reduceMul,Int.reduceAdd,Int.reduceSub,Int.reduceToNat,byq,hne,hid,hcs,hcm,hgm,onR,onRo_some,onRo_nil,zlv,zlt,zle,and_true,true_and,hid,e_peek,if_pos d1]
    simp (disch:=first | assumption | omega | (simp;done) | (simp;omega) | (simp only [bt,and_true];first | done | omega | (simp;done))) [↓zmi,beq,ybc,ybd,ybe,endOk,wk,wk2,wk1,wkM,wkL,wkLL,ybf,hss,hl0,hcl,hcl1,hcl2,hle]
    try omega
  have d1:¬ (l.length:Int)<2:=by omega
  have d5:Int.toNat 0=0:=rfl
  have d9:Int.toNat (0+2)=2:=rfl
  have d6:(l.take 2).length=2:=by rw [List.length_take];omega
  have hb:beVal (l.take 2)<256^2:=by have:=beVal_lt (l.take 2);rwa [d6] at this
  by_cases h2:most<(beVal (l.take 2):Nat)
  · have d2:decide (((beVal (l.take 2):Nat):Int) > most)=true:=by simpa using h2
    rw [show countedR (m,l,e) most=([],0,false,3) by simp [countedR,h1,h2]]
    dsimp only [cellR]
    try rw [hss]
    refine ACalls.of_aw (Ω:=[(230,Ent.effect e_fail),(231,Ent.effect e_peek),(232,Ent.pure p_unsigned)]) (T:=assoc []) mixed (TblOk.cons ok_fail (TblOk.cons ok_peek (TblOk.cons ok_unsigned TblOk.nil))) Tryz.func236 (by kernel_rfl) (by rfl) (rs:=[.tmp 4,.tmp 5,.tmp 6]) (by rfl) (by kernel_rfl) (by simp only [Tryz.ntmps236,yaz,yba];decide) (by simp [zkz]) fun hcl hlt=>?_
    change aw _ _ _ (KI Tryz.prog [(230,Ent.effect e_fail),(231,Ent.effect e_peek),(232,Ent.pure p_unsigned)] (aEnd Tryz.prog [.tmp 4,.tmp 5,.tmp 6] H.nx _ _) []) _ _
    clear hlt
    have hcl1:=fun l' e'=>closedR hid hcl m (.inl rfl) l' e'
    have hcl2:=fun l' e'=>closedR hid hcl .any (.inr rfl) l' e' 
    simp only [go_sem,zav,reduceCtorEq,Nat.reduceEqDiff,Nat.reduceAdd,Nat.reduceMul,Nat.reduceSub,Nat.reduceLeDiff,Nat.reduceLT,Int.reduceMul,Int.reduceAdd,Int.reduceSub,Int.reduceToNat,byq,hne,hid,hcs,hcm,hgm,onR,onRo_some,onRo_nil,zlv,zlt,zle,and_true,true_and,hid,e_peek,p_unsigned,e_fail,if_neg d1,d2,d5,d6,d9,yap]
    simp (disch:=first | assumption | omega | (simp;done) | (simp;omega) | (simp only [bt,and_true];first | done | omega | (simp;done))) [↓zmi,beq,ybc,ybd,ybe,endOk,wk,wk2,wk1,wkM,wkL,wkLL,ybf,hss,hl0,hcl,hcl1,hcl2,hle]
    try omega
  have d2:decide (((beVal (l.take 2):Nat):Int) > most)=false:=by simpa using h2
  have w1:IntKind.i64.wrap (2+((beVal (l.take 2):Nat):Int))=((2+beVal (l.take 2):Nat):Int):=by rw [wrap_i64]<;>omega
  by_cases h3:l.length<2+beVal (l.take 2)
  · have d3:(l.length:Int)<2+((beVal (l.take 2):Nat):Int):=by omega
    rw [show countedR (m,l,e) most=([],((2+beVal (l.take 2):Nat):Int),false,1) by simp [countedR,h1,h2,h3]]
    dsimp only [cellR]
    try rw [hss]
    refine ACalls.of_aw (Ω:=[(230,Ent.effect e_fail),(231,Ent.effect e_peek),(232,Ent.pure p_unsigned)]) (T:=assoc []) mixed (TblOk.cons ok_fail (TblOk.cons ok_peek (TblOk.cons ok_unsigned TblOk.nil))) Tryz.func236 (by kernel_rfl) (by rfl) (rs:=[.tmp 4,.tmp 5,.tmp 6]) (by rfl) (by kernel_rfl) (by simp only [Tryz.ntmps236,yaz,yba];decide) (by simp [zkz]) fun hcl hlt=>?_
    change aw _ _ _ (KI Tryz.prog [(230,Ent.effect e_fail),(231,Ent.effect e_peek),(232,Ent.pure p_unsigned)] (aEnd Tryz.prog [.tmp 4,.tmp 5,.tmp 6] H.nx _ _) []) _ _
    clear hlt
    have hcl1:=fun l' e'=>closedR hid hcl m (.inl rfl) l' e'
    have hcl2:=fun l' e'=>closedR hid hcl .any (.inr rfl) l' e' 
    simp only [go_sem,zav,reduceCtorEq,Nat.reduceEqDiff,Nat.reduceAdd,Nat.reduceMul,Nat.reduceSub,Nat.reduceLeDiff,Nat.reduceLT,Int.reduceMul,Int.reduceAdd,Int.reduceSub,Int.reduceToNat,byq,hne,hid,hcs,hcm,hgm,onR,onRo_some,onRo_nil,zlv,zlt,zle,and_true,true_and,hid,e_peek,p_unsigned,e_fail,if_neg d1,if_pos d3,d2,d5,d6,d9,w1,yap]
    simp (disch:=first | assumption | omega | (simp;done) | (simp;omega) | (simp only [bt,and_true];first | done | omega | (simp;done))) [↓zmi,beq,ybc,ybd,ybe,endOk,wk,wk2,wk1,wkM,wkL,wkLL,ybf,hss,hl0,hcl,hcl1,hcl2,hle]
    try omega
  · have d3:¬ (l.length:Int)<2+((beVal (l.take 2):Nat):Int):=by omega
    have d4:(2+((beVal (l.take 2):Nat):Int)).toNat=2+beVal (l.take 2):=by omega
    have d8:Int.toNat 2=2:=rfl
    rw [show countedR (m,l,e) most=((l.take (2+beVal (l.take 2))).drop 2,((2+beVal (l.take 2):Nat):Int),true,e) by simp [countedR,h1,h2,h3]]
    dsimp only [cellR]
    try rw [hss]
    refine ACalls.of_aw (Ω:=[(230,Ent.effect e_fail),(231,Ent.effect e_peek),(232,Ent.pure p_unsigned)]) (T:=assoc []) mixed (TblOk.cons ok_fail (TblOk.cons ok_peek (TblOk.cons ok_unsigned TblOk.nil))) Tryz.func236 (by kernel_rfl) (by rfl) (rs:=[.tmp 4,.tmp 5,.tmp 6]) (by rfl) (by kernel_rfl) (by simp only [Tryz.ntmps236,yaz,yba];decide) (by simp [zkz]) fun hcl hlt=>?_
    change aw _ _ _ (KI Tryz.prog [(230,Ent.effect e_fail),(231,Ent.effect e_peek),(232,Ent.pure p_unsigned)] (aEnd Tryz.prog [.tmp 4,.tmp 5,.tmp 6] H.nx _ _) []) _ _
    clear hlt
    have hcl1:=fun l' e'=>closedR hid hcl m (.inl rfl) l' e'
    have hcl2:=fun l' e'=>closedR hid hcl .any (.inr rfl) l' e' 
    simp only [go_sem,zav,reduceCtorEq,Nat.reduceEqDiff,Nat.reduceAdd,Nat.reduceMul,Nat.reduceSub,Nat.reduceLeDiff,Nat.reduceLT,Int.reduceMul,Int.reduceAdd,Int.reduceSub,Int.reduceToNat,byq,hne,hid,hcs,hcm,hgm,onR,onRo_some,onRo_nil,zlv,zlt,zle,and_true,true_and,hid,e_peek,p_unsigned,e_fail,if_neg d1,if_neg d3,d2,d4,d5,d6,d8,d9,w1,yap]
    simp (disch:=first | assumption | omega | (simp;done) | (simp;omega) | (simp only [bt,and_true];first | done | omega | (simp;done))) [↓zmi,beq,ybc,ybd,ybe,endOk,wk,wk2,wk1,wkM,wkL,wkLL,ybf,hss,hl0,hcl,hcl1,hcl2,hle]
    try omega

def p_printable1:List AV→AHeap→(AV→Prop)→Prop
  | [.int .u8 c],_,K=>(0≤c∧c<256)∧K (.bool (decide (c<32)||decide (126<c)))
  | _,_,_=>False
theorem ok_printable1:EntOk Tryz.prog 360 (Ent.pure p_printable1):=by
  refine EntOk.pure fun args H K h=>?_
  unfold p_printable1 at h
  split at h
  rotate_left
  · exact h.elim
  rename_i c
  obtain ⟨hc,hK⟩:=h
  refine ⟨_,hK,?_⟩
  clear hK
  by_cases h1:c<32
  · have d1:decide (c<32)=true:=by simpa using h1
    refine ACalls.of_aw (Ω:=[]) (T:=assoc []) mixed TblOk.nil Tryz.func360 (by kernel_rfl) (by rfl) (rs:=[.tmp 2]) (by rfl) (by kernel_rfl) (by simp only [Tryz.ntmps360,yaz,yba];decide) (Nat.le_refl _) fun hcl hlt=>?_
    change aw _ _ _ (KI Tryz.prog [] (aEnd Tryz.prog [.tmp 2] H.nx _ _) []) _ _
    clear hlt
    simp only [go_sem,zav,reduceCtorEq,Nat.reduceEqDiff,Nat.reduceAdd,Nat.reduceMul,Nat.reduceSub,Nat.reduceLeDiff,Nat.reduceLT,Int.reduceMul,Int.reduceAdd,Int.reduceSub,Int.reduceToNat,byq,d1,Bool.true_or]
    simp (disch:=first | assumption | omega | (simp;done) | (simp;omega) | (simp only [bt,and_true];first | done | omega | (simp;done))) [↓zmi,beq,ybc,ybd,ybe,endOk,wk,wk2,wk1,wkM,wkL,wkLL,ybf,hcl]
  · have d1:decide (c<32)=false:=by simpa using h1
    refine ACalls.of_aw (Ω:=[]) (T:=assoc []) mixed TblOk.nil Tryz.func360 (by kernel_rfl) (by rfl) (rs:=[.tmp 2]) (by rfl) (by kernel_rfl) (by simp only [Tryz.ntmps360,yaz,yba];decide) (Nat.le_refl _) fun hcl hlt=>?_
    change aw _ _ _ (KI Tryz.prog [] (aEnd Tryz.prog [.tmp 2] H.nx _ _) []) _ _
    clear hlt
    simp only [go_sem,zav,reduceCtorEq,Nat.reduceEqDiff,Nat.reduceAdd,Nat.reduceMul,Nat.reduceSub,Nat.reduceLeDiff,Nat.reduceLT,Int.reduceMul,Int.reduceAdd,Int.reduceSub,Int.reduceToNat,byq,d1,Bool.false_or]
    simp (disch:=first | assumption | omega | (simp;done) | (simp;omega) | (simp only [bt,and_true];first | done | omega | (simp;done))) [↓zmi,beq,ybc,ybd,ybe,endOk,wk,wk2,wk1,wkM,wkL,wkLL,ybf,hcl]

/-- where the first byte that may not stand in a text is -/
def badAt:List UInt8→Nat→Int
  | [],_ => -1
  | c::t,k=>if (decide (c.toNat<32)||decide (126<c.toNat))=true then k else badAt t (k+1)
theorem badAt_plain:∀ (l:List UInt8) (k:Nat),decide (badAt l k ≥ 0)=!plainB l
  | [],k=>by simp [badAt,plainB]
  | c::t,k=>by
    unfold badAt
    split
    · rename_i h
      have:plainB (c::t)=false:=by simp only [plainB,List.all_cons,h];rfl
      rw [this];simp
    · rename_i h
      have:plainB (c::t)=plainB t:=by simp only [plainB,List.all_cons,Bool.eq_false_iff.2 h];rfl
      rw [this];exact badAt_plain t (k+1)
theorem badAt_step (l:List UInt8) (k:Nat) (h:k<l.length):badAt (l.drop k) k=if (decide ((l.getD k 0).toNat<32)||decide (126<(l.getD k 0).toNat))=true then (k:Int) else badAt (l.drop (k+1)) (k+1):=by
  rw [List.drop_eq_getElem_cons h]
  have:l.getD k 0=l[k]:=by simp [List.getD_eq_getElem?_getD,h]
  rw [this];rfl

def p_IndexFunc:List AV→AHeap→(AV→Prop)→Prop
  | [.slice _ 1 l,.func (.func 360) [] []],_,K=>(isB l∧l.length≤140737488355328)∧K (.int .i64 (badAt (unb l) 0))
  | _,_,_=>False
theorem ok_IndexFunc:EntOk Tryz.prog 382 (Ent.pure p_IndexFunc):=by
  refine EntOk.pure fun args H K h=>?_
  unfold p_IndexFunc at h
  split at h
  rotate_left
  · exact h.elim
  rename_i m l
  obtain ⟨⟨c1,hle⟩,hK⟩:=h
  refine ⟨_,hK,?_⟩
  obtain ⟨xs,rfl⟩:=isB_out c1
  simp only [zlt,zle] at *
  refine ACalls.of_aw (Ω:=[(360,Ent.pure p_printable1)]) (T:=assoc []) mixed (TblOk.cons ok_printable1 TblOk.nil) Tryz.func382 (by kernel_rfl) (by rfl) (rs:=[.tmp 4]) (by rfl) (by kernel_rfl) (by simp only [Tryz.ntmps382,yaz,yba];decide) (Nat.le_refl _) fun hcl hlt=>?_
  change aw _ _ _ (KI Tryz.prog [(360,Ent.pure p_printable1)] (aEnd Tryz.prog [.tmp 4] H.nx _ _) []) _ _
  clear hK hlt
  simp only [go_sem,byq]
  refine loop_intro (A:=Nat) (fun k=>[(8,.int .i64 (k:Int)),(7,.int .i64 (xs.length:Int)),(1,.func (.func 360) [] []),(0,.slice m 1 (bys xs))])
    (fun k=>H) (fun k=>k≤xs.length∧badAt (xs.drop k) k=badAt xs 0) (fun k=>xs.length - k) 0 ⟨by omega,by simp⟩ ?_ fun k hk=>?_
  · simp only [bnq,enter,subF,ltF,ne_eq,Nat.reduceEqDiff,reduceCtorEq,true_or,and_true]
  obtain ⟨hk,hb⟩:=hk
  simp only [go_sem,byq]
  refine cond_split (fun hc=>?_) (fun hc=>?_)
  · have hk:k<xs.length:=by simp at hc;omega
    have e1:IntKind.i64.wrap ((k:Int)+1)=((k+1:Nat):Int):=by rw [wrap_i64]<;>omega
    have hx:(bys xs).getD k .junk=ofByte (xs.getD k 0):=bys_get hk
    have hst:=badAt_step xs k hk
    have hlt:=UInt8.toNat_lt (xs.getD k 0)
    simp only [go_sem,byq,Int.toNat_natCast,hx,e1,zle,ofByte,p_printable1]
    refine ⟨by omega,by omega,cond_split (fun hc2=>?_) (fun hc2=>?_)⟩
    · have hc3:(decide ((xs.getD k 0).toNat<32)||decide (126<(xs.getD k 0).toNat))=true:=by
        generalize (xs.getD k 0).toNat=q at hc2 ⊢;simp at hc2 ⊢;omega
      rw [if_pos hc3] at hst
      rw [← hb,hst]
      simp only [go_sem,zav,reduceCtorEq,Nat.reduceEqDiff,Nat.reduceAdd,Nat.reduceMul,Nat.reduceSub,Nat.reduceLeDiff,Nat.reduceLT,Int.reduceMul,Int.reduceAdd,Int.reduceSub,Int.reduceToNat,byq,e1]
      simp (disch:=first | assumption | omega | (simp;done) | (simp;omega) | (simp only [bt,and_true];first | done | omega | (simp;done))) [↓zmi,beq,ybc,ybd,ybe,endOk,wk,wk2,wk1,wkM,wkL,wkLL,ybf,hcl]
    · have hc3:¬ (decide ((xs.getD k 0).toNat<32)||decide (126<(xs.getD k 0).toNat))=true:=by
        generalize (xs.getD k 0).toNat=q at hc2 ⊢;simp at hc2 ⊢;omega
      rw [if_neg hc3] at hst
      simp only [go_sem,byq,e1]
      refine ⟨k+1,⟨by omega,hst.symm.trans hb⟩,by omega,?_⟩
      simp only [bnq,enter,subF,ltF,ne_eq,Nat.reduceEqDiff,reduceCtorEq,true_or,and_self]
  · have hk:k=xs.length:=by simp at hc;omega
    subst hk
    rw [List.drop_length] at hb
    rw [← hb]
    simp only [go_sem,byq]
    simp (disch:=first | assumption | omega | (simp;done) | (simp;omega) | (simp only [bt,and_true];first | done | omega | (simp;done))) [↓zmi,beq,ybc,ybd,ybe,endOk,wk,wk2,wk1,wkM,wkL,wkLL,ybf,hcl,badAt]

def p_ContainsFunc:List AV→AHeap→(AV→Prop)→Prop
  | [.slice _ 1 l,.func (.func 360) [] []],_,K=>(isB l∧l.length≤140737488355328)∧K (.bool (!plainB (unb l)))
  | _,_,_=>False
theorem ok_ContainsFunc:EntOk Tryz.prog 359 (Ent.pure p_ContainsFunc):=by
  refine EntOk.pure fun args H K h=>?_
  unfold p_ContainsFunc at h
  split at h
  rotate_left
  · exact h.elim
  rename_i m l
  obtain ⟨⟨c1,hle⟩,hK⟩:=h
  refine ⟨_,hK,?_⟩
  obtain ⟨xs,rfl⟩:=isB_out c1
  simp only [zlt,zle] at *
  refine ACalls.of_aw (Ω:=[(382,Ent.pure p_IndexFunc)]) (T:=assoc []) mixed (TblOk.cons ok_IndexFunc TblOk.nil) Tryz.func359 (by kernel_rfl) (by rfl) (rs:=[.tmp 4]) (by rfl) (by kernel_rfl) (by simp only [Tryz.ntmps359,yaz,yba];decide) (Nat.le_refl _) fun hcl hlt=>?_
  change aw _ _ _ (KI Tryz.prog [(382,Ent.pure p_IndexFunc)] (aEnd Tryz.prog [.tmp 4] H.nx _ _) []) _ _
  clear hK hlt
  simp only [go_sem,zav,reduceCtorEq,Nat.reduceEqDiff,Nat.reduceAdd,Nat.reduceMul,Nat.reduceSub,Nat.reduceLeDiff,Nat.reduceLT,Int.reduceMul,Int.reduceAdd,Int.reduceSub,Int.reduceToNat,byq,p_IndexFunc,badAt_plain]
  refine ⟨hle,?_⟩
  simp (disch:=first | assumption | omega | (simp;done) | (simp;omega) | (simp only [bt,and_true];first | done | omega | (simp;done))) [↓zmi,beq,ybc,ybd,ybe,endOk,wk,wk2,wk1,wkM,wkL,wkLL,ybf,hcl]

def p_printable:List AV→AHeap→(AV→Prop)→Prop
  | [.slice _ 1 l],_,K=>(isB l∧l.length≤140737488355328)∧K (.bool (plainB (unb l)))
  | _,_,_=>False
theorem ok_printable:EntOk Tryz.prog 306 (Ent.pure p_printable):=by
  refine EntOk.pure fun args H K h=>?_
  unfold p_printable at h
  split at h
  rotate_left
  · exact h.elim
  rename_i m l
  obtain ⟨⟨c1,hle⟩,hK⟩:=h
  refine ⟨_,hK,?_⟩
  obtain ⟨xs,rfl⟩:=isB_out c1
  simp only [zlt,zle] at *
  refine ACalls.of_aw (Ω:=[(359,Ent.pure p_ContainsFunc)]) (T:=assoc []) mixed (TblOk.cons ok_ContainsFunc TblOk.nil) Tryz.func306 (by kernel_rfl) (by rfl) (rs:=[.tmp 2]) (by rfl) (by kernel_rfl) (by simp only [Tryz.ntmps306,yaz,yba];decide) (Nat.le_refl _) fun hcl hlt=>?_
  change aw _ _ _ (KI Tryz.prog [(359,Ent.pure p_ContainsFunc)] (aEnd Tryz.prog [.tmp 2] H.nx _ _) []) _ _
  clear hK hlt
  simp only [go_sem,zav,reduceCtorEq,Nat.reduceEqDiff,Nat.reduceAdd,Nat.reduceMul,Nat.reduceSub,Nat.reduceLeDiff,Nat.reduceLT,Int.reduceMul,Int.reduceAdd,Int.reduceSub,Int.reduceToNat,byq,p_ContainsFunc,Bool.not_not]
  refine ⟨hle,?_⟩
  simp (disch:=first | assumption | omega | (simp;done) | (simp;omega) | (simp only [bt,and_true];first | done | omega | (simp;done))) [↓zmi,beq,ybc,ybd,ybe,endOk,wk,wk2,wk1,wkM,wkL,wkLL,ybf,hcl]

def e_RText:List AV→AHeap→(AEnd→AHeap→Prop)→Prop
  | [.ptr id 0,.int .i64 most],H,K=>onR H id fun m l e=>True∧K (.ret (.str (textR (m,l,e) most).1)) (H.set id (.cells (cellR (textR (m,l,e) most).2)))
  | _,_,_=>False
theorem ok_RText:EntOk Tryz.prog 179 (Ent.effect e_RText):=by
  refine EntOk.effect fun args H K h=>?_
  unfold e_RText at h
  split at h
  rotate_left
  · exact h.elim
  rename_i id most
  obtain ⟨m,l,e,hid,hle,h⟩:=onR_out h
  obtain ⟨hpre,hK⟩:=h
  refine ⟨_,_,hK,?_⟩
  clear hK
  have hl0:=AHeap.get_lt hid
  have hne:=far_of hl0
  have hss:=set_same hid
  have hcs:=cells_some hid
  have hcm:=fun cs=>@cells_set_same H id cs hl0
  have hgm:=fun o=>@get_set_same' H id o hl0
  have pn:plainB []=true:=rfl
  by_cases h0:e=0
  case neg =>
    have d0:(e != 0)=true:=by simpa using h0
    rw [show textR (m,l,e) most=([],m,l,e) by simp [textR,bytesR,h0,pn]]
    dsimp only [cellR]
    try rw [hss]
    refine ACalls.of_aw (Ω:=[(229,Ent.pure p_done),(236,Ent.effect e_counted),(306,Ent.pure p_printable),(230,Ent.effect e_fail)]) (T:=assoc []) mixed (TblOk.cons ok_done (TblOk.cons ok_counted (TblOk.cons ok_printable (TblOk.cons ok_fail TblOk.nil)))) Tryz.func179 (by kernel_rfl) (by rfl) (rs:=[.tmp 4]) (by rfl) (by kernel_rfl) (by simp only [Tryz.ntmps179,yaz,yba];decide) (by simp [zkz]) fun hcl hlt=>?_
    change aw _ _ _ (KI Tryz.prog [(229,Ent.pure p_done),(236,Ent.effect e_counted),(306,Ent.pure p_printable),(230,Ent.effect e_fail)] (aEnd Tryz.prog [.tmp 4] H.nx _ _) []) _ _
    clear hlt
    have hcl1:=fun l' e'=>closedR hid hcl m (.inl rfl) l' e'
    have hcl2:=fun l' e'=>closedR hid hcl .any (.inr rfl) l' e' 
    simp only [go_sem,zav,reduceCtorEq,Nat.reduceEqDiff,Nat.reduceAdd,Nat.reduceMul,Nat.reduceSub,Nat.reduceLeDiff,Nat.reduceLT,Int.reduceMul,Int.reduceAdd,Int.reduceSub,Int.reduceToNat,byq,hne,hid,hcs,hcm,hgm,onR,onRo_some,onRo_nil,zlv,zlt,zle,and_true,true_and,hid,p_done,d0]
    simp (disch:=first | assumption | omega | (simp;done) | (simp;omega) | (simp only [bt,and_true];first | done | omega | (simp;done))) [↓zmi,beq,ybc,ybd,ybe,endOk,wk,wk2,wk1,wkM,wkL,wkLL,ybf,hss,hl0,hcl,hcl1,hcl2,hle]
    try omega
  subst h0
  have d0:((0:Int) != 0)=false:=rfl
  by_cases h1:l.length<2
  · have dc:countedR (m,l,0) most=([],0,false,1):=by simp [countedR,h1]
    rw [show textR (m,l,0) most=([],m,l,1) by simp [textR,bytesR,h1,pn]]
    dsimp only [cellR]
    try rw [hss]
    refine ACalls.of_aw (Ω:=[(229,Ent.pure p_done),(236,Ent.effect e_counted),(306,Ent.pure p_printable),(230,Ent.effect e_fail)]) (T:=assoc []) mixed (TblOk.cons ok_done (TblOk.cons ok_counted (TblOk.cons ok_printable (TblOk.cons ok_fail TblOk.nil)))) Tryz.func179 (by kernel_rfl) (by rfl) (rs:=[.tmp 4]) (by rfl) (by kernel_rfl) (by simp only [Tryz.ntmps179,yaz,yba];decide) (by simp [zkz]) fun hcl hlt=>?_
    change aw _ _ _ (KI Tryz.prog [(229,Ent.pure p_done),(236,Ent.effect e_counted),(306,Ent.pure p_printable),(230,Ent.effect e_fail)] (aEnd Tryz.prog [.tmp 4] H.nx _ _) []) _ _
    clear hlt
    have hcl1:=fun l' e'=>closedR hid hcl m (.inl rfl) l' e'
    have hcl2:=fun l' e'=>closedR hid hcl .any (.inr rfl) l' e' 
    simp only [go_sem,zav,reduceCtorEq,Nat.reduceEqDiff,Nat.reduceAdd,Nat.reduceMul,Nat.reduceSub,Nat.reduceLeDiff,Nat.reduceLT,Int.reduceMul,Int.reduceAdd,Int.reduceSub,Int.reduceToNat,byq,hne,hid,hcs,hcm,hgm,onR,onRo_some,onRo_nil,zlv,zlt,zle,and_true,true_and,hid,p_done,e_counted,cellR,d0,dc]
    simp (disch:=first | assumption | omega | (simp;done) | (simp;omega) | (simp only [bt,and_true];first | done | omega | (simp;done))) [↓zmi,beq,ybc,ybd,ybe,endOk,wk,wk2,wk1,wkM,wkL,wkLL,ybf,hss,hl0,hcl,hcl1,hcl2,hle]
    try omega
  by_cases h2:most<(beVal (l.take 2):Nat)
  · have dc:countedR (m,l,0) most=([],0,false,3):=by simp [countedR,h1,h2]
    rw [show textR (m,l,0) most=([],m,l,3) by simp [textR,bytesR,h1,h2,pn]]
    dsimp only [cellR]
    try rw [hss]
    refine ACalls.of_aw (Ω:=[(229,Ent.pure p_done),(236,Ent.effect e_counted),(306,Ent.pure p_printable),(230,Ent.effect e_fail)]) (T:=assoc []) mixed (TblOk.cons ok_done (TblOk.cons ok_counted (TblOk.cons ok_printable (TblOk.cons ok_fail TblOk.nil)))) Tryz.func179 (by kernel_rfl) (by rfl) (rs:=[.tmp 4]) (by rfl) (by kernel_rfl) (by simp only [Tryz.ntmps179,yaz,yba];decide) (by simp [zkz]) fun hcl hlt=>?_
    change aw _ _ _ (KI Tryz.prog [(229,Ent.pure p_done),(236,Ent.effect e_counted),(306,Ent.pure p_printable),(230,Ent.effect e_fail)] (aEnd Tryz.prog [.tmp 4] H.nx _ _) []) _ _
    clear hlt
    have hcl1:=fun l' e'=>closedR hid hcl m (.inl rfl) l' e'
    have hcl2:=fun l' e'=>closedR hid hcl .any (.inr rfl) l' e' 
    simp only [go_sem,zav,reduceCtorEq,Nat.reduceEqDiff,Nat.reduceAdd,Nat.reduceMul,Nat.reduceSub,Nat.reduceLeDiff,Nat.reduceLT,Int.reduceMul,Int.reduceAdd,Int.reduceSub,Int.reduceToNat,byq,hne,hid,hcs,hcm,hgm,onR,onRo_some,onRo_nil,zlv,zlt,zle,and_true,true_and,hid,p_done,e_counted,cellR,d0,dc]
    simp (disch:=first | assumption | omega | (simp;done) | (simp;omega) | (simp only [bt,and_true];first | done | omega | (simp;done))) [↓zmi,beq,ybc,ybd,ybe,endOk,wk,wk2,wk1,wkM,wkL,wkLL,ybf,hss,hl0,hcl,hcl1,hcl2,hle]
    try omega
  have d6:(l.take 2).length=2:=by rw [List.length_take];omega
  have hb:beVal (l.take 2)<256^2:=by have:=beVal_lt (l.take 2);rwa [d6] at this
  by_cases h3:l.length<2+beVal (l.take 2)
  · have dc:countedR (m,l,0) most=([],((2+beVal (l.take 2):Nat):Int),false,1):=by simp [countedR,h1,h2,h3]
    rw [show textR (m,l,0) most=([],m,l,1) by simp [textR,bytesR,h1,h2,h3,pn]]
    dsimp only [cellR]
    try rw [hss]
    refine ACalls.of_aw (Ω:=[(229,Ent.pure p_done),(236,Ent.effect e_counted),(306,Ent.pure p_printable),(230,Ent.effect e_fail)]) (T:=assoc []) mixed (TblOk.cons ok_done (TblOk.cons ok_counted (TblOk.cons ok_printable (TblOk.cons ok_fail TblOk.nil)))) Tryz.func179 (by kernel_rfl) (by rfl) (rs:=[.tmp 4]) (by rfl) (by kernel_rfl) (by simp only [Tryz.ntmps179,yaz,yba];decide) (by simp [zkz]) fun hcl hlt=>?_
    change aw _ _ _ (KI Tryz.prog [(229,Ent.pure p_done),(236,Ent.effect e_counted),(306,Ent.pure p_printable),(230,Ent.effect e_fail)] (aEnd Tryz.prog [.tmp 4] H.nx _ _) []) _ _
    clear hlt
    have hcl1:=fun l' e'=>closedR hid hcl m (.inl rfl) l' e'
    have hcl2:=fun l' e'=>closedR hid hcl .any (.inr rfl) l' e' 
    simp only [go_sem,zav,reduceCtorEq,Nat.reduceEqDiff,Nat.reduceAdd,Nat.reduceMul,Nat.reduceSub,Nat.reduceLeDiff,Nat.reduceLT,Int.reduceMul,Int.reduceAdd,Int.reduceSub,Int.reduceToNat,byq,hne,hid,hcs,hcm,hgm,onR,onRo_some,onRo_nil,zlv,zlt,zle,and_true,true_and,hid,p_done,e_counted,cellR,d0,dc]
    simp (disch:=first | assumption | omega | (simp;done) | (simp;omega) | (simp only [bt,and_true];first | done | omega | (simp;done))) [↓zmi,beq,ybc,ybd,ybe,endOk,wk,wk2,wk1,wkM,wkL,wkLL,ybf,hss,hl0,hcl,hcl1,hcl2,hle]
    try omega
  have dc:countedR (m,l,0) most=((l.take (2+beVal (l.take 2))).drop 2,((2+beVal (l.take 2):Nat):Int),true,0):=by simp [countedR,h1,h2,h3]
  have d7:List.take (l.length:Int).toNat l=l:=by simp
  have d8:((l.take (2+beVal (l.take 2))).drop 2).length≤140737488355328:=by simp;omega
  have db:bytesR (m,l,0) most=((l.take (2+beVal (l.take 2))).drop 2,Mark.any,l.drop (2+beVal (l.take 2)),(0:Int)):=by simp [bytesR,h1,h2,h3]
  generalize hbb:(l.take (2+beVal (l.take 2))).drop 2=bb at *
  by_cases h4:plainB bb=true
  · skip
    rw [show textR (m,l,0) most=(bb,Mark.any,l.drop (2+beVal (l.take 2)),(0:Int)) by simp [textR,db,h4]]
    dsimp only [cellR]
    try rw [hss]
    refine ACalls.of_aw (Ω:=[(229,Ent.pure p_done),(236,Ent.effect e_counted),(306,Ent.pure p_printable),(230,Ent.effect e_fail)]) (T:=assoc []) mixed (TblOk.cons ok_done (TblOk.cons ok_counted (TblOk.cons ok_printable (TblOk.cons ok_fail TblOk.nil)))) Tryz.func179 (by kernel_rfl) (by rfl) (rs:=[.tmp 4]) (by rfl) (by kernel_rfl) (by simp only [Tryz.ntmps179,yaz,yba];decide) (by simp [zkz]) fun hcl hlt=>?_
    change aw _ _ _ (KI Tryz.prog [(229,Ent.pure p_done),(236,Ent.effect e_counted),(306,Ent.pure p_printable),(230,Ent.effect e_fail)] (aEnd Tryz.prog [.tmp 4] H.nx _ _) []) _ _
    clear hlt
    have hcl1:=fun l' e'=>closedR hid hcl m (.inl rfl) l' e'
    have hcl2:=fun l' e'=>closedR hid hcl .any (.inr rfl) l' e' 
    simp only [go_sem,zav,reduceCtorEq,Nat.reduceEqDiff,Nat.reduceAdd,Nat.reduceMul,Nat.reduceSub,Nat.reduceLeDiff,Nat.reduceLT,Int.reduceMul,Int.reduceAdd,Int.reduceSub,Int.reduceToNat,byq,hne,hid,hcs,hcm,hgm,onR,onRo_some,onRo_nil,zlv,zlt,zle,and_true,true_and,hid,p_done,e_counted,p_printable,cellR,d0,dc,d7,d8,h4,Int.toNat_natCast]
    simp (disch:=first | assumption | omega | (simp;done) | (simp;omega) | (simp only [bt,and_true];first | done | omega | (simp;done))) [↓zmi,beq,ybc,ybd,ybe,endOk,wk,wk2,wk1,wkM,wkL,wkLL,ybf,hss,hl0,hcl,hcl1,hcl2,hle]
    try omega
  · have h5:plainB bb=false:=by simpa using h4
    rw [show textR (m,l,0) most=([],m,l,2) by simp [textR,db,h5]]
    dsimp only [cellR]
    try rw [hss]
    refine ACalls.of_aw (Ω:=[(229,Ent.pure p_done),(236,Ent.effect e_counted),(306,Ent.pure p_printable),(230,Ent.effect e_fail)]) (T:=assoc []) mixed (TblOk.cons ok_done (TblOk.cons ok_counted (TblOk.cons ok_printable (TblOk.cons ok_fail TblOk.nil)))) Tryz.func179 (by kernel_rfl) (by rfl) (rs:=[.tmp 4]) (by rfl) (by kernel_rfl) (by simp only [Tryz.ntmps179,yaz,yba];decide) (by simp [zkz]) fun hcl hlt=>?_
    change aw _ _ _ (KI Tryz.prog [(229,Ent.pure p_done),(236,Ent.effect e_counted),(306,Ent.pure p_printable),(230,Ent.effect e_fail)] (aEnd Tryz.prog [.tmp 4] H.nx _ _) []) _ _
    clear hlt
    have hcl1:=fun l' e'=>closedR hid hcl m (.inl rfl) l' e'
    have hcl2:=fun l' e'=>closedR hid hcl .any (.inr rfl) l' e' 
    simp only [go_sem,zav,reduceCtorEq,Nat.reduceEqDiff,Nat.reduceAdd,Nat.reduceMul,Nat.reduceSub,Nat.reduceLeDiff,Nat.reduceLT,Int.reduceMul,Int.reduceAdd,Int.reduceSub,Int.reduceToNat,byq,hne,hid,hcs,hcm,hgm,onR,onRo_some,onRo_nil,zlv,zlt,zle,and_true,true_and,hid,p_done,e_counted,e_fail,p_printable,cellR,d0,dc,d7,d8,h5,Int.toNat_natCast]
    simp (disch:=first | assumption | omega | (simp;done) | (simp;omega) | (simp only [bt,and_true];first | done | omega | (simp;done))) [↓zmi,beq,ybc,ybd,ybe,endOk,wk,wk2,wk1,wkM,wkL,wkLL,ybf,hss,hl0,hcl,hcl1,hcl2,hle]
    try omega

def e_RCount:List AV→AHeap→(AEnd→AHeap→Prop)→Prop
  | [.ptr id 0,.int .i64 most],H,K=>onR H id fun m l e=>True∧K (.ret (.int .i64 (countR (m,l,e) most).1)) (H.set id (.cells (cellR (countR (m,l,e) most).2)))
  | _,_,_=>False
theorem ok_RCount:EntOk Tryz.prog 97 (Ent.effect e_RCount):=by
  refine EntOk.effect fun args H K h=>?_
  unfold e_RCount at h
  split at h
  rotate_left
  · exact h.elim
  rename_i id most
  obtain ⟨m,l,e,hid,hle,h⟩:=onR_out h
  obtain ⟨hpre,hK⟩:=h
  refine ⟨_,_,hK,?_⟩
  clear hK
  have hl0:=AHeap.get_lt hid
  have hne:=far_of hl0
  have hss:=set_same hid
  have hcs:=cells_some hid
  have hcm:=fun cs=>@cells_set_same H id cs hl0
  have hgm:=fun o=>@get_set_same' H id o hl0
  by_cases h0:e=0
  case neg =>
    have d0:(e != 0)=true:=by simpa using h0
    rw [show countR (m,l,e) most=(0,m,l,e) by simp [countR,h0]]
    dsimp only [cellR]
    try rw [hss]
    refine ACalls.of_aw (Ω:=[(229,Ent.pure p_done),(231,Ent.effect e_peek),(232,Ent.pure p_unsigned),(230,Ent.effect e_fail)]) (T:=assoc []) mixed (TblOk.cons ok_done (TblOk.cons ok_peek (TblOk.cons ok_unsigned (TblOk.cons ok_fail TblOk.nil)))) Tryz.func97 (by kernel_rfl) (by rfl) (rs:=[.tmp 4]) (by rfl) (by kernel_rfl) (by simp only [Tryz.ntmps97,yaz,yba];decide) (by simp [zkz]) fun hcl hlt=>?_
    change aw _ _ _ (KI Tryz.prog [(229,Ent.pure p_done),(231,Ent.effect e_peek),(232,Ent.pure p_unsigned),(230,Ent.effect e_fail)] (aEnd Tryz.prog [.tmp 4] H.nx _ _) []) _ _
    clear hlt
    have hcl1:=fun l' e'=>closedR hid hcl m (.inl rfl) l' e'
    have hcl2:=fun l' e'=>closedR hid hcl .any (.inr rfl) l' e' 
    simp only [go_sem,zav,reduceCtorEq,Nat.reduceEqDiff,Nat.reduceAdd,Nat.reduceMul,Nat.reduceSub,Nat.reduceLeDiff,Nat.reduceLT,Int.reduceMul,Int.reduceAdd,Int.reduceSub,Int.reduceToNat,byq,hne,hid,hcs,hcm,hgm,onR,onRo_some,onRo_nil,zlv,zlt,zle,and_true,true_and,hid,p_done,d0]
    simp (disch:=first | assumption | omega | (simp;done) | (simp;omega) | (simp only [bt,and_true];first | done | omega | (simp;done))) [↓zmi,beq,ybc,ybd,ybe,endOk,wk,wk2,wk1,wkM,wkL,wkLL,ybf,hss,hl0,hcl,hcl1,hcl2,hle]
    try omega
  subst h0
  have d0:((0:Int) != 0)=false:=rfl
  by_cases h1:l.length<2
  · have d1:(l.length:Int)<2:=by omega
    rw [show countR (m,l,0) most=(0,m,l,1) by simp [countR,h1]]
    dsimp only [cellR]
    try rw [hss]
    refine ACalls.of_aw (Ω:=[(229,Ent.pure p_done),(231,Ent.effect e_peek),(232,Ent.pure p_unsigned),(230,Ent.effect e_fail)]) (T:=assoc []) mixed (TblOk.cons ok_done (TblOk.cons ok_peek (TblOk.cons ok_unsigned (TblOk.cons ok_fail TblOk.nil)))) Tryz.func97 (by kernel_rfl) (by rfl) (rs:=[.tmp 4]) (by rfl) (by kernel_rfl) (by simp only [Tryz.ntmps97,yaz,yba];decide) (by simp [zkz]) fun hcl hlt=>?_
    change aw _ _ _ (KI Tryz.prog [(229,Ent.pure p_done),(231,Ent.effect e_peek),(232,Ent.pure p_unsigned),(230,Ent.effect e_fail)] (aEnd Tryz.prog [.tmp 4] H.nx _ _) []) _ _
    clear hlt
    have hcl1:=fun l' e'=>closedR hid hcl m (.inl rfl) l' e'
    have hcl2:=fun l' e'=>closedR hid hcl .any (.inr rfl) l' e' 
    simp only [go_sem,zav,reduceCtorEq,Nat.reduceEqDiff,Nat.reduceAdd,Nat.reduceMul,Nat.reduceSub,Nat.reduceLeDiff,Nat.reduceLT,Int.reduceMul,Int.reduceAdd,Int.reduceSub,Int.reduceToNat,byq,hne,hid,hcs,hcm,hgm,onR,onRo_some,onRo_nil,zlv,zlt,zle,and_true,true_and,hid,p_done,e_peek,d0,if_pos d1]
    simp (disch:=first | assumption | omega | (simp;done) | (simp;omega) | (simp only [bt,and_true];first | done | omega | (simp;done))) [↓zmi,beq,ybc,ybd,ybe,endOk,wk,wk2,wk1,wkM,wkL,wkLL,ybf,hss,hl0,hcl,hcl1,hcl2,hle]
    try omega
  have d1:¬ (l.length:Int)<2:=by omega
  have d5:Int.toNat 0=0:=rfl
  have d9:Int.toNat (0+2)=2:=rfl
  have d10:Int.toNat 2=2:=rfl
  have d6:(l.take 2).length=2:=by rw [List.length_take];omega
  have d7:List.take (l.length:Int).toNat l=l:=by simp
  by_cases h2:most<(beVal (l.take 2):Nat)
  · have d2:decide (((beVal (l.take 2):Nat):Int) > most)=true:=by simpa using h2
    rw [show countR (m,l,0) most=(0,m,l,3) by simp [countR,h1,h2]]
    dsimp only [cellR]
    try rw [hss]
    refine ACalls.of_aw (Ω:=[(229,Ent.pure p_done),(231,Ent.effect e_peek),(232,Ent.pure p_unsigned),(230,Ent.effect e_fail)]) (T:=assoc []) mixed (TblOk.cons ok_done (TblOk.cons ok_peek (TblOk.cons ok_unsigned (TblOk.cons ok_fail TblOk.nil)))) Tryz.func97 (by kernel_rfl) (by rfl) (rs:=[.tmp 4]) (by rfl) (by kernel_rfl) (by simp only [Tryz.ntmps97,yaz,yba];decide) (by simp [zkz]) fun hcl hlt=>?_
    change aw _ _ _ (KI Tryz.prog [(229,Ent.pure p_done),(231,Ent.effect e_peek),(232,Ent.pure p_unsigned),(230,Ent.effect e_fail)] (aEnd Tryz.prog [.tmp 4] H.nx _ _) []) _ _
    clear hlt
    have hcl1:=fun l' e'=>closedR hid hcl m (.inl rfl) l' e'
    have hcl2:=fun l' e'=>closedR hid hcl .any (.inr rfl) l' e' 
    simp only [go_sem,zav,reduceCtorEq,Nat.reduceEqDiff,Nat.reduceAdd,Nat.reduceMul,Nat.reduceSub,Nat.reduceLeDiff,Nat.reduceLT,Int.reduceMul,Int.reduceAdd,Int.reduceSub,Int.reduceToNat,byq,hne,hid,hcs,hcm,hgm,onR,onRo_some,onRo_nil,zlv,zlt,zle,and_true,true_and,hid,p_done,e_peek,p_unsigned,e_fail,d0,if_neg d1,d2,d5,d6,d7,d9,d10,yap]
    simp (disch:=first | assumption | omega | (simp;done) | (simp;omega) | (simp only [bt,and_true];first | done | omega | (simp;done))) [↓zmi,beq,ybc,ybd,ybe,endOk,wk,wk2,wk1,wkM,wkL,wkLL,ybf,hss,hl0,hcl,hcl1,hcl2,hle]
    try omega
  · have d2:decide (((beVal (l.take 2):Nat):Int) > most)=false:=by simpa using h2
    rw [show countR (m,l,0) most=(((beVal (l.take 2):Nat):Int),Mark.any,l.drop 2,(0:Int)) by simp [countR,h1,h2]]
    dsimp only [cellR]
    try rw [hss]
    refine ACalls.of_aw (Ω:=[(229,Ent.pure p_done),(231,Ent.effect e_peek),(232,Ent.pure p_unsigned),(230,Ent.effect e_fail)]) (T:=assoc []) mixed (TblOk.cons ok_done (TblOk.cons ok_peek (TblOk.cons ok_unsigned (TblOk.cons ok_fail TblOk.nil)))) Tryz.func97 (by kernel_rfl) (by rfl) (rs:=[.tmp 4]) (by rfl) (by kernel_rfl) (by simp only [Tryz.ntmps97,yaz,yba];decide) (by simp [zkz]) fun hcl hlt=>?_
    change aw _ _ _ (KI Tryz.prog [(229,Ent.pure p_done),(231,Ent.effect e_peek),(232,Ent.pure p_unsigned),(230,Ent.effect e_fail)] (aEnd Tryz.prog [.tmp 4] H.nx _ _) []) _ _
    clear hlt
    have hcl1:=fun l' e'=>closedR hid hcl m (.inl rfl) l' e'
    have hcl2:=fun l' e'=>closedR hid hcl .any (.inr rfl) l' e' 
    simp only [go_sem,zav,reduceCtorEq,Nat.reduceEqDiff,Nat.reduceAdd,Nat.reduceMul,Nat.reduceSub,Nat.reduceLeDiff,Nat.reduceLT,Int.reduceMul,Int.reduceAdd,Int.reduceSub,Int.reduceToNat,byq,hne,hid,hcs,hcm,hgm,onR,onRo_some,onRo_nil,zlv,zlt,zle,and_true,true_and,hid,p_done,e_peek,p_unsigned,e_fail,d0,if_neg d1,d2,d5,d6,d7,d9,d10,yap]
    simp (disch:=first | assumption | omega | (simp;done) | (simp;omega) | (simp only [bt,and_true];first | done | omega | (simp;done))) [↓zmi,beq,ybc,ybd,ybe,endOk,wk,wk2,wk1,wkM,wkL,wkLL,ybf,hss,hl0,hcl,hcl1,hcl2,hle]
    try omega

def p_RErr:List AV→AHeap→(AV→Prop)→Prop
  | [.nilp],_,K=>K (.int .i64 0)
  | [.ptr id 0],H,K=>onR H id fun m l e=>K (.int .i64 e)
  | _,_,_=>False
theorem ok_RErr:EntOk Tryz.prog 235 (Ent.pure p_RErr):=by
  refine EntOk.pure fun args H K h=>?_
  unfold p_RErr at h
  split at h
  · refine ⟨_,h,?_⟩
    refine ACalls.of_aw (Ω:=[]) (T:=assoc []) mixed TblOk.nil Tryz.func235 (by kernel_rfl) (by rfl) (rs:=[.tmp 2]) (by rfl) (by kernel_rfl) (by simp only [Tryz.ntmps235,yaz,yba];decide) (Nat.le_refl _) fun hcl hlt=>?_
    change aw _ _ _ (KI Tryz.prog [] (aEnd Tryz.prog [.tmp 2] H.nx _ _) []) _ _
    clear h hlt
    simp only [go_sem,zav,reduceCtorEq,Nat.reduceEqDiff,Nat.reduceAdd,Nat.reduceMul,Nat.reduceSub,Nat.reduceLeDiff,Nat.reduceLT,Int.reduceMul,Int.reduceAdd,Int.reduceSub,Int.reduceToNat,byq]
    simp (disch:=first | assumption | omega | (simp;done) | (simp;omega) | (simp only [bt,and_true];first | done | omega | (simp;done))) [↓zmi,beq,ybc,ybd,ybe,endOk,wk,wk2,wk1,wkM,wkL,wkLL,ybf,hcl]
  · rename_i id
    obtain ⟨m,l,e,hid,hle,hK⟩:=onR_out h
    refine ⟨_,hK,?_⟩
    have hcs:=cells_some hid
    refine ACalls.of_aw (Ω:=[]) (T:=assoc []) mixed TblOk.nil Tryz.func235 (by kernel_rfl) (by rfl) (rs:=[.tmp 2]) (by rfl) (by kernel_rfl) (by simp only [Tryz.ntmps235,yaz,yba];decide) (Nat.le_refl _) fun hcl hlt=>?_
    change aw _ _ _ (KI Tryz.prog [] (aEnd Tryz.prog [.tmp 2] H.nx _ _) []) _ _
    clear h hK hlt
    simp only [go_sem,zav,reduceCtorEq,Nat.reduceEqDiff,Nat.reduceAdd,Nat.reduceMul,Nat.reduceSub,Nat.reduceLeDiff,Nat.reduceLT,Int.reduceMul,Int.reduceAdd,Int.reduceSub,Int.reduceToNat,byq,hcs]
    simp (disch:=first | assumption | omega | (simp;done) | (simp;omega) | (simp only [bt,and_true];first | done | omega | (simp;done))) [↓zmi,beq,ybc,ybd,ybe,endOk,wk,wk2,wk1,wkM,wkL,wkLL,ybf,hcl]
  · exact h.elim

def p_RFinish:List AV→AHeap→(AV→Prop)→Prop
  | [.ptr id 0],H,K=>onR H id fun m l e=>K (.int .i64 (finishR (m,l,e)))
  | _,_,_=>False
theorem ok_RFinish:EntOk Tryz.prog 101 (Ent.pure p_RFinish):=by
  refine EntOk.pure fun args H K h=>?_
  unfold p_RFinish at h
  split at h
  rotate_left
  · exact h.elim
  rename_i id
  obtain ⟨m,l,e,hid,hle,hK⟩:=onR_out h
  refine ⟨_,hK,?_⟩
  have hcs:=cells_some hid
  by_cases h0:e=0
  · subst h0
    have d0:((0:Int) != 0)=false:=rfl
    by_cases h1:0<l.length
    · have d1:decide ((l.length:Int) > 0)=true:=by simpa using h1
      rw [show finishR (m,l,0)=2 by simp [finishR,h1]]
      refine ACalls.of_aw (Ω:=[(229,Ent.pure p_done),(235,Ent.pure p_RErr)]) (T:=assoc []) mixed (TblOk.cons ok_done (TblOk.cons ok_RErr TblOk.nil)) Tryz.func101 (by kernel_rfl) (by rfl) (rs:=[.tmp 2]) (by rfl) (by kernel_rfl) (by simp only [Tryz.ntmps101,yaz,yba];decide) (Nat.le_refl _) fun hcl hlt=>?_
      change aw _ _ _ (KI Tryz.prog [(229,Ent.pure p_done),(235,Ent.pure p_RErr)] (aEnd Tryz.prog [.tmp 2] H.nx _ _) []) _ _
      clear h hK hlt
      simp only [go_sem,zav,reduceCtorEq,Nat.reduceEqDiff,Nat.reduceAdd,Nat.reduceMul,Nat.reduceSub,Nat.reduceLeDiff,Nat.reduceLT,Int.reduceMul,Int.reduceAdd,Int.reduceSub,Int.reduceToNat,byq,hcs,hid,p_done,p_RErr,onR,onRo_some,onRo_nil,d0,d1]
      simp (disch:=first | assumption | omega | (simp;done) | (simp;omega) | (simp only [bt,and_true];first | done | omega | (simp;done))) [↓zmi,beq,ybc,ybd,ybe,endOk,wk,wk2,wk1,wkM,wkL,wkLL,ybf,hcl,hle,zlv,zle]
    · have hl:l=[]:=List.eq_nil_of_length_eq_zero (by omega)
      subst hl
      have d1:decide ((([]:List UInt8).length:Int) > 0)=false:=rfl
      rw [show finishR (m,[],0)=0 by simp [finishR]]
      refine ACalls.of_aw (Ω:=[(229,Ent.pure p_done),(235,Ent.pure p_RErr)]) (T:=assoc []) mixed (TblOk.cons ok_done (TblOk.cons ok_RErr TblOk.nil)) Tryz.func101 (by kernel_rfl) (by rfl) (rs:=[.tmp 2]) (by rfl) (by kernel_rfl) (by simp only [Tryz.ntmps101,yaz,yba];decide) (Nat.le_refl _) fun hcl hlt=>?_
      change aw _ _ _ (KI Tryz.prog [(229,Ent.pure p_done),(235,Ent.pure p_RErr)] (aEnd Tryz.prog [.tmp 2] H.nx _ _) []) _ _
      clear h hK hlt
      simp only [go_sem,zav,reduceCtorEq,Nat.reduceEqDiff,Nat.reduceAdd,Nat.reduceMul,Nat.reduceSub,Nat.reduceLeDiff,Nat.reduceLT,Int.reduceMul,Int.reduceAdd,Int.reduceSub,Int.reduceToNat,byq,hcs,hid,p_done,p_RErr,onR,onRo_some,onRo_nil,d0,d1]
      simp (disch:=first | assumption | omega | (simp;done) | (simp;omega) | (simp only [bt,and_true];first | done | omega | (simp;done))) [↓zmi,beq,ybc,ybd,ybe,endOk,wk,wk2,wk1,wkM,wkL,wkLL,ybf,hcl,zlv,zlw,zle,both]
  · have d0:(e != 0)=true:=by simpa using h0
    rw [show finishR (m,l,e)=e by simp [finishR,h0]]
    refine ACalls.of_aw (Ω:=[(229,Ent.pure p_done),(235,Ent.pure p_RErr)]) (T:=assoc []) mixed (TblOk.cons ok_done (TblOk.cons ok_RErr TblOk.nil)) Tryz.func101 (by kernel_rfl) (by rfl) (rs:=[.tmp 2]) (by rfl) (by kernel_rfl) (by simp only [Tryz.ntmps101,yaz,yba];decide) (Nat.le_refl _) fun hcl hlt=>?_
    change aw _ _ _ (KI Tryz.prog [(229,Ent.pure p_done),(235,Ent.pure p_RErr)] (aEnd Tryz.prog [.tmp 2] H.nx _ _) []) _ _
    clear h hK hlt
    simp only [go_sem,zav,reduceCtorEq,Nat.reduceEqDiff,Nat.reduceAdd,Nat.reduceMul,Nat.reduceSub,Nat.reduceLeDiff,Nat.reduceLT,Int.reduceMul,Int.reduceAdd,Int.reduceSub,Int.reduceToNat,byq,hcs,hid,p_done,p_RErr,onR,onRo_some,onRo_nil,d0,zlt]
    simp (disch:=first | assumption | omega | (simp;done) | (simp;omega) | (simp only [bt,and_true];first | done | omega | (simp;done))) [↓zmi,beq,ybc,ybd,ybe,endOk,wk,wk2,wk1,wkM,wkL,wkLL,ybf,hcl,hle,zlv,zle]
end Go.AL

