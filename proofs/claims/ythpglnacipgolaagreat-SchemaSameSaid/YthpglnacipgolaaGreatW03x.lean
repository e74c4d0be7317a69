/- Contracts and plain laws, a part of the proof; no condition of its own. -/
import Derived.Test.YthpglnacipgolaaGreatW03u
open List renaming length_cons → yaz, length_nil → yba, length_map → ybb, take_of_length_le → ybc, drop_append → ybd, take_append → ybe, drop_eq_nil_of_le → ybf, cons_append → yal, nil_append → yak, take_succ_cons → yaq, take_zero → yar, drop_succ_cons → yao, drop_zero → yap
open Go Go.AL Go.Proofs
namespace Go.AL
set_option linter.all false
set_option maxRecDepth 10000

def p_ySamePar:List AV→AHeap→(AV→Prop)→Prop
  | [.agg l,.agg k],_,K=>∃ x y:Sch,(l=schC x∧k=schC y∧CSch x∧CSch y)∧K (.bool (eqL eqFld x.fields y.fields&&(eqL eqHdr x.headers y.headers&&eqL eqSta x.states y.states)))
  | _,_,_=>False
set_option maxHeartbeats 16000000 in
theorem ok_ySamePar:EntOk Tryz.prog 123 (Ent.pure p_ySamePar):=by
  refine EntOk.pure fun args H K h=>?_
  unfold p_ySamePar at h
  split at h
  rotate_left
  · exact h.elim
  rename_i l k
  obtain ⟨X,Y,⟨rfl,rfl,hX,hY⟩,hK⟩:=h
  refine ⟨_,hK,?_⟩
  clear hK
  have hC1:=lt_sch (n:=H.nx+1) X
  have hC2:=lt_sch (n:=H.nx+1+1) Y
  simp only [schAV,znl] at hC1 hC2
  have hl1:=hX.h
  have hl2:=hX.s
  obtain ⟨A0,hA⟩:∃ R,(eqL eqFld X.fields Y.fields)=R:=⟨_,rfl⟩
  obtain ⟨B1,hB1⟩:∃ R,eqL eqHdr X.headers Y.headers=R:=⟨_,rfl⟩
  obtain ⟨B2,hB2⟩:∃ R,eqL eqSta X.states Y.states=R:=⟨_,rfl⟩
  rw [hA,hB1,hB2]
  cases A0
  · rw [Bool.false_and]
    refine ACalls.of_aw (Ω:=[(241,Ent.pure p_ysFld),(127,Ent.pure p_ysInt),(242,Ent.pure p_ysCas)]) (T:=assoc []) mixed (TblOk.cons ok_ysFld (TblOk.cons ok_ysInt (TblOk.cons ok_ysCas TblOk.nil))) Tryz.func123 (by kernel_rfl) (by rfl) (rs:=[.tmp 4]) (by rfl) (by kernel_rfl) (by simp only [Tryz.ntmps123,yaz,yba];decide) (Nat.le_refl _) fun hcl hlt=>?_
    change aw _ _ _ (KI Tryz.prog [(241,Ent.pure p_ysFld),(127,Ent.pure p_ysInt),(242,Ent.pure p_ysCas)] (aEnd Tryz.prog [.tmp 4] H.nx _ _ (assoc [])) []) _ _
    clear hlt
    simp only [go_sem,p_ysFld,schC,ybb,true_and]
    refine ⟨X.fields,Y.fields,⟨rfl,rfl,hX.f,hY.f⟩,?_⟩
    try simp only [go_sem,hA,Bool.not_true,Bool.not_false,ybb]
    first
      | (simp (disch:=first | assumption | omega | (simp;done) | (simp;omega) | (simp only [bt,and_true];first | done | omega | (simp;done))) [↓zmi,beq,ybc,ybd,ybe,endOk,wk,wk2,wk1,wkM,wkL,wkLL,ybf,hcl];done)
      | (simp (disch:=first | assumption | omega | (simp;done) | (simp;omega) | (simp only [bt,and_true];first | done | omega | (simp;done))) [↓zmi,beq,ybc,ybd,ybe,endOk,wk,wk2,wk1,wkM,wkL,wkLL,ybf,hcl];repeat (first | exact AHeap.Le.refl _ | refine AHeap.Le.push ?_ _))
      | (refine ⟨?_,by repeat (first | exact AHeap.Le.refl _ | refine AHeap.Le.push ?_ _),hcl,?_⟩
         · simp [wk,wk2,wk1]
         · simp [zna];done)
  by_cases hlen_Hdr:X.headers.length=Y.headers.length
  case neg =>
    rw [eqL_len hlen_Hdr] at hB1
    subst hB1
    have d0:((X.headers.length:Int) != (Y.headers.length:Int))=true:=by rw [bne_iff_ne];omega
    simp only [Bool.false_and,Bool.and_false]
    refine ACalls.of_aw (Ω:=[(241,Ent.pure p_ysFld),(127,Ent.pure p_ysInt),(242,Ent.pure p_ysCas)]) (T:=assoc []) mixed (TblOk.cons ok_ysFld (TblOk.cons ok_ysInt (TblOk.cons ok_ysCas TblOk.nil))) Tryz.func123 (by kernel_rfl) (by rfl) (rs:=[.tmp 4]) (by rfl) (by kernel_rfl) (by simp only [Tryz.ntmps123,yaz,yba];decide) (Nat.le_refl _) fun hcl hlt=>?_
    change aw _ _ _ (KI Tryz.prog [(241,Ent.pure p_ysFld),(127,Ent.pure p_ysInt),(242,Ent.pure p_ysCas)] (aEnd Tryz.prog [.tmp 4] H.nx _ _ (assoc [])) []) _ _
    clear hlt
    simp only [go_sem,p_ysFld,schC,ybb,true_and,d0]
    refine ⟨X.fields,Y.fields,⟨rfl,rfl,hX.f,hY.f⟩,?_⟩
    try simp only [go_sem,hA,Bool.not_true,Bool.not_false,ybb,d0]
    first
      | (simp (disch:=first | assumption | omega | (simp;done) | (simp;omega) | (simp only [bt,and_true];first | done | omega | (simp;done))) [↓zmi,beq,ybc,ybd,ybe,endOk,wk,wk2,wk1,wkM,wkL,wkLL,ybf,hcl];done)
      | (simp (disch:=first | assumption | omega | (simp;done) | (simp;omega) | (simp only [bt,and_true];first | done | omega | (simp;done))) [↓zmi,beq,ybc,ybd,ybe,endOk,wk,wk2,wk1,wkM,wkL,wkLL,ybf,hcl];repeat (first | exact AHeap.Le.refl _ | refine AHeap.Le.push ?_ _))
      | (refine ⟨?_,by repeat (first | exact AHeap.Le.refl _ | refine AHeap.Le.push ?_ _),hcl,?_⟩
         · simp [wk,wk2,wk1]
         · simp [zna];done)
  have d1:((X.headers.length:Int) != (Y.headers.length:Int))=false:=by rw [hlen_Hdr];simp
  by_cases hlen_Sta:X.states.length=Y.states.length
  case neg =>
    rw [eqL_len hlen_Sta] at hB2
    subst hB2
    have d0:((X.states.length:Int) != (Y.states.length:Int))=true:=by rw [bne_iff_ne];omega
    simp only [Bool.false_and,Bool.and_false]
    refine ACalls.of_aw (Ω:=[(241,Ent.pure p_ysFld),(127,Ent.pure p_ysInt),(242,Ent.pure p_ysCas)]) (T:=assoc []) mixed (TblOk.cons ok_ysFld (TblOk.cons ok_ysInt (TblOk.cons ok_ysCas TblOk.nil))) Tryz.func123 (by kernel_rfl) (by rfl) (rs:=[.tmp 4]) (by rfl) (by kernel_rfl) (by simp only [Tryz.ntmps123,yaz,yba];decide) (Nat.le_refl _) fun hcl hlt=>?_
    change aw _ _ _ (KI Tryz.prog [(241,Ent.pure p_ysFld),(127,Ent.pure p_ysInt),(242,Ent.pure p_ysCas)] (aEnd Tryz.prog [.tmp 4] H.nx _ _ (assoc [])) []) _ _
    clear hlt
    simp only [go_sem,p_ysFld,schC,ybb,true_and,d0,d1]
    refine ⟨X.fields,Y.fields,⟨rfl,rfl,hX.f,hY.f⟩,?_⟩
    try simp only [go_sem,hA,Bool.not_true,Bool.not_false,ybb,d0,d1]
    first
      | (simp (disch:=first | assumption | omega | (simp;done) | (simp;omega) | (simp only [bt,and_true];first | done | omega | (simp;done))) [↓zmi,beq,ybc,ybd,ybe,endOk,wk,wk2,wk1,wkM,wkL,wkLL,ybf,hcl];done)
      | (simp (disch:=first | assumption | omega | (simp;done) | (simp;omega) | (simp only [bt,and_true];first | done | omega | (simp;done))) [↓zmi,beq,ybc,ybd,ybe,endOk,wk,wk2,wk1,wkM,wkL,wkLL,ybf,hcl];repeat (first | exact AHeap.Le.refl _ | refine AHeap.Le.push ?_ _))
      | (refine ⟨?_,by repeat (first | exact AHeap.Le.refl _ | refine AHeap.Le.push ?_ _),hcl,?_⟩
         · simp [wk,wk2,wk1]
         · simp [zna];done)
  have d2:((X.states.length:Int) != (Y.states.length:Int))=false:=by rw [hlen_Sta];simp
  refine ACalls.of_aw (Ω:=[(241,Ent.pure p_ysFld),(127,Ent.pure p_ysInt),(242,Ent.pure p_ysCas)]) (T:=assoc []) mixed (TblOk.cons ok_ysFld (TblOk.cons ok_ysInt (TblOk.cons ok_ysCas TblOk.nil))) Tryz.func123 (by kernel_rfl) (by rfl) (rs:=[.tmp 4]) (by rfl) (by kernel_rfl) (by simp only [Tryz.ntmps123,yaz,yba];decide) (Nat.le_refl _) fun hcl hlt=>?_
  change aw _ _ _ (KI Tryz.prog [(241,Ent.pure p_ysFld),(127,Ent.pure p_ysInt),(242,Ent.pure p_ysCas)] (aEnd Tryz.prog [.tmp 4] H.nx _ _ (assoc [])) []) _ _
  clear hlt
  simp only [go_sem,p_ysFld,schC,ybb,true_and,d1,d2]
  refine ⟨X.fields,Y.fields,⟨rfl,rfl,hX.f,hY.f⟩,?_⟩
  try simp only [go_sem,hA,Bool.not_true,Bool.not_false,ybb,d1,d2]
  have hcl2:((H.push (.cells (schC X))).push (.cells (schC Y))).Closed:=closed_cells (closed_cells hcl hC1) hC2
  refine loop_introW (A:=Nat) (fun k=>[(2,.ptr H.nx 0),(3,.ptr (H.nx+1) 0),(36,.slice .any 3 (X.headers.map headerAV)),(37,.int .i64 (X.headers.length:Int)),(38,.int .i64 (k:Int))]) (fun _=>((H.push (.cells (schC X))).push (.cells (schC Y)))) (fun k=>k≤X.headers.length∧eqL eqHdr (X.headers.drop k) (Y.headers.drop k)=B1) (fun k=>X.headers.length - k) 0 ⟨by omega,hB1⟩ ?_ fun k hk=>?_
  · refine ⟨by simp only [zkk,zkp,zky];omega,by repeat (first | exact AHeap.Le.refl _ | refine AHeap.Le.push ?_ _),hcl2,?_,?_⟩
    · first | (simp [ltF,zky,znh,zmz,lt_map lt_headerAV];done) | (simp [ltF,zky,znh,zmz,lt_map lt_headerAV];omega)
    · simp [subW,wk2,wk1,wkM,Fr.get]
  obtain ⟨hk,hq⟩:=hk
  simp only [go_sem]
  refine cond_split (fun hc=>?_) (fun hc=>?_)
  · have hk':k<X.headers.length:=by simp at hc;omega
    have hk2:k<Y.headers.length:=by omega
    obtain ⟨x,hx⟩:∃ x,x=X.headers[k]:=⟨_,rfl⟩
    obtain ⟨y,hy⟩:∃ y,y=Y.headers[k]:=⟨_,rfl⟩
    have hd:X.headers.drop k=x::X.headers.drop (k+1):=by rw [hx];exact List.drop_eq_getElem_cons hk'
    have hd2:Y.headers.drop k=y::Y.headers.drop (k+1):=by rw [hy];exact List.drop_eq_getElem_cons hk2
    have hg:=getD_map (f:=headerAV) (l:=X.headers) (k:=k) (x:=x) (by rw [List.getElem?_eq_getElem hk',hx])
    have hg2:=getD_map (f:=headerAV) (l:=Y.headers) (k:=k) (x:=y) (by rw [List.getElem?_eq_getElem hk2,hy])
    have e5:IntKind.i64.wrap ((k:Int)+1)=((k+1:Nat):Int):=by rw [wrap_i64]<;>omega
    have hox:CHdr x:=hX.h' x (by rw [hx];exact List.getElem_mem hk')
    have hoy:CHdr y:=hY.h' y (by rw [hy];exact List.getElem_mem hk2)
    rw [hd,hd2] at hq
    unfold eqL at hq
    obtain ⟨G,hG⟩:∃ G,eqHdr x y=G:=⟨_,rfl⟩
    rw [hG] at hq
    unfold eqHdr at hG
    simp only [go_sem,Int.toNat_natCast,ybb,hg,hg2,headerAV,schC]
    (repeat with_reducible refine And.intro (by first | assumption | decide | omega) ?_)
    try simp only [go_sem,Int.toNat_natCast,ybb,hg,hg2,headerAV]
    (repeat with_reducible refine And.intro (by first | assumption | decide | omega) ?_)
    cases h0:(x.id==y.id)
    · have b0:(x.id != y.id)=true:=by rw [bne,h0];rfl
      simp only [h0,Bool.false_and,Bool.and_false,Bool.true_and] at hG
      subst hG
      rw [Bool.false_and] at hq
      try simp only [go_sem,byq,p_ysInt,h0,b0,true_and,Bool.bne_false,Bool.bne_true,Bool.not_true,Bool.not_false]
      rw [← hq]
      simp only [Bool.false_and,Bool.and_false]
      try simp only [go_sem]
      first
        | (simp (disch:=first | assumption | omega | (simp;done) | (simp;omega) | (simp only [bt,and_true];first | done | omega | (simp;done))) [↓zmi,beq,ybc,ybd,ybe,endOk,wk,wk2,wk1,wkM,wkL,wkLL,ybf,hcl];done)
        | (simp (disch:=first | assumption | omega | (simp;done) | (simp;omega) | (simp only [bt,and_true];first | done | omega | (simp;done))) [↓zmi,beq,ybc,ybd,ybe,endOk,wk,wk2,wk1,wkM,wkL,wkLL,ybf,hcl];repeat (first | exact AHeap.Le.refl _ | refine AHeap.Le.push ?_ _))
        | (refine ⟨?_,by repeat (first | exact AHeap.Le.refl _ | refine AHeap.Le.push ?_ _),hcl,?_⟩
           · simp [wk,wk2,wk1]
           · simp [zna];done)
    have b0:(x.id != y.id)=false:=by rw [bne,h0];rfl
    cases h1:(x.name==y.name)
    · have b1:(x.name != y.name)=true:=by rw [bne,h1];rfl
      simp only [h0,h1,Bool.false_and,Bool.and_false,Bool.true_and] at hG
      subst hG
      rw [Bool.false_and] at hq
      try simp only [go_sem,byq,p_ysInt,h0,b0,h1,b1,true_and,Bool.bne_false,Bool.bne_true,Bool.not_true,Bool.not_false]
      rw [← hq]
      simp only [Bool.false_and,Bool.and_false]
      try simp only [go_sem]
      first
        | (simp (disch:=first | assumption | omega | (simp;done) | (simp;omega) | (simp only [bt,and_true];first | done | omega | (simp;done))) [↓zmi,beq,ybc,ybd,ybe,endOk,wk,wk2,wk1,wkM,wkL,wkLL,ybf,hcl];done)
        | (simp (disch:=first | assumption | omega | (simp;done) | (simp;omega) | (simp only [bt,and_true];first | done | omega | (simp;done))) [↓zmi,beq,ybc,ybd,ybe,endOk,wk,wk2,wk1,wkM,wkL,wkLL,ybf,hcl];repeat (first | exact AHeap.Le.refl _ | refine AHeap.Le.push ?_ _))
        | (refine ⟨?_,by repeat (first | exact AHeap.Le.refl _ | refine AHeap.Le.push ?_ _),hcl,?_⟩
           · simp [wk,wk2,wk1]
           · simp [zna];done)
    have b1:(x.name != y.name)=false:=by rw [bne,h1];rfl
    cases h2:(eqL eqI x.fields y.fields)
    · simp only [h0,h1,h2,Bool.false_and,Bool.and_false,Bool.true_and] at hG
      subst hG
      rw [Bool.false_and] at hq
      try simp only [go_sem,byq,p_ysInt,h0,b0,h1,b1,h2,true_and,Bool.bne_false,Bool.bne_true,Bool.not_true,Bool.not_false]
      refine ⟨x.fields,y.fields,⟨rfl,rfl,hox,hoy⟩,?_⟩
      try simp only [go_sem,byq,p_ysInt,h0,b0,h1,b1,h2,true_and,Bool.bne_false,Bool.bne_true,Bool.not_true,Bool.not_false]
      rw [← hq]
      simp only [Bool.false_and,Bool.and_false]
      try simp only [go_sem]
      first
        | (simp (disch:=first | assumption | omega | (simp;done) | (simp;omega) | (simp only [bt,and_true];first | done | omega | (simp;done))) [↓zmi,beq,ybc,ybd,ybe,endOk,wk,wk2,wk1,wkM,wkL,wkLL,ybf,hcl];done)
        | (simp (disch:=first | assumption | omega | (simp;done) | (simp;omega) | (simp only [bt,and_true];first | done | omega | (simp;done))) [↓zmi,beq,ybc,ybd,ybe,endOk,wk,wk2,wk1,wkM,wkL,wkLL,ybf,hcl];repeat (first | exact AHeap.Le.refl _ | refine AHeap.Le.push ?_ _))
        | (refine ⟨?_,by repeat (first | exact AHeap.Le.refl _ | refine AHeap.Le.push ?_ _),hcl,?_⟩
           · simp [wk,wk2,wk1]
           · simp [zna];done)
    simp only [h0,h1,h2,Bool.and_true,Bool.true_and] at hG
    subst hG
    rw [Bool.true_and] at hq
    try simp only [go_sem,byq,p_ysInt,h0,b0,h1,b1,h2,true_and,Bool.bne_false,Bool.bne_true,Bool.not_true,Bool.not_false]
    refine ⟨x.fields,y.fields,⟨rfl,rfl,hox,hoy⟩,?_⟩
    try simp only [go_sem,byq,p_ysInt,h0,b0,h1,b1,h2,true_and,Bool.bne_false,Bool.bne_true,Bool.not_true,Bool.not_false]
    try simp only [go_sem,e5]
    refine ⟨k+1,⟨by omega,hq⟩,by omega,by (try simp only [zkk,zkp,zky]);omega,by repeat (first | exact AHeap.Le.refl _ | refine AHeap.Le.push ?_ _),hcl2,?_,?_⟩
    · first | (simp [ltF,zky,znh,zmz,lt_map lt_headerAV];done) | (simp [ltF,zky,znh,zmz,lt_map lt_headerAV];omega)
    · simp [subW,wk2,wk1,wkM,Fr.get]
  have hk':k=X.headers.length:=by simp at hc;omega
  subst hk'
  rw [List.drop_length,hlen_Hdr,List.drop_length] at hq
  unfold eqL at hq
  subst hq
  simp only [go_sem,schC,ybb]
  refine loop_introW (A:=Nat) (fun k=>[(3,.ptr (H.nx+1) 0),(70,.slice .any 5 (X.states.map stateAV)),(71,.int .i64 (X.states.length:Int)),(72,.int .i64 (k:Int))]) (fun _=>((H.push (.cells (schC X))).push (.cells (schC Y)))) (fun k=>k≤X.states.length∧eqL eqSta (X.states.drop k) (Y.states.drop k)=B2) (fun k=>X.states.length - k) 0 ⟨by omega,hB2⟩ ?_ fun k hk=>?_
  · refine ⟨by simp only [zkk,zkp,zky];omega,by repeat (first | exact AHeap.Le.refl _ | refine AHeap.Le.push ?_ _),hcl2,?_,?_⟩
    · first | (simp [ltF,zky,znh,zmz,lt_map lt_stateAV];done) | (simp [ltF,zky,znh,zmz,lt_map lt_stateAV];omega)
    · simp [subW,wk2,wk1,wkM,Fr.get]
  obtain ⟨hk,hq⟩:=hk
  simp only [go_sem]
  refine cond_split (fun hc=>?_) (fun hc=>?_)
  · have hk':k<X.states.length:=by simp at hc;omega
    have hk2:k<Y.states.length:=by omega
    obtain ⟨x,hx⟩:∃ x,x=X.states[k]:=⟨_,rfl⟩
    obtain ⟨y,hy⟩:∃ y,y=Y.states[k]:=⟨_,rfl⟩
    have hd:X.states.drop k=x::X.states.drop (k+1):=by rw [hx];exact List.drop_eq_getElem_cons hk'
    have hd2:Y.states.drop k=y::Y.states.drop (k+1):=by rw [hy];exact List.drop_eq_getElem_cons hk2
    have hg:=getD_map (f:=stateAV) (l:=X.states) (k:=k) (x:=x) (by rw [List.getElem?_eq_getElem hk',hx])
    have hg2:=getD_map (f:=stateAV) (l:=Y.states) (k:=k) (x:=y) (by rw [List.getElem?_eq_getElem hk2,hy])
    have e5:IntKind.i64.wrap ((k:Int)+1)=((k+1:Nat):Int):=by rw [wrap_i64]<;>omega
    have hox:CSta x:=hX.s' x (by rw [hx];exact List.getElem_mem hk')
    have hoy:CSta y:=hY.s' y (by rw [hy];exact List.getElem_mem hk2)
    rw [hd,hd2] at hq
    unfold eqL at hq
    obtain ⟨G,hG⟩:∃ G,eqSta x y=G:=⟨_,rfl⟩
    rw [hG] at hq
    unfold eqSta at hG
    simp only [go_sem,Int.toNat_natCast,ybb,hg,hg2,stateAV,schC]
    (repeat with_reducible refine And.intro (by first | assumption | decide | omega) ?_)
    try simp only [go_sem,Int.toNat_natCast,ybb,hg,hg2,stateAV]
    (repeat with_reducible refine And.intro (by first | assumption | decide | omega) ?_)
    cases h0:(x.id==y.id)
    · have b0:(x.id != y.id)=true:=by rw [bne,h0];rfl
      simp only [h0,Bool.false_and,Bool.and_false,Bool.true_and] at hG
      subst hG
      rw [Bool.false_and] at hq
      try simp only [go_sem,byq,p_ysCas,h0,b0,true_and,Bool.bne_false,Bool.bne_true,Bool.not_true,Bool.not_false]
      rw [← hq]
      simp only [Bool.false_and,Bool.and_false]
      try simp only [go_sem]
      first
        | (simp (disch:=first | assumption | omega | (simp;done) | (simp;omega) | (simp only [bt,and_true];first | done | omega | (simp;done))) [↓zmi,beq,ybc,ybd,ybe,endOk,wk,wk2,wk1,wkM,wkL,wkLL,ybf,hcl];done)
        | (simp (disch:=first | assumption | omega | (simp;done) | (simp;omega) | (simp only [bt,and_true];first | done | omega | (simp;done))) [↓zmi,beq,ybc,ybd,ybe,endOk,wk,wk2,wk1,wkM,wkL,wkLL,ybf,hcl];repeat (first | exact AHeap.Le.refl _ | refine AHeap.Le.push ?_ _))
        | (refine ⟨?_,by repeat (first | exact AHeap.Le.refl _ | refine AHeap.Le.push ?_ _),hcl,?_⟩
           · simp [wk,wk2,wk1]
           · simp [zna];done)
    have b0:(x.id != y.id)=false:=by rw [bne,h0];rfl
    cases h1:(x.header==y.header)
    · have b1:(x.header != y.header)=true:=by rw [bne,h1];rfl
      simp only [h0,h1,Bool.false_and,Bool.and_false,Bool.true_and] at hG
      subst hG
      rw [Bool.false_and] at hq
      try simp only [go_sem,byq,p_ysCas,h0,b0,h1,b1,true_and,Bool.bne_false,Bool.bne_true,Bool.not_true,Bool.not_false]
      rw [← hq]
      simp only [Bool.false_and,Bool.and_false]
      try simp only [go_sem]
      first
        | (simp (disch:=first | assumption | omega | (simp;done) | (simp;omega) | (simp only [bt,and_true];first | done | omega | (simp;done))) [↓zmi,beq,ybc,ybd,ybe,endOk,wk,wk2,wk1,wkM,wkL,wkLL,ybf,hcl];done)
        | (simp (disch:=first | assumption | omega | (simp;done) | (simp;omega) | (simp only [bt,and_true];first | done | omega | (simp;done))) [↓zmi,beq,ybc,ybd,ybe,endOk,wk,wk2,wk1,wkM,wkL,wkLL,ybf,hcl];repeat (first | exact AHeap.Le.refl _ | refine AHeap.Le.push ?_ _))
        | (refine ⟨?_,by repeat (first | exact AHeap.Le.refl _ | refine AHeap.Le.push ?_ _),hcl,?_⟩
           · simp [wk,wk2,wk1]
           · simp [zna];done)
    have b1:(x.header != y.header)=false:=by rw [bne,h1];rfl
    cases h2:(x.select==y.select)
    · have b2:(x.select != y.select)=true:=by rw [bne,h2];rfl
      simp only [h0,h1,h2,Bool.false_and,Bool.and_false,Bool.true_and] at hG
      subst hG
      rw [Bool.false_and] at hq
      try simp only [go_sem,byq,p_ysCas,h0,b0,h1,b1,h2,b2,true_and,Bool.bne_false,Bool.bne_true,Bool.not_true,Bool.not_false]
      rw [← hq]
      simp only [Bool.false_and,Bool.and_false]
      try simp only [go_sem]
      first
        | (simp (disch:=first | assumption | omega | (simp;done) | (simp;omega) | (simp only [bt,and_true];first | done | omega | (simp;done))) [↓zmi,beq,ybc,ybd,ybe,endOk,wk,wk2,wk1,wkM,wkL,wkLL,ybf,hcl];done)
        | (simp (disch:=first | assumption | omega | (simp;done) | (simp;omega) | (simp only [bt,and_true];first | done | omega | (simp;done))) [↓zmi,beq,ybc,ybd,ybe,endOk,wk,wk2,wk1,wkM,wkL,wkLL,ybf,hcl];repeat (first | exact AHeap.Le.refl _ | refine AHeap.Le.push ?_ _))
        | (refine ⟨?_,by repeat (first | exact AHeap.Le.refl _ | refine AHeap.Le.push ?_ _),hcl,?_⟩
           · simp [wk,wk2,wk1]
           · simp [zna];done)
    have b2:(x.select != y.select)=false:=by rw [bne,h2];rfl
    cases h3:(x.dflt==y.dflt)
    · have b3:(x.dflt != y.dflt)=true:=by rw [bne,h3];rfl
      simp only [h0,h1,h2,h3,Bool.false_and,Bool.and_false,Bool.true_and] at hG
      subst hG
      rw [Bool.false_and] at hq
      try simp only [go_sem,byq,p_ysCas,h0,b0,h1,b1,h2,b2,h3,b3,true_and,Bool.bne_false,Bool.bne_true,Bool.not_true,Bool.not_false]
      rw [← hq]
      simp only [Bool.false_and,Bool.and_false]
      try simp only [go_sem]
      first
        | (simp (disch:=first | assumption | omega | (simp;done) | (simp;omega) | (simp only [bt,and_true];first | done | omega | (simp;done))) [↓zmi,beq,ybc,ybd,ybe,endOk,wk,wk2,wk1,wkM,wkL,wkLL,ybf,hcl];done)
        | (simp (disch:=first | assumption | omega | (simp;done) | (simp;omega) | (simp only [bt,and_true];first | done | omega | (simp;done))) [↓zmi,beq,ybc,ybd,ybe,endOk,wk,wk2,wk1,wkM,wkL,wkLL,ybf,hcl];repeat (first | exact AHeap.Le.refl _ | refine AHeap.Le.push ?_ _))
        | (refine ⟨?_,by repeat (first | exact AHeap.Le.refl _ | refine AHeap.Le.push ?_ _),hcl,?_⟩
           · simp [wk,wk2,wk1]
           · simp [zna];done)
    have b3:(x.dflt != y.dflt)=false:=by rw [bne,h3];rfl
    cases h4:(eqL eqCas x.cases y.cases)
    · simp only [h0,h1,h2,h3,h4,Bool.false_and,Bool.and_false,Bool.true_and] at hG
      subst hG
      rw [Bool.false_and] at hq
      try simp only [go_sem,byq,p_ysCas,h0,b0,h1,b1,h2,b2,h3,b3,h4,true_and,Bool.bne_false,Bool.bne_true,Bool.not_true,Bool.not_false]
      refine ⟨x.cases,y.cases,⟨rfl,rfl,hox,hoy⟩,?_⟩
      try simp only [go_sem,byq,p_ysCas,h0,b0,h1,b1,h2,b2,h3,b3,h4,true_and,Bool.bne_false,Bool.bne_true,Bool.not_true,Bool.not_false]
      rw [← hq]
      simp only [Bool.false_and,Bool.and_false]
      try simp only [go_sem]
      first
        | (simp (disch:=first | assumption | omega | (simp;done) | (simp;omega) | (simp only [bt,and_true];first | done | omega | (simp;done))) [↓zmi,beq,ybc,ybd,ybe,endOk,wk,wk2,wk1,wkM,wkL,wkLL,ybf,hcl];done)
        | (simp (disch:=first | assumption | omega | (simp;done) | (simp;omega) | (simp only [bt,and_true];first | done | omega | (simp;done))) [↓zmi,beq,ybc,ybd,ybe,endOk,wk,wk2,wk1,wkM,wkL,wkLL,ybf,hcl];repeat (first | exact AHeap.Le.refl _ | refine AHeap.Le.push ?_ _))
        | (refine ⟨?_,by repeat (first | exact AHeap.Le.refl _ | refine AHeap.Le.push ?_ _),hcl,?_⟩
           · simp [wk,wk2,wk1]
           · simp [zna];done)
    simp only [h0,h1,h2,h3,h4,Bool.and_true,Bool.true_and] at hG
    subst hG
    rw [Bool.true_and] at hq
    try simp only [go_sem,byq,p_ysCas,h0,b0,h1,b1,h2,b2,h3,b3,h4,true_and,Bool.bne_false,Bool.bne_true,Bool.not_true,Bool.not_false]
    refine ⟨x.cases,y.cases,⟨rfl,rfl,hox,hoy⟩,?_⟩
    try simp only [go_sem,byq,p_ysCas,h0,b0,h1,b1,h2,b2,h3,b3,h4,true_and,Bool.bne_false,Bool.bne_true,Bool.not_true,Bool.not_false]
    try simp only [go_sem,e5]
    refine ⟨k+1,⟨by omega,hq⟩,by omega,by (try simp only [zkk,zkp,zky]);omega,by repeat (first | exact AHeap.Le.refl _ | refine AHeap.Le.push ?_ _),hcl2,?_,?_⟩
    · first | (simp [ltF,zky,znh,zmz,lt_map lt_stateAV];done) | (simp [ltF,zky,znh,zmz,lt_map lt_stateAV];omega)
    · simp [subW,wk2,wk1,wkM,Fr.get]
  have hk':k=X.states.length:=by simp at hc;omega
  subst hk'
  rw [List.drop_length,hlen_Sta,List.drop_length] at hq
  unfold eqL at hq
  subst hq
  simp only [go_sem,Bool.true_and]
  first
    | (simp (disch:=first | assumption | omega | (simp;done) | (simp;omega) | (simp only [bt,and_true];first | done | omega | (simp;done))) [↓zmi,beq,ybc,ybd,ybe,endOk,wk,wk2,wk1,wkM,wkL,wkLL,ybf,hcl];done)
    | (simp (disch:=first | assumption | omega | (simp;done) | (simp;omega) | (simp only [bt,and_true];first | done | omega | (simp;done))) [↓zmi,beq,ybc,ybd,ybe,endOk,wk,wk2,wk1,wkM,wkL,wkLL,ybf,hcl];repeat (first | exact AHeap.Le.refl _ | refine AHeap.Le.push ?_ _))
    | (refine ⟨?_,by repeat (first | exact AHeap.Le.refl _ | refine AHeap.Le.push ?_ _),hcl,?_⟩
       · simp [wk,wk2,wk1]
       · simp [zna];done)
def p_ySameTab:List AV→AHeap→(AV→Prop)→Prop
  | [.agg l,.agg k],_,K=>∃ x y:Sch,(l=schC x∧k=schC y∧CSch x∧CSch y)∧K (.bool (true&&(eqL eqAct x.actions y.actions&&eqL eqTab x.tables y.tables)))
  | _,_,_=>False
set_option maxHeartbeats 16000000 in
theorem ok_ySameTab:EntOk Tryz.prog 124 (Ent.pure p_ySameTab):=by
  refine EntOk.pure fun args H K h=>?_
  unfold p_ySameTab at h
  split at h
  rotate_left
  · exact h.elim
  rename_i l k
  obtain ⟨X,Y,⟨rfl,rfl,hX,hY⟩,hK⟩:=h
  refine ⟨_,hK,?_⟩
  clear hK
  have hC1:=lt_sch (n:=H.nx+1) X
  have hC2:=lt_sch (n:=H.nx+1+1) Y
  simp only [schAV,znl] at hC1 hC2
  have hl1:=hX.a
  have hl2:=hX.t
  obtain ⟨A0,hA⟩:∃ R,(true)=R:=⟨_,rfl⟩
  obtain ⟨B1,hB1⟩:∃ R,eqL eqAct X.actions Y.actions=R:=⟨_,rfl⟩
  obtain ⟨B2,hB2⟩:∃ R,eqL eqTab X.tables Y.tables=R:=⟨_,rfl⟩
  rw [hB1,hB2]
  subst hA
  by_cases hlen_Act:X.actions.length=Y.actions.length
  case neg =>
    rw [eqL_len hlen_Act] at hB1
    subst hB1
    have d0:((X.actions.length:Int) != (Y.actions.length:Int))=true:=by rw [bne_iff_ne];omega
    simp only [Bool.false_and,Bool.and_false]
    refine ACalls.of_aw (Ω:=[(243,Ent.pure p_ysPar),(244,Ent.pure p_ysPri),(245,Ent.pure p_ysKey),(127,Ent.pure p_ysInt),(246,Ent.pure p_ysVal)]) (T:=assoc []) mixed (TblOk.cons ok_ysPar (TblOk.cons ok_ysPri (TblOk.cons ok_ysKey (TblOk.cons ok_ysInt (TblOk.cons ok_ysVal TblOk.nil))))) Tryz.func124 (by kernel_rfl) (by rfl) (rs:=[.tmp 4]) (by rfl) (by kernel_rfl) (by simp only [Tryz.ntmps124,yaz,yba];decide) (Nat.le_refl _) fun hcl hlt=>?_
    change aw _ _ _ (KI Tryz.prog [(243,Ent.pure p_ysPar),(244,Ent.pure p_ysPri),(245,Ent.pure p_ysKey),(127,Ent.pure p_ysInt),(246,Ent.pure p_ysVal)] (aEnd Tryz.prog [.tmp 4] H.nx _ _ (assoc [])) []) _ _
    clear hlt
    simp only [go_sem,schC,ybb,true_and,d0]
    first
      | (simp (disch:=first | assumption | omega | (simp;done) | (simp;omega) | (simp only [bt,and_true];first | done | omega | (simp;done))) [↓zmi,beq,ybc,ybd,ybe,endOk,wk,wk2,wk1,wkM,wkL,wkLL,ybf,hcl];done)
      | (simp (disch:=first | assumption | omega | (simp;done) | (simp;omega) | (simp only [bt,and_true];first | done | omega | (simp;done))) [↓zmi,beq,ybc,ybd,ybe,endOk,wk,wk2,wk1,wkM,wkL,wkLL,ybf,hcl];repeat (first | exact AHeap.Le.refl _ | refine AHeap.Le.push ?_ _))
      | (refine ⟨?_,by repeat (first | exact AHeap.Le.refl _ | refine AHeap.Le.push ?_ _),hcl,?_⟩
         · simp [wk,wk2,wk1]
         · simp [zna];done)
  have d1:((X.actions.length:Int) != (Y.actions.length:Int))=false:=by rw [hlen_Act];simp
  by_cases hlen_Tab:X.tables.length=Y.tables.length
  case neg =>
    rw [eqL_len hlen_Tab] at hB2
    subst hB2
    have d0:((X.tables.length:Int) != (Y.tables.length:Int))=true:=by rw [bne_iff_ne];omega
    simp only [Bool.false_and,Bool.and_false]
    refine ACalls.of_aw (Ω:=[(243,Ent.pure p_ysPar),(244,Ent.pure p_ysPri),(245,Ent.pure p_ysKey),(127,Ent.pure p_ysInt),(246,Ent.pure p_ysVal)]) (T:=assoc []) mixed (TblOk.cons ok_ysPar (TblOk.cons ok_ysPri (TblOk.cons ok_ysKey (TblOk.cons ok_ysInt (TblOk.cons ok_ysVal TblOk.nil))))) Tryz.func124 (by kernel_rfl) (by rfl) (rs:=[.tmp 4]) (by rfl) (by kernel_rfl) (by simp only [Tryz.ntmps124,yaz,yba];decide) (Nat.le_refl _) fun hcl hlt=>?_
    change aw _ _ _ (KI Tryz.prog [(243,Ent.pure p_ysPar),(244,Ent.pure p_ysPri),(245,Ent.pure p_ysKey),(127,Ent.pure p_ysInt),(246,Ent.pure p_ysVal)] (aEnd Tryz.prog [.tmp 4] H.nx _ _ (assoc [])) []) _ _
    clear hlt
    simp only [go_sem,schC,ybb,true_and,d0,d1]
    first
      | (simp (disch:=first | assumption | omega | (simp;done) | (simp;omega) | (simp only [bt,and_true];first | done | omega | (simp;done))) [↓zmi,beq,ybc,ybd,ybe,endOk,wk,wk2,wk1,wkM,wkL,wkLL,ybf,hcl];done)
      | (simp (disch:=first | assumption | omega | (simp;done) | (simp;omega) | (simp only [bt,and_true];first | done | omega | (simp;done))) [↓zmi,beq,ybc,ybd,ybe,endOk,wk,wk2,wk1,wkM,wkL,wkLL,ybf,hcl];repeat (first | exact AHeap.Le.refl _ | refine AHeap.Le.push ?_ _))
      | (refine ⟨?_,by repeat (first | exact AHeap.Le.refl _ | refine AHeap.Le.push ?_ _),hcl,?_⟩
         · simp [wk,wk2,wk1]
         · simp [zna];done)
  have d2:((X.tables.length:Int) != (Y.tables.length:Int))=false:=by rw [hlen_Tab];simp
  refine ACalls.of_aw (Ω:=[(243,Ent.pure p_ysPar),(244,Ent.pure p_ysPri),(245,Ent.pure p_ysKey),(127,Ent.pure p_ysInt),(246,Ent.pure p_ysVal)]) (T:=assoc []) mixed (TblOk.cons ok_ysPar (TblOk.cons ok_ysPri (TblOk.cons ok_ysKey (TblOk.cons ok_ysInt (TblOk.cons ok_ysVal TblOk.nil))))) Tryz.func124 (by kernel_rfl) (by rfl) (rs:=[.tmp 4]) (by rfl) (by kernel_rfl) (by simp only [Tryz.ntmps124,yaz,yba];decide) (Nat.le_refl _) fun hcl hlt=>?_
  change aw _ _ _ (KI Tryz.prog [(243,Ent.pure p_ysPar),(244,Ent.pure p_ysPri),(245,Ent.pure p_ysKey),(127,Ent.pure p_ysInt),(246,Ent.pure p_ysVal)] (aEnd Tryz.prog [.tmp 4] H.nx _ _ (assoc [])) []) _ _
  clear hlt
  simp only [go_sem,schC,ybb,true_and,d1,d2]
  have hcl2:((H.push (.cells (schC X))).push (.cells (schC Y))).Closed:=closed_cells (closed_cells hcl hC1) hC2
  refine loop_introW (A:=Nat) (fun k=>[(2,.ptr H.nx 0),(3,.ptr (H.nx+1) 0),(28,.slice .any 5 (X.actions.map actionAV)),(29,.int .i64 (X.actions.length:Int)),(30,.int .i64 (k:Int))]) (fun _=>((H.push (.cells (schC X))).push (.cells (schC Y)))) (fun k=>k≤X.actions.length∧eqL eqAct (X.actions.drop k) (Y.actions.drop k)=B1) (fun k=>X.actions.length - k) 0 ⟨by omega,hB1⟩ ?_ fun k hk=>?_
  · refine ⟨by simp only [zkk,zkp,zky];omega,by repeat (first | exact AHeap.Le.refl _ | refine AHeap.Le.push ?_ _),hcl2,?_,?_⟩
    · first | (simp [ltF,zky,znh,zmz,lt_map lt_actionAV];done) | (simp [ltF,zky,znh,zmz,lt_map lt_actionAV];omega)
    · simp [subW,wk2,wk1,wkM,Fr.get]
  obtain ⟨hk,hq⟩:=hk
  simp only [go_sem]
  refine cond_split (fun hc=>?_) (fun hc=>?_)
  · have hk':k<X.actions.length:=by simp at hc;omega
    have hk2:k<Y.actions.length:=by omega
    obtain ⟨x,hx⟩:∃ x,x=X.actions[k]:=⟨_,rfl⟩
    obtain ⟨y,hy⟩:∃ y,y=Y.actions[k]:=⟨_,rfl⟩
    have hd:X.actions.drop k=x::X.actions.drop (k+1):=by rw [hx];exact List.drop_eq_getElem_cons hk'
    have hd2:Y.actions.drop k=y::Y.actions.drop (k+1):=by rw [hy];exact List.drop_eq_getElem_cons hk2
    have hg:=getD_map (f:=actionAV) (l:=X.actions) (k:=k) (x:=x) (by rw [List.getElem?_eq_getElem hk',hx])
    have hg2:=getD_map (f:=actionAV) (l:=Y.actions) (k:=k) (x:=y) (by rw [List.getElem?_eq_getElem hk2,hy])
    have e5:IntKind.i64.wrap ((k:Int)+1)=((k+1:Nat):Int):=by rw [wrap_i64]<;>omega
    have hox:CAct x:=hX.a' x (by rw [hx];exact List.getElem_mem hk')
    have hoy:CAct y:=hY.a' y (by rw [hy];exact List.getElem_mem hk2)
    rw [hd,hd2] at hq
    unfold eqL at hq
    obtain ⟨G,hG⟩:∃ G,eqAct x y=G:=⟨_,rfl⟩
    rw [hG] at hq
    unfold eqAct at hG
    simp only [go_sem,Int.toNat_natCast,ybb,hg,hg2,actionAV,schC]
    (repeat with_reducible refine And.intro (by first | assumption | decide | omega) ?_)
    try simp only [go_sem,Int.toNat_natCast,ybb,hg,hg2,actionAV]
    (repeat with_reducible refine And.intro (by first | assumption | decide | omega) ?_)
    cases h0:(x.id==y.id)
    · have b0:(x.id != y.id)=true:=by rw [bne,h0];rfl
      simp only [h0,Bool.false_and,Bool.and_false,Bool.true_and] at hG
      subst hG
      rw [Bool.false_and] at hq
      try simp only [go_sem,byq,p_ysPar,p_ysPri,h0,b0,true_and,Bool.bne_false,Bool.bne_true,Bool.not_true,Bool.not_false]
      rw [← hq]
      simp only [Bool.false_and,Bool.and_false]
      try simp only [go_sem]
      first
        | (simp (disch:=first | assumption | omega | (simp;done) | (simp;omega) | (simp only [bt,and_true];first | done | omega | (simp;done))) [↓zmi,beq,ybc,ybd,ybe,endOk,wk,wk2,wk1,wkM,wkL,wkLL,ybf,hcl];done)
        | (simp (disch:=first | assumption | omega | (simp;done) | (simp;omega) | (simp only [bt,and_true];first | done | omega | (simp;done))) [↓zmi,beq,ybc,ybd,ybe,endOk,wk,wk2,wk1,wkM,wkL,wkLL,ybf,hcl];repeat (first | exact AHeap.Le.refl _ | refine AHeap.Le.push ?_ _))
        | (refine ⟨?_,by repeat (first | exact AHeap.Le.refl _ | refine AHeap.Le.push ?_ _),hcl,?_⟩
           · simp [wk,wk2,wk1]
           · simp [zna];done)
    have b0:(x.id != y.id)=false:=by rw [bne,h0];rfl
    cases h1:(x.name==y.name)
    · have b1:(x.name != y.name)=true:=by rw [bne,h1];rfl
      simp only [h0,h1,Bool.false_and,Bool.and_false,Bool.true_and] at hG
      subst hG
      rw [Bool.false_and] at hq
      try simp only [go_sem,byq,p_ysPar,p_ysPri,h0,b0,h1,b1,true_and,Bool.bne_false,Bool.bne_true,Bool.not_true,Bool.not_false]
      rw [← hq]
      simp only [Bool.false_and,Bool.and_false]
      try simp only [go_sem]
      first
        | (simp (disch:=first | assumption | omega | (simp;done) | (simp;omega) | (simp only [bt,and_true];first | done | omega | (simp;done))) [↓zmi,beq,ybc,ybd,ybe,endOk,wk,wk2,wk1,wkM,wkL,wkLL,ybf,hcl];done)
        | (simp (disch:=first | assumption | omega | (simp;done) | (simp;omega) | (simp only [bt,and_true];first | done | omega | (simp;done))) [↓zmi,beq,ybc,ybd,ybe,endOk,wk,wk2,wk1,wkM,wkL,wkLL,ybf,hcl];repeat (first | exact AHeap.Le.refl _ | refine AHeap.Le.push ?_ _))
        | (refine ⟨?_,by repeat (first | exact AHeap.Le.refl _ | refine AHeap.Le.push ?_ _),hcl,?_⟩
           · simp [wk,wk2,wk1]
           · simp [zna];done)
    have b1:(x.name != y.name)=false:=by rw [bne,h1];rfl
    cases h2:(x.restr==y.restr)
    · have b2:(x.restr != y.restr)=true:=by rw [bne,h2];rfl
      simp only [h0,h1,h2,Bool.false_and,Bool.and_false,Bool.true_and] at hG
      subst hG
      rw [Bool.false_and] at hq
      try simp only [go_sem,byq,p_ysPar,p_ysPri,h0,b0,h1,b1,h2,b2,true_and,Bool.bne_false,Bool.bne_true,Bool.not_true,Bool.not_false]
      rw [← hq]
      simp only [Bool.false_and,Bool.and_false]
      try simp only [go_sem]
      first
        | (simp (disch:=first | assumption | omega | (simp;done) | (simp;omega) | (simp only [bt,and_true];first | done | omega | (simp;done))) [↓zmi,beq,ybc,ybd,ybe,endOk,wk,wk2,wk1,wkM,wkL,wkLL,ybf,hcl];done)
        | (simp (disch:=first | assumption | omega | (simp;done) | (simp;omega) | (simp only [bt,and_true];first | done | omega | (simp;done))) [↓zmi,beq,ybc,ybd,ybe,endOk,wk,wk2,wk1,wkM,wkL,wkLL,ybf,hcl];repeat (first | exact AHeap.Le.refl _ | refine AHeap.Le.push ?_ _))
        | (refine ⟨?_,by repeat (first | exact AHeap.Le.refl _ | refine AHeap.Le.push ?_ _),hcl,?_⟩
           · simp [wk,wk2,wk1]
           · simp [zna];done)
    have b2:(x.restr != y.restr)=false:=by rw [bne,h2];rfl
    cases h3:(eqL eqPar x.params y.params)
    · simp only [h0,h1,h2,h3,Bool.false_and,Bool.and_false,Bool.true_and] at hG
      subst hG
      rw [Bool.false_and] at hq
      try simp only [go_sem,byq,p_ysPar,p_ysPri,h0,b0,h1,b1,h2,b2,h3,true_and,Bool.bne_false,Bool.bne_true,Bool.not_true,Bool.not_false]
      refine ⟨x.params,y.params,⟨rfl,rfl,hox.1,hoy.1⟩,?_⟩
      try simp only [go_sem,byq,p_ysPar,p_ysPri,h0,b0,h1,b1,h2,b2,h3,true_and,Bool.bne_false,Bool.bne_true,Bool.not_true,Bool.not_false]
      rw [← hq]
      simp only [Bool.false_and,Bool.and_false]
      try simp only [go_sem]
      first
        | (simp (disch:=first | assumption | omega | (simp;done) | (simp;omega) | (simp only [bt,and_true];first | done | omega | (simp;done))) [↓zmi,beq,ybc,ybd,ybe,endOk,wk,wk2,wk1,wkM,wkL,wkLL,ybf,hcl];done)
        | (simp (disch:=first | assumption | omega | (simp;done) | (simp;omega) | (simp only [bt,and_true];first | done | omega | (simp;done))) [↓zmi,beq,ybc,ybd,ybe,endOk,wk,wk2,wk1,wkM,wkL,wkLL,ybf,hcl];repeat (first | exact AHeap.Le.refl _ | refine AHeap.Le.push ?_ _))
        | (refine ⟨?_,by repeat (first | exact AHeap.Le.refl _ | refine AHeap.Le.push ?_ _),hcl,?_⟩
           · simp [wk,wk2,wk1]
           · simp [zna];done)
    cases h4:(eqL eqPri x.body y.body)
    · simp only [h0,h1,h2,h3,h4,Bool.false_and,Bool.and_false,Bool.true_and] at hG
      subst hG
      rw [Bool.false_and] at hq
      try simp only [go_sem,byq,p_ysPar,p_ysPri,h0,b0,h1,b1,h2,b2,h3,h4,true_and,Bool.bne_false,Bool.bne_true,Bool.not_true,Bool.not_false]
      refine ⟨x.params,y.params,⟨rfl,rfl,hox.1,hoy.1⟩,?_⟩
      try simp only [go_sem,byq,p_ysPar,p_ysPri,h0,b0,h1,b1,h2,b2,h3,h4,true_and,Bool.bne_false,Bool.bne_true,Bool.not_true,Bool.not_false]
      refine ⟨x.body,y.body,⟨rfl,rfl,hox.2,hoy.2⟩,?_⟩
      try simp only [go_sem,byq,p_ysPar,p_ysPri,h0,b0,h1,b1,h2,b2,h3,h4,true_and,Bool.bne_false,Bool.bne_true,Bool.not_true,Bool.not_false]
      rw [← hq]
      simp only [Bool.false_and,Bool.and_false]
      try simp only [go_sem]
      first
        | (simp (disch:=first | assumption | omega | (simp;done) | (simp;omega) | (simp only [bt,and_true];first | done | omega | (simp;done))) [↓zmi,beq,ybc,ybd,ybe,endOk,wk,wk2,wk1,wkM,wkL,wkLL,ybf,hcl];done)
        | (simp (disch:=first | assumption | omega | (simp;done) | (simp;omega) | (simp only [bt,and_true];first | done | omega | (simp;done))) [↓zmi,beq,ybc,ybd,ybe,endOk,wk,wk2,wk1,wkM,wkL,wkLL,ybf,hcl];repeat (first | exact AHeap.Le.refl _ | refine AHeap.Le.push ?_ _))
        | (refine ⟨?_,by repeat (first | exact AHeap.Le.refl _ | refine AHeap.Le.push ?_ _),hcl,?_⟩
           · simp [wk,wk2,wk1]
           · simp [zna];done)
    simp only [h0,h1,h2,h3,h4,Bool.and_true,Bool.true_and] at hG
    subst hG
    rw [Bool.true_and] at hq
    try simp only [go_sem,byq,p_ysPar,p_ysPri,h0,b0,h1,b1,h2,b2,h3,h4,true_and,Bool.bne_false,Bool.bne_true,Bool.not_true,Bool.not_false]
    refine ⟨x.params,y.params,⟨rfl,rfl,hox.1,hoy.1⟩,?_⟩
    try simp only [go_sem,byq,p_ysPar,p_ysPri,h0,b0,h1,b1,h2,b2,h3,h4,true_and,Bool.bne_false,Bool.bne_true,Bool.not_true,Bool.not_false]
    refine ⟨x.body,y.body,⟨rfl,rfl,hox.2,hoy.2⟩,?_⟩
    try simp only [go_sem,byq,p_ysPar,p_ysPri,h0,b0,h1,b1,h2,b2,h3,h4,true_and,Bool.bne_false,Bool.bne_true,Bool.not_true,Bool.not_false]
    try simp only [go_sem,e5]
    refine ⟨k+1,⟨by omega,hq⟩,by omega,by (try simp only [zkk,zkp,zky]);omega,by repeat (first | exact AHeap.Le.refl _ | refine AHeap.Le.push ?_ _),hcl2,?_,?_⟩
    · first | (simp [ltF,zky,znh,zmz,lt_map lt_actionAV];done) | (simp [ltF,zky,znh,zmz,lt_map lt_actionAV];omega)
    · simp [subW,wk2,wk1,wkM,Fr.get]
  have hk':k=X.actions.length:=by simp at hc;omega
  subst hk'
  rw [List.drop_length,hlen_Act,List.drop_length] at hq
  unfold eqL at hq
  subst hq
  simp only [go_sem,schC,ybb]
  refine loop_introW (A:=Nat) (fun k=>[(3,.ptr (H.nx+1) 0),(77,.slice .any 8 (X.tables.map tableAV)),(78,.int .i64 (X.tables.length:Int)),(79,.int .i64 (k:Int))]) (fun _=>((H.push (.cells (schC X))).push (.cells (schC Y)))) (fun k=>k≤X.tables.length∧eqL eqTab (X.tables.drop k) (Y.tables.drop k)=B2) (fun k=>X.tables.length - k) 0 ⟨by omega,hB2⟩ ?_ fun k hk=>?_
  · refine ⟨by simp only [zkk,zkp,zky];omega,by repeat (first | exact AHeap.Le.refl _ | refine AHeap.Le.push ?_ _),hcl2,?_,?_⟩
    · first | (simp [ltF,zky,znh,zmz,lt_map lt_tableAV];done) | (simp [ltF,zky,znh,zmz,lt_map lt_tableAV];omega)
    · simp [subW,wk2,wk1,wkM,Fr.get]
  obtain ⟨hk,hq⟩:=hk
  simp only [go_sem]
  refine cond_split (fun hc=>?_) (fun hc=>?_)
  · have hk':k<X.tables.length:=by simp at hc;omega
    have hk2:k<Y.tables.length:=by omega
    obtain ⟨x,hx⟩:∃ x,x=X.tables[k]:=⟨_,rfl⟩
    obtain ⟨y,hy⟩:∃ y,y=Y.tables[k]:=⟨_,rfl⟩
    have hd:X.tables.drop k=x::X.tables.drop (k+1):=by rw [hx];exact List.drop_eq_getElem_cons hk'
    have hd2:Y.tables.drop k=y::Y.tables.drop (k+1):=by rw [hy];exact List.drop_eq_getElem_cons hk2
    have hg:=getD_map (f:=tableAV) (l:=X.tables) (k:=k) (x:=x) (by rw [List.getElem?_eq_getElem hk',hx])
    have hg2:=getD_map (f:=tableAV) (l:=Y.tables) (k:=k) (x:=y) (by rw [List.getElem?_eq_getElem hk2,hy])
    have e5:IntKind.i64.wrap ((k:Int)+1)=((k+1:Nat):Int):=by rw [wrap_i64]<;>omega
    have hox:CTab x:=hX.t' x (by rw [hx];exact List.getElem_mem hk')
    have hoy:CTab y:=hY.t' y (by rw [hy];exact List.getElem_mem hk2)
    rw [hd,hd2] at hq
    unfold eqL at hq
    obtain ⟨G,hG⟩:∃ G,eqTab x y=G:=⟨_,rfl⟩
    rw [hG] at hq
    unfold eqTab at hG
    simp only [go_sem,Int.toNat_natCast,ybb,hg,hg2,tableAV,schC]
    (repeat with_reducible refine And.intro (by first | assumption | decide | omega) ?_)
    try simp only [go_sem,Int.toNat_natCast,ybb,hg,hg2,tableAV]
    (repeat with_reducible refine And.intro (by first | assumption | decide | omega) ?_)
    cases h0:(x.id==y.id)
    · have b0:(x.id != y.id)=true:=by rw [bne,h0];rfl
      simp only [h0,Bool.false_and,Bool.and_false,Bool.true_and] at hG
      subst hG
      rw [Bool.false_and] at hq
      try simp only [go_sem,byq,p_ysKey,p_ysInt,p_ysVal,h0,b0,true_and,Bool.bne_false,Bool.bne_true,Bool.not_true,Bool.not_false]
      rw [← hq]
      simp only [Bool.false_and,Bool.and_false]
      try simp only [go_sem]
      first
        | (simp (disch:=first | assumption | omega | (simp;done) | (simp;omega) | (simp only [bt,and_true];first | done | omega | (simp;done))) [↓zmi,beq,ybc,ybd,ybe,endOk,wk,wk2,wk1,wkM,wkL,wkLL,ybf,hcl];done)
        | (simp (disch:=first | assumption | omega | (simp;done) | (simp;omega) | (simp only [bt,and_true];first | done | omega | (simp;done))) [↓zmi,beq,ybc,ybd,ybe,endOk,wk,wk2,wk1,wkM,wkL,wkLL,ybf,hcl];repeat (first | exact AHeap.Le.refl _ | refine AHeap.Le.push ?_ _))
        | (refine ⟨?_,by repeat (first | exact AHeap.Le.refl _ | refine AHeap.Le.push ?_ _),hcl,?_⟩
           · simp [wk,wk2,wk1]
           · simp [zna];done)
    have b0:(x.id != y.id)=false:=by rw [bne,h0];rfl
    cases h1:(x.name==y.name)
    · have b1:(x.name != y.name)=true:=by rw [bne,h1];rfl
      simp only [h0,h1,Bool.false_and,Bool.and_false,Bool.true_and] at hG
      subst hG
      rw [Bool.false_and] at hq
      try simp only [go_sem,byq,p_ysKey,p_ysInt,p_ysVal,h0,b0,h1,b1,true_and,Bool.bne_false,Bool.bne_true,Bool.not_true,Bool.not_false]
      rw [← hq]
      simp only [Bool.false_and,Bool.and_false]
      try simp only [go_sem]
      first
        | (simp (disch:=first | assumption | omega | (simp;done) | (simp;omega) | (simp only [bt,and_true];first | done | omega | (simp;done))) [↓zmi,beq,ybc,ybd,ybe,endOk,wk,wk2,wk1,wkM,wkL,wkLL,ybf,hcl];done)
        | (simp (disch:=first | assumption | omega | (simp;done) | (simp;omega) | (simp only [bt,and_true];first | done | omega | (simp;done))) [↓zmi,beq,ybc,ybd,ybe,endOk,wk,wk2,wk1,wkM,wkL,wkLL,ybf,hcl];repeat (first | exact AHeap.Le.refl _ | refine AHeap.Le.push ?_ _))
        | (refine ⟨?_,by repeat (first | exact AHeap.Le.refl _ | refine AHeap.Le.push ?_ _),hcl,?_⟩
           · simp [wk,wk2,wk1]
           · simp [zna];done)
    have b1:(x.name != y.name)=false:=by rw [bne,h1];rfl
    cases h2:(eqL eqKey x.keys y.keys)
    · simp only [h0,h1,h2,Bool.false_and,Bool.and_false,Bool.true_and] at hG
      subst hG
      rw [Bool.false_and] at hq
      try simp only [go_sem,byq,p_ysKey,p_ysInt,p_ysVal,h0,b0,h1,b1,h2,true_and,Bool.bne_false,Bool.bne_true,Bool.not_true,Bool.not_false]
      refine ⟨x.keys,y.keys,⟨rfl,rfl,hox.1,hoy.1⟩,?_⟩
      try simp only [go_sem,byq,p_ysKey,p_ysInt,p_ysVal,h0,b0,h1,b1,h2,true_and,Bool.bne_false,Bool.bne_true,Bool.not_true,Bool.not_false]
      rw [← hq]
      simp only [Bool.false_and,Bool.and_false]
      try simp only [go_sem]
      first
        | (simp (disch:=first | assumption | omega | (simp;done) | (simp;omega) | (simp only [bt,and_true];first | done | omega | (simp;done))) [↓zmi,beq,ybc,ybd,ybe,endOk,wk,wk2,wk1,wkM,wkL,wkLL,ybf,hcl];done)
        | (simp (disch:=first | assumption | omega | (simp;done) | (simp;omega) | (simp only [bt,and_true];first | done | omega | (simp;done))) [↓zmi,beq,ybc,ybd,ybe,endOk,wk,wk2,wk1,wkM,wkL,wkLL,ybf,hcl];repeat (first | exact AHeap.Le.refl _ | refine AHeap.Le.push ?_ _))
        | (refine ⟨?_,by repeat (first | exact AHeap.Le.refl _ | refine AHeap.Le.push ?_ _),hcl,?_⟩
           · simp [wk,wk2,wk1]
           · simp [zna];done)
    cases h3:(eqL eqI x.actions y.actions)
    · simp only [h0,h1,h2,h3,Bool.false_and,Bool.and_false,Bool.true_and] at hG
      subst hG
      rw [Bool.false_and] at hq
      try simp only [go_sem,byq,p_ysKey,p_ysInt,p_ysVal,h0,b0,h1,b1,h2,h3,true_and,Bool.bne_false,Bool.bne_true,Bool.not_true,Bool.not_false]
      refine ⟨x.keys,y.keys,⟨rfl,rfl,hox.1,hoy.1⟩,?_⟩
      try simp only [go_sem,byq,p_ysKey,p_ysInt,p_ysVal,h0,b0,h1,b1,h2,h3,true_and,Bool.bne_false,Bool.bne_true,Bool.not_true,Bool.not_false]
      refine ⟨x.actions,y.actions,⟨rfl,rfl,hox.2.1,hoy.2.1⟩,?_⟩
      try simp only [go_sem,byq,p_ysKey,p_ysInt,p_ysVal,h0,b0,h1,b1,h2,h3,true_and,Bool.bne_false,Bool.bne_true,Bool.not_true,Bool.not_false]
      rw [← hq]
      simp only [Bool.false_and,Bool.and_false]
      try simp only [go_sem]
      first
        | (simp (disch:=first | assumption | omega | (simp;done) | (simp;omega) | (simp only [bt,and_true];first | done | omega | (simp;done))) [↓zmi,beq,ybc,ybd,ybe,endOk,wk,wk2,wk1,wkM,wkL,wkLL,ybf,hcl];done)
        | (simp (disch:=first | assumption | omega | (simp;done) | (simp;omega) | (simp only [bt,and_true];first | done | omega | (simp;done))) [↓zmi,beq,ybc,ybd,ybe,endOk,wk,wk2,wk1,wkM,wkL,wkLL,ybf,hcl];repeat (first | exact AHeap.Le.refl _ | refine AHeap.Le.push ?_ _))
        | (refine ⟨?_,by repeat (first | exact AHeap.Le.refl _ | refine AHeap.Le.push ?_ _),hcl,?_⟩
           · simp [wk,wk2,wk1]
           · simp [zna];done)
    cases h4:(x.dflt==y.dflt)
    · have b4:(x.dflt != y.dflt)=true:=by rw [bne,h4];rfl
      simp only [h0,h1,h2,h3,h4,Bool.false_and,Bool.and_false,Bool.true_and] at hG
      subst hG
      rw [Bool.false_and] at hq
      try simp only [go_sem,byq,p_ysKey,p_ysInt,p_ysVal,h0,b0,h1,b1,h2,h3,h4,b4,true_and,Bool.bne_false,Bool.bne_true,Bool.not_true,Bool.not_false]
      refine ⟨x.keys,y.keys,⟨rfl,rfl,hox.1,hoy.1⟩,?_⟩
      try simp only [go_sem,byq,p_ysKey,p_ysInt,p_ysVal,h0,b0,h1,b1,h2,h3,h4,b4,true_and,Bool.bne_false,Bool.bne_true,Bool.not_true,Bool.not_false]
      refine ⟨x.actions,y.actions,⟨rfl,rfl,hox.2.1,hoy.2.1⟩,?_⟩
      try simp only [go_sem,byq,p_ysKey,p_ysInt,p_ysVal,h0,b0,h1,b1,h2,h3,h4,b4,true_and,Bool.bne_false,Bool.bne_true,Bool.not_true,Bool.not_false]
      rw [← hq]
      simp only [Bool.false_and,Bool.and_false]
      try simp only [go_sem]
      first
        | (simp (disch:=first | assumption | omega | (simp;done) | (simp;omega) | (simp only [bt,and_true];first | done | omega | (simp;done))) [↓zmi,beq,ybc,ybd,ybe,endOk,wk,wk2,wk1,wkM,wkL,wkLL,ybf,hcl];done)
        | (simp (disch:=first | assumption | omega | (simp;done) | (simp;omega) | (simp only [bt,and_true];first | done | omega | (simp;done))) [↓zmi,beq,ybc,ybd,ybe,endOk,wk,wk2,wk1,wkM,wkL,wkLL,ybf,hcl];repeat (first | exact AHeap.Le.refl _ | refine AHeap.Le.push ?_ _))
        | (refine ⟨?_,by repeat (first | exact AHeap.Le.refl _ | refine AHeap.Le.push ?_ _),hcl,?_⟩
           · simp [wk,wk2,wk1]
           · simp [zna];done)
    have b4:(x.dflt != y.dflt)=false:=by rw [bne,h4];rfl
    cases h5:(eqL eqV x.dargs y.dargs)
    · simp only [h0,h1,h2,h3,h4,h5,Bool.false_and,Bool.and_false,Bool.true_and] at hG
      subst hG
      rw [Bool.false_and] at hq
      try simp only [go_sem,byq,p_ysKey,p_ysInt,p_ysVal,h0,b0,h1,b1,h2,h3,h4,b4,h5,true_and,Bool.bne_false,Bool.bne_true,Bool.not_true,Bool.not_false]
      refine ⟨x.keys,y.keys,⟨rfl,rfl,hox.1,hoy.1⟩,?_⟩
      try simp only [go_sem,byq,p_ysKey,p_ysInt,p_ysVal,h0,b0,h1,b1,h2,h3,h4,b4,h5,true_and,Bool.bne_false,Bool.bne_true,Bool.not_true,Bool.not_false]
      refine ⟨x.actions,y.actions,⟨rfl,rfl,hox.2.1,hoy.2.1⟩,?_⟩
      try simp only [go_sem,byq,p_ysKey,p_ysInt,p_ysVal,h0,b0,h1,b1,h2,h3,h4,b4,h5,true_and,Bool.bne_false,Bool.bne_true,Bool.not_true,Bool.not_false]
      refine ⟨x.dargs,y.dargs,⟨rfl,rfl,hox.2.2,hoy.2.2⟩,?_⟩
      try simp only [go_sem,byq,p_ysKey,p_ysInt,p_ysVal,h0,b0,h1,b1,h2,h3,h4,b4,h5,true_and,Bool.bne_false,Bool.bne_true,Bool.not_true,Bool.not_false]
      rw [← hq]
      simp only [Bool.false_and,Bool.and_false]
      try simp only [go_sem]
      first
        | (simp (disch:=first | assumption | omega | (simp;done) | (simp;omega) | (simp only [bt,and_true];first | done | omega | (simp;done))) [↓zmi,beq,ybc,ybd,ybe,endOk,wk,wk2,wk1,wkM,wkL,wkLL,ybf,hcl];done)
        | (simp (disch:=first | assumption | omega | (simp;done) | (simp;omega) | (simp only [bt,and_true];first | done | omega | (simp;done))) [↓zmi,beq,ybc,ybd,ybe,endOk,wk,wk2,wk1,wkM,wkL,wkLL,ybf,hcl];repeat (first | exact AHeap.Le.refl _ | refine AHeap.Le.push ?_ _))
        | (refine ⟨?_,by repeat (first | exact AHeap.Le.refl _ | refine AHeap.Le.push ?_ _),hcl,?_⟩
           · simp [wk,wk2,wk1]
           · simp [zna];done)
    cases h6:(x.size==y.size)
    · have b6:(x.size != y.size)=true:=by rw [bne,h6];rfl
      simp only [h0,h1,h2,h3,h4,h5,h6,Bool.false_and,Bool.and_false,Bool.true_and] at hG
      subst hG
      rw [Bool.false_and] at hq
      try simp only [go_sem,byq,p_ysKey,p_ysInt,p_ysVal,h0,b0,h1,b1,h2,h3,h4,b4,h5,h6,b6,true_and,Bool.bne_false,Bool.bne_true,Bool.not_true,Bool.not_false]
      refine ⟨x.keys,y.keys,⟨rfl,rfl,hox.1,hoy.1⟩,?_⟩
      try simp only [go_sem,byq,p_ysKey,p_ysInt,p_ysVal,h0,b0,h1,b1,h2,h3,h4,b4,h5,h6,b6,true_and,Bool.bne_false,Bool.bne_true,Bool.not_true,Bool.not_false]
      refine ⟨x.actions,y.actions,⟨rfl,rfl,hox.2.1,hoy.2.1⟩,?_⟩
      try simp only [go_sem,byq,p_ysKey,p_ysInt,p_ysVal,h0,b0,h1,b1,h2,h3,h4,b4,h5,h6,b6,true_and,Bool.bne_false,Bool.bne_true,Bool.not_true,Bool.not_false]
      refine ⟨x.dargs,y.dargs,⟨rfl,rfl,hox.2.2,hoy.2.2⟩,?_⟩
      try simp only [go_sem,byq,p_ysKey,p_ysInt,p_ysVal,h0,b0,h1,b1,h2,h3,h4,b4,h5,h6,b6,true_and,Bool.bne_false,Bool.bne_true,Bool.not_true,Bool.not_false]
      rw [← hq]
      simp only [Bool.false_and,Bool.and_false]
      try simp only [go_sem]
      first
        | (simp (disch:=first | assumption | omega | (simp;done) | (simp;omega) | (simp only [bt,and_true];first | done | omega | (simp;done))) [↓zmi,beq,ybc,ybd,ybe,endOk,wk,wk2,wk1,wkM,wkL,wkLL,ybf,hcl];done)
        | (simp (disch:=first | assumption | omega | (simp;done) | (simp;omega) | (simp only [bt,and_true];first | done | omega | (simp;done))) [↓zmi,beq,ybc,ybd,ybe,endOk,wk,wk2,wk1,wkM,wkL,wkLL,ybf,hcl];repeat (first | exact AHeap.Le.refl _ | refine AHeap.Le.push ?_ _))
        | (refine ⟨?_,by repeat (first | exact AHeap.Le.refl _ | refine AHeap.Le.push ?_ _),hcl,?_⟩
           · simp [wk,wk2,wk1]
           · simp [zna];done)
    have b6:(x.size != y.size)=false:=by rw [bne,h6];rfl
    cases h7:(x.restr==y.restr)
    · have b7:(x.restr != y.restr)=true:=by rw [bne,h7];rfl
      simp only [h0,h1,h2,h3,h4,h5,h6,h7,Bool.false_and,Bool.and_false,Bool.true_and] at hG
      subst hG
      rw [Bool.false_and] at hq
      try simp only [go_sem,byq,p_ysKey,p_ysInt,p_ysVal,h0,b0,h1,b1,h2,h3,h4,b4,h5,h6,b6,h7,b7,true_and,Bool.bne_false,Bool.bne_true,Bool.not_true,Bool.not_false]
      refine ⟨x.keys,y.keys,⟨rfl,rfl,hox.1,hoy.1⟩,?_⟩
      try simp only [go_sem,byq,p_ysKey,p_ysInt,p_ysVal,h0,b0,h1,b1,h2,h3,h4,b4,h5,h6,b6,h7,b7,true_and,Bool.bne_false,Bool.bne_true,Bool.not_true,Bool.not_false]
      refine ⟨x.actions,y.actions,⟨rfl,rfl,hox.2.1,hoy.2.1⟩,?_⟩
      try simp only [go_sem,byq,p_ysKey,p_ysInt,p_ysVal,h0,b0,h1,b1,h2,h3,h4,b4,h5,h6,b6,h7,b7,true_and,Bool.bne_false,Bool.bne_true,Bool.not_true,Bool.not_false]
      refine ⟨x.dargs,y.dargs,⟨rfl,rfl,hox.2.2,hoy.2.2⟩,?_⟩
      try simp only [go_sem,byq,p_ysKey,p_ysInt,p_ysVal,h0,b0,h1,b1,h2,h3,h4,b4,h5,h6,b6,h7,b7,true_and,Bool.bne_false,Bool.bne_true,Bool.not_true,Bool.not_false]
      rw [← hq]
      simp only [Bool.false_and,Bool.and_false]
      try simp only [go_sem]
      first
        | (simp (disch:=first | assumption | omega | (simp;done) | (simp;omega) | (simp only [bt,and_true];first | done | omega | (simp;done))) [↓zmi,beq,ybc,ybd,ybe,endOk,wk,wk2,wk1,wkM,wkL,wkLL,ybf,hcl];done)
        | (simp (disch:=first | assumption | omega | (simp;done) | (simp;omega) | (simp only [bt,and_true];first | done | omega | (simp;done))) [↓zmi,beq,ybc,ybd,ybe,endOk,wk,wk2,wk1,wkM,wkL,wkLL,ybf,hcl];repeat (first | exact AHeap.Le.refl _ | refine AHeap.Le.push ?_ _))
        | (refine ⟨?_,by repeat (first | exact AHeap.Le.refl _ | refine AHeap.Le.push ?_ _),hcl,?_⟩
           · simp [wk,wk2,wk1]
           · simp [zna];done)
    have b7:(x.restr != y.restr)=false:=by rw [bne,h7];rfl
    simp only [h0,h1,h2,h3,h4,h5,h6,h7,Bool.and_true,Bool.true_and] at hG
    subst hG
    rw [Bool.true_and] at hq
    try simp only [go_sem,byq,p_ysKey,p_ysInt,p_ysVal,h0,b0,h1,b1,h2,h3,h4,b4,h5,h6,b6,h7,b7,true_and,Bool.bne_false,Bool.bne_true,Bool.not_true,Bool.not_false]
    refine ⟨x.keys,y.keys,⟨rfl,rfl,hox.1,hoy.1⟩,?_⟩
    try simp only [go_sem,byq,p_ysKey,p_ysInt,p_ysVal,h0,b0,h1,b1,h2,h3,h4,b4,h5,h6,b6,h7,b7,true_and,Bool.bne_false,Bool.bne_true,Bool.not_true,Bool.not_false]
    refine ⟨x.actions,y.actions,⟨rfl,rfl,hox.2.1,hoy.2.1⟩,?_⟩
    try simp only [go_sem,byq,p_ysKey,p_ysInt,p_ysVal,h0,b0,h1,b1,h2,h3,h4,b4,h5,h6,b6,h7,b7,true_and,Bool.bne_false,Bool.bne_true,Bool.not_true,Bool.not_false]
    refine ⟨x.dargs,y.dargs,⟨rfl,rfl,hox.2.2,hoy.2.2⟩,?_⟩
    try simp only [go_sem,byq,p_ysKey,p_ysInt,p_ysVal,h0,b0,h1,b1,h2,h3,h4,b4,h5,h6,b6,h7,b7,true_and,Bool.bne_false,Bool.bne_true,Bool.not_true,Bool.not_false]
    try simp only [go_sem,e5]
    refine ⟨k+1,⟨by omega,hq⟩,by omega,by (try simp only [zkk,zkp,zky]);omega,by repeat (first | exact AHeap.Le.refl _ | refine AHeap.Le.push ?_ _),hcl2,?_,?_⟩
    · first | (simp [ltF,zky,znh,zmz,lt_map lt_tableAV];done) | (simp [ltF,zky,znh,zmz,lt_map lt_tableAV];omega)
    · simp [subW,wk2,wk1,wkM,Fr.get]
  have hk':k=X.tables.length:=by simp at hc;omega
  subst hk'
  rw [List.drop_length,hlen_Tab,List.drop_length] at hq
  unfold eqL at hq
  subst hq
  simp only [go_sem,Bool.true_and]
  first
    | (simp (disch:=first | assumption | omega | (simp;done) | (simp;omega) | (simp only [bt,and_true];first | done | omega | (simp;done))) [↓zmi,beq,ybc,ybd,ybe,endOk,wk,wk2,wk1,wkM,wkL,wkLL,ybf,hcl];done)
    | (simp (disch:=first | assumption | omega | (simp;done) | (simp;omega) | (simp only [bt,and_true];first | done | omega | (simp;done))) [↓zmi,beq,ybc,ybd,ybe,endOk,wk,wk2,wk1,wkM,wkL,wkLL,ybf,hcl];repeat (first | exact AHeap.Le.refl _ | refine AHeap.Le.push ?_ _))
    | (refine ⟨?_,by repeat (first | exact AHeap.Le.refl _ | refine AHeap.Le.push ?_ _),hcl,?_⟩
       · simp [wk,wk2,wk1]
       · simp [zna];done)
end Go.AL


open Go Go.AL Go.Proofs
namespace Go.AL
set_option linter.all false
set_option maxRecDepth 10000

theorem eqSch_ref (X Y:Sch):eqSch X Y=((X.maxBatch==Y.maxBatch)&&((X.budget==Y.budget)&&(((eqL eqFld X.fields Y.fields&&(eqL eqHdr X.headers Y.headers&&eqL eqSta X.states Y.states)))&&(((true&&(eqL eqAct X.actions Y.actions&&eqL eqTab X.tables Y.tables)))&&((eqL eqStg X.stages Y.stages)&&((eqL eqRef X.refs Y.refs)&&eqL eqRol X.roles Y.roles)))))):=by
  unfold eqSch
  simp only [Bool.true_and]
  ac_rfl
def p_ySame:List AV→AHeap→(AV→Prop)→Prop:=pSame
set_option maxHeartbeats 32000000 in
theorem ok_ySame:EntOk Tryz.prog 29 (Ent.pure p_ySame):=by
  unfold p_ySame
  refine EntOk.pure fun args H K h=>?_
  unfold pSame at h
  split at h
  rotate_left
  · exact h.elim
  rename_i l k
  obtain ⟨X,Y,⟨rfl,rfl,hX,hY⟩,hK⟩:=h
  refine ⟨_,hK,?_⟩
  clear hK
  have hC1:=lt_sch (n:=H.nx+1) X
  have hC2:=lt_sch (n:=H.nx+1+1) Y
  have hl1:=hX.r
  simp only [schAV,znl] at hC1 hC2
  obtain ⟨R,hR⟩:∃ R,eqSch X Y=R:=⟨_,rfl⟩
  rw [hR]
  rw [eqSch_ref] at hR
  cases h0:(X.maxBatch==Y.maxBatch)
  · have b0:(X.maxBatch != Y.maxBatch)=true:=by rw [bne,h0];rfl
    simp only [h0,Bool.false_and,Bool.and_false,Bool.true_and] at hR
    subst hR
    refine ACalls.of_aw (Ω:=[(123,Ent.pure p_ySamePar),(124,Ent.pure p_ySameTab),(125,Ent.pure p_ysStg),(126,Ent.pure p_ysRef),(127,Ent.pure p_ysInt),(128,Ent.pure p_ysBoo)]) (T:=assoc []) mixed (TblOk.cons ok_ySamePar (TblOk.cons ok_ySameTab (TblOk.cons ok_ysStg (TblOk.cons ok_ysRef (TblOk.cons ok_ysInt (TblOk.cons ok_ysBoo TblOk.nil)))))) Tryz.func29 (by kernel_rfl) (by rfl) (rs:=[.tmp 4]) (by rfl) (by kernel_rfl) (by simp only [Tryz.ntmps29,yaz,yba];decide) (Nat.le_refl _) fun hcl hlt=>?_
    change aw _ _ _ (KI Tryz.prog [(123,Ent.pure p_ySamePar),(124,Ent.pure p_ySameTab),(125,Ent.pure p_ysStg),(126,Ent.pure p_ysRef),(127,Ent.pure p_ysInt),(128,Ent.pure p_ysBoo)] (aEnd Tryz.prog [.tmp 4] H.nx _ _ (assoc [])) []) _ _
    clear hlt
    try simp only [List.append_eq,yal,yak]
    simp only [go_sem,byq,schC,p_ySamePar,p_ySameTab,p_ysStg,p_ysRef,h0,b0,true_and,Bool.bne_false,Bool.bne_true,Bool.not_true,Bool.not_false,ybb]
    first
      | (simp (disch:=first | assumption | omega | (simp;done) | (simp;omega) | (simp only [bt,and_true];first | done | omega | (simp;done))) [↓zmi,beq,ybc,ybd,ybe,endOk,wk,wk2,wk1,wkM,wkL,wkLL,ybf,hcl];done)
      | (simp (disch:=first | assumption | omega | (simp;done) | (simp;omega) | (simp only [bt,and_true];first | done | omega | (simp;done))) [↓zmi,beq,ybc,ybd,ybe,endOk,wk,wk2,wk1,wkM,wkL,wkLL,ybf,hcl];repeat (first | exact AHeap.Le.refl _ | refine AHeap.Le.push ?_ _))
      | (refine ⟨?_,by repeat (first | exact AHeap.Le.refl _ | refine AHeap.Le.push ?_ _),hcl,?_⟩
         · simp [wk,wk2,wk1]
         · simp [zna];done)
  have b0:(X.maxBatch != Y.maxBatch)=false:=by rw [bne,h0];rfl
  cases h1:(X.budget==Y.budget)
  · have b1:(X.budget != Y.budget)=true:=by rw [bne,h1];rfl
    simp only [h0,h1,Bool.false_and,Bool.and_false,Bool.true_and] at hR
    subst hR
    refine ACalls.of_aw (Ω:=[(123,Ent.pure p_ySamePar),(124,Ent.pure p_ySameTab),(125,Ent.pure p_ysStg),(126,Ent.pure p_ysRef),(127,Ent.pure p_ysInt),(128,Ent.pure p_ysBoo)]) (T:=assoc []) mixed (TblOk.cons ok_ySamePar (TblOk.cons ok_ySameTab (TblOk.cons ok_ysStg (TblOk.cons ok_ysRef (TblOk.cons ok_ysInt (TblOk.cons ok_ysBoo TblOk.nil)))))) Tryz.func29 (by kernel_rfl) (by rfl) (rs:=[.tmp 4]) (by rfl) (by kernel_rfl) (by simp only [Tryz.ntmps29,yaz,yba];decide) (Nat.le_refl _) fun hcl hlt=>?_
    change aw _ _ _ (KI Tryz.prog [(123,Ent.pure p_ySamePar),(124,Ent.pure p_ySameTab),(125,Ent.pure p_ysStg),(126,Ent.pure p_ysRef),(127,Ent.pure p_ysInt),(128,Ent.pure p_ysBoo)] (aEnd Tryz.prog [.tmp 4] H.nx _ _ (assoc [])) []) _ _
    clear hlt
    try simp only [List.append_eq,yal,yak]
    simp only [go_sem,byq,schC,p_ySamePar,p_ySameTab,p_ysStg,p_ysRef,h0,b0,h1,b1,true_and,Bool.bne_false,Bool.bne_true,Bool.not_true,Bool.not_false,ybb]
    first
      | (simp (disch:=first | assumption | omega | (simp;done) | (simp;omega) | (simp only [bt,and_true];first | done | omega | (simp;done))) [↓zmi,beq,ybc,ybd,ybe,endOk,wk,wk2,wk1,wkM,wkL,wkLL,ybf,hcl];done)
      | (simp (disch:=first | assumption | omega | (simp;done) | (simp;omega) | (simp only [bt,and_true];first | done | omega | (simp;done))) [↓zmi,beq,ybc,ybd,ybe,endOk,wk,wk2,wk1,wkM,wkL,wkLL,ybf,hcl];repeat (first | exact AHeap.Le.refl _ | refine AHeap.Le.push ?_ _))
      | (refine ⟨?_,by repeat (first | exact AHeap.Le.refl _ | refine AHeap.Le.push ?_ _),hcl,?_⟩
         · simp [wk,wk2,wk1]
         · simp [zna];done)
  have b1:(X.budget != Y.budget)=false:=by rw [bne,h1];rfl
  cases h2:((eqL eqFld X.fields Y.fields&&(eqL eqHdr X.headers Y.headers&&eqL eqSta X.states Y.states)))
  · simp only [h0,h1,h2,Bool.false_and,Bool.and_false,Bool.true_and] at hR
    subst hR
    refine ACalls.of_aw (Ω:=[(123,Ent.pure p_ySamePar),(124,Ent.pure p_ySameTab),(125,Ent.pure p_ysStg),(126,Ent.pure p_ysRef),(127,Ent.pure p_ysInt),(128,Ent.pure p_ysBoo)]) (T:=assoc []) mixed (TblOk.cons ok_ySamePar (TblOk.cons ok_ySameTab (TblOk.cons ok_ysStg (TblOk.cons ok_ysRef (TblOk.cons ok_ysInt (TblOk.cons ok_ysBoo TblOk.nil)))))) Tryz.func29 (by kernel_rfl) (by rfl) (rs:=[.tmp 4]) (by rfl) (by kernel_rfl) (by simp only [Tryz.ntmps29,yaz,yba];decide) (Nat.le_refl _) fun hcl hlt=>?_
    change aw _ _ _ (KI Tryz.prog [(123,Ent.pure p_ySamePar),(124,Ent.pure p_ySameTab),(125,Ent.pure p_ysStg),(126,Ent.pure p_ysRef),(127,Ent.pure p_ysInt),(128,Ent.pure p_ysBoo)] (aEnd Tryz.prog [.tmp 4] H.nx _ _ (assoc [])) []) _ _
    clear hlt
    try simp only [List.append_eq,yal,yak]
    simp only [go_sem,byq,schC,p_ySamePar,p_ySameTab,p_ysStg,p_ysRef,h0,b0,h1,b1,h2,true_and,Bool.bne_false,Bool.bne_true,Bool.not_true,Bool.not_false,ybb]
    refine ⟨X,Y,⟨rfl,rfl,hX,hY⟩,?_⟩
    try simp only [go_sem,byq,p_ySamePar,p_ySameTab,p_ysStg,p_ysRef,h0,b0,h1,b1,h2,true_and,Bool.bne_false,Bool.bne_true,Bool.not_true,Bool.not_false,ybb]
    first
      | (simp (disch:=first | assumption | omega | (simp;done) | (simp;omega) | (simp only [bt,and_true];first | done | omega | (simp;done))) [↓zmi,beq,ybc,ybd,ybe,endOk,wk,wk2,wk1,wkM,wkL,wkLL,ybf,hcl];done)
      | (simp (disch:=first | assumption | omega | (simp;done) | (simp;omega) | (simp only [bt,and_true];first | done | omega | (simp;done))) [↓zmi,beq,ybc,ybd,ybe,endOk,wk,wk2,wk1,wkM,wkL,wkLL,ybf,hcl];repeat (first | exact AHeap.Le.refl _ | refine AHeap.Le.push ?_ _))
      | (refine ⟨?_,by repeat (first | exact AHeap.Le.refl _ | refine AHeap.Le.push ?_ _),hcl,?_⟩
         · simp [wk,wk2,wk1]
         · simp [zna];done)
  cases h3:((true&&(eqL eqAct X.actions Y.actions&&eqL eqTab X.tables Y.tables)))
  · simp only [h0,h1,h2,h3,Bool.false_and,Bool.and_false,Bool.true_and] at hR
    subst hR
    refine ACalls.of_aw (Ω:=[(123,Ent.pure p_ySamePar),(124,Ent.pure p_ySameTab),(125,Ent.pure p_ysStg),(126,Ent.pure p_ysRef),(127,Ent.pure p_ysInt),(128,Ent.pure p_ysBoo)]) (T:=assoc []) mixed (TblOk.cons ok_ySamePar (TblOk.cons ok_ySameTab (TblOk.cons ok_ysStg (TblOk.cons ok_ysRef (TblOk.cons ok_ysInt (TblOk.cons ok_ysBoo TblOk.nil)))))) Tryz.func29 (by kernel_rfl) (by rfl) (rs:=[.tmp 4]) (by rfl) (by kernel_rfl) (by simp only [Tryz.ntmps29,yaz,yba];decide) (Nat.le_refl _) fun hcl hlt=>?_
    change aw _ _ _ (KI Tryz.prog [(123,Ent.pure p_ySamePar),(124,Ent.pure p_ySameTab),(125,Ent.pure p_ysStg),(126,Ent.pure p_ysRef),(127,Ent.pure p_ysInt),(128,Ent.pure p_ysBoo)] (aEnd Tryz.prog [.tmp 4] H.nx _ _ (assoc [])) []) _ _
    clear hlt
    try simp only [List.append_eq,yal,yak]
    simp only [go_sem,byq,schC,p_ySamePar,p_ySameTab,p_ysStg,p_ysRef,h0,b0,h1,b1,h2,h3,true_and,Bool.bne_false,Bool.bne_true,Bool.not_true,Bool.not_false,ybb]
    refine ⟨X,Y,⟨rfl,rfl,hX,hY⟩,?_⟩
    try simp only [go_sem,byq,p_ySamePar,p_ySameTab,p_ysStg,p_ysRef,h0,b0,h1,b1,h2,h3,true_and,Bool.bne_false,Bool.bne_true,Bool.not_true,Bool.not_false,ybb]
    refine ⟨X,Y,⟨rfl,rfl,hX,hY⟩,?_⟩
    try simp only [go_sem,byq,p_ySamePar,p_ySameTab,p_ysStg,p_ysRef,h0,b0,h1,b1,h2,h3,true_and,Bool.bne_false,Bool.bne_true,Bool.not_true,Bool.not_false,ybb]
    first
      | (simp (disch:=first | assumption | omega | (simp;done) | (simp;omega) | (simp only [bt,and_true];first | done | omega | (simp;done))) [↓zmi,beq,ybc,ybd,ybe,endOk,wk,wk2,wk1,wkM,wkL,wkLL,ybf,hcl];done)
      | (simp (disch:=first | assumption | omega | (simp;done) | (simp;omega) | (simp only [bt,and_true];first | done | omega | (simp;done))) [↓zmi,beq,ybc,ybd,ybe,endOk,wk,wk2,wk1,wkM,wkL,wkLL,ybf,hcl];repeat (first | exact AHeap.Le.refl _ | refine AHeap.Le.push ?_ _))
      | (refine ⟨?_,by repeat (first | exact AHeap.Le.refl _ | refine AHeap.Le.push ?_ _),hcl,?_⟩
         · simp [wk,wk2,wk1]
         · simp [zna];done)
  cases h4:(eqL eqStg X.stages Y.stages)
  · simp only [h0,h1,h2,h3,h4,Bool.false_and,Bool.and_false,Bool.true_and] at hR
    subst hR
    refine ACalls.of_aw (Ω:=[(123,Ent.pure p_ySamePar),(124,Ent.pure p_ySameTab),(125,Ent.pure p_ysStg),(126,Ent.pure p_ysRef),(127,Ent.pure p_ysInt),(128,Ent.pure p_ysBoo)]) (T:=assoc []) mixed (TblOk.cons ok_ySamePar (TblOk.cons ok_ySameTab (TblOk.cons ok_ysStg (TblOk.cons ok_ysRef (TblOk.cons ok_ysInt (TblOk.cons ok_ysBoo TblOk.nil)))))) Tryz.func29 (by kernel_rfl) (by rfl) (rs:=[.tmp 4]) (by rfl) (by kernel_rfl) (by simp only [Tryz.ntmps29,yaz,yba];decide) (Nat.le_refl _) fun hcl hlt=>?_
    change aw _ _ _ (KI Tryz.prog [(123,Ent.pure p_ySamePar),(124,Ent.pure p_ySameTab),(125,Ent.pure p_ysStg),(126,Ent.pure p_ysRef),(127,Ent.pure p_ysInt),(128,Ent.pure p_ysBoo)] (aEnd Tryz.prog [.tmp 4] H.nx _ _ (assoc [])) []) _ _
    clear hlt
    try simp only [List.append_eq,yal,yak]
    simp only [go_sem,byq,schC,p_ySamePar,p_ySameTab,p_ysStg,p_ysRef,h0,b0,h1,b1,h2,h3,h4,true_and,Bool.bne_false,Bool.bne_true,Bool.not_true,Bool.not_false,ybb]
    refine ⟨X,Y,⟨rfl,rfl,hX,hY⟩,?_⟩
    try simp only [go_sem,byq,p_ySamePar,p_ySameTab,p_ysStg,p_ysRef,h0,b0,h1,b1,h2,h3,h4,true_and,Bool.bne_false,Bool.bne_true,Bool.not_true,Bool.not_false,ybb]
    refine ⟨X,Y,⟨rfl,rfl,hX,hY⟩,?_⟩
    try simp only [go_sem,byq,p_ySamePar,p_ySameTab,p_ysStg,p_ysRef,h0,b0,h1,b1,h2,h3,h4,true_and,Bool.bne_false,Bool.bne_true,Bool.not_true,Bool.not_false,ybb]
    refine ⟨X.stages,Y.stages,⟨rfl,rfl,hX.g,hY.g⟩,?_⟩
    try simp only [go_sem,byq,p_ySamePar,p_ySameTab,p_ysStg,p_ysRef,h0,b0,h1,b1,h2,h3,h4,true_and,Bool.bne_false,Bool.bne_true,Bool.not_true,Bool.not_false,ybb]
    first
      | (simp (disch:=first | assumption | omega | (simp;done) | (simp;omega) | (simp only [bt,and_true];first | done | omega | (simp;done))) [↓zmi,beq,ybc,ybd,ybe,endOk,wk,wk2,wk1,wkM,wkL,wkLL,ybf,hcl];done)
      | (simp (disch:=first | assumption | omega | (simp;done) | (simp;omega) | (simp only [bt,and_true];first | done | omega | (simp;done))) [↓zmi,beq,ybc,ybd,ybe,endOk,wk,wk2,wk1,wkM,wkL,wkLL,ybf,hcl];repeat (first | exact AHeap.Le.refl _ | refine AHeap.Le.push ?_ _))
      | (refine ⟨?_,by repeat (first | exact AHeap.Le.refl _ | refine AHeap.Le.push ?_ _),hcl,?_⟩
         · simp [wk,wk2,wk1]
         · simp [zna];done)
  cases h5:(eqL eqRef X.refs Y.refs)
  · simp only [h0,h1,h2,h3,h4,h5,Bool.false_and,Bool.and_false,Bool.true_and] at hR
    subst hR
    refine ACalls.of_aw (Ω:=[(123,Ent.pure p_ySamePar),(124,Ent.pure p_ySameTab),(125,Ent.pure p_ysStg),(126,Ent.pure p_ysRef),(127,Ent.pure p_ysInt),(128,Ent.pure p_ysBoo)]) (T:=assoc []) mixed (TblOk.cons ok_ySamePar (TblOk.cons ok_ySameTab (TblOk.cons ok_ysStg (TblOk.cons ok_ysRef (TblOk.cons ok_ysInt (TblOk.cons ok_ysBoo TblOk.nil)))))) Tryz.func29 (by kernel_rfl) (by rfl) (rs:=[.tmp 4]) (by rfl) (by kernel_rfl) (by simp only [Tryz.ntmps29,yaz,yba];decide) (Nat.le_refl _) fun hcl hlt=>?_
    change aw _ _ _ (KI Tryz.prog [(123,Ent.pure p_ySamePar),(124,Ent.pure p_ySameTab),(125,Ent.pure p_ysStg),(126,Ent.pure p_ysRef),(127,Ent.pure p_ysInt),(128,Ent.pure p_ysBoo)] (aEnd Tryz.prog [.tmp 4] H.nx _ _ (assoc [])) []) _ _
    clear hlt
    try simp only [List.append_eq,yal,yak]
    simp only [go_sem,byq,schC,p_ySamePar,p_ySameTab,p_ysStg,p_ysRef,h0,b0,h1,b1,h2,h3,h4,h5,true_and,Bool.bne_false,Bool.bne_true,Bool.not_true,Bool.not_false,ybb]
    refine ⟨X,Y,⟨rfl,rfl,hX,hY⟩,?_⟩
    try simp only [go_sem,byq,p_ySamePar,p_ySameTab,p_ysStg,p_ysRef,h0,b0,h1,b1,h2,h3,h4,h5,true_and,Bool.bne_false,Bool.bne_true,Bool.not_true,Bool.not_false,ybb]
    refine ⟨X,Y,⟨rfl,rfl,hX,hY⟩,?_⟩
    try simp only [go_sem,byq,p_ySamePar,p_ySameTab,p_ysStg,p_ysRef,h0,b0,h1,b1,h2,h3,h4,h5,true_and,Bool.bne_false,Bool.bne_true,Bool.not_true,Bool.not_false,ybb]
    refine ⟨X.stages,Y.stages,⟨rfl,rfl,hX.g,hY.g⟩,?_⟩
    try simp only [go_sem,byq,p_ySamePar,p_ySameTab,p_ysStg,p_ysRef,h0,b0,h1,b1,h2,h3,h4,h5,true_and,Bool.bne_false,Bool.bne_true,Bool.not_true,Bool.not_false,ybb]
    refine ⟨X.refs,Y.refs,⟨rfl,rfl,hX.x,hY.x⟩,?_⟩
    try simp only [go_sem,byq,p_ySamePar,p_ySameTab,p_ysStg,p_ysRef,h0,b0,h1,b1,h2,h3,h4,h5,true_and,Bool.bne_false,Bool.bne_true,Bool.not_true,Bool.not_false,ybb]
    first
      | (simp (disch:=first | assumption | omega | (simp;done) | (simp;omega) | (simp only [bt,and_true];first | done | omega | (simp;done))) [↓zmi,beq,ybc,ybd,ybe,endOk,wk,wk2,wk1,wkM,wkL,wkLL,ybf,hcl];done)
      | (simp (disch:=first | assumption | omega | (simp;done) | (simp;omega) | (simp only [bt,and_true];first | done | omega | (simp;done))) [↓zmi,beq,ybc,ybd,ybe,endOk,wk,wk2,wk1,wkM,wkL,wkLL,ybf,hcl];repeat (first | exact AHeap.Le.refl _ | refine AHeap.Le.push ?_ _))
      | (refine ⟨?_,by repeat (first | exact AHeap.Le.refl _ | refine AHeap.Le.push ?_ _),hcl,?_⟩
         · simp [wk,wk2,wk1]
         · simp [zna];done)
  simp only [h0,h1,h2,h3,h4,h5,Bool.true_and] at hR
  by_cases hlen:X.roles.length=Y.roles.length
  case neg =>
    rw [eqL_len hlen] at hR
    subst hR
    have d0:((X.roles.length:Int) != (Y.roles.length:Int))=true:=by rw [bne_iff_ne];omega
    refine ACalls.of_aw (Ω:=[(123,Ent.pure p_ySamePar),(124,Ent.pure p_ySameTab),(125,Ent.pure p_ysStg),(126,Ent.pure p_ysRef),(127,Ent.pure p_ysInt),(128,Ent.pure p_ysBoo)]) (T:=assoc []) mixed (TblOk.cons ok_ySamePar (TblOk.cons ok_ySameTab (TblOk.cons ok_ysStg (TblOk.cons ok_ysRef (TblOk.cons ok_ysInt (TblOk.cons ok_ysBoo TblOk.nil)))))) Tryz.func29 (by kernel_rfl) (by rfl) (rs:=[.tmp 4]) (by rfl) (by kernel_rfl) (by simp only [Tryz.ntmps29,yaz,yba];decide) (Nat.le_refl _) fun hcl hlt=>?_
    change aw _ _ _ (KI Tryz.prog [(123,Ent.pure p_ySamePar),(124,Ent.pure p_ySameTab),(125,Ent.pure p_ysStg),(126,Ent.pure p_ysRef),(127,Ent.pure p_ysInt),(128,Ent.pure p_ysBoo)] (aEnd Tryz.prog [.tmp 4] H.nx _ _ (assoc [])) []) _ _
    clear hlt
    try simp only [List.append_eq,yal,yak]
    simp only [go_sem,byq,schC,p_ySamePar,p_ySameTab,p_ysStg,p_ysRef,h0,b0,h1,b1,h2,h3,h4,h5,true_and,Bool.bne_false,Bool.bne_true,Bool.not_true,Bool.not_false,ybb,d0]
    refine ⟨X,Y,⟨rfl,rfl,hX,hY⟩,?_⟩
    try simp only [go_sem,byq,p_ySamePar,p_ySameTab,p_ysStg,p_ysRef,h0,b0,h1,b1,h2,h3,h4,h5,true_and,Bool.bne_false,Bool.bne_true,Bool.not_true,Bool.not_false,ybb,d0]
    refine ⟨X,Y,⟨rfl,rfl,hX,hY⟩,?_⟩
    try simp only [go_sem,byq,p_ySamePar,p_ySameTab,p_ysStg,p_ysRef,h0,b0,h1,b1,h2,h3,h4,h5,true_and,Bool.bne_false,Bool.bne_true,Bool.not_true,Bool.not_false,ybb,d0]
    refine ⟨X.stages,Y.stages,⟨rfl,rfl,hX.g,hY.g⟩,?_⟩
    try simp only [go_sem,byq,p_ySamePar,p_ySameTab,p_ysStg,p_ysRef,h0,b0,h1,b1,h2,h3,h4,h5,true_and,Bool.bne_false,Bool.bne_true,Bool.not_true,Bool.not_false,ybb,d0]
    refine ⟨X.refs,Y.refs,⟨rfl,rfl,hX.x,hY.x⟩,?_⟩
    try simp only [go_sem,byq,p_ySamePar,p_ySameTab,p_ysStg,p_ysRef,h0,b0,h1,b1,h2,h3,h4,h5,true_and,Bool.bne_false,Bool.bne_true,Bool.not_true,Bool.not_false,ybb,d0]
    first
      | (simp (disch:=first | assumption | omega | (simp;done) | (simp;omega) | (simp only [bt,and_true];first | done | omega | (simp;done))) [↓zmi,beq,ybc,ybd,ybe,endOk,wk,wk2,wk1,wkM,wkL,wkLL,ybf,hcl];done)
      | (simp (disch:=first | assumption | omega | (simp;done) | (simp;omega) | (simp only [bt,and_true];first | done | omega | (simp;done))) [↓zmi,beq,ybc,ybd,ybe,endOk,wk,wk2,wk1,wkM,wkL,wkLL,ybf,hcl];repeat (first | exact AHeap.Le.refl _ | refine AHeap.Le.push ?_ _))
      | (refine ⟨?_,by repeat (first | exact AHeap.Le.refl _ | refine AHeap.Le.push ?_ _),hcl,?_⟩
         · simp [wk,wk2,wk1]
         · simp [zna];done)
  have d0:((X.roles.length:Int) != (Y.roles.length:Int))=false:=by rw [hlen];simp
  refine ACalls.of_aw (Ω:=[(123,Ent.pure p_ySamePar),(124,Ent.pure p_ySameTab),(125,Ent.pure p_ysStg),(126,Ent.pure p_ysRef),(127,Ent.pure p_ysInt),(128,Ent.pure p_ysBoo)]) (T:=assoc []) mixed (TblOk.cons ok_ySamePar (TblOk.cons ok_ySameTab (TblOk.cons ok_ysStg (TblOk.cons ok_ysRef (TblOk.cons ok_ysInt (TblOk.cons ok_ysBoo TblOk.nil)))))) Tryz.func29 (by kernel_rfl) (by rfl) (rs:=[.tmp 4]) (by rfl) (by kernel_rfl) (by simp only [Tryz.ntmps29,yaz,yba];decide) (Nat.le_refl _) fun hcl hlt=>?_
  change aw _ _ _ (KI Tryz.prog [(123,Ent.pure p_ySamePar),(124,Ent.pure p_ySameTab),(125,Ent.pure p_ysStg),(126,Ent.pure p_ysRef),(127,Ent.pure p_ysInt),(128,Ent.pure p_ysBoo)] (aEnd Tryz.prog [.tmp 4] H.nx _ _ (assoc [])) []) _ _
  clear hlt
  try simp only [List.append_eq,yal,yak]
  simp only [go_sem,byq,schC,p_ySamePar,p_ySameTab,p_ysStg,p_ysRef,h0,b0,h1,b1,h2,h3,h4,h5,true_and,Bool.bne_false,Bool.bne_true,Bool.not_true,Bool.not_false,ybb,d0]
  refine ⟨X,Y,⟨rfl,rfl,hX,hY⟩,?_⟩
  try simp only [go_sem,byq,p_ySamePar,p_ySameTab,p_ysStg,p_ysRef,h0,b0,h1,b1,h2,h3,h4,h5,true_and,Bool.bne_false,Bool.bne_true,Bool.not_true,Bool.not_false,ybb,d0]
  refine ⟨X,Y,⟨rfl,rfl,hX,hY⟩,?_⟩
  try simp only [go_sem,byq,p_ySamePar,p_ySameTab,p_ysStg,p_ysRef,h0,b0,h1,b1,h2,h3,h4,h5,true_and,Bool.bne_false,Bool.bne_true,Bool.not_true,Bool.not_false,ybb,d0]
  refine ⟨X.stages,Y.stages,⟨rfl,rfl,hX.g,hY.g⟩,?_⟩
  try simp only [go_sem,byq,p_ySamePar,p_ySameTab,p_ysStg,p_ysRef,h0,b0,h1,b1,h2,h3,h4,h5,true_and,Bool.bne_false,Bool.bne_true,Bool.not_true,Bool.not_false,ybb,d0]
  refine ⟨X.refs,Y.refs,⟨rfl,rfl,hX.x,hY.x⟩,?_⟩
  try simp only [go_sem,byq,p_ySamePar,p_ySameTab,p_ysStg,p_ysRef,h0,b0,h1,b1,h2,h3,h4,h5,true_and,Bool.bne_false,Bool.bne_true,Bool.not_true,Bool.not_false,ybb,d0]
  have hcl2:((H.push (.cells (schC X))).push (.cells (schC Y))).Closed:=closed_cells (closed_cells hcl hC1) hC2
  refine loop_introW (A:=Nat) (fun i=>[(3,.ptr (H.nx+1) 0),(61,.slice .any 6 (X.roles.map roleAV)),(62,.int .i64 (X.roles.length:Int)),(63,.int .i64 (i:Int))]) (fun _=>((H.push (.cells (schC X))).push (.cells (schC Y)))) (fun i=>i≤X.roles.length∧eqL eqRol (X.roles.drop i) (Y.roles.drop i)=R) (fun i=>X.roles.length - i) 0 ⟨by omega,hR⟩ ?_ fun i hi=>?_
  · refine ⟨by simp only [zkk,zkp,zky];omega,by repeat (first | exact AHeap.Le.refl _ | refine AHeap.Le.push ?_ _),hcl2,?_,?_⟩
    · first | (simp [ltF,zky,znh,zmz,lt_map lt_roleAV,lt_map lt_grantAV,lt_roleAV,lt_grantAV];done) | (simp [ltF,zky,znh,zmz,lt_map lt_roleAV,lt_map lt_grantAV,lt_roleAV,lt_grantAV];omega)
    · simp [subW,wk2,wk1,wkM,Fr.get]
  obtain ⟨hi,hqi⟩:=hi
  simp only [go_sem]
  refine cond_split (fun hci=>?_) (fun hci=>?_)
  · have hi':i<X.roles.length:=by simp at hci;omega
    have hi2:i<Y.roles.length:=by omega
    obtain ⟨u,hu⟩:∃ u,u=X.roles[i]:=⟨_,rfl⟩
    obtain ⟨w,hw⟩:∃ w,w=Y.roles[i]:=⟨_,rfl⟩
    have hd:X.roles.drop i=u::X.roles.drop (i+1):=by rw [hu];exact List.drop_eq_getElem_cons hi'
    have hd2:Y.roles.drop i=w::Y.roles.drop (i+1):=by rw [hw];exact List.drop_eq_getElem_cons hi2
    have hgi:=getD_map (f:=roleAV) (l:=X.roles) (k:=i) (x:=u) (by rw [List.getElem?_eq_getElem hi',hu])
    have hgi2:=getD_map (f:=roleAV) (l:=Y.roles) (k:=i) (x:=w) (by rw [List.getElem?_eq_getElem hi2,hw])
    have e5i:IntKind.i64.wrap ((i:Int)+1)=((i+1:Nat):Int):=by rw [wrap_i64]<;>omega
    have hou:CRol u:=hX.r' u (by rw [hu];exact List.getElem_mem hi')
    have how:CRol w:=hY.r' w (by rw [hw];exact List.getElem_mem hi2)
    clear hu hw
    have hCu:=lt_roleAV (n:=H.nx+1+1+1) u
    have hCw:=lt_roleAV (n:=H.nx+1+1+1+1) w
    simp only [roleAV,znl] at hCu hCw
    have hl1':=hou.1
    rw [hd,hd2] at hqi
    unfold eqL at hqi
    obtain ⟨GU,hGU⟩:∃ G,eqRol u w=G:=⟨_,rfl⟩
    rw [hGU] at hqi
    unfold eqRol at hGU
    simp only [go_sem,Int.toNat_natCast,ybb,hgi,hgi2,roleAV,schC]
    (repeat with_reducible refine And.intro (by first | assumption | decide | omega) ?_)
    try simp only [go_sem,Int.toNat_natCast,ybb,hgi,hgi2,roleAV]
    (repeat with_reducible refine And.intro (by first | assumption | decide | omega) ?_)
    cases g0:(u.id==w.id)
    · have e0:(u.id != w.id)=true:=by rw [bne,g0];rfl
      simp only [g0,Bool.false_and,Bool.and_false,Bool.true_and] at hGU
      subst hGU
      rw [Bool.false_and] at hqi
      rw [← hqi]
      try simp only [go_sem,byq,p_ysInt,g0,e0,true_and,Bool.bne_false,Bool.bne_true,Bool.not_true,Bool.not_false,ybb]
      first
        | (simp (disch:=first | assumption | omega | (simp;done) | (simp;omega) | (simp only [bt,and_true];first | done | omega | (simp;done))) [↓zmi,beq,ybc,ybd,ybe,endOk,wk,wk2,wk1,wkM,wkL,wkLL,ybf,hcl];done)
        | (simp (disch:=first | assumption | omega | (simp;done) | (simp;omega) | (simp only [bt,and_true];first | done | omega | (simp;done))) [↓zmi,beq,ybc,ybd,ybe,endOk,wk,wk2,wk1,wkM,wkL,wkLL,ybf,hcl];repeat (first | exact AHeap.Le.refl _ | refine AHeap.Le.push ?_ _))
        | (refine ⟨?_,by repeat (first | exact AHeap.Le.refl _ | refine AHeap.Le.push ?_ _),hcl,?_⟩
           · simp [wk,wk2,wk1]
           · simp [zna];done)
    have e0:(u.id != w.id)=false:=by rw [bne,g0];rfl
    cases g1:(u.name==w.name)
    · have e1:(u.name != w.name)=true:=by rw [bne,g1];rfl
      simp only [g0,g1,Bool.false_and,Bool.and_false,Bool.true_and] at hGU
      subst hGU
      rw [Bool.false_and] at hqi
      rw [← hqi]
      try simp only [go_sem,byq,p_ysInt,g0,e0,g1,e1,true_and,Bool.bne_false,Bool.bne_true,Bool.not_true,Bool.not_false,ybb]
      first
        | (simp (disch:=first | assumption | omega | (simp;done) | (simp;omega) | (simp only [bt,and_true];first | done | omega | (simp;done))) [↓zmi,beq,ybc,ybd,ybe,endOk,wk,wk2,wk1,wkM,wkL,wkLL,ybf,hcl];done)
        | (simp (disch:=first | assumption | omega | (simp;done) | (simp;omega) | (simp only [bt,and_true];first | done | omega | (simp;done))) [↓zmi,beq,ybc,ybd,ybe,endOk,wk,wk2,wk1,wkM,wkL,wkLL,ybf,hcl];repeat (first | exact AHeap.Le.refl _ | refine AHeap.Le.push ?_ _))
        | (refine ⟨?_,by repeat (first | exact AHeap.Le.refl _ | refine AHeap.Le.push ?_ _),hcl,?_⟩
           · simp [wk,wk2,wk1]
           · simp [zna];done)
    have e1:(u.name != w.name)=false:=by rw [bne,g1];rfl
    by_cases hlen_Gra:u.grants.length=w.grants.length
    case neg =>
      have d2:((u.grants.length:Int) != (w.grants.length:Int))=true:=by rw [bne_iff_ne];omega
      rw [eqL_len hlen_Gra] at hGU
      simp only [Bool.false_and,Bool.and_false] at hGU
      subst hGU
      rw [Bool.false_and] at hqi
      rw [← hqi]
      try simp only [go_sem,byq,p_ysInt,g0,e0,g1,e1,d2,true_and,Bool.bne_false,Bool.bne_true,Bool.not_true,Bool.not_false,ybb]
      first
        | (simp (disch:=first | assumption | omega | (simp;done) | (simp;omega) | (simp only [bt,and_true];first | done | omega | (simp;done))) [↓zmi,beq,ybc,ybd,ybe,endOk,wk,wk2,wk1,wkM,wkL,wkLL,ybf,hcl];done)
        | (simp (disch:=first | assumption | omega | (simp;done) | (simp;omega) | (simp only [bt,and_true];first | done | omega | (simp;done))) [↓zmi,beq,ybc,ybd,ybe,endOk,wk,wk2,wk1,wkM,wkL,wkLL,ybf,hcl];repeat (first | exact AHeap.Le.refl _ | refine AHeap.Le.push ?_ _))
        | (refine ⟨?_,by repeat (first | exact AHeap.Le.refl _ | refine AHeap.Le.push ?_ _),hcl,?_⟩
           · simp [wk,wk2,wk1]
           · simp [zna];done)
    have d2:((u.grants.length:Int) != (w.grants.length:Int))=false:=by rw [hlen_Gra];simp
    cases g3:(eqL eqI u.actions w.actions)
    · simp only [g0,g1,g3,Bool.false_and,Bool.and_false,Bool.true_and] at hGU
      subst hGU
      rw [Bool.false_and] at hqi
      rw [← hqi]
      try simp only [go_sem,byq,p_ysInt,g0,e0,g1,e1,d2,g3,true_and,Bool.bne_false,Bool.bne_true,Bool.not_true,Bool.not_false,ybb]
      refine ⟨u.actions,w.actions,⟨rfl,rfl,hou.2.1,how.2.1⟩,?_⟩
      try simp only [go_sem,byq,p_ysInt,g0,e0,g1,e1,d2,g3,true_and,Bool.bne_false,Bool.bne_true,Bool.not_true,Bool.not_false,ybb]
      first
        | (simp (disch:=first | assumption | omega | (simp;done) | (simp;omega) | (simp only [bt,and_true];first | done | omega | (simp;done))) [↓zmi,beq,ybc,ybd,ybe,endOk,wk,wk2,wk1,wkM,wkL,wkLL,ybf,hcl];done)
        | (simp (disch:=first | assumption | omega | (simp;done) | (simp;omega) | (simp only [bt,and_true];first | done | omega | (simp;done))) [↓zmi,beq,ybc,ybd,ybe,endOk,wk,wk2,wk1,wkM,wkL,wkLL,ybf,hcl];repeat (first | exact AHeap.Le.refl _ | refine AHeap.Le.push ?_ _))
        | (refine ⟨?_,by repeat (first | exact AHeap.Le.refl _ | refine AHeap.Le.push ?_ _),hcl,?_⟩
           · simp [wk,wk2,wk1]
           · simp [zna];done)
    cases g4:(u.quota==w.quota)
    · have e4:(u.quota != w.quota)=true:=by rw [bne,g4];rfl
      simp only [g0,g1,g3,g4,Bool.false_and,Bool.and_false,Bool.true_and] at hGU
      subst hGU
      rw [Bool.false_and] at hqi
      rw [← hqi]
      try simp only [go_sem,byq,p_ysInt,g0,e0,g1,e1,d2,g3,g4,e4,true_and,Bool.bne_false,Bool.bne_true,Bool.not_true,Bool.not_false,ybb]
      refine ⟨u.actions,w.actions,⟨rfl,rfl,hou.2.1,how.2.1⟩,?_⟩
      try simp only [go_sem,byq,p_ysInt,g0,e0,g1,e1,d2,g3,g4,e4,true_and,Bool.bne_false,Bool.bne_true,Bool.not_true,Bool.not_false,ybb]
      first
        | (simp (disch:=first | assumption | omega | (simp;done) | (simp;omega) | (simp only [bt,and_true];first | done | omega | (simp;done))) [↓zmi,beq,ybc,ybd,ybe,endOk,wk,wk2,wk1,wkM,wkL,wkLL,ybf,hcl];done)
        | (simp (disch:=first | assumption | omega | (simp;done) | (simp;omega) | (simp only [bt,and_true];first | done | omega | (simp;done))) [↓zmi,beq,ybc,ybd,ybe,endOk,wk,wk2,wk1,wkM,wkL,wkLL,ybf,hcl];repeat (first | exact AHeap.Le.refl _ | refine AHeap.Le.push ?_ _))
        | (refine ⟨?_,by repeat (first | exact AHeap.Le.refl _ | refine AHeap.Le.push ?_ _),hcl,?_⟩
           · simp [wk,wk2,wk1]
           · simp [zna];done)
    have e4:(u.quota != w.quota)=false:=by rw [bne,g4];rfl
    cases g5:(u.audit==w.audit)
    · have e5:(u.audit != w.audit)=true:=by rw [bne,g5];rfl
      simp only [g0,g1,g3,g4,g5,Bool.false_and,Bool.and_false,Bool.true_and] at hGU
      subst hGU
      rw [Bool.false_and] at hqi
      rw [← hqi]
      try simp only [go_sem,byq,p_ysInt,g0,e0,g1,e1,d2,g3,g4,e4,g5,e5,true_and,Bool.bne_false,Bool.bne_true,Bool.not_true,Bool.not_false,ybb]
      refine ⟨u.actions,w.actions,⟨rfl,rfl,hou.2.1,how.2.1⟩,?_⟩
      try simp only [go_sem,byq,p_ysInt,g0,e0,g1,e1,d2,g3,g4,e4,g5,e5,true_and,Bool.bne_false,Bool.bne_true,Bool.not_true,Bool.not_false,ybb]
      first
        | (simp (disch:=first | assumption | omega | (simp;done) | (simp;omega) | (simp only [bt,and_true];first | done | omega | (simp;done))) [↓zmi,beq,ybc,ybd,ybe,endOk,wk,wk2,wk1,wkM,wkL,wkLL,ybf,hcl];done)
        | (simp (disch:=first | assumption | omega | (simp;done) | (simp;omega) | (simp only [bt,and_true];first | done | omega | (simp;done))) [↓zmi,beq,ybc,ybd,ybe,endOk,wk,wk2,wk1,wkM,wkL,wkLL,ybf,hcl];repeat (first | exact AHeap.Le.refl _ | refine AHeap.Le.push ?_ _))
        | (refine ⟨?_,by repeat (first | exact AHeap.Le.refl _ | refine AHeap.Le.push ?_ _),hcl,?_⟩
           · simp [wk,wk2,wk1]
           · simp [zna];done)
    have e5:(u.audit != w.audit)=false:=by rw [bne,g5];rfl
    simp only [g0,g1,g3,g4,g5,Bool.and_true,Bool.true_and] at hGU
    try simp only [go_sem,byq,p_ysInt,g0,e0,g1,e1,d2,g3,g4,e4,g5,e5,true_and,Bool.bne_false,Bool.bne_true,Bool.not_true,Bool.not_false,ybb]
    refine ⟨u.actions,w.actions,⟨rfl,rfl,hou.2.1,how.2.1⟩,?_⟩
    try simp only [go_sem,byq,p_ysInt,g0,e0,g1,e1,d2,g3,g4,e4,g5,e5,true_and,Bool.bne_false,Bool.bne_true,Bool.not_true,Bool.not_false,ybb]
    have hcl4:((((H.push (.cells (schC X))).push (.cells (schC Y))).push (.cells [.int .i64 u.id,.str u.name,.slice .any 4 (u.grants.map grantAV),.slice .any 1 (inL u.actions),.int .i64 u.quota,.bool u.audit])).push (.cells [.int .i64 w.id,.str w.name,.slice .any 4 (w.grants.map grantAV),.slice .any 1 (inL w.actions),.int .i64 w.quota,.bool w.audit])).Closed:=closed_cells (closed_cells hcl2 hCu) hCw
    refine loop_introW (A:=Nat) (fun k=>[(3,.ptr (H.nx+1) 0),(61,.slice .any 6 (X.roles.map roleAV)),(62,.int .i64 (X.roles.length:Int)),(63,.int .i64 (i:Int)),(7,.ptr (H.nx+1+1+1) 0),(117,.slice .any 4 (u.grants.map grantAV)),(118,.int .i64 (u.grants.length:Int)),(119,.int .i64 (k:Int))]) (fun _=>((((H.push (.cells (schC X))).push (.cells (schC Y))).push (.cells [.int .i64 u.id,.str u.name,.slice .any 4 (u.grants.map grantAV),.slice .any 1 (inL u.actions),.int .i64 u.quota,.bool u.audit])).push (.cells [.int .i64 w.id,.str w.name,.slice .any 4 (w.grants.map grantAV),.slice .any 1 (inL w.actions),.int .i64 w.quota,.bool w.audit]))) (fun k=>k≤u.grants.length∧eqL eqGra (u.grants.drop k) (w.grants.drop k)=GU) (fun k=>u.grants.length - k) 0 ⟨by omega,hGU⟩ ?_ fun k hk=>?_
    · refine ⟨by simp only [zkk,zkp,zky];omega,by repeat (first | exact AHeap.Le.refl _ | refine AHeap.Le.push ?_ _),hcl4,?_,?_⟩
      · first | (simp [ltF,zky,znh,zmz,lt_map lt_roleAV,lt_map lt_grantAV,lt_roleAV,lt_grantAV];done) | (simp [ltF,zky,znh,zmz,lt_map lt_roleAV,lt_map lt_grantAV,lt_roleAV,lt_grantAV];omega)
      · simp [subW,wk2,wk1,wkM,Fr.get]
    obtain ⟨hk,hq⟩:=hk
    simp only [go_sem]
    refine cond_split (fun hc=>?_) (fun hc=>?_)
    · have hk':k<u.grants.length:=by simp at hc;omega
      have hk2:k<w.grants.length:=by omega
      obtain ⟨x,hx⟩:∃ x,x=u.grants[k]:=⟨_,rfl⟩
      obtain ⟨y,hy⟩:∃ y,y=w.grants[k]:=⟨_,rfl⟩
      have hd:u.grants.drop k=x::u.grants.drop (k+1):=by rw [hx];exact List.drop_eq_getElem_cons hk'
      have hd2:w.grants.drop k=y::w.grants.drop (k+1):=by rw [hy];exact List.drop_eq_getElem_cons hk2
      have hg:=getD_map (f:=grantAV) (l:=u.grants) (k:=k) (x:=x) (by rw [List.getElem?_eq_getElem hk',hx])
      have hg2:=getD_map (f:=grantAV) (l:=w.grants) (k:=k) (x:=y) (by rw [List.getElem?_eq_getElem hk2,hy])
      have e5:IntKind.i64.wrap ((k:Int)+1)=((k+1:Nat):Int):=by rw [wrap_i64]<;>omega
      have hox:CGra x:=hou.2.2 x (by rw [hx];exact List.getElem_mem hk')
      have hoy:CGra y:=how.2.2 y (by rw [hy];exact List.getElem_mem hk2)
      rw [hd,hd2] at hq
      unfold eqL at hq
      obtain ⟨G,hG⟩:∃ G,eqGra x y=G:=⟨_,rfl⟩
      rw [hG] at hq
      unfold eqGra at hG
      simp only [go_sem,Int.toNat_natCast,ybb,hg,hg2,grantAV,schC]
      (repeat with_reducible refine And.intro (by first | assumption | decide | omega) ?_)
      try simp only [go_sem,Int.toNat_natCast,ybb,hg,hg2,grantAV]
      (repeat with_reducible refine And.intro (by first | assumption | decide | omega) ?_)
      cases h0:(x.table==y.table)
      · have b0:(x.table != y.table)=true:=by rw [bne,h0];rfl
        simp only [h0,Bool.false_and,Bool.and_false,Bool.true_and] at hG
        subst hG
        rw [Bool.false_and] at hq
        try simp only [go_sem,byq,p_ysBoo,h0,b0,true_and,Bool.bne_false,Bool.bne_true,Bool.not_true,Bool.not_false]
        subst hq
        rw [Bool.false_and] at hqi
        rw [← hqi]
        try simp only [go_sem]
        first
          | (simp (disch:=first | assumption | omega | (simp;done) | (simp;omega) | (simp only [bt,and_true];first | done | omega | (simp;done))) [↓zmi,beq,ybc,ybd,ybe,endOk,wk,wk2,wk1,wkM,wkL,wkLL,ybf,hcl];done)
          | (simp (disch:=first | assumption | omega | (simp;done) | (simp;omega) | (simp only [bt,and_true];first | done | omega | (simp;done))) [↓zmi,beq,ybc,ybd,ybe,endOk,wk,wk2,wk1,wkM,wkL,wkLL,ybf,hcl];repeat (first | exact AHeap.Le.refl _ | refine AHeap.Le.push ?_ _))
          | (refine ⟨?_,by repeat (first | exact AHeap.Le.refl _ | refine AHeap.Le.push ?_ _),hcl,?_⟩
             · simp [wk,wk2,wk1]
             · simp [zna];done)
      have b0:(x.table != y.table)=false:=by rw [bne,h0];rfl
      cases h1:(x.read==y.read)
      · have b1:(x.read != y.read)=true:=by rw [bne,h1];rfl
        simp only [h0,h1,Bool.false_and,Bool.and_false,Bool.true_and] at hG
        subst hG
        rw [Bool.false_and] at hq
        try simp only [go_sem,byq,p_ysBoo,h0,b0,h1,b1,true_and,Bool.bne_false,Bool.bne_true,Bool.not_true,Bool.not_false]
        subst hq
        rw [Bool.false_and] at hqi
        rw [← hqi]
        try simp only [go_sem]
        first
          | (simp (disch:=first | assumption | omega | (simp;done) | (simp;omega) | (simp only [bt,and_true];first | done | omega | (simp;done))) [↓zmi,beq,ybc,ybd,ybe,endOk,wk,wk2,wk1,wkM,wkL,wkLL,ybf,hcl];done)
          | (simp (disch:=first | assumption | omega | (simp;done) | (simp;omega) | (simp only [bt,and_true];first | done | omega | (simp;done))) [↓zmi,beq,ybc,ybd,ybe,endOk,wk,wk2,wk1,wkM,wkL,wkLL,ybf,hcl];repeat (first | exact AHeap.Le.refl _ | refine AHeap.Le.push ?_ _))
          | (refine ⟨?_,by repeat (first | exact AHeap.Le.refl _ | refine AHeap.Le.push ?_ _),hcl,?_⟩
             · simp [wk,wk2,wk1]
             · simp [zna];done)
      have b1:(x.read != y.read)=false:=by rw [bne,h1];rfl
      cases h2:(x.write==y.write)
      · have b2:(x.write != y.write)=true:=by rw [bne,h2];rfl
        simp only [h0,h1,h2,Bool.false_and,Bool.and_false,Bool.true_and] at hG
        subst hG
        rw [Bool.false_and] at hq
        try simp only [go_sem,byq,p_ysBoo,h0,b0,h1,b1,h2,b2,true_and,Bool.bne_false,Bool.bne_true,Bool.not_true,Bool.not_false]
        subst hq
        rw [Bool.false_and] at hqi
        rw [← hqi]
        try simp only [go_sem]
        first
          | (simp (disch:=first | assumption | omega | (simp;done) | (simp;omega) | (simp only [bt,and_true];first | done | omega | (simp;done))) [↓zmi,beq,ybc,ybd,ybe,endOk,wk,wk2,wk1,wkM,wkL,wkLL,ybf,hcl];done)
          | (simp (disch:=first | assumption | omega | (simp;done) | (simp;omega) | (simp only [bt,and_true];first | done | omega | (simp;done))) [↓zmi,beq,ybc,ybd,ybe,endOk,wk,wk2,wk1,wkM,wkL,wkLL,ybf,hcl];repeat (first | exact AHeap.Le.refl _ | refine AHeap.Le.push ?_ _))
          | (refine ⟨?_,by repeat (first | exact AHeap.Le.refl _ | refine AHeap.Le.push ?_ _),hcl,?_⟩
             · simp [wk,wk2,wk1]
             · simp [zna];done)
      have b2:(x.write != y.write)=false:=by rw [bne,h2];rfl
      cases h3:(eqL eqB x.keys y.keys)
      · simp only [h0,h1,h2,h3,Bool.false_and,Bool.and_false,Bool.true_and] at hG
        subst hG
        rw [Bool.false_and] at hq
        try simp only [go_sem,byq,p_ysBoo,h0,b0,h1,b1,h2,b2,h3,true_and,Bool.bne_false,Bool.bne_true,Bool.not_true,Bool.not_false]
        refine ⟨x.keys,y.keys,⟨rfl,rfl,hox,hoy⟩,?_⟩
        try simp only [go_sem,byq,p_ysBoo,h0,b0,h1,b1,h2,b2,h3,true_and,Bool.bne_false,Bool.bne_true,Bool.not_true,Bool.not_false]
        subst hq
        rw [Bool.false_and] at hqi
        rw [← hqi]
        try simp only [go_sem]
        first
          | (simp (disch:=first | assumption | omega | (simp;done) | (simp;omega) | (simp only [bt,and_true];first | done | omega | (simp;done))) [↓zmi,beq,ybc,ybd,ybe,endOk,wk,wk2,wk1,wkM,wkL,wkLL,ybf,hcl];done)
          | (simp (disch:=first | assumption | omega | (simp;done) | (simp;omega) | (simp only [bt,and_true];first | done | omega | (simp;done))) [↓zmi,beq,ybc,ybd,ybe,endOk,wk,wk2,wk1,wkM,wkL,wkLL,ybf,hcl];repeat (first | exact AHeap.Le.refl _ | refine AHeap.Le.push ?_ _))
          | (refine ⟨?_,by repeat (first | exact AHeap.Le.refl _ | refine AHeap.Le.push ?_ _),hcl,?_⟩
             · simp [wk,wk2,wk1]
             · simp [zna];done)
      simp only [h0,h1,h2,h3,Bool.and_true,Bool.true_and] at hG
      subst hG
      rw [Bool.true_and] at hq
      try simp only [go_sem,byq,p_ysBoo,h0,b0,h1,b1,h2,b2,h3,true_and,Bool.bne_false,Bool.bne_true,Bool.not_true,Bool.not_false]
      refine ⟨x.keys,y.keys,⟨rfl,rfl,hox,hoy⟩,?_⟩
      try simp only [go_sem,byq,p_ysBoo,h0,b0,h1,b1,h2,b2,h3,true_and,Bool.bne_false,Bool.bne_true,Bool.not_true,Bool.not_false]
      try simp only [go_sem,e5]
      refine ⟨k+1,⟨by omega,hq⟩,by omega,by (try simp only [zkk,zkp,zky]);omega,by repeat (first | exact AHeap.Le.refl _ | refine AHeap.Le.push ?_ _),hcl4,?_,?_⟩
      · first | (simp [ltF,zky,znh,zmz,lt_map lt_roleAV,lt_map lt_grantAV,lt_roleAV,lt_grantAV];done) | (simp [ltF,zky,znh,zmz,lt_map lt_roleAV,lt_map lt_grantAV,lt_roleAV,lt_grantAV];omega)
      · simp [subW,wk2,wk1,wkM,Fr.get]
    have hk':k=u.grants.length:=by simp at hc;omega
    subst hk'
    rw [List.drop_length,hlen_Gra,List.drop_length] at hq
    unfold eqL at hq
    subst hq
    rw [Bool.true_and] at hqi
    try simp only [go_sem,e5i]
    refine ⟨i+1,⟨by omega,hqi⟩,by omega,by (try simp only [zkk,zkp,zky]);omega,by repeat (first | exact AHeap.Le.refl _ | refine AHeap.Le.push ?_ _),hcl2,?_,?_⟩
    · first | (simp [ltF,zky,znh,zmz,lt_map lt_roleAV,lt_map lt_grantAV,lt_roleAV,lt_grantAV];done) | (simp [ltF,zky,znh,zmz,lt_map lt_roleAV,lt_map lt_grantAV,lt_roleAV,lt_grantAV];omega)
    · simp [subW,wk2,wk1,wkM,Fr.get]
  have hi':i=X.roles.length:=by simp at hci;omega
  subst hi'
  rw [List.drop_length,hlen,List.drop_length] at hqi
  unfold eqL at hqi
  subst hqi
  try simp only [go_sem,Bool.true_and]
  first
    | (simp (disch:=first | assumption | omega | (simp;done) | (simp;omega) | (simp only [bt,and_true];first | done | omega | (simp;done))) [↓zmi,beq,ybc,ybd,ybe,endOk,wk,wk2,wk1,wkM,wkL,wkLL,ybf,hcl];done)
    | (simp (disch:=first | assumption | omega | (simp;done) | (simp;omega) | (simp only [bt,and_true];first | done | omega | (simp;done))) [↓zmi,beq,ybc,ybd,ybe,endOk,wk,wk2,wk1,wkM,wkL,wkLL,ybf,hcl];repeat (first | exact AHeap.Le.refl _ | refine AHeap.Le.push ?_ _))
    | (refine ⟨?_,by repeat (first | exact AHeap.Le.refl _ | refine AHeap.Le.push ?_ _),hcl,?_⟩
       · simp [wk,wk2,wk1]
       · simp [zna];done)
end Go.AL


open Go Go.AL Go.Proofs
namespace Go.AL
set_option linter.all false
set_option maxRecDepth 10000

theorem SmP.csch {x:Sch} (h:SmP 50 1100000 x):CSch x where
  f:=by have:=h.f.1;omega
  h:=by have:=h.h.1;omega
  h':=fun e he=>by have:=(h.h.2 e he).2;unfold CHdr;omega
  s:=by have:=h.s.1;omega
  s':=fun e he=>by have:=(h.s.2 e he).1;unfold CSta;omega
  a:=by have:=h.a.1;omega
  a':=fun e he=>by have:=(h.a.2 e he).2;unfold CAct;omega
  t:=by have:=h.t.1;omega
  t':=fun e he=>by have:=(h.t.2 e he).2;unfold CTab;omega
  g:=by have:=h.g;omega
  r:=by have:=h.r.1;omega
  r':=fun e he=>by
    have h1:=(h.r.2 e he).2
    exact ⟨by omega,by omega,fun g hg=>by have:=h1.2.2 g hg;unfold CGra;omega⟩
  x:=by have:=h.x;omega
def p_SchemaSame:List AV→AHeap→(AV→Prop)→Prop
  | [.agg l,.agg l',.slice _ 1 l1,.int .i64 w,.int .i64 n,.str t],_,K=>∃ a b:Sch,(l=schC a∧l'=schC b∧CSch a∧CSch b∧isB l1 ∧ -9223372036854775808≤w∧w≤9223372036854775807)∧K (.bool true)
  | _,_,_=>False
set_option maxHeartbeats 16000000 in
theorem ok_SchemaSame:EntOk Tryz.prog 8 (Ent.pure p_SchemaSame):=by
  refine EntOk.pure fun args H K h=>?_
  unfold p_SchemaSame at h
  split at h
  rotate_left
  · exact h.elim
  rename_i l l' m1 l1 w n t
  obtain ⟨a,b,⟨rfl,rfl,ha,hb,c1,hw1,hw2⟩,hK⟩:=h
  refine ⟨_,hK,?_⟩
  clear hK
  obtain ⟨x1,rfl⟩:=isB_out c1
  obtain ⟨B1,hB1⟩:∃ B1,x1.take (min (x1.length:Int) 120).toNat=B1:=⟨_,rfl⟩
  have hL1:B1.length≤1000000:=by rw [← hB1,List.length_take];omega
  have hG:=gS_small B1 0
  have hGb:=gS_bent B1 0
  generalize hS:gSchema B1 0=SS at *
  obtain ⟨S,w1⟩:=SS
  dsimp only at hG hGb
  have hz1:zod B1 0=codV B1 (cp 0 0):=zod_codV3
  have hta:=ha.t
  have htb:=hb.t
  refine ACalls.of_aw (Ω:=[(12,Ent.pure p_light3),(13,Ent.pure p_begun03),(14,Ent.effect e_ZNew),(15,Ent.effect e_CSchema),(16,Ent.pure p_bent03),(30,Ent.pure p_zSame),(29,Ent.pure p_ySame)]) (T:=assoc [(5,[[],[],[0,1],[],[],[0,1,2,3,4],[],[],[2,5],[2,5],[0,1,2,3,4,5,8,9],[2,5],[2,5],[0,1,2,3,4,5,8,9,10,11,12],[],[],[],[2,5,10,13],[2,5,10,13],[0,1,2,3,4,5,8,9,10,11,12,13,17,18],[],[],[2,5,10,13,19],[2,5,10,13,19],[0,1,2,3,4,5,8,9,10,11,12,13,17,18,19,22,23],[],[],[0,1,2,3,4,5,8,9,10,11,12,13,17,18,19,22,23,24]])]) mixed (TblOk.cons ok_light3 (TblOk.cons ok_begun03 (TblOk.cons ok_ZNew (TblOk.cons ok_CSchema (TblOk.cons ok_bent03 (TblOk.cons ok_zSame (TblOk.cons ok_ySame TblOk.nil))))))) Tryz.func8 (by kernel_rfl) (by rfl) (rs:=[.tmp 12]) (by rfl) (by kernel_rfl) (by simp only [Tryz.ntmps8,yaz,yba];decide) (Nat.le_refl _) fun hcl hlt=>?_
  change aw _ _ _ (KI Tryz.prog [(12,Ent.pure p_light3),(13,Ent.pure p_begun03),(14,Ent.effect e_ZNew),(15,Ent.effect e_CSchema),(16,Ent.pure p_bent03),(30,Ent.pure p_zSame),(29,Ent.pure p_ySame)] (aEnd Tryz.prog [.tmp 12] H.nx _ _ (assoc [(5,[[],[],[0,1],[],[],[0,1,2,3,4],[],[],[2,5],[2,5],[0,1,2,3,4,5,8,9],[2,5],[2,5],[0,1,2,3,4,5,8,9,10,11,12],[],[],[],[2,5,10,13],[2,5,10,13],[0,1,2,3,4,5,8,9,10,11,12,13,17,18],[],[],[2,5,10,13,19],[2,5,10,13,19],[0,1,2,3,4,5,8,9,10,11,12,13,17,18,19,22,23],[],[],[0,1,2,3,4,5,8,9,10,11,12,13,17,18,19,22,23,24]])])) []) _ _
  clear hlt
  have hSch:e_CSchema=eG fun b v=>(schAV (gSchema b v).1,(gSchema b v).2):=rfl
  cases hla:lightS a
  case false =>
    simp only [go_sem,p_light3,schC]
    refine ⟨a,⟨rfl,by omega⟩,?_⟩
    rw [hla]
    simp only [go_sem,p_begun03]
    exact ⟨rfl,by repeat (first | exact AHeap.Le.refl _ | refine AHeap.Le.push ?_ _),hcl,by rw [zna];trivial⟩
  cases hlb:lightS b
  case false =>
    simp only [go_sem,p_light3,schC]
    refine ⟨a,⟨rfl,by omega⟩,?_⟩
    rw [hla]
    simp only [go_sem,p_light3]
    refine ⟨b,⟨rfl,by omega⟩,?_⟩
    rw [hlb]
    simp only [go_sem,p_begun03]
    exact ⟨rfl,by repeat (first | exact AHeap.Le.refl _ | refine AHeap.Le.push ?_ _),hcl,by rw [zna];trivial⟩
  cases hlt:decide ((t.length:Int) > 500)
  case true =>
    simp only [go_sem,p_light3,schC]
    refine ⟨a,⟨rfl,by omega⟩,?_⟩
    rw [hla]
    simp only [go_sem,p_light3]
    refine ⟨b,⟨rfl,by omega⟩,?_⟩
    rw [hlb]
    simp only [go_sem,p_begun03,hlt]
    exact ⟨rfl,by repeat (first | exact AHeap.Le.refl _ | refine AHeap.Le.push ?_ _),hcl,by rw [zna];trivial⟩
  have ht:t.length≤500:=by have:=of_decide_eq_false hlt;omega
  simp only [go_sem,p_light3,schC]
  refine ⟨a,⟨rfl,by omega⟩,?_⟩
  rw [hla]
  simp only [go_sem,p_light3]
  refine ⟨b,⟨rfl,by omega⟩,?_⟩
  rw [hlb]
  simp only [go_sem,p_begun03,hlt,e_ZNew]
  refine ⟨x1,⟨rfl,by decide⟩,?_⟩
  rw [hB1,hz1]
  simp only [blkE,blkP,bhq,Nat.reduceMod,Nat.reduceDiv,stepH,stepM,toMs1,toMs,toMs0,strK,pubK,pubF,pubV,yaq,yar,yao,yap,go_sem,hSch,eG,onC_cod hL1,Nat.zero_min,cp0,hS,schAV,schC]
  refine ⟨S,⟨rfl,hGb,hw1,hw2⟩,?_⟩
  have hX:=((hG.bent w n ht).mono (N':=50) (R':=1100000) (by decide) (by decide)).csch
  have hG2:=(hG.mono (N':=50) (R':=1100000) (by decide) (by decide)).csch
  generalize bentS S w n t=X at *
  simp only [blkE,blkP,bhq,Nat.reduceMod,Nat.reduceDiv,stepH,stepM,toMs1,toMs,toMs0,strK,pubK,pubF,pubV,yaq,yar,yao,yap,go_sem,schAV,schC,p_zSame,p_ySame,pSame]
  refine ⟨a,b,⟨rfl,rfl,ha,hb⟩,?_⟩
  try simp only [blkE,blkP,bhq,Nat.reduceMod,Nat.reduceDiv,stepH,stepM,toMs1,toMs,toMs0,strK,pubK,pubF,pubV,yaq,yar,yao,yap,go_sem,p_zSame,p_ySame,pSame]
  refine ⟨a,b,⟨rfl,rfl,ha,hb⟩,?_⟩
  try simp only [blkE,blkP,bhq,Nat.reduceMod,Nat.reduceDiv,stepH,stepM,toMs1,toMs,toMs0,strK,pubK,pubF,pubV,yaq,yar,yao,yap,go_sem,p_zSame,p_ySame,pSame,beq_self_eq_true,Bool.bne_false]
  refine ⟨S,X,⟨rfl,rfl,hG2,hX⟩,?_⟩
  try simp only [blkE,blkP,bhq,Nat.reduceMod,Nat.reduceDiv,stepH,stepM,toMs1,toMs,toMs0,strK,pubK,pubF,pubV,yaq,yar,yao,yap,go_sem,p_zSame,p_ySame,pSame,beq_self_eq_true,Bool.bne_false]
  refine ⟨S,X,⟨rfl,rfl,hG2,hX⟩,?_⟩
  try simp only [blkE,blkP,bhq,Nat.reduceMod,Nat.reduceDiv,stepH,stepM,toMs1,toMs,toMs0,strK,pubK,pubF,pubV,yaq,yar,yao,yap,go_sem,p_zSame,p_ySame,pSame,beq_self_eq_true,Bool.bne_false]
  refine ⟨a,a,⟨rfl,rfl,ha,ha⟩,?_⟩
  try simp only [blkE,blkP,bhq,Nat.reduceMod,Nat.reduceDiv,stepH,stepM,toMs1,toMs,toMs0,strK,pubK,pubF,pubV,yaq,yar,yao,yap,go_sem,p_zSame,p_ySame,pSame,beq_self_eq_true,eqSch_refl,Bool.bne_false]
  refine ⟨X,X,⟨rfl,rfl,hX,hX⟩,?_⟩
  try simp only [blkE,blkP,bhq,Nat.reduceMod,Nat.reduceDiv,stepH,stepM,toMs1,toMs,toMs0,strK,pubK,pubF,pubV,yaq,yar,yao,yap,go_sem,p_begun03,beq_self_eq_true,eqSch_refl,Bool.bne_false]
  refine ⟨?_,by repeat (first | exact AHeap.Le.refl _ | refine AHeap.Le.push ?_ _),hcl,?_⟩
  · simp [wk,wk2,wk1]
  · simp [zna]
end Go.AL

