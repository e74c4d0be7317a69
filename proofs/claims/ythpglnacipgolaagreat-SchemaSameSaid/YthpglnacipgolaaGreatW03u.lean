/- Contracts and plain laws, a part of the proof; no condition of its own. -/
import Derived.Test.YthpglnacipgolaaGreatW03p
open List renaming length_cons → yaz, length_nil → yba, length_map → ybb, take_of_length_le → ybc, drop_append → ybd, take_append → ybe, drop_eq_nil_of_le → ybf, cons_append → yal, nil_append → yak
open Go Go.AL Go.Proofs
namespace Go.AL
set_option linter.all false
set_option maxRecDepth 10000
theorem ti_qFld:ti Tryz.prog 76=some ⟨.struct [(0,3,false),(1,9,false),(2,3,false)],3,32,.agg [.int .i64 0,.str [],.int .i64 0]⟩:=by kernel_rfl
theorem ti_qCas:ti Tryz.prog 306=some ⟨.struct [(0,83,false),(2,83,false),(4,3,false)],5,40,.agg [.int .u64 0,.int .u64 0,.int .u64 0,.int .u64 0,.int .i64 0]⟩:=by kernel_rfl
theorem ti_qPar:ti Tryz.prog 122=some ⟨.struct [(0,9,false),(1,3,false)],2,24,.agg [.str [],.int .i64 0]⟩:=by kernel_rfl
theorem ti_qPri:ti Tryz.prog 129=some ⟨.struct [(0,3,false),(1,3,false),(2,127,false)],6,48,.agg [.int .i64 0,.int .i64 0,.int .i64 0,.int .i64 0,.int .u64 0,.int .u64 0]⟩:=by kernel_rfl
theorem ti_qKey:ti Tryz.prog 308=some ⟨.struct [(0,9,false),(1,3,false),(2,3,false)],3,32,.agg [.str [],.int .i64 0,.int .i64 0]⟩:=by kernel_rfl
theorem ti_qStg:ti Tryz.prog 78=some ⟨.struct [(0,3,false),(1,3,false)],2,16,.agg [.int .i64 0,.int .i64 0]⟩:=by kernel_rfl
theorem ti_qRef:ti Tryz.prog 120=some ⟨.struct [(0,3,false),(1,3,false),(2,3,false),(3,3,false),(4,3,false),(5,3,false)],6,48,.agg [.int .i64 0,.int .i64 0,.int .i64 0,.int .i64 0,.int .i64 0,.int .i64 0]⟩:=by kernel_rfl
theorem ti_qVal:ti Tryz.prog 83=some ⟨.struct [(0,81,false),(1,81,false)],2,16,.agg [.int .u64 0,.int .u64 0]⟩:=by kernel_rfl
theorem ti_qOpd:ti Tryz.prog 127=some ⟨.struct [(0,3,false),(1,3,false),(2,83,false)],4,32,.agg [.int .i64 0,.int .i64 0,.int .u64 0,.int .u64 0]⟩:=by kernel_rfl
theorem ti_qi:ti Tryz.prog 3=some ⟨.int .i64,1,8,.int .i64 0⟩:=by kernel_rfl
theorem ti_qs:ti Tryz.prog 9=some ⟨.string,1,16,.str []⟩:=by kernel_rfl
theorem ti_qb:ti Tryz.prog 4=some ⟨.bool,1,1,.bool false⟩:=by kernel_rfl
theorem ti_qu:ti Tryz.prog 81=some ⟨.int .u64,1,8,.int .u64 0⟩:=by kernel_rfl
attribute [go_sem] ti_qFld ti_qCas ti_qPar ti_qPri ti_qKey ti_qStg ti_qRef ti_qVal ti_qOpd ti_qi ti_qs ti_qb ti_qu
def eqL {α:Type} (p:α→α→Bool):List α→List α→Bool
  | [],[]=>true
  | x::xs,y::ys=>p x y&&eqL p xs ys
  | _,_=>false
theorem eqL_len {α:Type} {p:α→α→Bool}:∀ {xs ys:List α},xs.length≠ys.length→eqL p xs ys=false
  | [],[],h=>absurd rfl h
  | [],_::_,_=>rfl
  | _::_,[],_=>rfl
  | x::xs,y::ys,h=>by
    unfold eqL
    rw [eqL_len (p:=p) (xs:=xs) (ys:=ys) (by simpa using h),Bool.and_false]
def iAV (x:Int):AV:=.int .i64 x
def bAV (x:Bool):AV:=.bool x
def eqI (x y:Int):Bool:=x==y
def eqB (x y:Bool):Bool:=x==y
def eqV (x y:Nat):Bool:=(((x/2^64:Nat):Int)==((y/2^64:Nat):Int))&&((((x % 2^64:Nat):Int)==((y % 2^64:Nat):Int))&&true)
theorem eqI_refl (x:Int):eqI x x=true:=by simp [eqI]
theorem eqB_refl (x:Bool):eqB x x=true:=by simp [eqB]
theorem eqV_refl (x:Nat):eqV x x=true:=by simp [eqV]
theorem eqL_refl {α:Type} {p:α→α→Bool} (hp:∀ x,p x x=true):∀ l,eqL p l l=true
  | []=>rfl
  | x::l=>by unfold eqL;rw [hp,eqL_refl hp l];rfl
def eqFld (a b:SField):Bool:=(a.id==b.id)&&((a.name==b.name)&&((a.bits==b.bits)&&true))
theorem eqFld_refl (a:SField):eqFld a a=true:=by simp [eqFld,eqV]
theorem eqg_Fld:Tryz.prog.eqGuardType Tryz.prog.depth 76=false:=by kernel_rfl
theorem teq_Fld {a b:SField}:teq Tryz.prog 9 76 (.agg [.int .i64 a.id,.str a.name,.int .i64 a.bits]) (.agg [.int .i64 b.id,.str b.name,.int .i64 b.bits])=some (eqFld a b):=by
  have g2:Tryz.prog.stoodInHeld 76=false:=by kernel_rfl
  have g3:Tryz.prog.stoodInHeld 83=false:=by kernel_rfl
  simp [ti_qFld,ti_qVal,ti_qOpd,teq,teq.go,teq.part,ti_qi,ti_qs,ti_qu,ceq,g2,g3,TD.agg,eqFld,eqV]
def eqCas (a b:SCase):Bool:=eqV a.value b.value&&(eqV a.mask b.mask&&((a.next==b.next)&&true))
theorem eqCas_refl (a:SCase):eqCas a a=true:=by simp [eqCas,eqV]
theorem eqg_Cas:Tryz.prog.eqGuardType Tryz.prog.depth 306=false:=by kernel_rfl
theorem teq_Cas {a b:SCase}:teq Tryz.prog 9 306 (.agg [.int .u64 ((a.value/2^64:Nat):Int),.int .u64 ((a.value % 2^64:Nat):Int),.int .u64 ((a.mask/2^64:Nat):Int),.int .u64 ((a.mask % 2^64:Nat):Int),.int .i64 a.next]) (.agg [.int .u64 ((b.value/2^64:Nat):Int),.int .u64 ((b.value % 2^64:Nat):Int),.int .u64 ((b.mask/2^64:Nat):Int),.int .u64 ((b.mask % 2^64:Nat):Int),.int .i64 b.next])=some (eqCas a b):=by
  have g2:Tryz.prog.stoodInHeld 306=false:=by kernel_rfl
  have g3:Tryz.prog.stoodInHeld 83=false:=by kernel_rfl
  simp [ti_qCas,ti_qVal,ti_qOpd,teq,teq.go,teq.part,ti_qi,ti_qs,ti_qu,ceq,g2,g3,TD.agg,eqCas,eqV]
def eqPar (a b:SParam):Bool:=(a.name==b.name)&&((a.bits==b.bits)&&true)
theorem eqPar_refl (a:SParam):eqPar a a=true:=by simp [eqPar,eqV]
theorem eqg_Par:Tryz.prog.eqGuardType Tryz.prog.depth 122=false:=by kernel_rfl
theorem teq_Par {a b:SParam}:teq Tryz.prog 9 122 (.agg [.str a.name,.int .i64 a.bits]) (.agg [.str b.name,.int .i64 b.bits])=some (eqPar a b):=by
  have g2:Tryz.prog.stoodInHeld 122=false:=by kernel_rfl
  have g3:Tryz.prog.stoodInHeld 83=false:=by kernel_rfl
  simp [ti_qPar,ti_qVal,ti_qOpd,teq,teq.go,teq.part,ti_qi,ti_qs,ti_qu,ceq,g2,g3,TD.agg,eqPar,eqV]
def eqPri (a b:SPrim):Bool:=(a.op==b.op)&&((a.dst==b.dst)&&((a.kind==b.kind)&&((a.n==b.n)&&(eqV a.value b.value&&true))))
theorem eqPri_refl (a:SPrim):eqPri a a=true:=by simp [eqPri,eqV]
theorem eqg_Pri:Tryz.prog.eqGuardType Tryz.prog.depth 129=false:=by kernel_rfl
theorem teq_Pri {a b:SPrim}:teq Tryz.prog 9 129 (.agg [.int .i64 a.op,.int .i64 a.dst,.int .i64 a.kind,.int .i64 a.n,.int .u64 ((a.value/2^64:Nat):Int),.int .u64 ((a.value % 2^64:Nat):Int)]) (.agg [.int .i64 b.op,.int .i64 b.dst,.int .i64 b.kind,.int .i64 b.n,.int .u64 ((b.value/2^64:Nat):Int),.int .u64 ((b.value % 2^64:Nat):Int)])=some (eqPri a b):=by
  have g2:Tryz.prog.stoodInHeld 129=false:=by kernel_rfl
  have g3:Tryz.prog.stoodInHeld 83=false:=by kernel_rfl
  simp [ti_qPri,ti_qVal,ti_qOpd,teq,teq.go,teq.part,ti_qi,ti_qs,ti_qu,ceq,g2,g3,TD.agg,eqPri,eqV]
def eqKey (a b:SKey):Bool:=(a.name==b.name)&&((a.field==b.field)&&((a.kind==b.kind)&&true))
theorem eqKey_refl (a:SKey):eqKey a a=true:=by simp [eqKey,eqV]
theorem eqg_Key:Tryz.prog.eqGuardType Tryz.prog.depth 308=false:=by kernel_rfl
theorem teq_Key {a b:SKey}:teq Tryz.prog 9 308 (.agg [.str a.name,.int .i64 a.field,.int .i64 a.kind]) (.agg [.str b.name,.int .i64 b.field,.int .i64 b.kind])=some (eqKey a b):=by
  have g2:Tryz.prog.stoodInHeld 308=false:=by kernel_rfl
  have g3:Tryz.prog.stoodInHeld 83=false:=by kernel_rfl
  simp [ti_qKey,ti_qVal,ti_qOpd,teq,teq.go,teq.part,ti_qi,ti_qs,ti_qu,ceq,g2,g3,TD.agg,eqKey,eqV]
def eqStg (a b:SStage):Bool:=(a.table==b.table)&&((a.header==b.header)&&true)
theorem eqStg_refl (a:SStage):eqStg a a=true:=by simp [eqStg,eqV]
theorem eqg_Stg:Tryz.prog.eqGuardType Tryz.prog.depth 78=false:=by kernel_rfl
theorem teq_Stg {a b:SStage}:teq Tryz.prog 9 78 (.agg [.int .i64 a.table,.int .i64 a.header]) (.agg [.int .i64 b.table,.int .i64 b.header])=some (eqStg a b):=by
  have g2:Tryz.prog.stoodInHeld 78=false:=by kernel_rfl
  have g3:Tryz.prog.stoodInHeld 83=false:=by kernel_rfl
  simp [ti_qStg,ti_qVal,ti_qOpd,teq,teq.go,teq.part,ti_qi,ti_qs,ti_qu,ceq,g2,g3,TD.agg,eqStg,eqV]
def eqRef (a b:SRef):Bool:=(a.table==b.table)&&((a.key==b.key)&&((a.action==b.action)&&((a.param==b.param)&&((a.toTable==b.toTable)&&((a.toKey==b.toKey)&&true)))))
theorem eqRef_refl (a:SRef):eqRef a a=true:=by simp [eqRef,eqV]
theorem eqg_Ref:Tryz.prog.eqGuardType Tryz.prog.depth 120=false:=by kernel_rfl
theorem teq_Ref {a b:SRef}:teq Tryz.prog 9 120 (.agg [.int .i64 a.table,.int .i64 a.key,.int .i64 a.action,.int .i64 a.param,.int .i64 a.toTable,.int .i64 a.toKey]) (.agg [.int .i64 b.table,.int .i64 b.key,.int .i64 b.action,.int .i64 b.param,.int .i64 b.toTable,.int .i64 b.toKey])=some (eqRef a b):=by
  have g2:Tryz.prog.stoodInHeld 120=false:=by kernel_rfl
  have g3:Tryz.prog.stoodInHeld 83=false:=by kernel_rfl
  simp [ti_qRef,ti_qVal,ti_qOpd,teq,teq.go,teq.part,ti_qi,ti_qs,ti_qu,ceq,g2,g3,TD.agg,eqRef,eqV]
theorem eqg_Val:Tryz.prog.eqGuardType Tryz.prog.depth 83=false:=by kernel_rfl
theorem teq_Val {a b:Nat}:teq Tryz.prog 9 83 (.agg [.int .u64 ((a/2^64:Nat):Int),.int .u64 ((a % 2^64:Nat):Int)]) (.agg [.int .u64 ((b/2^64:Nat):Int),.int .u64 ((b % 2^64:Nat):Int)])=some (eqV a b):=by
  have g3:Tryz.prog.stoodInHeld 83=false:=by kernel_rfl
  simp [ti_qVal,teq,teq.go,teq.part,ti_qu,ceq,g3,TD.agg,eqV]
def p_zsFld:List AV→AHeap→(AV→Prop)→Prop
  | [.slice _ 3 l,.slice _ 3 k],_,K=>∃ xs ys:List (SField),(l=xs.map fieldAV∧k=ys.map fieldAV∧xs.length≤140737488355328∧ys.length≤140737488355328∧True)∧K (.bool (eqL eqFld xs ys))
  | _,_,_=>False
set_option maxHeartbeats 2000000 in
theorem ok_zsFld:EntOk Tryz.prog 131 (Ent.pure p_zsFld):=by
  refine EntOk.pure fun args H K h=>?_
  unfold p_zsFld at h
  split at h
  rotate_left
  · exact h.elim
  rename_i m1 l m2 k
  obtain ⟨xs,ys,⟨rfl,rfl,hl1,hl2,ho⟩,hK⟩:=h
  clear ho
  refine ⟨_,hK,?_⟩
  clear hK
  obtain ⟨R,hR⟩:∃ R,eqL eqFld xs ys=R:=⟨_,rfl⟩
  rw [hR]
  by_cases hlen:xs.length=ys.length
  case neg =>
    rw [eqL_len hlen] at hR
    subst hR
    have d0:((xs.length:Int) != (ys.length:Int))=true:=by rw [bne_iff_ne];omega
    refine ACalls.of_aw (Ω:=[]) (T:=assoc []) mixed TblOk.nil Tryz.func131 (by kernel_rfl) (by rfl) (rs:=[.tmp 4]) (by rfl) (by kernel_rfl) (by simp only [Tryz.ntmps131,yaz,yba];decide) (Nat.le_refl _) fun hcl hlt=>?_
    change aw _ _ _ (KI Tryz.prog [] (aEnd Tryz.prog [.tmp 4] H.nx _ _ (assoc [])) []) _ _
    clear hlt
    simp only [go_sem,ybb,d0]
    simp (disch:=first | assumption | omega | (simp;done) | (simp;omega) | (simp only [bt,and_true];first | done | omega | (simp;done))) [↓zmi,beq,ybc,ybd,ybe,endOk,wk,wk2,wk1,wkM,wkL,wkLL,ybf,hcl]
  have d0:((xs.length:Int) != (ys.length:Int))=false:=by rw [hlen];simp
  refine ACalls.of_aw (Ω:=[]) (T:=assoc []) mixed TblOk.nil Tryz.func131 (by kernel_rfl) (by rfl) (rs:=[.tmp 4]) (by rfl) (by kernel_rfl) (by simp only [Tryz.ntmps131,yaz,yba];decide) (Nat.le_refl _) fun hcl hlt=>?_
  change aw _ _ _ (KI Tryz.prog [] (aEnd Tryz.prog [.tmp 4] H.nx _ _ (assoc [])) []) _ _
  have hs1:=hlt (.slice m1 3 (xs.map fieldAV)) (by simp)
  have hs2:=hlt (.slice m2 3 (ys.map fieldAV)) (by simp)
  clear hlt
  simp only [go_sem,ybb,d0]
  refine loop_introW (A:=Nat) (fun k=>[(0,.slice m1 3 (xs.map fieldAV)),(1,.slice m2 3 (ys.map fieldAV)),(12,.int .i64 (xs.length:Int)),(13,.int .i64 (k:Int))]) (fun _=>H) (fun k=>k≤xs.length∧eqL eqFld (xs.drop k) (ys.drop k)=R) (fun k=>xs.length - k) 0 ⟨by omega,hR⟩ ?_ fun k hk=>?_
  · refine ⟨by simp only [zkk,zkp];omega,AHeap.Le.refl _,hcl,?_,?_⟩
    · simp only [ltF,zmz,and_true,true_and]
      exact ⟨hs1,hs2⟩
    · simp [subW,wk2,wk1,wkM,Fr.get]
  obtain ⟨hk,hq⟩:=hk
  simp only [go_sem]
  refine cond_split (fun hc=>?_) (fun hc=>?_)
  · have hk':k<xs.length:=by simp at hc;omega
    have hk2:k<ys.length:=by omega
    obtain ⟨x,hx⟩:∃ x,x=xs[k]:=⟨_,rfl⟩
    obtain ⟨y,hy⟩:∃ y,y=ys[k]:=⟨_,rfl⟩
    have hd:xs.drop k=x::xs.drop (k+1):=by rw [hx];exact List.drop_eq_getElem_cons hk'
    have hd2:ys.drop k=y::ys.drop (k+1):=by rw [hy];exact List.drop_eq_getElem_cons hk2
    have hg:=getD_map (f:=fieldAV) (l:=xs) (k:=k) (x:=x) (by rw [List.getElem?_eq_getElem hk',hx])
    have hg2:=getD_map (f:=fieldAV) (l:=ys) (k:=k) (x:=y) (by rw [List.getElem?_eq_getElem hk2,hy])
    have e5:IntKind.i64.wrap ((k:Int)+1)=((k+1:Nat):Int):=by rw [wrap_i64]<;>omega
    rw [hd,hd2] at hq
    unfold eqL at hq
    simp only [go_sem,Int.toNat_natCast,ybb,hg,hg2,fieldAV,fieldAV,teq_Fld,eqg_Fld,Bool.bne_false,Bool.bne_true,vc,yal,yak]
    (repeat with_reducible refine And.intro (by first | assumption | decide | omega) ?_)
    refine cond_split (fun hb=>?_) (fun hb=>?_)
    · have hb':eqFld x y=false:=by first | (simpa using hb;done) | (simpa [eqFld] using hb)
      rw [hb',Bool.false_and] at hq
      rw [← hq]
      try simp only [go_sem]
      simp (disch:=first | assumption | omega | (simp;done) | (simp;omega) | (simp only [bt,and_true];first | done | omega | (simp;done))) [↓zmi,beq,ybc,ybd,ybe,endOk,wk,wk2,wk1,wkM,wkL,wkLL,ybf,hcl]
      first | done | repeat (first | exact AHeap.Le.refl _ | refine AHeap.Le.push ?_ _)
    · have hb':eqFld x y=true:=by first | (simpa using hb;done) | (simpa [eqFld] using hb)
      rw [hb',Bool.true_and] at hq
      simp only [go_sem,e5]
      refine ⟨k+1,⟨by omega,hq⟩,by omega,by (try simp only [zky]);omega,by repeat (first | exact AHeap.Le.refl _ | refine AHeap.Le.push ?_ _),hcl,?_,?_⟩
      · simp only [ltF,zmz,and_true,true_and]
        exact ⟨hs1,hs2⟩
      · simp [subW,wk2,wk1,wkM,Fr.get]
  · have hk':k=xs.length:=by simp at hc;omega
    subst hk'
    rw [List.drop_length,hlen,List.drop_length] at hq
    rw [← hq]
    simp only [go_sem,eqL]
    simp (disch:=first | assumption | omega | (simp;done) | (simp;omega) | (simp only [bt,and_true];first | done | omega | (simp;done))) [↓zmi,beq,ybc,ybd,ybe,endOk,wk,wk2,wk1,wkM,wkL,wkLL,ybf,hcl]
def p_ysFld:List AV→AHeap→(AV→Prop)→Prop
  | [.slice _ 3 l,.slice _ 3 k],_,K=>∃ xs ys:List (SField),(l=xs.map fieldAV∧k=ys.map fieldAV∧xs.length≤140737488355328∧ys.length≤140737488355328∧True)∧K (.bool (eqL eqFld xs ys))
  | _,_,_=>False
set_option maxHeartbeats 2000000 in
theorem ok_ysFld:EntOk Tryz.prog 241 (Ent.pure p_ysFld):=by
  refine EntOk.pure fun args H K h=>?_
  unfold p_ysFld at h
  split at h
  rotate_left
  · exact h.elim
  rename_i m1 l m2 k
  obtain ⟨xs,ys,⟨rfl,rfl,hl1,hl2,ho⟩,hK⟩:=h
  clear ho
  refine ⟨_,hK,?_⟩
  clear hK
  obtain ⟨R,hR⟩:∃ R,eqL eqFld xs ys=R:=⟨_,rfl⟩
  rw [hR]
  by_cases hlen:xs.length=ys.length
  case neg =>
    rw [eqL_len hlen] at hR
    subst hR
    have d0:((xs.length:Int) != (ys.length:Int))=true:=by rw [bne_iff_ne];omega
    refine ACalls.of_aw (Ω:=[]) (T:=assoc []) mixed TblOk.nil Tryz.func241 (by kernel_rfl) (by rfl) (rs:=[.tmp 4]) (by rfl) (by kernel_rfl) (by simp only [Tryz.ntmps241,yaz,yba];decide) (Nat.le_refl _) fun hcl hlt=>?_
    change aw _ _ _ (KI Tryz.prog [] (aEnd Tryz.prog [.tmp 4] H.nx _ _ (assoc [])) []) _ _
    clear hlt
    simp only [go_sem,ybb,d0]
    simp (disch:=first | assumption | omega | (simp;done) | (simp;omega) | (simp only [bt,and_true];first | done | omega | (simp;done))) [↓zmi,beq,ybc,ybd,ybe,endOk,wk,wk2,wk1,wkM,wkL,wkLL,ybf,hcl]
  have d0:((xs.length:Int) != (ys.length:Int))=false:=by rw [hlen];simp
  refine ACalls.of_aw (Ω:=[]) (T:=assoc []) mixed TblOk.nil Tryz.func241 (by kernel_rfl) (by rfl) (rs:=[.tmp 4]) (by rfl) (by kernel_rfl) (by simp only [Tryz.ntmps241,yaz,yba];decide) (Nat.le_refl _) fun hcl hlt=>?_
  change aw _ _ _ (KI Tryz.prog [] (aEnd Tryz.prog [.tmp 4] H.nx _ _ (assoc [])) []) _ _
  have hs1:=hlt (.slice m1 3 (xs.map fieldAV)) (by simp)
  have hs2:=hlt (.slice m2 3 (ys.map fieldAV)) (by simp)
  clear hlt
  simp only [go_sem,ybb,d0]
  refine loop_introW (A:=Nat) (fun k=>[(0,.slice m1 3 (xs.map fieldAV)),(1,.slice m2 3 (ys.map fieldAV)),(12,.int .i64 (xs.length:Int)),(13,.int .i64 (k:Int))]) (fun _=>H) (fun k=>k≤xs.length∧eqL eqFld (xs.drop k) (ys.drop k)=R) (fun k=>xs.length - k) 0 ⟨by omega,hR⟩ ?_ fun k hk=>?_
  · refine ⟨by simp only [zkk,zkp];omega,AHeap.Le.refl _,hcl,?_,?_⟩
    · simp only [ltF,zmz,and_true,true_and]
      exact ⟨hs1,hs2⟩
    · simp [subW,wk2,wk1,wkM,Fr.get]
  obtain ⟨hk,hq⟩:=hk
  simp only [go_sem]
  refine cond_split (fun hc=>?_) (fun hc=>?_)
  · have hk':k<xs.length:=by simp at hc;omega
    have hk2:k<ys.length:=by omega
    obtain ⟨x,hx⟩:∃ x,x=xs[k]:=⟨_,rfl⟩
    obtain ⟨y,hy⟩:∃ y,y=ys[k]:=⟨_,rfl⟩
    have hd:xs.drop k=x::xs.drop (k+1):=by rw [hx];exact List.drop_eq_getElem_cons hk'
    have hd2:ys.drop k=y::ys.drop (k+1):=by rw [hy];exact List.drop_eq_getElem_cons hk2
    have hg:=getD_map (f:=fieldAV) (l:=xs) (k:=k) (x:=x) (by rw [List.getElem?_eq_getElem hk',hx])
    have hg2:=getD_map (f:=fieldAV) (l:=ys) (k:=k) (x:=y) (by rw [List.getElem?_eq_getElem hk2,hy])
    have e5:IntKind.i64.wrap ((k:Int)+1)=((k+1:Nat):Int):=by rw [wrap_i64]<;>omega
    rw [hd,hd2] at hq
    unfold eqL at hq
    simp only [go_sem,Int.toNat_natCast,ybb,hg,hg2,fieldAV,fieldAV,teq_Fld,eqg_Fld,Bool.bne_false,Bool.bne_true,vc,yal,yak]
    (repeat with_reducible refine And.intro (by first | assumption | decide | omega) ?_)
    refine cond_split (fun hb=>?_) (fun hb=>?_)
    · have hb':eqFld x y=false:=by first | (simpa using hb;done) | (simpa [eqFld] using hb)
      rw [hb',Bool.false_and] at hq
      rw [← hq]
      try simp only [go_sem]
      simp (disch:=first | assumption | omega | (simp;done) | (simp;omega) | (simp only [bt,and_true];first | done | omega | (simp;done))) [↓zmi,beq,ybc,ybd,ybe,endOk,wk,wk2,wk1,wkM,wkL,wkLL,ybf,hcl]
      first | done | repeat (first | exact AHeap.Le.refl _ | refine AHeap.Le.push ?_ _)
    · have hb':eqFld x y=true:=by first | (simpa using hb;done) | (simpa [eqFld] using hb)
      rw [hb',Bool.true_and] at hq
      simp only [go_sem,e5]
      refine ⟨k+1,⟨by omega,hq⟩,by omega,by (try simp only [zky]);omega,by repeat (first | exact AHeap.Le.refl _ | refine AHeap.Le.push ?_ _),hcl,?_,?_⟩
      · simp only [ltF,zmz,and_true,true_and]
        exact ⟨hs1,hs2⟩
      · simp [subW,wk2,wk1,wkM,Fr.get]
  · have hk':k=xs.length:=by simp at hc;omega
    subst hk'
    rw [List.drop_length,hlen,List.drop_length] at hq
    rw [← hq]
    simp only [go_sem,eqL]
    simp (disch:=first | assumption | omega | (simp;done) | (simp;omega) | (simp only [bt,and_true];first | done | omega | (simp;done))) [↓zmi,beq,ybc,ybd,ybe,endOk,wk,wk2,wk1,wkM,wkL,wkLL,ybf,hcl]
def p_zsCas:List AV→AHeap→(AV→Prop)→Prop
  | [.slice _ 5 l,.slice _ 5 k],_,K=>∃ xs ys:List (SCase),(l=xs.map caseAV∧k=ys.map caseAV∧xs.length≤140737488355328∧ys.length≤140737488355328∧True)∧K (.bool (eqL eqCas xs ys))
  | _,_,_=>False
set_option maxHeartbeats 2000000 in
theorem ok_zsCas:EntOk Tryz.prog 247 (Ent.pure p_zsCas):=by
  refine EntOk.pure fun args H K h=>?_
  unfold p_zsCas at h
  split at h
  rotate_left
  · exact h.elim
  rename_i m1 l m2 k
  obtain ⟨xs,ys,⟨rfl,rfl,hl1,hl2,ho⟩,hK⟩:=h
  clear ho
  refine ⟨_,hK,?_⟩
  clear hK
  obtain ⟨R,hR⟩:∃ R,eqL eqCas xs ys=R:=⟨_,rfl⟩
  rw [hR]
  by_cases hlen:xs.length=ys.length
  case neg =>
    rw [eqL_len hlen] at hR
    subst hR
    have d0:((xs.length:Int) != (ys.length:Int))=true:=by rw [bne_iff_ne];omega
    refine ACalls.of_aw (Ω:=[]) (T:=assoc []) mixed TblOk.nil Tryz.func247 (by kernel_rfl) (by rfl) (rs:=[.tmp 4]) (by rfl) (by kernel_rfl) (by simp only [Tryz.ntmps247,yaz,yba];decide) (Nat.le_refl _) fun hcl hlt=>?_
    change aw _ _ _ (KI Tryz.prog [] (aEnd Tryz.prog [.tmp 4] H.nx _ _ (assoc [])) []) _ _
    clear hlt
    simp only [go_sem,ybb,d0]
    simp (disch:=first | assumption | omega | (simp;done) | (simp;omega) | (simp only [bt,and_true];first | done | omega | (simp;done))) [↓zmi,beq,ybc,ybd,ybe,endOk,wk,wk2,wk1,wkM,wkL,wkLL,ybf,hcl]
  have d0:((xs.length:Int) != (ys.length:Int))=false:=by rw [hlen];simp
  refine ACalls.of_aw (Ω:=[]) (T:=assoc []) mixed TblOk.nil Tryz.func247 (by kernel_rfl) (by rfl) (rs:=[.tmp 4]) (by rfl) (by kernel_rfl) (by simp only [Tryz.ntmps247,yaz,yba];decide) (Nat.le_refl _) fun hcl hlt=>?_
  change aw _ _ _ (KI Tryz.prog [] (aEnd Tryz.prog [.tmp 4] H.nx _ _ (assoc [])) []) _ _
  have hs1:=hlt (.slice m1 5 (xs.map caseAV)) (by simp)
  have hs2:=hlt (.slice m2 5 (ys.map caseAV)) (by simp)
  clear hlt
  simp only [go_sem,ybb,d0]
  refine loop_introW (A:=Nat) (fun k=>[(0,.slice m1 5 (xs.map caseAV)),(1,.slice m2 5 (ys.map caseAV)),(12,.int .i64 (xs.length:Int)),(13,.int .i64 (k:Int))]) (fun _=>H) (fun k=>k≤xs.length∧eqL eqCas (xs.drop k) (ys.drop k)=R) (fun k=>xs.length - k) 0 ⟨by omega,hR⟩ ?_ fun k hk=>?_
  · refine ⟨by simp only [zkk,zkp];omega,AHeap.Le.refl _,hcl,?_,?_⟩
    · simp only [ltF,zmz,and_true,true_and]
      exact ⟨hs1,hs2⟩
    · simp [subW,wk2,wk1,wkM,Fr.get]
  obtain ⟨hk,hq⟩:=hk
  simp only [go_sem]
  refine cond_split (fun hc=>?_) (fun hc=>?_)
  · have hk':k<xs.length:=by simp at hc;omega
    have hk2:k<ys.length:=by omega
    obtain ⟨x,hx⟩:∃ x,x=xs[k]:=⟨_,rfl⟩
    obtain ⟨y,hy⟩:∃ y,y=ys[k]:=⟨_,rfl⟩
    have hd:xs.drop k=x::xs.drop (k+1):=by rw [hx];exact List.drop_eq_getElem_cons hk'
    have hd2:ys.drop k=y::ys.drop (k+1):=by rw [hy];exact List.drop_eq_getElem_cons hk2
    have hg:=getD_map (f:=caseAV) (l:=xs) (k:=k) (x:=x) (by rw [List.getElem?_eq_getElem hk',hx])
    have hg2:=getD_map (f:=caseAV) (l:=ys) (k:=k) (x:=y) (by rw [List.getElem?_eq_getElem hk2,hy])
    have e5:IntKind.i64.wrap ((k:Int)+1)=((k+1:Nat):Int):=by rw [wrap_i64]<;>omega
    rw [hd,hd2] at hq
    unfold eqL at hq
    simp only [go_sem,Int.toNat_natCast,ybb,hg,hg2,caseAV,caseAV,teq_Cas,eqg_Cas,Bool.bne_false,Bool.bne_true,vc,yal,yak]
    (repeat with_reducible refine And.intro (by first | assumption | decide | omega) ?_)
    refine cond_split (fun hb=>?_) (fun hb=>?_)
    · have hb':eqCas x y=false:=by first | (simpa using hb;done) | (simpa [eqCas] using hb)
      rw [hb',Bool.false_and] at hq
      rw [← hq]
      try simp only [go_sem]
      simp (disch:=first | assumption | omega | (simp;done) | (simp;omega) | (simp only [bt,and_true];first | done | omega | (simp;done))) [↓zmi,beq,ybc,ybd,ybe,endOk,wk,wk2,wk1,wkM,wkL,wkLL,ybf,hcl]
      first | done | repeat (first | exact AHeap.Le.refl _ | refine AHeap.Le.push ?_ _)
    · have hb':eqCas x y=true:=by first | (simpa using hb;done) | (simpa [eqCas] using hb)
      rw [hb',Bool.true_and] at hq
      simp only [go_sem,e5]
      refine ⟨k+1,⟨by omega,hq⟩,by omega,by (try simp only [zky]);omega,by repeat (first | exact AHeap.Le.refl _ | refine AHeap.Le.push ?_ _),hcl,?_,?_⟩
      · simp only [ltF,zmz,and_true,true_and]
        exact ⟨hs1,hs2⟩
      · simp [subW,wk2,wk1,wkM,Fr.get]
  · have hk':k=xs.length:=by simp at hc;omega
    subst hk'
    rw [List.drop_length,hlen,List.drop_length] at hq
    rw [← hq]
    simp only [go_sem,eqL]
    simp (disch:=first | assumption | omega | (simp;done) | (simp;omega) | (simp only [bt,and_true];first | done | omega | (simp;done))) [↓zmi,beq,ybc,ybd,ybe,endOk,wk,wk2,wk1,wkM,wkL,wkLL,ybf,hcl]
def p_ysCas:List AV→AHeap→(AV→Prop)→Prop
  | [.slice _ 5 l,.slice _ 5 k],_,K=>∃ xs ys:List (SCase),(l=xs.map caseAV∧k=ys.map caseAV∧xs.length≤140737488355328∧ys.length≤140737488355328∧True)∧K (.bool (eqL eqCas xs ys))
  | _,_,_=>False
set_option maxHeartbeats 2000000 in
theorem ok_ysCas:EntOk Tryz.prog 242 (Ent.pure p_ysCas):=by
  refine EntOk.pure fun args H K h=>?_
  unfold p_ysCas at h
  split at h
  rotate_left
  · exact h.elim
  rename_i m1 l m2 k
  obtain ⟨xs,ys,⟨rfl,rfl,hl1,hl2,ho⟩,hK⟩:=h
  clear ho
  refine ⟨_,hK,?_⟩
  clear hK
  obtain ⟨R,hR⟩:∃ R,eqL eqCas xs ys=R:=⟨_,rfl⟩
  rw [hR]
  by_cases hlen:xs.length=ys.length
  case neg =>
    rw [eqL_len hlen] at hR
    subst hR
    have d0:((xs.length:Int) != (ys.length:Int))=true:=by rw [bne_iff_ne];omega
    refine ACalls.of_aw (Ω:=[]) (T:=assoc []) mixed TblOk.nil Tryz.func242 (by kernel_rfl) (by rfl) (rs:=[.tmp 4]) (by rfl) (by kernel_rfl) (by simp only [Tryz.ntmps242,yaz,yba];decide) (Nat.le_refl _) fun hcl hlt=>?_
    change aw _ _ _ (KI Tryz.prog [] (aEnd Tryz.prog [.tmp 4] H.nx _ _ (assoc [])) []) _ _
    clear hlt
    simp only [go_sem,ybb,d0]
    simp (disch:=first | assumption | omega | (simp;done) | (simp;omega) | (simp only [bt,and_true];first | done | omega | (simp;done))) [↓zmi,beq,ybc,ybd,ybe,endOk,wk,wk2,wk1,wkM,wkL,wkLL,ybf,hcl]
  have d0:((xs.length:Int) != (ys.length:Int))=false:=by rw [hlen];simp
  refine ACalls.of_aw (Ω:=[]) (T:=assoc []) mixed TblOk.nil Tryz.func242 (by kernel_rfl) (by rfl) (rs:=[.tmp 4]) (by rfl) (by kernel_rfl) (by simp only [Tryz.ntmps242,yaz,yba];decide) (Nat.le_refl _) fun hcl hlt=>?_
  change aw _ _ _ (KI Tryz.prog [] (aEnd Tryz.prog [.tmp 4] H.nx _ _ (assoc [])) []) _ _
  have hs1:=hlt (.slice m1 5 (xs.map caseAV)) (by simp)
  have hs2:=hlt (.slice m2 5 (ys.map caseAV)) (by simp)
  clear hlt
  simp only [go_sem,ybb,d0]
  refine loop_introW (A:=Nat) (fun k=>[(0,.slice m1 5 (xs.map caseAV)),(1,.slice m2 5 (ys.map caseAV)),(12,.int .i64 (xs.length:Int)),(13,.int .i64 (k:Int))]) (fun _=>H) (fun k=>k≤xs.length∧eqL eqCas (xs.drop k) (ys.drop k)=R) (fun k=>xs.length - k) 0 ⟨by omega,hR⟩ ?_ fun k hk=>?_
  · refine ⟨by simp only [zkk,zkp];omega,AHeap.Le.refl _,hcl,?_,?_⟩
    · simp only [ltF,zmz,and_true,true_and]
      exact ⟨hs1,hs2⟩
    · simp [subW,wk2,wk1,wkM,Fr.get]
  obtain ⟨hk,hq⟩:=hk
  simp only [go_sem]
  refine cond_split (fun hc=>?_) (fun hc=>?_)
  · have hk':k<xs.length:=by simp at hc;omega
    have hk2:k<ys.length:=by omega
    obtain ⟨x,hx⟩:∃ x,x=xs[k]:=⟨_,rfl⟩
    obtain ⟨y,hy⟩:∃ y,y=ys[k]:=⟨_,rfl⟩
    have hd:xs.drop k=x::xs.drop (k+1):=by rw [hx];exact List.drop_eq_getElem_cons hk'
    have hd2:ys.drop k=y::ys.drop (k+1):=by rw [hy];exact List.drop_eq_getElem_cons hk2
    have hg:=getD_map (f:=caseAV) (l:=xs) (k:=k) (x:=x) (by rw [List.getElem?_eq_getElem hk',hx])
    have hg2:=getD_map (f:=caseAV) (l:=ys) (k:=k) (x:=y) (by rw [List.getElem?_eq_getElem hk2,hy])
    have e5:IntKind.i64.wrap ((k:Int)+1)=((k+1:Nat):Int):=by rw [wrap_i64]<;>omega
    rw [hd,hd2] at hq
    unfold eqL at hq
    simp only [go_sem,Int.toNat_natCast,ybb,hg,hg2,caseAV,caseAV,teq_Cas,eqg_Cas,Bool.bne_false,Bool.bne_true,vc,yal,yak]
    (repeat with_reducible refine And.intro (by first | assumption | decide | omega) ?_)
    refine cond_split (fun hb=>?_) (fun hb=>?_)
    · have hb':eqCas x y=false:=by first | (simpa using hb;done) | (simpa [eqCas] using hb)
      rw [hb',Bool.false_and] at hq
      rw [← hq]
      try simp only [go_sem]
      simp (disch:=first | assumption | omega | (simp;done) | (simp;omega) | (simp only [bt,and_true];first | done | omega | (simp;done))) [↓zmi,beq,ybc,ybd,ybe,endOk,wk,wk2,wk1,wkM,wkL,wkLL,ybf,hcl]
      first | done | repeat (first | exact AHeap.Le.refl _ | refine AHeap.Le.push ?_ _)
    · have hb':eqCas x y=true:=by first | (simpa using hb;done) | (simpa [eqCas] using hb)
      rw [hb',Bool.true_and] at hq
      simp only [go_sem,e5]
      refine ⟨k+1,⟨by omega,hq⟩,by omega,by (try simp only [zky]);omega,by repeat (first | exact AHeap.Le.refl _ | refine AHeap.Le.push ?_ _),hcl,?_,?_⟩
      · simp only [ltF,zmz,and_true,true_and]
        exact ⟨hs1,hs2⟩
      · simp [subW,wk2,wk1,wkM,Fr.get]
  · have hk':k=xs.length:=by simp at hc;omega
    subst hk'
    rw [List.drop_length,hlen,List.drop_length] at hq
    rw [← hq]
    simp only [go_sem,eqL]
    simp (disch:=first | assumption | omega | (simp;done) | (simp;omega) | (simp only [bt,and_true];first | done | omega | (simp;done))) [↓zmi,beq,ybc,ybd,ybe,endOk,wk,wk2,wk1,wkM,wkL,wkLL,ybf,hcl]
def p_zsPar:List AV→AHeap→(AV→Prop)→Prop
  | [.slice _ 2 l,.slice _ 2 k],_,K=>∃ xs ys:List (SParam),(l=xs.map paramAV∧k=ys.map paramAV∧xs.length≤140737488355328∧ys.length≤140737488355328∧True)∧K (.bool (eqL eqPar xs ys))
  | _,_,_=>False
set_option maxHeartbeats 2000000 in
theorem ok_zsPar:EntOk Tryz.prog 248 (Ent.pure p_zsPar):=by
  refine EntOk.pure fun args H K h=>?_
  unfold p_zsPar at h
  split at h
  rotate_left
  · exact h.elim
  rename_i m1 l m2 k
  obtain ⟨xs,ys,⟨rfl,rfl,hl1,hl2,ho⟩,hK⟩:=h
  clear ho
  refine ⟨_,hK,?_⟩
  clear hK
  obtain ⟨R,hR⟩:∃ R,eqL eqPar xs ys=R:=⟨_,rfl⟩
  rw [hR]
  by_cases hlen:xs.length=ys.length
  case neg =>
    rw [eqL_len hlen] at hR
    subst hR
    have d0:((xs.length:Int) != (ys.length:Int))=true:=by rw [bne_iff_ne];omega
    refine ACalls.of_aw (Ω:=[]) (T:=assoc []) mixed TblOk.nil Tryz.func248 (by kernel_rfl) (by rfl) (rs:=[.tmp 4]) (by rfl) (by kernel_rfl) (by simp only [Tryz.ntmps248,yaz,yba];decide) (Nat.le_refl _) fun hcl hlt=>?_
    change aw _ _ _ (KI Tryz.prog [] (aEnd Tryz.prog [.tmp 4] H.nx _ _ (assoc [])) []) _ _
    clear hlt
    simp only [go_sem,ybb,d0]
    simp (disch:=first | assumption | omega | (simp;done) | (simp;omega) | (simp only [bt,and_true];first | done | omega | (simp;done))) [↓zmi,beq,ybc,ybd,ybe,endOk,wk,wk2,wk1,wkM,wkL,wkLL,ybf,hcl]
  have d0:((xs.length:Int) != (ys.length:Int))=false:=by rw [hlen];simp
  refine ACalls.of_aw (Ω:=[]) (T:=assoc []) mixed TblOk.nil Tryz.func248 (by kernel_rfl) (by rfl) (rs:=[.tmp 4]) (by rfl) (by kernel_rfl) (by simp only [Tryz.ntmps248,yaz,yba];decide) (Nat.le_refl _) fun hcl hlt=>?_
  change aw _ _ _ (KI Tryz.prog [] (aEnd Tryz.prog [.tmp 4] H.nx _ _ (assoc [])) []) _ _
  have hs1:=hlt (.slice m1 2 (xs.map paramAV)) (by simp)
  have hs2:=hlt (.slice m2 2 (ys.map paramAV)) (by simp)
  clear hlt
  simp only [go_sem,ybb,d0]
  refine loop_introW (A:=Nat) (fun k=>[(0,.slice m1 2 (xs.map paramAV)),(1,.slice m2 2 (ys.map paramAV)),(12,.int .i64 (xs.length:Int)),(13,.int .i64 (k:Int))]) (fun _=>H) (fun k=>k≤xs.length∧eqL eqPar (xs.drop k) (ys.drop k)=R) (fun k=>xs.length - k) 0 ⟨by omega,hR⟩ ?_ fun k hk=>?_
  · refine ⟨by simp only [zkk,zkp];omega,AHeap.Le.refl _,hcl,?_,?_⟩
    · simp only [ltF,zmz,and_true,true_and]
      exact ⟨hs1,hs2⟩
    · simp [subW,wk2,wk1,wkM,Fr.get]
  obtain ⟨hk,hq⟩:=hk
  simp only [go_sem]
  refine cond_split (fun hc=>?_) (fun hc=>?_)
  · have hk':k<xs.length:=by simp at hc;omega
    have hk2:k<ys.length:=by omega
    obtain ⟨x,hx⟩:∃ x,x=xs[k]:=⟨_,rfl⟩
    obtain ⟨y,hy⟩:∃ y,y=ys[k]:=⟨_,rfl⟩
    have hd:xs.drop k=x::xs.drop (k+1):=by rw [hx];exact List.drop_eq_getElem_cons hk'
    have hd2:ys.drop k=y::ys.drop (k+1):=by rw [hy];exact List.drop_eq_getElem_cons hk2
    have hg:=getD_map (f:=paramAV) (l:=xs) (k:=k) (x:=x) (by rw [List.getElem?_eq_getElem hk',hx])
    have hg2:=getD_map (f:=paramAV) (l:=ys) (k:=k) (x:=y) (by rw [List.getElem?_eq_getElem hk2,hy])
    have e5:IntKind.i64.wrap ((k:Int)+1)=((k+1:Nat):Int):=by rw [wrap_i64]<;>omega
    rw [hd,hd2] at hq
    unfold eqL at hq
    simp only [go_sem,Int.toNat_natCast,ybb,hg,hg2,paramAV,paramAV,teq_Par,eqg_Par,Bool.bne_false,Bool.bne_true,vc,yal,yak]
    (repeat with_reducible refine And.intro (by first | assumption | decide | omega) ?_)
    refine cond_split (fun hb=>?_) (fun hb=>?_)
    · have hb':eqPar x y=false:=by first | (simpa using hb;done) | (simpa [eqPar] using hb)
      rw [hb',Bool.false_and] at hq
      rw [← hq]
      try simp only [go_sem]
      simp (disch:=first | assumption | omega | (simp;done) | (simp;omega) | (simp only [bt,and_true];first | done | omega | (simp;done))) [↓zmi,beq,ybc,ybd,ybe,endOk,wk,wk2,wk1,wkM,wkL,wkLL,ybf,hcl]
      first | done | repeat (first | exact AHeap.Le.refl _ | refine AHeap.Le.push ?_ _)
    · have hb':eqPar x y=true:=by first | (simpa using hb;done) | (simpa [eqPar] using hb)
      rw [hb',Bool.true_and] at hq
      simp only [go_sem,e5]
      refine ⟨k+1,⟨by omega,hq⟩,by omega,by (try simp only [zky]);omega,by repeat (first | exact AHeap.Le.refl _ | refine AHeap.Le.push ?_ _),hcl,?_,?_⟩
      · simp only [ltF,zmz,and_true,true_and]
        exact ⟨hs1,hs2⟩
      · simp [subW,wk2,wk1,wkM,Fr.get]
  · have hk':k=xs.length:=by simp at hc;omega
    subst hk'
    rw [List.drop_length,hlen,List.drop_length] at hq
    rw [← hq]
    simp only [go_sem,eqL]
    simp (disch:=first | assumption | omega | (simp;done) | (simp;omega) | (simp only [bt,and_true];first | done | omega | (simp;done))) [↓zmi,beq,ybc,ybd,ybe,endOk,wk,wk2,wk1,wkM,wkL,wkLL,ybf,hcl]
def p_ysPar:List AV→AHeap→(AV→Prop)→Prop
  | [.slice _ 2 l,.slice _ 2 k],_,K=>∃ xs ys:List (SParam),(l=xs.map paramAV∧k=ys.map paramAV∧xs.length≤140737488355328∧ys.length≤140737488355328∧True)∧K (.bool (eqL eqPar xs ys))
  | _,_,_=>False
set_option maxHeartbeats 2000000 in
theorem ok_ysPar:EntOk Tryz.prog 243 (Ent.pure p_ysPar):=by
  refine EntOk.pure fun args H K h=>?_
  unfold p_ysPar at h
  split at h
  rotate_left
  · exact h.elim
  rename_i m1 l m2 k
  obtain ⟨xs,ys,⟨rfl,rfl,hl1,hl2,ho⟩,hK⟩:=h
  clear ho
  refine ⟨_,hK,?_⟩
  clear hK
  obtain ⟨R,hR⟩:∃ R,eqL eqPar xs ys=R:=⟨_,rfl⟩
  rw [hR]
  by_cases hlen:xs.length=ys.length
  case neg =>
    rw [eqL_len hlen] at hR
    subst hR
    have d0:((xs.length:Int) != (ys.length:Int))=true:=by rw [bne_iff_ne];omega
    refine ACalls.of_aw (Ω:=[]) (T:=assoc []) mixed TblOk.nil Tryz.func243 (by kernel_rfl) (by rfl) (rs:=[.tmp 4]) (by rfl) (by kernel_rfl) (by simp only [Tryz.ntmps243,yaz,yba];decide) (Nat.le_refl _) fun hcl hlt=>?_
    change aw _ _ _ (KI Tryz.prog [] (aEnd Tryz.prog [.tmp 4] H.nx _ _ (assoc [])) []) _ _
    clear hlt
    simp only [go_sem,ybb,d0]
    simp (disch:=first | assumption | omega | (simp;done) | (simp;omega) | (simp only [bt,and_true];first | done | omega | (simp;done))) [↓zmi,beq,ybc,ybd,ybe,endOk,wk,wk2,wk1,wkM,wkL,wkLL,ybf,hcl]
  have d0:((xs.length:Int) != (ys.length:Int))=false:=by rw [hlen];simp
  refine ACalls.of_aw (Ω:=[]) (T:=assoc []) mixed TblOk.nil Tryz.func243 (by kernel_rfl) (by rfl) (rs:=[.tmp 4]) (by rfl) (by kernel_rfl) (by simp only [Tryz.ntmps243,yaz,yba];decide) (Nat.le_refl _) fun hcl hlt=>?_
  change aw _ _ _ (KI Tryz.prog [] (aEnd Tryz.prog [.tmp 4] H.nx _ _ (assoc [])) []) _ _
  have hs1:=hlt (.slice m1 2 (xs.map paramAV)) (by simp)
  have hs2:=hlt (.slice m2 2 (ys.map paramAV)) (by simp)
  clear hlt
  simp only [go_sem,ybb,d0]
  refine loop_introW (A:=Nat) (fun k=>[(0,.slice m1 2 (xs.map paramAV)),(1,.slice m2 2 (ys.map paramAV)),(12,.int .i64 (xs.length:Int)),(13,.int .i64 (k:Int))]) (fun _=>H) (fun k=>k≤xs.length∧eqL eqPar (xs.drop k) (ys.drop k)=R) (fun k=>xs.length - k) 0 ⟨by omega,hR⟩ ?_ fun k hk=>?_
  · refine ⟨by simp only [zkk,zkp];omega,AHeap.Le.refl _,hcl,?_,?_⟩
    · simp only [ltF,zmz,and_true,true_and]
      exact ⟨hs1,hs2⟩
    · simp [subW,wk2,wk1,wkM,Fr.get]
  obtain ⟨hk,hq⟩:=hk
  simp only [go_sem]
  refine cond_split (fun hc=>?_) (fun hc=>?_)
  · have hk':k<xs.length:=by simp at hc;omega
    have hk2:k<ys.length:=by omega
    obtain ⟨x,hx⟩:∃ x,x=xs[k]:=⟨_,rfl⟩
    obtain ⟨y,hy⟩:∃ y,y=ys[k]:=⟨_,rfl⟩
    have hd:xs.drop k=x::xs.drop (k+1):=by rw [hx];exact List.drop_eq_getElem_cons hk'
    have hd2:ys.drop k=y::ys.drop (k+1):=by rw [hy];exact List.drop_eq_getElem_cons hk2
    have hg:=getD_map (f:=paramAV) (l:=xs) (k:=k) (x:=x) (by rw [List.getElem?_eq_getElem hk',hx])
    have hg2:=getD_map (f:=paramAV) (l:=ys) (k:=k) (x:=y) (by rw [List.getElem?_eq_getElem hk2,hy])
    have e5:IntKind.i64.wrap ((k:Int)+1)=((k+1:Nat):Int):=by rw [wrap_i64]<;>omega
    rw [hd,hd2] at hq
    unfold eqL at hq
    simp only [go_sem,Int.toNat_natCast,ybb,hg,hg2,paramAV,paramAV,teq_Par,eqg_Par,Bool.bne_false,Bool.bne_true,vc,yal,yak]
    (repeat with_reducible refine And.intro (by first | assumption | decide | omega) ?_)
    refine cond_split (fun hb=>?_) (fun hb=>?_)
    · have hb':eqPar x y=false:=by first | (simpa using hb;done) | (simpa [eqPar] using hb)
      rw [hb',Bool.false_and] at hq
      rw [← hq]
      try simp only [go_sem]
      simp (disch:=first | assumption | omega | (simp;done) | (simp;omega) | (simp only [bt,and_true];first | done | omega | (simp;done))) [↓zmi,beq,ybc,ybd,ybe,endOk,wk,wk2,wk1,wkM,wkL,wkLL,ybf,hcl]
      first | done | repeat (first | exact AHeap.Le.refl _ | refine AHeap.Le.push ?_ _)
    · have hb':eqPar x y=true:=by first | (simpa using hb;done) | (simpa [eqPar] using hb)
      rw [hb',Bool.true_and] at hq
      simp only [go_sem,e5]
      refine ⟨k+1,⟨by omega,hq⟩,by omega,by (try simp only [zky]);omega,by repeat (first | exact AHeap.Le.refl _ | refine AHeap.Le.push ?_ _),hcl,?_,?_⟩
      · simp only [ltF,zmz,and_true,true_and]
        exact ⟨hs1,hs2⟩
      · simp [subW,wk2,wk1,wkM,Fr.get]
  · have hk':k=xs.length:=by simp at hc;omega
    subst hk'
    rw [List.drop_length,hlen,List.drop_length] at hq
    rw [← hq]
    simp only [go_sem,eqL]
    simp (disch:=first | assumption | omega | (simp;done) | (simp;omega) | (simp only [bt,and_true];first | done | omega | (simp;done))) [↓zmi,beq,ybc,ybd,ybe,endOk,wk,wk2,wk1,wkM,wkL,wkLL,ybf,hcl]
def p_zsPri:List AV→AHeap→(AV→Prop)→Prop
  | [.slice _ 6 l,.slice _ 6 k],_,K=>∃ xs ys:List (SPrim),(l=xs.map primAV∧k=ys.map primAV∧xs.length≤140737488355328∧ys.length≤140737488355328∧True)∧K (.bool (eqL eqPri xs ys))
  | _,_,_=>False
set_option maxHeartbeats 2000000 in
theorem ok_zsPri:EntOk Tryz.prog 249 (Ent.pure p_zsPri):=by
  refine EntOk.pure fun args H K h=>?_
  unfold p_zsPri at h
  split at h
  rotate_left
  · exact h.elim
  rename_i m1 l m2 k
  obtain ⟨xs,ys,⟨rfl,rfl,hl1,hl2,ho⟩,hK⟩:=h
  clear ho
  refine ⟨_,hK,?_⟩
  clear hK
  obtain ⟨R,hR⟩:∃ R,eqL eqPri xs ys=R:=⟨_,rfl⟩
  rw [hR]
  by_cases hlen:xs.length=ys.length
  case neg =>
    rw [eqL_len hlen] at hR
    subst hR
    have d0:((xs.length:Int) != (ys.length:Int))=true:=by rw [bne_iff_ne];omega
    refine ACalls.of_aw (Ω:=[]) (T:=assoc []) mixed TblOk.nil Tryz.func249 (by kernel_rfl) (by rfl) (rs:=[.tmp 4]) (by rfl) (by kernel_rfl) (by simp only [Tryz.ntmps249,yaz,yba];decide) (Nat.le_refl _) fun hcl hlt=>?_
    change aw _ _ _ (KI Tryz.prog [] (aEnd Tryz.prog [.tmp 4] H.nx _ _ (assoc [])) []) _ _
    clear hlt
    simp only [go_sem,ybb,d0]
    simp (disch:=first | assumption | omega | (simp;done) | (simp;omega) | (simp only [bt,and_true];first | done | omega | (simp;done))) [↓zmi,beq,ybc,ybd,ybe,endOk,wk,wk2,wk1,wkM,wkL,wkLL,ybf,hcl]
  have d0:((xs.length:Int) != (ys.length:Int))=false:=by rw [hlen];simp
  refine ACalls.of_aw (Ω:=[]) (T:=assoc []) mixed TblOk.nil Tryz.func249 (by kernel_rfl) (by rfl) (rs:=[.tmp 4]) (by rfl) (by kernel_rfl) (by simp only [Tryz.ntmps249,yaz,yba];decide) (Nat.le_refl _) fun hcl hlt=>?_
  change aw _ _ _ (KI Tryz.prog [] (aEnd Tryz.prog [.tmp 4] H.nx _ _ (assoc [])) []) _ _
  have hs1:=hlt (.slice m1 6 (xs.map primAV)) (by simp)
  have hs2:=hlt (.slice m2 6 (ys.map primAV)) (by simp)
  clear hlt
  simp only [go_sem,ybb,d0]
  refine loop_introW (A:=Nat) (fun k=>[(0,.slice m1 6 (xs.map primAV)),(1,.slice m2 6 (ys.map primAV)),(12,.int .i64 (xs.length:Int)),(13,.int .i64 (k:Int))]) (fun _=>H) (fun k=>k≤xs.length∧eqL eqPri (xs.drop k) (ys.drop k)=R) (fun k=>xs.length - k) 0 ⟨by omega,hR⟩ ?_ fun k hk=>?_
  · refine ⟨by simp only [zkk,zkp];omega,AHeap.Le.refl _,hcl,?_,?_⟩
    · simp only [ltF,zmz,and_true,true_and]
      exact ⟨hs1,hs2⟩
    · simp [subW,wk2,wk1,wkM,Fr.get]
  obtain ⟨hk,hq⟩:=hk
  simp only [go_sem]
  refine cond_split (fun hc=>?_) (fun hc=>?_)
  · have hk':k<xs.length:=by simp at hc;omega
    have hk2:k<ys.length:=by omega
    obtain ⟨x,hx⟩:∃ x,x=xs[k]:=⟨_,rfl⟩
    obtain ⟨y,hy⟩:∃ y,y=ys[k]:=⟨_,rfl⟩
    have hd:xs.drop k=x::xs.drop (k+1):=by rw [hx];exact List.drop_eq_getElem_cons hk'
    have hd2:ys.drop k=y::ys.drop (k+1):=by rw [hy];exact List.drop_eq_getElem_cons hk2
    have hg:=getD_map (f:=primAV) (l:=xs) (k:=k) (x:=x) (by rw [List.getElem?_eq_getElem hk',hx])
    have hg2:=getD_map (f:=primAV) (l:=ys) (k:=k) (x:=y) (by rw [List.getElem?_eq_getElem hk2,hy])
    have e5:IntKind.i64.wrap ((k:Int)+1)=((k+1:Nat):Int):=by rw [wrap_i64]<;>omega
    rw [hd,hd2] at hq
    unfold eqL at hq
    simp only [go_sem,Int.toNat_natCast,ybb,hg,hg2,primAV,primAV,teq_Pri,eqg_Pri,Bool.bne_false,Bool.bne_true,vc,yal,yak]
    (repeat with_reducible refine And.intro (by first | assumption | decide | omega) ?_)
    refine cond_split (fun hb=>?_) (fun hb=>?_)
    · have hb':eqPri x y=false:=by first | (simpa using hb;done) | (simpa [eqPri] using hb)
      rw [hb',Bool.false_and] at hq
      rw [← hq]
      try simp only [go_sem]
      simp (disch:=first | assumption | omega | (simp;done) | (simp;omega) | (simp only [bt,and_true];first | done | omega | (simp;done))) [↓zmi,beq,ybc,ybd,ybe,endOk,wk,wk2,wk1,wkM,wkL,wkLL,ybf,hcl]
      first | done | repeat (first | exact AHeap.Le.refl _ | refine AHeap.Le.push ?_ _)
    · have hb':eqPri x y=true:=by first | (simpa using hb;done) | (simpa [eqPri] using hb)
      rw [hb',Bool.true_and] at hq
      simp only [go_sem,e5]
      refine ⟨k+1,⟨by omega,hq⟩,by omega,by (try simp only [zky]);omega,by repeat (first | exact AHeap.Le.refl _ | refine AHeap.Le.push ?_ _),hcl,?_,?_⟩
      · simp only [ltF,zmz,and_true,true_and]
        exact ⟨hs1,hs2⟩
      · simp [subW,wk2,wk1,wkM,Fr.get]
  · have hk':k=xs.length:=by simp at hc;omega
    subst hk'
    rw [List.drop_length,hlen,List.drop_length] at hq
    rw [← hq]
    simp only [go_sem,eqL]
    simp (disch:=first | assumption | omega | (simp;done) | (simp;omega) | (simp only [bt,and_true];first | done | omega | (simp;done))) [↓zmi,beq,ybc,ybd,ybe,endOk,wk,wk2,wk1,wkM,wkL,wkLL,ybf,hcl]
def p_ysPri:List AV→AHeap→(AV→Prop)→Prop
  | [.slice _ 6 l,.slice _ 6 k],_,K=>∃ xs ys:List (SPrim),(l=xs.map primAV∧k=ys.map primAV∧xs.length≤140737488355328∧ys.length≤140737488355328∧True)∧K (.bool (eqL eqPri xs ys))
  | _,_,_=>False
set_option maxHeartbeats 2000000 in
theorem ok_ysPri:EntOk Tryz.prog 244 (Ent.pure p_ysPri):=by
  refine EntOk.pure fun args H K h=>?_
  unfold p_ysPri at h
  split at h
  rotate_left
  · exact h.elim
  rename_i m1 l m2 k
  obtain ⟨xs,ys,⟨rfl,rfl,hl1,hl2,ho⟩,hK⟩:=h
  clear ho
  refine ⟨_,hK,?_⟩
  clear hK
  obtain ⟨R,hR⟩:∃ R,eqL eqPri xs ys=R:=⟨_,rfl⟩
  rw [hR]
  by_cases hlen:xs.length=ys.length
  case neg =>
    rw [eqL_len hlen] at hR
    subst hR
    have d0:((xs.length:Int) != (ys.length:Int))=true:=by rw [bne_iff_ne];omega
    refine ACalls.of_aw (Ω:=[]) (T:=assoc []) mixed TblOk.nil Tryz.func244 (by kernel_rfl) (by rfl) (rs:=[.tmp 4]) (by rfl) (by kernel_rfl) (by simp only [Tryz.ntmps244,yaz,yba];decide) (Nat.le_refl _) fun hcl hlt=>?_
    change aw _ _ _ (KI Tryz.prog [] (aEnd Tryz.prog [.tmp 4] H.nx _ _ (assoc [])) []) _ _
    clear hlt
    simp only [go_sem,ybb,d0]
    simp (disch:=first | assumption | omega | (simp;done) | (simp;omega) | (simp only [bt,and_true];first | done | omega | (simp;done))) [↓zmi,beq,ybc,ybd,ybe,endOk,wk,wk2,wk1,wkM,wkL,wkLL,ybf,hcl]
  have d0:((xs.length:Int) != (ys.length:Int))=false:=by rw [hlen];simp
  refine ACalls.of_aw (Ω:=[]) (T:=assoc []) mixed TblOk.nil Tryz.func244 (by kernel_rfl) (by rfl) (rs:=[.tmp 4]) (by rfl) (by kernel_rfl) (by simp only [Tryz.ntmps244,yaz,yba];decide) (Nat.le_refl _) fun hcl hlt=>?_
  change aw _ _ _ (KI Tryz.prog [] (aEnd Tryz.prog [.tmp 4] H.nx _ _ (assoc [])) []) _ _
  have hs1:=hlt (.slice m1 6 (xs.map primAV)) (by simp)
  have hs2:=hlt (.slice m2 6 (ys.map primAV)) (by simp)
  clear hlt
  simp only [go_sem,ybb,d0]
  refine loop_introW (A:=Nat) (fun k=>[(0,.slice m1 6 (xs.map primAV)),(1,.slice m2 6 (ys.map primAV)),(12,.int .i64 (xs.length:Int)),(13,.int .i64 (k:Int))]) (fun _=>H) (fun k=>k≤xs.length∧eqL eqPri (xs.drop k) (ys.drop k)=R) (fun k=>xs.length - k) 0 ⟨by omega,hR⟩ ?_ fun k hk=>?_
  · refine ⟨by simp only [zkk,zkp];omega,AHeap.Le.refl _,hcl,?_,?_⟩
    · simp only [ltF,zmz,and_true,true_and]
      exact ⟨hs1,hs2⟩
    · simp [subW,wk2,wk1,wkM,Fr.get]
  obtain ⟨hk,hq⟩:=hk
  simp only [go_sem]
  refine cond_split (fun hc=>?_) (fun hc=>?_)
  · have hk':k<xs.length:=by simp at hc;omega
    have hk2:k<ys.length:=by omega
    obtain ⟨x,hx⟩:∃ x,x=xs[k]:=⟨_,rfl⟩
    obtain ⟨y,hy⟩:∃ y,y=ys[k]:=⟨_,rfl⟩
    have hd:xs.drop k=x::xs.drop (k+1):=by rw [hx];exact List.drop_eq_getElem_cons hk'
    have hd2:ys.drop k=y::ys.drop (k+1):=by rw [hy];exact List.drop_eq_getElem_cons hk2
    have hg:=getD_map (f:=primAV) (l:=xs) (k:=k) (x:=x) (by rw [List.getElem?_eq_getElem hk',hx])
    have hg2:=getD_map (f:=primAV) (l:=ys) (k:=k) (x:=y) (by rw [List.getElem?_eq_getElem hk2,hy])
    have e5:IntKind.i64.wrap ((k:Int)+1)=((k+1:Nat):Int):=by rw [wrap_i64]<;>omega
    rw [hd,hd2] at hq
    unfold eqL at hq
    simp only [go_sem,Int.toNat_natCast,ybb,hg,hg2,primAV,primAV,teq_Pri,eqg_Pri,Bool.bne_false,Bool.bne_true,vc,yal,yak]
    (repeat with_reducible refine And.intro (by first | assumption | decide | omega) ?_)
    refine cond_split (fun hb=>?_) (fun hb=>?_)
    · have hb':eqPri x y=false:=by first | (simpa using hb;done) | (simpa [eqPri] using hb)
      rw [hb',Bool.false_and] at hq
      rw [← hq]
      try simp only [go_sem]
      simp (disch:=first | assumption | omega | (simp;done) | (simp;omega) | (simp only [bt,and_true];first | done | omega | (simp;done))) [↓zmi,beq,ybc,ybd,ybe,endOk,wk,wk2,wk1,wkM,wkL,wkLL,ybf,hcl]
      first | done | repeat (first | exact AHeap.Le.refl _ | refine AHeap.Le.push ?_ _)
    · have hb':eqPri x y=true:=by first | (simpa using hb;done) | (simpa [eqPri] using hb)
      rw [hb',Bool.true_and] at hq
      simp only [go_sem,e5]
      refine ⟨k+1,⟨by omega,hq⟩,by omega,by (try simp only [zky]);omega,by repeat (first | exact AHeap.Le.refl _ | refine AHeap.Le.push ?_ _),hcl,?_,?_⟩
      · simp only [ltF,zmz,and_true,true_and]
        exact ⟨hs1,hs2⟩
      · simp [subW,wk2,wk1,wkM,Fr.get]
  · have hk':k=xs.length:=by simp at hc;omega
    subst hk'
    rw [List.drop_length,hlen,List.drop_length] at hq
    rw [← hq]
    simp only [go_sem,eqL]
    simp (disch:=first | assumption | omega | (simp;done) | (simp;omega) | (simp only [bt,and_true];first | done | omega | (simp;done))) [↓zmi,beq,ybc,ybd,ybe,endOk,wk,wk2,wk1,wkM,wkL,wkLL,ybf,hcl]
def p_zsKey:List AV→AHeap→(AV→Prop)→Prop
  | [.slice _ 3 l,.slice _ 3 k],_,K=>∃ xs ys:List (SKey),(l=xs.map keyAV∧k=ys.map keyAV∧xs.length≤140737488355328∧ys.length≤140737488355328∧True)∧K (.bool (eqL eqKey xs ys))
  | _,_,_=>False
set_option maxHeartbeats 2000000 in
theorem ok_zsKey:EntOk Tryz.prog 250 (Ent.pure p_zsKey):=by
  refine EntOk.pure fun args H K h=>?_
  unfold p_zsKey at h
  split at h
  rotate_left
  · exact h.elim
  rename_i m1 l m2 k
  obtain ⟨xs,ys,⟨rfl,rfl,hl1,hl2,ho⟩,hK⟩:=h
  clear ho
  refine ⟨_,hK,?_⟩
  clear hK
  obtain ⟨R,hR⟩:∃ R,eqL eqKey xs ys=R:=⟨_,rfl⟩
  rw [hR]
  by_cases hlen:xs.length=ys.length
  case neg =>
    rw [eqL_len hlen] at hR
    subst hR
    have d0:((xs.length:Int) != (ys.length:Int))=true:=by rw [bne_iff_ne];omega
    refine ACalls.of_aw (Ω:=[]) (T:=assoc []) mixed TblOk.nil Tryz.func250 (by kernel_rfl) (by rfl) (rs:=[.tmp 4]) (by rfl) (by kernel_rfl) (by simp only [Tryz.ntmps250,yaz,yba];decide) (Nat.le_refl _) fun hcl hlt=>?_
    change aw _ _ _ (KI Tryz.prog [] (aEnd Tryz.prog [.tmp 4] H.nx _ _ (assoc [])) []) _ _
    clear hlt
    simp only [go_sem,ybb,d0]
    simp (disch:=first | assumption | omega | (simp;done) | (simp;omega) | (simp only [bt,and_true];first | done | omega | (simp;done))) [↓zmi,beq,ybc,ybd,ybe,endOk,wk,wk2,wk1,wkM,wkL,wkLL,ybf,hcl]
  have d0:((xs.length:Int) != (ys.length:Int))=false:=by rw [hlen];simp
  refine ACalls.of_aw (Ω:=[]) (T:=assoc []) mixed TblOk.nil Tryz.func250 (by kernel_rfl) (by rfl) (rs:=[.tmp 4]) (by rfl) (by kernel_rfl) (by simp only [Tryz.ntmps250,yaz,yba];decide) (Nat.le_refl _) fun hcl hlt=>?_
  change aw _ _ _ (KI Tryz.prog [] (aEnd Tryz.prog [.tmp 4] H.nx _ _ (assoc [])) []) _ _
  have hs1:=hlt (.slice m1 3 (xs.map keyAV)) (by simp)
  have hs2:=hlt (.slice m2 3 (ys.map keyAV)) (by simp)
  clear hlt
  simp only [go_sem,ybb,d0]
  refine loop_introW (A:=Nat) (fun k=>[(0,.slice m1 3 (xs.map keyAV)),(1,.slice m2 3 (ys.map keyAV)),(12,.int .i64 (xs.length:Int)),(13,.int .i64 (k:Int))]) (fun _=>H) (fun k=>k≤xs.length∧eqL eqKey (xs.drop k) (ys.drop k)=R) (fun k=>xs.length - k) 0 ⟨by omega,hR⟩ ?_ fun k hk=>?_
  · refine ⟨by simp only [zkk,zkp];omega,AHeap.Le.refl _,hcl,?_,?_⟩
    · simp only [ltF,zmz,and_true,true_and]
      exact ⟨hs1,hs2⟩
    · simp [subW,wk2,wk1,wkM,Fr.get]
  obtain ⟨hk,hq⟩:=hk
  simp only [go_sem]
  refine cond_split (fun hc=>?_) (fun hc=>?_)
  · have hk':k<xs.length:=by simp at hc;omega
    have hk2:k<ys.length:=by omega
    obtain ⟨x,hx⟩:∃ x,x=xs[k]:=⟨_,rfl⟩
    obtain ⟨y,hy⟩:∃ y,y=ys[k]:=⟨_,rfl⟩
    have hd:xs.drop k=x::xs.drop (k+1):=by rw [hx];exact List.drop_eq_getElem_cons hk'
    have hd2:ys.drop k=y::ys.drop (k+1):=by rw [hy];exact List.drop_eq_getElem_cons hk2
    have hg:=getD_map (f:=keyAV) (l:=xs) (k:=k) (x:=x) (by rw [List.getElem?_eq_getElem hk',hx])
    have hg2:=getD_map (f:=keyAV) (l:=ys) (k:=k) (x:=y) (by rw [List.getElem?_eq_getElem hk2,hy])
    have e5:IntKind.i64.wrap ((k:Int)+1)=((k+1:Nat):Int):=by rw [wrap_i64]<;>omega
    rw [hd,hd2] at hq
    unfold eqL at hq
    simp only [go_sem,Int.toNat_natCast,ybb,hg,hg2,keyAV,keyAV,teq_Key,eqg_Key,Bool.bne_false,Bool.bne_true,vc,yal,yak]
    (repeat with_reducible refine And.intro (by first | assumption | decide | omega) ?_)
    refine cond_split (fun hb=>?_) (fun hb=>?_)
    · have hb':eqKey x y=false:=by first | (simpa using hb;done) | (simpa [eqKey] using hb)
      rw [hb',Bool.false_and] at hq
      rw [← hq]
      try simp only [go_sem]
      simp (disch:=first | assumption | omega | (simp;done) | (simp;omega) | (simp only [bt,and_true];first | done | omega | (simp;done))) [↓zmi,beq,ybc,ybd,ybe,endOk,wk,wk2,wk1,wkM,wkL,wkLL,ybf,hcl]
      first | done | repeat (first | exact AHeap.Le.refl _ | refine AHeap.Le.push ?_ _)
    · have hb':eqKey x y=true:=by first | (simpa using hb;done) | (simpa [eqKey] using hb)
      rw [hb',Bool.true_and] at hq
      simp only [go_sem,e5]
      refine ⟨k+1,⟨by omega,hq⟩,by omega,by (try simp only [zky]);omega,by repeat (first | exact AHeap.Le.refl _ | refine AHeap.Le.push ?_ _),hcl,?_,?_⟩
      · simp only [ltF,zmz,and_true,true_and]
        exact ⟨hs1,hs2⟩
      · simp [subW,wk2,wk1,wkM,Fr.get]
  · have hk':k=xs.length:=by simp at hc;omega
    subst hk'
    rw [List.drop_length,hlen,List.drop_length] at hq
    rw [← hq]
    simp only [go_sem,eqL]
    simp (disch:=first | assumption | omega | (simp;done) | (simp;omega) | (simp only [bt,and_true];first | done | omega | (simp;done))) [↓zmi,beq,ybc,ybd,ybe,endOk,wk,wk2,wk1,wkM,wkL,wkLL,ybf,hcl]
def p_ysKey:List AV→AHeap→(AV→Prop)→Prop
  | [.slice _ 3 l,.slice _ 3 k],_,K=>∃ xs ys:List (SKey),(l=xs.map keyAV∧k=ys.map keyAV∧xs.length≤140737488355328∧ys.length≤140737488355328∧True)∧K (.bool (eqL eqKey xs ys))
  | _,_,_=>False
set_option maxHeartbeats 2000000 in
theorem ok_ysKey:EntOk Tryz.prog 245 (Ent.pure p_ysKey):=by
  refine EntOk.pure fun args H K h=>?_
  unfold p_ysKey at h
  split at h
  rotate_left
  · exact h.elim
  rename_i m1 l m2 k
  obtain ⟨xs,ys,⟨rfl,rfl,hl1,hl2,ho⟩,hK⟩:=h
  clear ho
  refine ⟨_,hK,?_⟩
  clear hK
  obtain ⟨R,hR⟩:∃ R,eqL eqKey xs ys=R:=⟨_,rfl⟩
  rw [hR]
  by_cases hlen:xs.length=ys.length
  case neg =>
    rw [eqL_len hlen] at hR
    subst hR
    have d0:((xs.length:Int) != (ys.length:Int))=true:=by rw [bne_iff_ne];omega
    refine ACalls.of_aw (Ω:=[]) (T:=assoc []) mixed TblOk.nil Tryz.func245 (by kernel_rfl) (by rfl) (rs:=[.tmp 4]) (by rfl) (by kernel_rfl) (by simp only [Tryz.ntmps245,yaz,yba];decide) (Nat.le_refl _) fun hcl hlt=>?_
    change aw _ _ _ (KI Tryz.prog [] (aEnd Tryz.prog [.tmp 4] H.nx _ _ (assoc [])) []) _ _
    clear hlt
    simp only [go_sem,ybb,d0]
    simp (disch:=first | assumption | omega | (simp;done) | (simp;omega) | (simp only [bt,and_true];first | done | omega | (simp;done))) [↓zmi,beq,ybc,ybd,ybe,endOk,wk,wk2,wk1,wkM,wkL,wkLL,ybf,hcl]
  have d0:((xs.length:Int) != (ys.length:Int))=false:=by rw [hlen];simp
  refine ACalls.of_aw (Ω:=[]) (T:=assoc []) mixed TblOk.nil Tryz.func245 (by kernel_rfl) (by rfl) (rs:=[.tmp 4]) (by rfl) (by kernel_rfl) (by simp only [Tryz.ntmps245,yaz,yba];decide) (Nat.le_refl _) fun hcl hlt=>?_
  change aw _ _ _ (KI Tryz.prog [] (aEnd Tryz.prog [.tmp 4] H.nx _ _ (assoc [])) []) _ _
  have hs1:=hlt (.slice m1 3 (xs.map keyAV)) (by simp)
  have hs2:=hlt (.slice m2 3 (ys.map keyAV)) (by simp)
  clear hlt
  simp only [go_sem,ybb,d0]
  refine loop_introW (A:=Nat) (fun k=>[(0,.slice m1 3 (xs.map keyAV)),(1,.slice m2 3 (ys.map keyAV)),(12,.int .i64 (xs.length:Int)),(13,.int .i64 (k:Int))]) (fun _=>H) (fun k=>k≤xs.length∧eqL eqKey (xs.drop k) (ys.drop k)=R) (fun k=>xs.length - k) 0 ⟨by omega,hR⟩ ?_ fun k hk=>?_
  · refine ⟨by simp only [zkk,zkp];omega,AHeap.Le.refl _,hcl,?_,?_⟩
    · simp only [ltF,zmz,and_true,true_and]
      exact ⟨hs1,hs2⟩
    · simp [subW,wk2,wk1,wkM,Fr.get]
  obtain ⟨hk,hq⟩:=hk
  simp only [go_sem]
  refine cond_split (fun hc=>?_) (fun hc=>?_)
  · have hk':k<xs.length:=by simp at hc;omega
    have hk2:k<ys.length:=by omega
    obtain ⟨x,hx⟩:∃ x,x=xs[k]:=⟨_,rfl⟩
    obtain ⟨y,hy⟩:∃ y,y=ys[k]:=⟨_,rfl⟩
    have hd:xs.drop k=x::xs.drop (k+1):=by rw [hx];exact List.drop_eq_getElem_cons hk'
    have hd2:ys.drop k=y::ys.drop (k+1):=by rw [hy];exact List.drop_eq_getElem_cons hk2
    have hg:=getD_map (f:=keyAV) (l:=xs) (k:=k) (x:=x) (by rw [List.getElem?_eq_getElem hk',hx])
    have hg2:=getD_map (f:=keyAV) (l:=ys) (k:=k) (x:=y) (by rw [List.getElem?_eq_getElem hk2,hy])
    have e5:IntKind.i64.wrap ((k:Int)+1)=((k+1:Nat):Int):=by rw [wrap_i64]<;>omega
    rw [hd,hd2] at hq
    unfold eqL at hq
    simp only [go_sem,Int.toNat_natCast,ybb,hg,hg2,keyAV,keyAV,teq_Key,eqg_Key,Bool.bne_false,Bool.bne_true,vc,yal,yak]
    (repeat with_reducible refine And.intro (by first | assumption | decide | omega) ?_)
    refine cond_split (fun hb=>?_) (fun hb=>?_)
    · have hb':eqKey x y=false:=by first | (simpa using hb;done) | (simpa [eqKey] using hb)
      rw [hb',Bool.false_and] at hq
      rw [← hq]
      try simp only [go_sem]
      simp (disch:=first | assumption | omega | (simp;done) | (simp;omega) | (simp only [bt,and_true];first | done | omega | (simp;done))) [↓zmi,beq,ybc,ybd,ybe,endOk,wk,wk2,wk1,wkM,wkL,wkLL,ybf,hcl]
      first | done | repeat (first | exact AHeap.Le.refl _ | refine AHeap.Le.push ?_ _)
    · have hb':eqKey x y=true:=by first | (simpa using hb;done) | (simpa [eqKey] using hb)
      rw [hb',Bool.true_and] at hq
      simp only [go_sem,e5]
      refine ⟨k+1,⟨by omega,hq⟩,by omega,by (try simp only [zky]);omega,by repeat (first | exact AHeap.Le.refl _ | refine AHeap.Le.push ?_ _),hcl,?_,?_⟩
      · simp only [ltF,zmz,and_true,true_and]
        exact ⟨hs1,hs2⟩
      · simp [subW,wk2,wk1,wkM,Fr.get]
  · have hk':k=xs.length:=by simp at hc;omega
    subst hk'
    rw [List.drop_length,hlen,List.drop_length] at hq
    rw [← hq]
    simp only [go_sem,eqL]
    simp (disch:=first | assumption | omega | (simp;done) | (simp;omega) | (simp only [bt,and_true];first | done | omega | (simp;done))) [↓zmi,beq,ybc,ybd,ybe,endOk,wk,wk2,wk1,wkM,wkL,wkLL,ybf,hcl]
def p_zsStg:List AV→AHeap→(AV→Prop)→Prop
  | [.slice _ 2 l,.slice _ 2 k],_,K=>∃ xs ys:List (SStage),(l=xs.map stageAV∧k=ys.map stageAV∧xs.length≤140737488355328∧ys.length≤140737488355328∧True)∧K (.bool (eqL eqStg xs ys))
  | _,_,_=>False
set_option maxHeartbeats 2000000 in
theorem ok_zsStg:EntOk Tryz.prog 139 (Ent.pure p_zsStg):=by
  refine EntOk.pure fun args H K h=>?_
  unfold p_zsStg at h
  split at h
  rotate_left
  · exact h.elim
  rename_i m1 l m2 k
  obtain ⟨xs,ys,⟨rfl,rfl,hl1,hl2,ho⟩,hK⟩:=h
  clear ho
  refine ⟨_,hK,?_⟩
  clear hK
  obtain ⟨R,hR⟩:∃ R,eqL eqStg xs ys=R:=⟨_,rfl⟩
  rw [hR]
  by_cases hlen:xs.length=ys.length
  case neg =>
    rw [eqL_len hlen] at hR
    subst hR
    have d0:((xs.length:Int) != (ys.length:Int))=true:=by rw [bne_iff_ne];omega
    refine ACalls.of_aw (Ω:=[]) (T:=assoc []) mixed TblOk.nil Tryz.func139 (by kernel_rfl) (by rfl) (rs:=[.tmp 4]) (by rfl) (by kernel_rfl) (by simp only [Tryz.ntmps139,yaz,yba];decide) (Nat.le_refl _) fun hcl hlt=>?_
    change aw _ _ _ (KI Tryz.prog [] (aEnd Tryz.prog [.tmp 4] H.nx _ _ (assoc [])) []) _ _
    clear hlt
    simp only [go_sem,ybb,d0]
    simp (disch:=first | assumption | omega | (simp;done) | (simp;omega) | (simp only [bt,and_true];first | done | omega | (simp;done))) [↓zmi,beq,ybc,ybd,ybe,endOk,wk,wk2,wk1,wkM,wkL,wkLL,ybf,hcl]
  have d0:((xs.length:Int) != (ys.length:Int))=false:=by rw [hlen];simp
  refine ACalls.of_aw (Ω:=[]) (T:=assoc []) mixed TblOk.nil Tryz.func139 (by kernel_rfl) (by rfl) (rs:=[.tmp 4]) (by rfl) (by kernel_rfl) (by simp only [Tryz.ntmps139,yaz,yba];decide) (Nat.le_refl _) fun hcl hlt=>?_
  change aw _ _ _ (KI Tryz.prog [] (aEnd Tryz.prog [.tmp 4] H.nx _ _ (assoc [])) []) _ _
  have hs1:=hlt (.slice m1 2 (xs.map stageAV)) (by simp)
  have hs2:=hlt (.slice m2 2 (ys.map stageAV)) (by simp)
  clear hlt
  simp only [go_sem,ybb,d0]
  refine loop_introW (A:=Nat) (fun k=>[(0,.slice m1 2 (xs.map stageAV)),(1,.slice m2 2 (ys.map stageAV)),(12,.int .i64 (xs.length:Int)),(13,.int .i64 (k:Int))]) (fun _=>H) (fun k=>k≤xs.length∧eqL eqStg (xs.drop k) (ys.drop k)=R) (fun k=>xs.length - k) 0 ⟨by omega,hR⟩ ?_ fun k hk=>?_
  · refine ⟨by simp only [zkk,zkp];omega,AHeap.Le.refl _,hcl,?_,?_⟩
    · simp only [ltF,zmz,and_true,true_and]
      exact ⟨hs1,hs2⟩
    · simp [subW,wk2,wk1,wkM,Fr.get]
  obtain ⟨hk,hq⟩:=hk
  simp only [go_sem]
  refine cond_split (fun hc=>?_) (fun hc=>?_)
  · have hk':k<xs.length:=by simp at hc;omega
    have hk2:k<ys.length:=by omega
    obtain ⟨x,hx⟩:∃ x,x=xs[k]:=⟨_,rfl⟩
    obtain ⟨y,hy⟩:∃ y,y=ys[k]:=⟨_,rfl⟩
    have hd:xs.drop k=x::xs.drop (k+1):=by rw [hx];exact List.drop_eq_getElem_cons hk'
    have hd2:ys.drop k=y::ys.drop (k+1):=by rw [hy];exact List.drop_eq_getElem_cons hk2
    have hg:=getD_map (f:=stageAV) (l:=xs) (k:=k) (x:=x) (by rw [List.getElem?_eq_getElem hk',hx])
    have hg2:=getD_map (f:=stageAV) (l:=ys) (k:=k) (x:=y) (by rw [List.getElem?_eq_getElem hk2,hy])
    have e5:IntKind.i64.wrap ((k:Int)+1)=((k+1:Nat):Int):=by rw [wrap_i64]<;>omega
    rw [hd,hd2] at hq
    unfold eqL at hq
    simp only [go_sem,Int.toNat_natCast,ybb,hg,hg2,stageAV,stageAV,teq_Stg,eqg_Stg,Bool.bne_false,Bool.bne_true,vc,yal,yak]
    (repeat with_reducible refine And.intro (by first | assumption | decide | omega) ?_)
    refine cond_split (fun hb=>?_) (fun hb=>?_)
    · have hb':eqStg x y=false:=by first | (simpa using hb;done) | (simpa [eqStg] using hb)
      rw [hb',Bool.false_and] at hq
      rw [← hq]
      try simp only [go_sem]
      simp (disch:=first | assumption | omega | (simp;done) | (simp;omega) | (simp only [bt,and_true];first | done | omega | (simp;done))) [↓zmi,beq,ybc,ybd,ybe,endOk,wk,wk2,wk1,wkM,wkL,wkLL,ybf,hcl]
      first | done | repeat (first | exact AHeap.Le.refl _ | refine AHeap.Le.push ?_ _)
    · have hb':eqStg x y=true:=by first | (simpa using hb;done) | (simpa [eqStg] using hb)
      rw [hb',Bool.true_and] at hq
      simp only [go_sem,e5]
      refine ⟨k+1,⟨by omega,hq⟩,by omega,by (try simp only [zky]);omega,by repeat (first | exact AHeap.Le.refl _ | refine AHeap.Le.push ?_ _),hcl,?_,?_⟩
      · simp only [ltF,zmz,and_true,true_and]
        exact ⟨hs1,hs2⟩
      · simp [subW,wk2,wk1,wkM,Fr.get]
  · have hk':k=xs.length:=by simp at hc;omega
    subst hk'
    rw [List.drop_length,hlen,List.drop_length] at hq
    rw [← hq]
    simp only [go_sem,eqL]
    simp (disch:=first | assumption | omega | (simp;done) | (simp;omega) | (simp only [bt,and_true];first | done | omega | (simp;done))) [↓zmi,beq,ybc,ybd,ybe,endOk,wk,wk2,wk1,wkM,wkL,wkLL,ybf,hcl]
def p_ysStg:List AV→AHeap→(AV→Prop)→Prop
  | [.slice _ 2 l,.slice _ 2 k],_,K=>∃ xs ys:List (SStage),(l=xs.map stageAV∧k=ys.map stageAV∧xs.length≤140737488355328∧ys.length≤140737488355328∧True)∧K (.bool (eqL eqStg xs ys))
  | _,_,_=>False
set_option maxHeartbeats 2000000 in
theorem ok_ysStg:EntOk Tryz.prog 125 (Ent.pure p_ysStg):=by
  refine EntOk.pure fun args H K h=>?_
  unfold p_ysStg at h
  split at h
  rotate_left
  · exact h.elim
  rename_i m1 l m2 k
  obtain ⟨xs,ys,⟨rfl,rfl,hl1,hl2,ho⟩,hK⟩:=h
  clear ho
  refine ⟨_,hK,?_⟩
  clear hK
  obtain ⟨R,hR⟩:∃ R,eqL eqStg xs ys=R:=⟨_,rfl⟩
  rw [hR]
  by_cases hlen:xs.length=ys.length
  case neg =>
    rw [eqL_len hlen] at hR
    subst hR
    have d0:((xs.length:Int) != (ys.length:Int))=true:=by rw [bne_iff_ne];omega
    refine ACalls.of_aw (Ω:=[]) (T:=assoc []) mixed TblOk.nil Tryz.func125 (by kernel_rfl) (by rfl) (rs:=[.tmp 4]) (by rfl) (by kernel_rfl) (by simp only [Tryz.ntmps125,yaz,yba];decide) (Nat.le_refl _) fun hcl hlt=>?_
    change aw _ _ _ (KI Tryz.prog [] (aEnd Tryz.prog [.tmp 4] H.nx _ _ (assoc [])) []) _ _
    clear hlt
    simp only [go_sem,ybb,d0]
    simp (disch:=first | assumption | omega | (simp;done) | (simp;omega) | (simp only [bt,and_true];first | done | omega | (simp;done))) [↓zmi,beq,ybc,ybd,ybe,endOk,wk,wk2,wk1,wkM,wkL,wkLL,ybf,hcl]
  have d0:((xs.length:Int) != (ys.length:Int))=false:=by rw [hlen];simp
  refine ACalls.of_aw (Ω:=[]) (T:=assoc []) mixed TblOk.nil Tryz.func125 (by kernel_rfl) (by rfl) (rs:=[.tmp 4]) (by rfl) (by kernel_rfl) (by simp only [Tryz.ntmps125,yaz,yba];decide) (Nat.le_refl _) fun hcl hlt=>?_
  change aw _ _ _ (KI Tryz.prog [] (aEnd Tryz.prog [.tmp 4] H.nx _ _ (assoc [])) []) _ _
  have hs1:=hlt (.slice m1 2 (xs.map stageAV)) (by simp)
  have hs2:=hlt (.slice m2 2 (ys.map stageAV)) (by simp)
  clear hlt
  simp only [go_sem,ybb,d0]
  refine loop_introW (A:=Nat) (fun k=>[(0,.slice m1 2 (xs.map stageAV)),(1,.slice m2 2 (ys.map stageAV)),(12,.int .i64 (xs.length:Int)),(13,.int .i64 (k:Int))]) (fun _=>H) (fun k=>k≤xs.length∧eqL eqStg (xs.drop k) (ys.drop k)=R) (fun k=>xs.length - k) 0 ⟨by omega,hR⟩ ?_ fun k hk=>?_
  · refine ⟨by simp only [zkk,zkp];omega,AHeap.Le.refl _,hcl,?_,?_⟩
    · simp only [ltF,zmz,and_true,true_and]
      exact ⟨hs1,hs2⟩
    · simp [subW,wk2,wk1,wkM,Fr.get]
  obtain ⟨hk,hq⟩:=hk
  simp only [go_sem]
  refine cond_split (fun hc=>?_) (fun hc=>?_)
  · have hk':k<xs.length:=by simp at hc;omega
    have hk2:k<ys.length:=by omega
    obtain ⟨x,hx⟩:∃ x,x=xs[k]:=⟨_,rfl⟩
    obtain ⟨y,hy⟩:∃ y,y=ys[k]:=⟨_,rfl⟩
    have hd:xs.drop k=x::xs.drop (k+1):=by rw [hx];exact List.drop_eq_getElem_cons hk'
    have hd2:ys.drop k=y::ys.drop (k+1):=by rw [hy];exact List.drop_eq_getElem_cons hk2
    have hg:=getD_map (f:=stageAV) (l:=xs) (k:=k) (x:=x) (by rw [List.getElem?_eq_getElem hk',hx])
    have hg2:=getD_map (f:=stageAV) (l:=ys) (k:=k) (x:=y) (by rw [List.getElem?_eq_getElem hk2,hy])
    have e5:IntKind.i64.wrap ((k:Int)+1)=((k+1:Nat):Int):=by rw [wrap_i64]<;>omega
    rw [hd,hd2] at hq
    unfold eqL at hq
    simp only [go_sem,Int.toNat_natCast,ybb,hg,hg2,stageAV,stageAV,teq_Stg,eqg_Stg,Bool.bne_false,Bool.bne_true,vc,yal,yak]
    (repeat with_reducible refine And.intro (by first | assumption | decide | omega) ?_)
    refine cond_split (fun hb=>?_) (fun hb=>?_)
    · have hb':eqStg x y=false:=by first | (simpa using hb;done) | (simpa [eqStg] using hb)
      rw [hb',Bool.false_and] at hq
      rw [← hq]
      try simp only [go_sem]
      simp (disch:=first | assumption | omega | (simp;done) | (simp;omega) | (simp only [bt,and_true];first | done | omega | (simp;done))) [↓zmi,beq,ybc,ybd,ybe,endOk,wk,wk2,wk1,wkM,wkL,wkLL,ybf,hcl]
      first | done | repeat (first | exact AHeap.Le.refl _ | refine AHeap.Le.push ?_ _)
    · have hb':eqStg x y=true:=by first | (simpa using hb;done) | (simpa [eqStg] using hb)
      rw [hb',Bool.true_and] at hq
      simp only [go_sem,e5]
      refine ⟨k+1,⟨by omega,hq⟩,by omega,by (try simp only [zky]);omega,by repeat (first | exact AHeap.Le.refl _ | refine AHeap.Le.push ?_ _),hcl,?_,?_⟩
      · simp only [ltF,zmz,and_true,true_and]
        exact ⟨hs1,hs2⟩
      · simp [subW,wk2,wk1,wkM,Fr.get]
  · have hk':k=xs.length:=by simp at hc;omega
    subst hk'
    rw [List.drop_length,hlen,List.drop_length] at hq
    rw [← hq]
    simp only [go_sem,eqL]
    simp (disch:=first | assumption | omega | (simp;done) | (simp;omega) | (simp only [bt,and_true];first | done | omega | (simp;done))) [↓zmi,beq,ybc,ybd,ybe,endOk,wk,wk2,wk1,wkM,wkL,wkLL,ybf,hcl]
def p_zsRef:List AV→AHeap→(AV→Prop)→Prop
  | [.slice _ 6 l,.slice _ 6 k],_,K=>∃ xs ys:List (SRef),(l=xs.map refAV∧k=ys.map refAV∧xs.length≤140737488355328∧ys.length≤140737488355328∧True)∧K (.bool (eqL eqRef xs ys))
  | _,_,_=>False
set_option maxHeartbeats 2000000 in
theorem ok_zsRef:EntOk Tryz.prog 142 (Ent.pure p_zsRef):=by
  refine EntOk.pure fun args H K h=>?_
  unfold p_zsRef at h
  split at h
  rotate_left
  · exact h.elim
  rename_i m1 l m2 k
  obtain ⟨xs,ys,⟨rfl,rfl,hl1,hl2,ho⟩,hK⟩:=h
  clear ho
  refine ⟨_,hK,?_⟩
  clear hK
  obtain ⟨R,hR⟩:∃ R,eqL eqRef xs ys=R:=⟨_,rfl⟩
  rw [hR]
  by_cases hlen:xs.length=ys.length
  case neg =>
    rw [eqL_len hlen] at hR
    subst hR
    have d0:((xs.length:Int) != (ys.length:Int))=true:=by rw [bne_iff_ne];omega
    refine ACalls.of_aw (Ω:=[]) (T:=assoc []) mixed TblOk.nil Tryz.func142 (by kernel_rfl) (by rfl) (rs:=[.tmp 4]) (by rfl) (by kernel_rfl) (by simp only [Tryz.ntmps142,yaz,yba];decide) (Nat.le_refl _) fun hcl hlt=>?_
    change aw _ _ _ (KI Tryz.prog [] (aEnd Tryz.prog [.tmp 4] H.nx _ _ (assoc [])) []) _ _
    clear hlt
    simp only [go_sem,ybb,d0]
    simp (disch:=first | assumption | omega | (simp;done) | (simp;omega) | (simp only [bt,and_true];first | done | omega | (simp;done))) [↓zmi,beq,ybc,ybd,ybe,endOk,wk,wk2,wk1,wkM,wkL,wkLL,ybf,hcl]
  have d0:((xs.length:Int) != (ys.length:Int))=false:=by rw [hlen];simp
  refine ACalls.of_aw (Ω:=[]) (T:=assoc []) mixed TblOk.nil Tryz.func142 (by kernel_rfl) (by rfl) (rs:=[.tmp 4]) (by rfl) (by kernel_rfl) (by simp only [Tryz.ntmps142,yaz,yba];decide) (Nat.le_refl _) fun hcl hlt=>?_
  change aw _ _ _ (KI Tryz.prog [] (aEnd Tryz.prog [.tmp 4] H.nx _ _ (assoc [])) []) _ _
  have hs1:=hlt (.slice m1 6 (xs.map refAV)) (by simp)
  have hs2:=hlt (.slice m2 6 (ys.map refAV)) (by simp)
  clear hlt
  simp only [go_sem,ybb,d0]
  refine loop_introW (A:=Nat) (fun k=>[(0,.slice m1 6 (xs.map refAV)),(1,.slice m2 6 (ys.map refAV)),(12,.int .i64 (xs.length:Int)),(13,.int .i64 (k:Int))]) (fun _=>H) (fun k=>k≤xs.length∧eqL eqRef (xs.drop k) (ys.drop k)=R) (fun k=>xs.length - k) 0 ⟨by omega,hR⟩ ?_ fun k hk=>?_
  · refine ⟨by simp only [zkk,zkp];omega,AHeap.Le.refl _,hcl,?_,?_⟩
    · simp only [ltF,zmz,and_true,true_and]
      exact ⟨hs1,hs2⟩
    · simp [subW,wk2,wk1,wkM,Fr.get]
  obtain ⟨hk,hq⟩:=hk
  simp only [go_sem]
  refine cond_split (fun hc=>?_) (fun hc=>?_)
  · have hk':k<xs.length:=by simp at hc;omega
    have hk2:k<ys.length:=by omega
    obtain ⟨x,hx⟩:∃ x,x=xs[k]:=⟨_,rfl⟩
    obtain ⟨y,hy⟩:∃ y,y=ys[k]:=⟨_,rfl⟩
    have hd:xs.drop k=x::xs.drop (k+1):=by rw [hx];exact List.drop_eq_getElem_cons hk'
    have hd2:ys.drop k=y::ys.drop (k+1):=by rw [hy];exact List.drop_eq_getElem_cons hk2
    have hg:=getD_map (f:=refAV) (l:=xs) (k:=k) (x:=x) (by rw [List.getElem?_eq_getElem hk',hx])
    have hg2:=getD_map (f:=refAV) (l:=ys) (k:=k) (x:=y) (by rw [List.getElem?_eq_getElem hk2,hy])
    have e5:IntKind.i64.wrap ((k:Int)+1)=((k+1:Nat):Int):=by rw [wrap_i64]<;>omega
    rw [hd,hd2] at hq
    unfold eqL at hq
    simp only [go_sem,Int.toNat_natCast,ybb,hg,hg2,refAV,refAV,teq_Ref,eqg_Ref,Bool.bne_false,Bool.bne_true,vc,yal,yak]
    (repeat with_reducible refine And.intro (by first | assumption | decide | omega) ?_)
    refine cond_split (fun hb=>?_) (fun hb=>?_)
    · have hb':eqRef x y=false:=by first | (simpa using hb;done) | (simpa [eqRef] using hb)
      rw [hb',Bool.false_and] at hq
      rw [← hq]
      try simp only [go_sem]
      simp (disch:=first | assumption | omega | (simp;done) | (simp;omega) | (simp only [bt,and_true];first | done | omega | (simp;done))) [↓zmi,beq,ybc,ybd,ybe,endOk,wk,wk2,wk1,wkM,wkL,wkLL,ybf,hcl]
      first | done | repeat (first | exact AHeap.Le.refl _ | refine AHeap.Le.push ?_ _)
    · have hb':eqRef x y=true:=by first | (simpa using hb;done) | (simpa [eqRef] using hb)
      rw [hb',Bool.true_and] at hq
      simp only [go_sem,e5]
      refine ⟨k+1,⟨by omega,hq⟩,by omega,by (try simp only [zky]);omega,by repeat (first | exact AHeap.Le.refl _ | refine AHeap.Le.push ?_ _),hcl,?_,?_⟩
      · simp only [ltF,zmz,and_true,true_and]
        exact ⟨hs1,hs2⟩
      · simp [subW,wk2,wk1,wkM,Fr.get]
  · have hk':k=xs.length:=by simp at hc;omega
    subst hk'
    rw [List.drop_length,hlen,List.drop_length] at hq
    rw [← hq]
    simp only [go_sem,eqL]
    simp (disch:=first | assumption | omega | (simp;done) | (simp;omega) | (simp only [bt,and_true];first | done | omega | (simp;done))) [↓zmi,beq,ybc,ybd,ybe,endOk,wk,wk2,wk1,wkM,wkL,wkLL,ybf,hcl]
def p_ysRef:List AV→AHeap→(AV→Prop)→Prop
  | [.slice _ 6 l,.slice _ 6 k],_,K=>∃ xs ys:List (SRef),(l=xs.map refAV∧k=ys.map refAV∧xs.length≤140737488355328∧ys.length≤140737488355328∧True)∧K (.bool (eqL eqRef xs ys))
  | _,_,_=>False
set_option maxHeartbeats 2000000 in
theorem ok_ysRef:EntOk Tryz.prog 126 (Ent.pure p_ysRef):=by
  refine EntOk.pure fun args H K h=>?_
  unfold p_ysRef at h
  split at h
  rotate_left
  · exact h.elim
  rename_i m1 l m2 k
  obtain ⟨xs,ys,⟨rfl,rfl,hl1,hl2,ho⟩,hK⟩:=h
  clear ho
  refine ⟨_,hK,?_⟩
  clear hK
  obtain ⟨R,hR⟩:∃ R,eqL eqRef xs ys=R:=⟨_,rfl⟩
  rw [hR]
  by_cases hlen:xs.length=ys.length
  case neg =>
    rw [eqL_len hlen] at hR
    subst hR
    have d0:((xs.length:Int) != (ys.length:Int))=true:=by rw [bne_iff_ne];omega
    refine ACalls.of_aw (Ω:=[]) (T:=assoc []) mixed TblOk.nil Tryz.func126 (by kernel_rfl) (by rfl) (rs:=[.tmp 4]) (by rfl) (by kernel_rfl) (by simp only [Tryz.ntmps126,yaz,yba];decide) (Nat.le_refl _) fun hcl hlt=>?_
    change aw _ _ _ (KI Tryz.prog [] (aEnd Tryz.prog [.tmp 4] H.nx _ _ (assoc [])) []) _ _
    clear hlt
    simp only [go_sem,ybb,d0]
    simp (disch:=first | assumption | omega | (simp;done) | (simp;omega) | (simp only [bt,and_true];first | done | omega | (simp;done))) [↓zmi,beq,ybc,ybd,ybe,endOk,wk,wk2,wk1,wkM,wkL,wkLL,ybf,hcl]
  have d0:((xs.length:Int) != (ys.length:Int))=false:=by rw [hlen];simp
  refine ACalls.of_aw (Ω:=[]) (T:=assoc []) mixed TblOk.nil Tryz.func126 (by kernel_rfl) (by rfl) (rs:=[.tmp 4]) (by rfl) (by kernel_rfl) (by simp only [Tryz.ntmps126,yaz,yba];decide) (Nat.le_refl _) fun hcl hlt=>?_
  change aw _ _ _ (KI Tryz.prog [] (aEnd Tryz.prog [.tmp 4] H.nx _ _ (assoc [])) []) _ _
  have hs1:=hlt (.slice m1 6 (xs.map refAV)) (by simp)
  have hs2:=hlt (.slice m2 6 (ys.map refAV)) (by simp)
  clear hlt
  simp only [go_sem,ybb,d0]
  refine loop_introW (A:=Nat) (fun k=>[(0,.slice m1 6 (xs.map refAV)),(1,.slice m2 6 (ys.map refAV)),(12,.int .i64 (xs.length:Int)),(13,.int .i64 (k:Int))]) (fun _=>H) (fun k=>k≤xs.length∧eqL eqRef (xs.drop k) (ys.drop k)=R) (fun k=>xs.length - k) 0 ⟨by omega,hR⟩ ?_ fun k hk=>?_
  · refine ⟨by simp only [zkk,zkp];omega,AHeap.Le.refl _,hcl,?_,?_⟩
    · simp only [ltF,zmz,and_true,true_and]
      exact ⟨hs1,hs2⟩
    · simp [subW,wk2,wk1,wkM,Fr.get]
  obtain ⟨hk,hq⟩:=hk
  simp only [go_sem]
  refine cond_split (fun hc=>?_) (fun hc=>?_)
  · have hk':k<xs.length:=by simp at hc;omega
    have hk2:k<ys.length:=by omega
    obtain ⟨x,hx⟩:∃ x,x=xs[k]:=⟨_,rfl⟩
    obtain ⟨y,hy⟩:∃ y,y=ys[k]:=⟨_,rfl⟩
    have hd:xs.drop k=x::xs.drop (k+1):=by rw [hx];exact List.drop_eq_getElem_cons hk'
    have hd2:ys.drop k=y::ys.drop (k+1):=by rw [hy];exact List.drop_eq_getElem_cons hk2
    have hg:=getD_map (f:=refAV) (l:=xs) (k:=k) (x:=x) (by rw [List.getElem?_eq_getElem hk',hx])
    have hg2:=getD_map (f:=refAV) (l:=ys) (k:=k) (x:=y) (by rw [List.getElem?_eq_getElem hk2,hy])
    have e5:IntKind.i64.wrap ((k:Int)+1)=((k+1:Nat):Int):=by rw [wrap_i64]<;>omega
    rw [hd,hd2] at hq
    unfold eqL at hq
    simp only [go_sem,Int.toNat_natCast,ybb,hg,hg2,refAV,refAV,teq_Ref,eqg_Ref,Bool.bne_false,Bool.bne_true,vc,yal,yak]
    (repeat with_reducible refine And.intro (by first | assumption | decide | omega) ?_)
    refine cond_split (fun hb=>?_) (fun hb=>?_)
    · have hb':eqRef x y=false:=by first | (simpa using hb;done) | (simpa [eqRef] using hb)
      rw [hb',Bool.false_and] at hq
      rw [← hq]
      try simp only [go_sem]
      simp (disch:=first | assumption | omega | (simp;done) | (simp;omega) | (simp only [bt,and_true];first | done | omega | (simp;done))) [↓zmi,beq,ybc,ybd,ybe,endOk,wk,wk2,wk1,wkM,wkL,wkLL,ybf,hcl]
      first | done | repeat (first | exact AHeap.Le.refl _ | refine AHeap.Le.push ?_ _)
    · have hb':eqRef x y=true:=by first | (simpa using hb;done) | (simpa [eqRef] using hb)
      rw [hb',Bool.true_and] at hq
      simp only [go_sem,e5]
      refine ⟨k+1,⟨by omega,hq⟩,by omega,by (try simp only [zky]);omega,by repeat (first | exact AHeap.Le.refl _ | refine AHeap.Le.push ?_ _),hcl,?_,?_⟩
      · simp only [ltF,zmz,and_true,true_and]
        exact ⟨hs1,hs2⟩
      · simp [subW,wk2,wk1,wkM,Fr.get]
  · have hk':k=xs.length:=by simp at hc;omega
    subst hk'
    rw [List.drop_length,hlen,List.drop_length] at hq
    rw [← hq]
    simp only [go_sem,eqL]
    simp (disch:=first | assumption | omega | (simp;done) | (simp;omega) | (simp only [bt,and_true];first | done | omega | (simp;done))) [↓zmi,beq,ybc,ybd,ybe,endOk,wk,wk2,wk1,wkM,wkL,wkLL,ybf,hcl]
def p_zsInt:List AV→AHeap→(AV→Prop)→Prop
  | [.slice _ 1 l,.slice _ 1 k],_,K=>∃ xs ys:List (Int),(l=xs.map iAV∧k=ys.map iAV∧xs.length≤140737488355328∧ys.length≤140737488355328∧True)∧K (.bool (eqL eqI xs ys))
  | _,_,_=>False
set_option maxHeartbeats 2000000 in
theorem ok_zsInt:EntOk Tryz.prog 130 (Ent.pure p_zsInt):=by
  refine EntOk.pure fun args H K h=>?_
  unfold p_zsInt at h
  split at h
  rotate_left
  · exact h.elim
  rename_i m1 l m2 k
  obtain ⟨xs,ys,⟨rfl,rfl,hl1,hl2,ho⟩,hK⟩:=h
  clear ho
  refine ⟨_,hK,?_⟩
  clear hK
  obtain ⟨R,hR⟩:∃ R,eqL eqI xs ys=R:=⟨_,rfl⟩
  rw [hR]
  by_cases hlen:xs.length=ys.length
  case neg =>
    rw [eqL_len hlen] at hR
    subst hR
    have d0:((xs.length:Int) != (ys.length:Int))=true:=by rw [bne_iff_ne];omega
    refine ACalls.of_aw (Ω:=[]) (T:=assoc []) mixed TblOk.nil Tryz.func130 (by kernel_rfl) (by rfl) (rs:=[.tmp 4]) (by rfl) (by kernel_rfl) (by simp only [Tryz.ntmps130,yaz,yba];decide) (Nat.le_refl _) fun hcl hlt=>?_
    change aw _ _ _ (KI Tryz.prog [] (aEnd Tryz.prog [.tmp 4] H.nx _ _ (assoc [])) []) _ _
    clear hlt
    simp only [go_sem,ybb,d0]
    simp (disch:=first | assumption | omega | (simp;done) | (simp;omega) | (simp only [bt,and_true];first | done | omega | (simp;done))) [↓zmi,beq,ybc,ybd,ybe,endOk,wk,wk2,wk1,wkM,wkL,wkLL,ybf,hcl]
  have d0:((xs.length:Int) != (ys.length:Int))=false:=by rw [hlen];simp
  refine ACalls.of_aw (Ω:=[]) (T:=assoc []) mixed TblOk.nil Tryz.func130 (by kernel_rfl) (by rfl) (rs:=[.tmp 4]) (by rfl) (by kernel_rfl) (by simp only [Tryz.ntmps130,yaz,yba];decide) (Nat.le_refl _) fun hcl hlt=>?_
  change aw _ _ _ (KI Tryz.prog [] (aEnd Tryz.prog [.tmp 4] H.nx _ _ (assoc [])) []) _ _
  have hs1:=hlt (.slice m1 1 (xs.map iAV)) (by simp)
  have hs2:=hlt (.slice m2 1 (ys.map iAV)) (by simp)
  clear hlt
  simp only [go_sem,ybb,d0]
  refine loop_introW (A:=Nat) (fun k=>[(0,.slice m1 1 (xs.map iAV)),(1,.slice m2 1 (ys.map iAV)),(12,.int .i64 (xs.length:Int)),(13,.int .i64 (k:Int))]) (fun _=>H) (fun k=>k≤xs.length∧eqL eqI (xs.drop k) (ys.drop k)=R) (fun k=>xs.length - k) 0 ⟨by omega,hR⟩ ?_ fun k hk=>?_
  · refine ⟨by simp only [zkk,zkp];omega,AHeap.Le.refl _,hcl,?_,?_⟩
    · simp only [ltF,zmz,and_true,true_and]
      exact ⟨hs1,hs2⟩
    · simp [subW,wk2,wk1,wkM,Fr.get]
  obtain ⟨hk,hq⟩:=hk
  simp only [go_sem]
  refine cond_split (fun hc=>?_) (fun hc=>?_)
  · have hk':k<xs.length:=by simp at hc;omega
    have hk2:k<ys.length:=by omega
    obtain ⟨x,hx⟩:∃ x,x=xs[k]:=⟨_,rfl⟩
    obtain ⟨y,hy⟩:∃ y,y=ys[k]:=⟨_,rfl⟩
    have hd:xs.drop k=x::xs.drop (k+1):=by rw [hx];exact List.drop_eq_getElem_cons hk'
    have hd2:ys.drop k=y::ys.drop (k+1):=by rw [hy];exact List.drop_eq_getElem_cons hk2
    have hg:=getD_map (f:=iAV) (l:=xs) (k:=k) (x:=x) (by rw [List.getElem?_eq_getElem hk',hx])
    have hg2:=getD_map (f:=iAV) (l:=ys) (k:=k) (x:=y) (by rw [List.getElem?_eq_getElem hk2,hy])
    have e5:IntKind.i64.wrap ((k:Int)+1)=((k+1:Nat):Int):=by rw [wrap_i64]<;>omega
    rw [hd,hd2] at hq
    unfold eqL at hq
    simp only [go_sem,Int.toNat_natCast,ybb,hg,hg2,iAV,iAV]
    (repeat with_reducible refine And.intro (by first | assumption | decide | omega) ?_)
    refine cond_split (fun hb=>?_) (fun hb=>?_)
    · have hb':eqI x y=false:=by first | (simpa using hb;done) | (simpa [eqI] using hb)
      rw [hb',Bool.false_and] at hq
      rw [← hq]
      try simp only [go_sem]
      simp (disch:=first | assumption | omega | (simp;done) | (simp;omega) | (simp only [bt,and_true];first | done | omega | (simp;done))) [↓zmi,beq,ybc,ybd,ybe,endOk,wk,wk2,wk1,wkM,wkL,wkLL,ybf,hcl]
      first | done | repeat (first | exact AHeap.Le.refl _ | refine AHeap.Le.push ?_ _)
    · have hb':eqI x y=true:=by first | (simpa using hb;done) | (simpa [eqI] using hb)
      rw [hb',Bool.true_and] at hq
      simp only [go_sem,e5]
      refine ⟨k+1,⟨by omega,hq⟩,by omega,by (try simp only [zky]);omega,by repeat (first | exact AHeap.Le.refl _ | refine AHeap.Le.push ?_ _),hcl,?_,?_⟩
      · simp only [ltF,zmz,and_true,true_and]
        exact ⟨hs1,hs2⟩
      · simp [subW,wk2,wk1,wkM,Fr.get]
  · have hk':k=xs.length:=by simp at hc;omega
    subst hk'
    rw [List.drop_length,hlen,List.drop_length] at hq
    rw [← hq]
    simp only [go_sem,eqL]
    simp (disch:=first | assumption | omega | (simp;done) | (simp;omega) | (simp only [bt,and_true];first | done | omega | (simp;done))) [↓zmi,beq,ybc,ybd,ybe,endOk,wk,wk2,wk1,wkM,wkL,wkLL,ybf,hcl]
def p_ysInt:List AV→AHeap→(AV→Prop)→Prop
  | [.slice _ 1 l,.slice _ 1 k],_,K=>∃ xs ys:List (Int),(l=xs.map iAV∧k=ys.map iAV∧xs.length≤140737488355328∧ys.length≤140737488355328∧True)∧K (.bool (eqL eqI xs ys))
  | _,_,_=>False
set_option maxHeartbeats 2000000 in
theorem ok_ysInt:EntOk Tryz.prog 127 (Ent.pure p_ysInt):=by
  refine EntOk.pure fun args H K h=>?_
  unfold p_ysInt at h
  split at h
  rotate_left
  · exact h.elim
  rename_i m1 l m2 k
  obtain ⟨xs,ys,⟨rfl,rfl,hl1,hl2,ho⟩,hK⟩:=h
  clear ho
  refine ⟨_,hK,?_⟩
  clear hK
  obtain ⟨R,hR⟩:∃ R,eqL eqI xs ys=R:=⟨_,rfl⟩
  rw [hR]
  by_cases hlen:xs.length=ys.length
  case neg =>
    rw [eqL_len hlen] at hR
    subst hR
    have d0:((xs.length:Int) != (ys.length:Int))=true:=by rw [bne_iff_ne];omega
    refine ACalls.of_aw (Ω:=[]) (T:=assoc []) mixed TblOk.nil Tryz.func127 (by kernel_rfl) (by rfl) (rs:=[.tmp 4]) (by rfl) (by kernel_rfl) (by simp only [Tryz.ntmps127,yaz,yba];decide) (Nat.le_refl _) fun hcl hlt=>?_
    change aw _ _ _ (KI Tryz.prog [] (aEnd Tryz.prog [.tmp 4] H.nx _ _ (assoc [])) []) _ _
    clear hlt
    simp only [go_sem,ybb,d0]
    simp (disch:=first | assumption | omega | (simp;done) | (simp;omega) | (simp only [bt,and_true];first | done | omega | (simp;done))) [↓zmi,beq,ybc,ybd,ybe,endOk,wk,wk2,wk1,wkM,wkL,wkLL,ybf,hcl]
  have d0:((xs.length:Int) != (ys.length:Int))=false:=by rw [hlen];simp
  refine ACalls.of_aw (Ω:=[]) (T:=assoc []) mixed TblOk.nil Tryz.func127 (by kernel_rfl) (by rfl) (rs:=[.tmp 4]) (by rfl) (by kernel_rfl) (by simp only [Tryz.ntmps127,yaz,yba];decide) (Nat.le_refl _) fun hcl hlt=>?_
  change aw _ _ _ (KI Tryz.prog [] (aEnd Tryz.prog [.tmp 4] H.nx _ _ (assoc [])) []) _ _
  have hs1:=hlt (.slice m1 1 (xs.map iAV)) (by simp)
  have hs2:=hlt (.slice m2 1 (ys.map iAV)) (by simp)
  clear hlt
  simp only [go_sem,ybb,d0]
  refine loop_introW (A:=Nat) (fun k=>[(0,.slice m1 1 (xs.map iAV)),(1,.slice m2 1 (ys.map iAV)),(12,.int .i64 (xs.length:Int)),(13,.int .i64 (k:Int))]) (fun _=>H) (fun k=>k≤xs.length∧eqL eqI (xs.drop k) (ys.drop k)=R) (fun k=>xs.length - k) 0 ⟨by omega,hR⟩ ?_ fun k hk=>?_
  · refine ⟨by simp only [zkk,zkp];omega,AHeap.Le.refl _,hcl,?_,?_⟩
    · simp only [ltF,zmz,and_true,true_and]
      exact ⟨hs1,hs2⟩
    · simp [subW,wk2,wk1,wkM,Fr.get]
  obtain ⟨hk,hq⟩:=hk
  simp only [go_sem]
  refine cond_split (fun hc=>?_) (fun hc=>?_)
  · have hk':k<xs.length:=by simp at hc;omega
    have hk2:k<ys.length:=by omega
    obtain ⟨x,hx⟩:∃ x,x=xs[k]:=⟨_,rfl⟩
    obtain ⟨y,hy⟩:∃ y,y=ys[k]:=⟨_,rfl⟩
    have hd:xs.drop k=x::xs.drop (k+1):=by rw [hx];exact List.drop_eq_getElem_cons hk'
    have hd2:ys.drop k=y::ys.drop (k+1):=by rw [hy];exact List.drop_eq_getElem_cons hk2
    have hg:=getD_map (f:=iAV) (l:=xs) (k:=k) (x:=x) (by rw [List.getElem?_eq_getElem hk',hx])
    have hg2:=getD_map (f:=iAV) (l:=ys) (k:=k) (x:=y) (by rw [List.getElem?_eq_getElem hk2,hy])
    have e5:IntKind.i64.wrap ((k:Int)+1)=((k+1:Nat):Int):=by rw [wrap_i64]<;>omega
    rw [hd,hd2] at hq
    unfold eqL at hq
    simp only [go_sem,Int.toNat_natCast,ybb,hg,hg2,iAV,iAV]
    (repeat with_reducible refine And.intro (by first | assumption | decide | omega) ?_)
    refine cond_split (fun hb=>?_) (fun hb=>?_)
    · have hb':eqI x y=false:=by first | (simpa using hb;done) | (simpa [eqI] using hb)
      rw [hb',Bool.false_and] at hq
      rw [← hq]
      try simp only [go_sem]
      simp (disch:=first | assumption | omega | (simp;done) | (simp;omega) | (simp only [bt,and_true];first | done | omega | (simp;done))) [↓zmi,beq,ybc,ybd,ybe,endOk,wk,wk2,wk1,wkM,wkL,wkLL,ybf,hcl]
      first | done | repeat (first | exact AHeap.Le.refl _ | refine AHeap.Le.push ?_ _)
    · have hb':eqI x y=true:=by first | (simpa using hb;done) | (simpa [eqI] using hb)
      rw [hb',Bool.true_and] at hq
      simp only [go_sem,e5]
      refine ⟨k+1,⟨by omega,hq⟩,by omega,by (try simp only [zky]);omega,by repeat (first | exact AHeap.Le.refl _ | refine AHeap.Le.push ?_ _),hcl,?_,?_⟩
      · simp only [ltF,zmz,and_true,true_and]
        exact ⟨hs1,hs2⟩
      · simp [subW,wk2,wk1,wkM,Fr.get]
  · have hk':k=xs.length:=by simp at hc;omega
    subst hk'
    rw [List.drop_length,hlen,List.drop_length] at hq
    rw [← hq]
    simp only [go_sem,eqL]
    simp (disch:=first | assumption | omega | (simp;done) | (simp;omega) | (simp only [bt,and_true];first | done | omega | (simp;done))) [↓zmi,beq,ybc,ybd,ybe,endOk,wk,wk2,wk1,wkM,wkL,wkLL,ybf,hcl]
def p_zsBoo:List AV→AHeap→(AV→Prop)→Prop
  | [.slice _ 1 l,.slice _ 1 k],_,K=>∃ xs ys:List (Bool),(l=xs.map bAV∧k=ys.map bAV∧xs.length≤140737488355328∧ys.length≤140737488355328∧True)∧K (.bool (eqL eqB xs ys))
  | _,_,_=>False
set_option maxHeartbeats 2000000 in
theorem ok_zsBoo:EntOk Tryz.prog 253 (Ent.pure p_zsBoo):=by
  refine EntOk.pure fun args H K h=>?_
  unfold p_zsBoo at h
  split at h
  rotate_left
  · exact h.elim
  rename_i m1 l m2 k
  obtain ⟨xs,ys,⟨rfl,rfl,hl1,hl2,ho⟩,hK⟩:=h
  clear ho
  refine ⟨_,hK,?_⟩
  clear hK
  obtain ⟨R,hR⟩:∃ R,eqL eqB xs ys=R:=⟨_,rfl⟩
  rw [hR]
  by_cases hlen:xs.length=ys.length
  case neg =>
    rw [eqL_len hlen] at hR
    subst hR
    have d0:((xs.length:Int) != (ys.length:Int))=true:=by rw [bne_iff_ne];omega
    refine ACalls.of_aw (Ω:=[]) (T:=assoc []) mixed TblOk.nil Tryz.func253 (by kernel_rfl) (by rfl) (rs:=[.tmp 4]) (by rfl) (by kernel_rfl) (by simp only [Tryz.ntmps253,yaz,yba];decide) (Nat.le_refl _) fun hcl hlt=>?_
    change aw _ _ _ (KI Tryz.prog [] (aEnd Tryz.prog [.tmp 4] H.nx _ _ (assoc [])) []) _ _
    clear hlt
    simp only [go_sem,ybb,d0]
    simp (disch:=first | assumption | omega | (simp;done) | (simp;omega) | (simp only [bt,and_true];first | done | omega | (simp;done))) [↓zmi,beq,ybc,ybd,ybe,endOk,wk,wk2,wk1,wkM,wkL,wkLL,ybf,hcl]
  have d0:((xs.length:Int) != (ys.length:Int))=false:=by rw [hlen];simp
  refine ACalls.of_aw (Ω:=[]) (T:=assoc []) mixed TblOk.nil Tryz.func253 (by kernel_rfl) (by rfl) (rs:=[.tmp 4]) (by rfl) (by kernel_rfl) (by simp only [Tryz.ntmps253,yaz,yba];decide) (Nat.le_refl _) fun hcl hlt=>?_
  change aw _ _ _ (KI Tryz.prog [] (aEnd Tryz.prog [.tmp 4] H.nx _ _ (assoc [])) []) _ _
  have hs1:=hlt (.slice m1 1 (xs.map bAV)) (by simp)
  have hs2:=hlt (.slice m2 1 (ys.map bAV)) (by simp)
  clear hlt
  simp only [go_sem,ybb,d0]
  refine loop_introW (A:=Nat) (fun k=>[(0,.slice m1 1 (xs.map bAV)),(1,.slice m2 1 (ys.map bAV)),(12,.int .i64 (xs.length:Int)),(13,.int .i64 (k:Int))]) (fun _=>H) (fun k=>k≤xs.length∧eqL eqB (xs.drop k) (ys.drop k)=R) (fun k=>xs.length - k) 0 ⟨by omega,hR⟩ ?_ fun k hk=>?_
  · refine ⟨by simp only [zkk,zkp];omega,AHeap.Le.refl _,hcl,?_,?_⟩
    · simp only [ltF,zmz,and_true,true_and]
      exact ⟨hs1,hs2⟩
    · simp [subW,wk2,wk1,wkM,Fr.get]
  obtain ⟨hk,hq⟩:=hk
  simp only [go_sem]
  refine cond_split (fun hc=>?_) (fun hc=>?_)
  · have hk':k<xs.length:=by simp at hc;omega
    have hk2:k<ys.length:=by omega
    obtain ⟨x,hx⟩:∃ x,x=xs[k]:=⟨_,rfl⟩
    obtain ⟨y,hy⟩:∃ y,y=ys[k]:=⟨_,rfl⟩
    have hd:xs.drop k=x::xs.drop (k+1):=by rw [hx];exact List.drop_eq_getElem_cons hk'
    have hd2:ys.drop k=y::ys.drop (k+1):=by rw [hy];exact List.drop_eq_getElem_cons hk2
    have hg:=getD_map (f:=bAV) (l:=xs) (k:=k) (x:=x) (by rw [List.getElem?_eq_getElem hk',hx])
    have hg2:=getD_map (f:=bAV) (l:=ys) (k:=k) (x:=y) (by rw [List.getElem?_eq_getElem hk2,hy])
    have e5:IntKind.i64.wrap ((k:Int)+1)=((k+1:Nat):Int):=by rw [wrap_i64]<;>omega
    rw [hd,hd2] at hq
    unfold eqL at hq
    simp only [go_sem,Int.toNat_natCast,ybb,hg,hg2,bAV,bAV]
    (repeat with_reducible refine And.intro (by first | assumption | decide | omega) ?_)
    refine cond_split (fun hb=>?_) (fun hb=>?_)
    · have hb':eqB x y=false:=by first | (simpa using hb;done) | (simpa [eqB] using hb)
      rw [hb',Bool.false_and] at hq
      rw [← hq]
      try simp only [go_sem]
      simp (disch:=first | assumption | omega | (simp;done) | (simp;omega) | (simp only [bt,and_true];first | done | omega | (simp;done))) [↓zmi,beq,ybc,ybd,ybe,endOk,wk,wk2,wk1,wkM,wkL,wkLL,ybf,hcl]
      first | done | repeat (first | exact AHeap.Le.refl _ | refine AHeap.Le.push ?_ _)
    · have hb':eqB x y=true:=by first | (simpa using hb;done) | (simpa [eqB] using hb)
      rw [hb',Bool.true_and] at hq
      simp only [go_sem,e5]
      refine ⟨k+1,⟨by omega,hq⟩,by omega,by (try simp only [zky]);omega,by repeat (first | exact AHeap.Le.refl _ | refine AHeap.Le.push ?_ _),hcl,?_,?_⟩
      · simp only [ltF,zmz,and_true,true_and]
        exact ⟨hs1,hs2⟩
      · simp [subW,wk2,wk1,wkM,Fr.get]
  · have hk':k=xs.length:=by simp at hc;omega
    subst hk'
    rw [List.drop_length,hlen,List.drop_length] at hq
    rw [← hq]
    simp only [go_sem,eqL]
    simp (disch:=first | assumption | omega | (simp;done) | (simp;omega) | (simp only [bt,and_true];first | done | omega | (simp;done))) [↓zmi,beq,ybc,ybd,ybe,endOk,wk,wk2,wk1,wkM,wkL,wkLL,ybf,hcl]
def p_ysBoo:List AV→AHeap→(AV→Prop)→Prop
  | [.slice _ 1 l,.slice _ 1 k],_,K=>∃ xs ys:List (Bool),(l=xs.map bAV∧k=ys.map bAV∧xs.length≤140737488355328∧ys.length≤140737488355328∧True)∧K (.bool (eqL eqB xs ys))
  | _,_,_=>False
set_option maxHeartbeats 2000000 in
theorem ok_ysBoo:EntOk Tryz.prog 128 (Ent.pure p_ysBoo):=by
  refine EntOk.pure fun args H K h=>?_
  unfold p_ysBoo at h
  split at h
  rotate_left
  · exact h.elim
  rename_i m1 l m2 k
  obtain ⟨xs,ys,⟨rfl,rfl,hl1,hl2,ho⟩,hK⟩:=h
  clear ho
  refine ⟨_,hK,?_⟩
  clear hK
  obtain ⟨R,hR⟩:∃ R,eqL eqB xs ys=R:=⟨_,rfl⟩
  rw [hR]
  by_cases hlen:xs.length=ys.length
  case neg =>
    rw [eqL_len hlen] at hR
    subst hR
    have d0:((xs.length:Int) != (ys.length:Int))=true:=by rw [bne_iff_ne];omega
    refine ACalls.of_aw (Ω:=[]) (T:=assoc []) mixed TblOk.nil Tryz.func128 (by kernel_rfl) (by rfl) (rs:=[.tmp 4]) (by rfl) (by kernel_rfl) (by simp only [Tryz.ntmps128,yaz,yba];decide) (Nat.le_refl _) fun hcl hlt=>?_
    change aw _ _ _ (KI Tryz.prog [] (aEnd Tryz.prog [.tmp 4] H.nx _ _ (assoc [])) []) _ _
    clear hlt
    simp only [go_sem,ybb,d0]
    simp (disch:=first | assumption | omega | (simp;done) | (simp;omega) | (simp only [bt,and_true];first | done | omega | (simp;done))) [↓zmi,beq,ybc,ybd,ybe,endOk,wk,wk2,wk1,wkM,wkL,wkLL,ybf,hcl]
  have d0:((xs.length:Int) != (ys.length:Int))=false:=by rw [hlen];simp
  refine ACalls.of_aw (Ω:=[]) (T:=assoc []) mixed TblOk.nil Tryz.func128 (by kernel_rfl) (by rfl) (rs:=[.tmp 4]) (by rfl) (by kernel_rfl) (by simp only [Tryz.ntmps128,yaz,yba];decide) (Nat.le_refl _) fun hcl hlt=>?_
  change aw _ _ _ (KI Tryz.prog [] (aEnd Tryz.prog [.tmp 4] H.nx _ _ (assoc [])) []) _ _
  have hs1:=hlt (.slice m1 1 (xs.map bAV)) (by simp)
  have hs2:=hlt (.slice m2 1 (ys.map bAV)) (by simp)
  clear hlt
  simp only [go_sem,ybb,d0]
  refine loop_introW (A:=Nat) (fun k=>[(0,.slice m1 1 (xs.map bAV)),(1,.slice m2 1 (ys.map bAV)),(12,.int .i64 (xs.length:Int)),(13,.int .i64 (k:Int))]) (fun _=>H) (fun k=>k≤xs.length∧eqL eqB (xs.drop k) (ys.drop k)=R) (fun k=>xs.length - k) 0 ⟨by omega,hR⟩ ?_ fun k hk=>?_
  · refine ⟨by simp only [zkk,zkp];omega,AHeap.Le.refl _,hcl,?_,?_⟩
    · simp only [ltF,zmz,and_true,true_and]
      exact ⟨hs1,hs2⟩
    · simp [subW,wk2,wk1,wkM,Fr.get]
  obtain ⟨hk,hq⟩:=hk
  simp only [go_sem]
  refine cond_split (fun hc=>?_) (fun hc=>?_)
  · have hk':k<xs.length:=by simp at hc;omega
    have hk2:k<ys.length:=by omega
    obtain ⟨x,hx⟩:∃ x,x=xs[k]:=⟨_,rfl⟩
    obtain ⟨y,hy⟩:∃ y,y=ys[k]:=⟨_,rfl⟩
    have hd:xs.drop k=x::xs.drop (k+1):=by rw [hx];exact List.drop_eq_getElem_cons hk'
    have hd2:ys.drop k=y::ys.drop (k+1):=by rw [hy];exact List.drop_eq_getElem_cons hk2
    have hg:=getD_map (f:=bAV) (l:=xs) (k:=k) (x:=x) (by rw [List.getElem?_eq_getElem hk',hx])
    have hg2:=getD_map (f:=bAV) (l:=ys) (k:=k) (x:=y) (by rw [List.getElem?_eq_getElem hk2,hy])
    have e5:IntKind.i64.wrap ((k:Int)+1)=((k+1:Nat):Int):=by rw [wrap_i64]<;>omega
    rw [hd,hd2] at hq
    unfold eqL at hq
    simp only [go_sem,Int.toNat_natCast,ybb,hg,hg2,bAV,bAV]
    (repeat with_reducible refine And.intro (by first | assumption | decide | omega) ?_)
    refine cond_split (fun hb=>?_) (fun hb=>?_)
    · have hb':eqB x y=false:=by first | (simpa using hb;done) | (simpa [eqB] using hb)
      rw [hb',Bool.false_and] at hq
      rw [← hq]
      try simp only [go_sem]
      simp (disch:=first | assumption | omega | (simp;done) | (simp;omega) | (simp only [bt,and_true];first | done | omega | (simp;done))) [↓zmi,beq,ybc,ybd,ybe,endOk,wk,wk2,wk1,wkM,wkL,wkLL,ybf,hcl]
      first | done | repeat (first | exact AHeap.Le.refl _ | refine AHeap.Le.push ?_ _)
    · have hb':eqB x y=true:=by first | (simpa using hb;done) | (simpa [eqB] using hb)
      rw [hb',Bool.true_and] at hq
      simp only [go_sem,e5]
      refine ⟨k+1,⟨by omega,hq⟩,by omega,by (try simp only [zky]);omega,by repeat (first | exact AHeap.Le.refl _ | refine AHeap.Le.push ?_ _),hcl,?_,?_⟩
      · simp only [ltF,zmz,and_true,true_and]
        exact ⟨hs1,hs2⟩
      · simp [subW,wk2,wk1,wkM,Fr.get]
  · have hk':k=xs.length:=by simp at hc;omega
    subst hk'
    rw [List.drop_length,hlen,List.drop_length] at hq
    rw [← hq]
    simp only [go_sem,eqL]
    simp (disch:=first | assumption | omega | (simp;done) | (simp;omega) | (simp only [bt,and_true];first | done | omega | (simp;done))) [↓zmi,beq,ybc,ybd,ybe,endOk,wk,wk2,wk1,wkM,wkL,wkLL,ybf,hcl]
def p_zsVal:List AV→AHeap→(AV→Prop)→Prop
  | [.slice _ 2 l,.slice _ 2 k],_,K=>∃ xs ys:List (Nat),(l=xs.map vv∧k=ys.map vv∧xs.length≤140737488355328∧ys.length≤140737488355328∧True)∧K (.bool (eqL eqV xs ys))
  | _,_,_=>False
set_option maxHeartbeats 2000000 in
theorem ok_zsVal:EntOk Tryz.prog 251 (Ent.pure p_zsVal):=by
  refine EntOk.pure fun args H K h=>?_
  unfold p_zsVal at h
  split at h
  rotate_left
  · exact h.elim
  rename_i m1 l m2 k
  obtain ⟨xs,ys,⟨rfl,rfl,hl1,hl2,ho⟩,hK⟩:=h
  clear ho
  refine ⟨_,hK,?_⟩
  clear hK
  obtain ⟨R,hR⟩:∃ R,eqL eqV xs ys=R:=⟨_,rfl⟩
  rw [hR]
  by_cases hlen:xs.length=ys.length
  case neg =>
    rw [eqL_len hlen] at hR
    subst hR
    have d0:((xs.length:Int) != (ys.length:Int))=true:=by rw [bne_iff_ne];omega
    refine ACalls.of_aw (Ω:=[]) (T:=assoc []) mixed TblOk.nil Tryz.func251 (by kernel_rfl) (by rfl) (rs:=[.tmp 4]) (by rfl) (by kernel_rfl) (by simp only [Tryz.ntmps251,yaz,yba];decide) (Nat.le_refl _) fun hcl hlt=>?_
    change aw _ _ _ (KI Tryz.prog [] (aEnd Tryz.prog [.tmp 4] H.nx _ _ (assoc [])) []) _ _
    clear hlt
    simp only [go_sem,ybb,d0]
    simp (disch:=first | assumption | omega | (simp;done) | (simp;omega) | (simp only [bt,and_true];first | done | omega | (simp;done))) [↓zmi,beq,ybc,ybd,ybe,endOk,wk,wk2,wk1,wkM,wkL,wkLL,ybf,hcl]
  have d0:((xs.length:Int) != (ys.length:Int))=false:=by rw [hlen];simp
  refine ACalls.of_aw (Ω:=[]) (T:=assoc []) mixed TblOk.nil Tryz.func251 (by kernel_rfl) (by rfl) (rs:=[.tmp 4]) (by rfl) (by kernel_rfl) (by simp only [Tryz.ntmps251,yaz,yba];decide) (Nat.le_refl _) fun hcl hlt=>?_
  change aw _ _ _ (KI Tryz.prog [] (aEnd Tryz.prog [.tmp 4] H.nx _ _ (assoc [])) []) _ _
  have hs1:=hlt (.slice m1 2 (xs.map vv)) (by simp)
  have hs2:=hlt (.slice m2 2 (ys.map vv)) (by simp)
  clear hlt
  simp only [go_sem,ybb,d0]
  refine loop_introW (A:=Nat) (fun k=>[(0,.slice m1 2 (xs.map vv)),(1,.slice m2 2 (ys.map vv)),(12,.int .i64 (xs.length:Int)),(13,.int .i64 (k:Int))]) (fun _=>H) (fun k=>k≤xs.length∧eqL eqV (xs.drop k) (ys.drop k)=R) (fun k=>xs.length - k) 0 ⟨by omega,hR⟩ ?_ fun k hk=>?_
  · refine ⟨by simp only [zkk,zkp];omega,AHeap.Le.refl _,hcl,?_,?_⟩
    · simp only [ltF,zmz,and_true,true_and]
      exact ⟨hs1,hs2⟩
    · simp [subW,wk2,wk1,wkM,Fr.get]
  obtain ⟨hk,hq⟩:=hk
  simp only [go_sem]
  refine cond_split (fun hc=>?_) (fun hc=>?_)
  · have hk':k<xs.length:=by simp at hc;omega
    have hk2:k<ys.length:=by omega
    obtain ⟨x,hx⟩:∃ x,x=xs[k]:=⟨_,rfl⟩
    obtain ⟨y,hy⟩:∃ y,y=ys[k]:=⟨_,rfl⟩
    have hd:xs.drop k=x::xs.drop (k+1):=by rw [hx];exact List.drop_eq_getElem_cons hk'
    have hd2:ys.drop k=y::ys.drop (k+1):=by rw [hy];exact List.drop_eq_getElem_cons hk2
    have hg:=getD_map (f:=vv) (l:=xs) (k:=k) (x:=x) (by rw [List.getElem?_eq_getElem hk',hx])
    have hg2:=getD_map (f:=vv) (l:=ys) (k:=k) (x:=y) (by rw [List.getElem?_eq_getElem hk2,hy])
    have e5:IntKind.i64.wrap ((k:Int)+1)=((k+1:Nat):Int):=by rw [wrap_i64]<;>omega
    rw [hd,hd2] at hq
    unfold eqL at hq
    simp only [go_sem,Int.toNat_natCast,ybb,hg,hg2,vv,vv,teq_Val,eqg_Val,Bool.bne_false,Bool.bne_true]
    (repeat with_reducible refine And.intro (by first | assumption | decide | omega) ?_)
    refine cond_split (fun hb=>?_) (fun hb=>?_)
    · have hb':eqV x y=false:=by first | (simpa using hb;done) | (simpa [eqV] using hb)
      rw [hb',Bool.false_and] at hq
      rw [← hq]
      try simp only [go_sem]
      simp (disch:=first | assumption | omega | (simp;done) | (simp;omega) | (simp only [bt,and_true];first | done | omega | (simp;done))) [↓zmi,beq,ybc,ybd,ybe,endOk,wk,wk2,wk1,wkM,wkL,wkLL,ybf,hcl]
      first | done | repeat (first | exact AHeap.Le.refl _ | refine AHeap.Le.push ?_ _)
    · have hb':eqV x y=true:=by first | (simpa using hb;done) | (simpa [eqV] using hb)
      rw [hb',Bool.true_and] at hq
      simp only [go_sem,e5]
      refine ⟨k+1,⟨by omega,hq⟩,by omega,by (try simp only [zky]);omega,by repeat (first | exact AHeap.Le.refl _ | refine AHeap.Le.push ?_ _),hcl,?_,?_⟩
      · simp only [ltF,zmz,and_true,true_and]
        exact ⟨hs1,hs2⟩
      · simp [subW,wk2,wk1,wkM,Fr.get]
  · have hk':k=xs.length:=by simp at hc;omega
    subst hk'
    rw [List.drop_length,hlen,List.drop_length] at hq
    rw [← hq]
    simp only [go_sem,eqL]
    simp (disch:=first | assumption | omega | (simp;done) | (simp;omega) | (simp only [bt,and_true];first | done | omega | (simp;done))) [↓zmi,beq,ybc,ybd,ybe,endOk,wk,wk2,wk1,wkM,wkL,wkLL,ybf,hcl]
def p_ysVal:List AV→AHeap→(AV→Prop)→Prop
  | [.slice _ 2 l,.slice _ 2 k],_,K=>∃ xs ys:List (Nat),(l=xs.map vv∧k=ys.map vv∧xs.length≤140737488355328∧ys.length≤140737488355328∧True)∧K (.bool (eqL eqV xs ys))
  | _,_,_=>False
set_option maxHeartbeats 2000000 in
theorem ok_ysVal:EntOk Tryz.prog 246 (Ent.pure p_ysVal):=by
  refine EntOk.pure fun args H K h=>?_
  unfold p_ysVal at h
  split at h
  rotate_left
  · exact h.elim
  rename_i m1 l m2 k
  obtain ⟨xs,ys,⟨rfl,rfl,hl1,hl2,ho⟩,hK⟩:=h
  clear ho
  refine ⟨_,hK,?_⟩
  clear hK
  obtain ⟨R,hR⟩:∃ R,eqL eqV xs ys=R:=⟨_,rfl⟩
  rw [hR]
  by_cases hlen:xs.length=ys.length
  case neg =>
    rw [eqL_len hlen] at hR
    subst hR
    have d0:((xs.length:Int) != (ys.length:Int))=true:=by rw [bne_iff_ne];omega
    refine ACalls.of_aw (Ω:=[]) (T:=assoc []) mixed TblOk.nil Tryz.func246 (by kernel_rfl) (by rfl) (rs:=[.tmp 4]) (by rfl) (by kernel_rfl) (by simp only [Tryz.ntmps246,yaz,yba];decide) (Nat.le_refl _) fun hcl hlt=>?_
    change aw _ _ _ (KI Tryz.prog [] (aEnd Tryz.prog [.tmp 4] H.nx _ _ (assoc [])) []) _ _
    clear hlt
    simp only [go_sem,ybb,d0]
    simp (disch:=first | assumption | omega | (simp;done) | (simp;omega) | (simp only [bt,and_true];first | done | omega | (simp;done))) [↓zmi,beq,ybc,ybd,ybe,endOk,wk,wk2,wk1,wkM,wkL,wkLL,ybf,hcl]
  have d0:((xs.length:Int) != (ys.length:Int))=false:=by rw [hlen];simp
  refine ACalls.of_aw (Ω:=[]) (T:=assoc []) mixed TblOk.nil Tryz.func246 (by kernel_rfl) (by rfl) (rs:=[.tmp 4]) (by rfl) (by kernel_rfl) (by simp only [Tryz.ntmps246,yaz,yba];decide) (Nat.le_refl _) fun hcl hlt=>?_
  change aw _ _ _ (KI Tryz.prog [] (aEnd Tryz.prog [.tmp 4] H.nx _ _ (assoc [])) []) _ _
  have hs1:=hlt (.slice m1 2 (xs.map vv)) (by simp)
  have hs2:=hlt (.slice m2 2 (ys.map vv)) (by simp)
  clear hlt
  simp only [go_sem,ybb,d0]
  refine loop_introW (A:=Nat) (fun k=>[(0,.slice m1 2 (xs.map vv)),(1,.slice m2 2 (ys.map vv)),(12,.int .i64 (xs.length:Int)),(13,.int .i64 (k:Int))]) (fun _=>H) (fun k=>k≤xs.length∧eqL eqV (xs.drop k) (ys.drop k)=R) (fun k=>xs.length - k) 0 ⟨by omega,hR⟩ ?_ fun k hk=>?_
  · refine ⟨by simp only [zkk,zkp];omega,AHeap.Le.refl _,hcl,?_,?_⟩
    · simp only [ltF,zmz,and_true,true_and]
      exact ⟨hs1,hs2⟩
    · simp [subW,wk2,wk1,wkM,Fr.get]
  obtain ⟨hk,hq⟩:=hk
  simp only [go_sem]
  refine cond_split (fun hc=>?_) (fun hc=>?_)
  · have hk':k<xs.length:=by simp at hc;omega
    have hk2:k<ys.length:=by omega
    obtain ⟨x,hx⟩:∃ x,x=xs[k]:=⟨_,rfl⟩
    obtain ⟨y,hy⟩:∃ y,y=ys[k]:=⟨_,rfl⟩
    have hd:xs.drop k=x::xs.drop (k+1):=by rw [hx];exact List.drop_eq_getElem_cons hk'
    have hd2:ys.drop k=y::ys.drop (k+1):=by rw [hy];exact List.drop_eq_getElem_cons hk2
    have hg:=getD_map (f:=vv) (l:=xs) (k:=k) (x:=x) (by rw [List.getElem?_eq_getElem hk',hx])
    have hg2:=getD_map (f:=vv) (l:=ys) (k:=k) (x:=y) (by rw [List.getElem?_eq_getElem hk2,hy])
    have e5:IntKind.i64.wrap ((k:Int)+1)=((k+1:Nat):Int):=by rw [wrap_i64]<;>omega
    rw [hd,hd2] at hq
    unfold eqL at hq
    simp only [go_sem,Int.toNat_natCast,ybb,hg,hg2,vv,vv,teq_Val,eqg_Val,Bool.bne_false,Bool.bne_true]
    (repeat with_reducible refine And.intro (by first | assumption | decide | omega) ?_)
    refine cond_split (fun hb=>?_) (fun hb=>?_)
    · have hb':eqV x y=false:=by first | (simpa using hb;done) | (simpa [eqV] using hb)
      rw [hb',Bool.false_and] at hq
      rw [← hq]
      try simp only [go_sem]
      simp (disch:=first | assumption | omega | (simp;done) | (simp;omega) | (simp only [bt,and_true];first | done | omega | (simp;done))) [↓zmi,beq,ybc,ybd,ybe,endOk,wk,wk2,wk1,wkM,wkL,wkLL,ybf,hcl]
      first | done | repeat (first | exact AHeap.Le.refl _ | refine AHeap.Le.push ?_ _)
    · have hb':eqV x y=true:=by first | (simpa using hb;done) | (simpa [eqV] using hb)
      rw [hb',Bool.true_and] at hq
      simp only [go_sem,e5]
      refine ⟨k+1,⟨by omega,hq⟩,by omega,by (try simp only [zky]);omega,by repeat (first | exact AHeap.Le.refl _ | refine AHeap.Le.push ?_ _),hcl,?_,?_⟩
      · simp only [ltF,zmz,and_true,true_and]
        exact ⟨hs1,hs2⟩
      · simp [subW,wk2,wk1,wkM,Fr.get]
  · have hk':k=xs.length:=by simp at hc;omega
    subst hk'
    rw [List.drop_length,hlen,List.drop_length] at hq
    rw [← hq]
    simp only [go_sem,eqL]
    simp (disch:=first | assumption | omega | (simp;done) | (simp;omega) | (simp only [bt,and_true];first | done | omega | (simp;done))) [↓zmi,beq,ybc,ybd,ybe,endOk,wk,wk2,wk1,wkM,wkL,wkLL,ybf,hcl]
end Go.AL


open Go Go.AL Go.Proofs
namespace Go.AL
set_option linter.all false
set_option maxRecDepth 10000

def CHdr (a:SHeader):Prop:=a.fields.length≤140737488355328
def CSta (a:SState):Prop:=a.cases.length≤140737488355328
def CAct (a:SAction):Prop:=a.params.length≤140737488355328∧a.body.length≤140737488355328
def CTab (a:STable):Prop:=a.keys.length≤140737488355328∧a.actions.length≤140737488355328∧a.dargs.length≤140737488355328
def CGra (a:SGrant):Prop:=a.keys.length≤140737488355328
def CRol (a:SRole):Prop:=a.grants.length≤140737488355328∧a.actions.length≤140737488355328∧∀ g∈a.grants,CGra g
def eqHdr (a b:SHeader):Bool:=(a.id==b.id)&&(a.name==b.name)&&(eqL eqI a.fields b.fields)
theorem eqHdr_refl (a:SHeader):eqHdr a a=true:=by simp [eqHdr,eqL_refl eqI_refl,eqL_refl eqB_refl,eqL_refl eqV_refl,eqL_refl eqCas_refl,eqL_refl eqPar_refl,eqL_refl eqPri_refl,eqL_refl eqKey_refl]
def p_zHdr:List AV→AHeap→(AV→Prop)→Prop
  | [.agg l,.agg k],_,K=>∃ x y:SHeader,(.agg l=headerAV x∧.agg k=headerAV y∧CHdr x∧CHdr y)∧K (.bool (eqHdr x y))
  | _,_,_=>False
set_option maxHeartbeats 4000000 in
theorem ok_zHdr:EntOk Tryz.prog 129 (Ent.pure p_zHdr):=by
  refine EntOk.pure fun args H K h=>?_
  unfold p_zHdr at h
  split at h
  rotate_left
  · exact h.elim
  rename_i l k
  obtain ⟨x,y,⟨e1,e2,hx,hy⟩,hK⟩:=h
  have e1':=AV.agg.inj e1
  have e2':=AV.agg.inj e2
  subst e1'
  subst e2'
  clear e1 e2
  refine ⟨_,hK,?_⟩
  clear hK
  obtain ⟨R,hR⟩:∃ R,eqHdr x y=R:=⟨_,rfl⟩
  rw [hR]
  unfold eqHdr at hR
  cases h0:(x.id==y.id)
  · simp only [h0,Bool.false_and,Bool.and_false,Bool.true_and] at hR
    subst hR
    refine ACalls.of_aw (Ω:=[(130,Ent.pure p_zsInt)]) (T:=assoc []) mixed (TblOk.cons ok_zsInt TblOk.nil) Tryz.func129 (by kernel_rfl) (by rfl) (rs:=[.tmp 4]) (by rfl) (by kernel_rfl) (by simp only [Tryz.ntmps129,yaz,yba];decide) (Nat.le_refl _) fun hcl hlt=>?_
    change aw _ _ _ (KI Tryz.prog [(130,Ent.pure p_zsInt)] (aEnd Tryz.prog [.tmp 4] H.nx _ _ (assoc [])) []) _ _
    clear hlt
    simp only [go_sem,byq,p_zsInt,h0,true_and,Bool.bne_false,Bool.bne_true]
    simp (disch:=first | assumption | omega | (simp;done) | (simp;omega) | (simp only [bt,and_true];first | done | omega | (simp;done))) [↓zmi,beq,ybc,ybd,ybe,endOk,wk,wk2,wk1,wkM,wkL,wkLL,ybf,hcl]
    first | done | repeat (first | exact AHeap.Le.refl _ | refine AHeap.Le.push ?_ _)
  cases h1:(x.name==y.name)
  · simp only [h0,h1,Bool.false_and,Bool.and_false,Bool.true_and] at hR
    subst hR
    refine ACalls.of_aw (Ω:=[(130,Ent.pure p_zsInt)]) (T:=assoc []) mixed (TblOk.cons ok_zsInt TblOk.nil) Tryz.func129 (by kernel_rfl) (by rfl) (rs:=[.tmp 4]) (by rfl) (by kernel_rfl) (by simp only [Tryz.ntmps129,yaz,yba];decide) (Nat.le_refl _) fun hcl hlt=>?_
    change aw _ _ _ (KI Tryz.prog [(130,Ent.pure p_zsInt)] (aEnd Tryz.prog [.tmp 4] H.nx _ _ (assoc [])) []) _ _
    clear hlt
    simp only [go_sem,byq,p_zsInt,h0,h1,true_and,Bool.bne_false,Bool.bne_true]
    simp (disch:=first | assumption | omega | (simp;done) | (simp;omega) | (simp only [bt,and_true];first | done | omega | (simp;done))) [↓zmi,beq,ybc,ybd,ybe,endOk,wk,wk2,wk1,wkM,wkL,wkLL,ybf,hcl]
    first | done | repeat (first | exact AHeap.Le.refl _ | refine AHeap.Le.push ?_ _)
  cases h2:(eqL eqI x.fields y.fields)
  · simp only [h0,h1,h2,Bool.false_and,Bool.and_false,Bool.true_and] at hR
    subst hR
    refine ACalls.of_aw (Ω:=[(130,Ent.pure p_zsInt)]) (T:=assoc []) mixed (TblOk.cons ok_zsInt TblOk.nil) Tryz.func129 (by kernel_rfl) (by rfl) (rs:=[.tmp 4]) (by rfl) (by kernel_rfl) (by simp only [Tryz.ntmps129,yaz,yba];decide) (Nat.le_refl _) fun hcl hlt=>?_
    change aw _ _ _ (KI Tryz.prog [(130,Ent.pure p_zsInt)] (aEnd Tryz.prog [.tmp 4] H.nx _ _ (assoc [])) []) _ _
    clear hlt
    simp only [go_sem,byq,p_zsInt,h0,h1,h2,true_and,Bool.bne_false,Bool.bne_true]
    refine ⟨x.fields,y.fields,⟨rfl,rfl,hx,hy⟩,?_⟩
    try simp only [go_sem,byq,p_zsInt,h0,h1,h2,true_and,Bool.bne_false,Bool.bne_true]
    simp (disch:=first | assumption | omega | (simp;done) | (simp;omega) | (simp only [bt,and_true];first | done | omega | (simp;done))) [↓zmi,beq,ybc,ybd,ybe,endOk,wk,wk2,wk1,wkM,wkL,wkLL,ybf,hcl]
    first | done | repeat (first | exact AHeap.Le.refl _ | refine AHeap.Le.push ?_ _)
  simp only [h0,h1,h2,Bool.true_and] at hR
  subst hR
  refine ACalls.of_aw (Ω:=[(130,Ent.pure p_zsInt)]) (T:=assoc []) mixed (TblOk.cons ok_zsInt TblOk.nil) Tryz.func129 (by kernel_rfl) (by rfl) (rs:=[.tmp 4]) (by rfl) (by kernel_rfl) (by simp only [Tryz.ntmps129,yaz,yba];decide) (Nat.le_refl _) fun hcl hlt=>?_
  change aw _ _ _ (KI Tryz.prog [(130,Ent.pure p_zsInt)] (aEnd Tryz.prog [.tmp 4] H.nx _ _ (assoc [])) []) _ _
  clear hlt
  simp only [go_sem,byq,p_zsInt,h0,h1,h2,true_and,Bool.bne_false,Bool.bne_true]
  refine ⟨x.fields,y.fields,⟨rfl,rfl,hx,hy⟩,?_⟩
  try simp only [go_sem,byq,p_zsInt,h0,h1,h2,true_and,Bool.bne_false,Bool.bne_true]
  simp (disch:=first | assumption | omega | (simp;done) | (simp;omega) | (simp only [bt,and_true];first | done | omega | (simp;done))) [↓zmi,beq,ybc,ybd,ybe,endOk,wk,wk2,wk1,wkM,wkL,wkLL,ybf,hcl]
  first | done | repeat (first | exact AHeap.Le.refl _ | refine AHeap.Le.push ?_ _)
def eqSta (a b:SState):Bool:=(a.id==b.id)&&(a.header==b.header)&&(a.select==b.select)&&(eqL eqCas a.cases b.cases)&&(a.dflt==b.dflt)
theorem eqSta_refl (a:SState):eqSta a a=true:=by simp [eqSta,eqL_refl eqI_refl,eqL_refl eqB_refl,eqL_refl eqV_refl,eqL_refl eqCas_refl,eqL_refl eqPar_refl,eqL_refl eqPri_refl,eqL_refl eqKey_refl]
def p_zSta:List AV→AHeap→(AV→Prop)→Prop
  | [.agg l,.agg k],_,K=>∃ x y:SState,(.agg l=stateAV x∧.agg k=stateAV y∧CSta x∧CSta y)∧K (.bool (eqSta x y))
  | _,_,_=>False
set_option maxHeartbeats 4000000 in
theorem ok_zSta:EntOk Tryz.prog 134 (Ent.pure p_zSta):=by
  refine EntOk.pure fun args H K h=>?_
  unfold p_zSta at h
  split at h
  rotate_left
  · exact h.elim
  rename_i l k
  obtain ⟨x,y,⟨e1,e2,hx,hy⟩,hK⟩:=h
  have e1':=AV.agg.inj e1
  have e2':=AV.agg.inj e2
  subst e1'
  subst e2'
  clear e1 e2
  refine ⟨_,hK,?_⟩
  clear hK
  obtain ⟨R,hR⟩:∃ R,eqSta x y=R:=⟨_,rfl⟩
  rw [hR]
  unfold eqSta at hR
  cases h0:(x.id==y.id)
  · simp only [h0,Bool.false_and,Bool.and_false,Bool.true_and] at hR
    subst hR
    refine ACalls.of_aw (Ω:=[(247,Ent.pure p_zsCas)]) (T:=assoc []) mixed (TblOk.cons ok_zsCas TblOk.nil) Tryz.func134 (by kernel_rfl) (by rfl) (rs:=[.tmp 4]) (by rfl) (by kernel_rfl) (by simp only [Tryz.ntmps134,yaz,yba];decide) (Nat.le_refl _) fun hcl hlt=>?_
    change aw _ _ _ (KI Tryz.prog [(247,Ent.pure p_zsCas)] (aEnd Tryz.prog [.tmp 4] H.nx _ _ (assoc [])) []) _ _
    clear hlt
    simp only [go_sem,byq,p_zsCas,h0,true_and,Bool.bne_false,Bool.bne_true]
    simp (disch:=first | assumption | omega | (simp;done) | (simp;omega) | (simp only [bt,and_true];first | done | omega | (simp;done))) [↓zmi,beq,ybc,ybd,ybe,endOk,wk,wk2,wk1,wkM,wkL,wkLL,ybf,hcl]
    first | done | repeat (first | exact AHeap.Le.refl _ | refine AHeap.Le.push ?_ _)
  cases h1:(x.header==y.header)
  · simp only [h0,h1,Bool.false_and,Bool.and_false,Bool.true_and] at hR
    subst hR
    refine ACalls.of_aw (Ω:=[(247,Ent.pure p_zsCas)]) (T:=assoc []) mixed (TblOk.cons ok_zsCas TblOk.nil) Tryz.func134 (by kernel_rfl) (by rfl) (rs:=[.tmp 4]) (by rfl) (by kernel_rfl) (by simp only [Tryz.ntmps134,yaz,yba];decide) (Nat.le_refl _) fun hcl hlt=>?_
    change aw _ _ _ (KI Tryz.prog [(247,Ent.pure p_zsCas)] (aEnd Tryz.prog [.tmp 4] H.nx _ _ (assoc [])) []) _ _
    clear hlt
    simp only [go_sem,byq,p_zsCas,h0,h1,true_and,Bool.bne_false,Bool.bne_true]
    simp (disch:=first | assumption | omega | (simp;done) | (simp;omega) | (simp only [bt,and_true];first | done | omega | (simp;done))) [↓zmi,beq,ybc,ybd,ybe,endOk,wk,wk2,wk1,wkM,wkL,wkLL,ybf,hcl]
    first | done | repeat (first | exact AHeap.Le.refl _ | refine AHeap.Le.push ?_ _)
  cases h2:(x.select==y.select)
  · simp only [h0,h1,h2,Bool.false_and,Bool.and_false,Bool.true_and] at hR
    subst hR
    refine ACalls.of_aw (Ω:=[(247,Ent.pure p_zsCas)]) (T:=assoc []) mixed (TblOk.cons ok_zsCas TblOk.nil) Tryz.func134 (by kernel_rfl) (by rfl) (rs:=[.tmp 4]) (by rfl) (by kernel_rfl) (by simp only [Tryz.ntmps134,yaz,yba];decide) (Nat.le_refl _) fun hcl hlt=>?_
    change aw _ _ _ (KI Tryz.prog [(247,Ent.pure p_zsCas)] (aEnd Tryz.prog [.tmp 4] H.nx _ _ (assoc [])) []) _ _
    clear hlt
    simp only [go_sem,byq,p_zsCas,h0,h1,h2,true_and,Bool.bne_false,Bool.bne_true]
    simp (disch:=first | assumption | omega | (simp;done) | (simp;omega) | (simp only [bt,and_true];first | done | omega | (simp;done))) [↓zmi,beq,ybc,ybd,ybe,endOk,wk,wk2,wk1,wkM,wkL,wkLL,ybf,hcl]
    first | done | repeat (first | exact AHeap.Le.refl _ | refine AHeap.Le.push ?_ _)
  cases h3:(eqL eqCas x.cases y.cases)
  · simp only [h0,h1,h2,h3,Bool.false_and,Bool.and_false,Bool.true_and] at hR
    subst hR
    refine ACalls.of_aw (Ω:=[(247,Ent.pure p_zsCas)]) (T:=assoc []) mixed (TblOk.cons ok_zsCas TblOk.nil) Tryz.func134 (by kernel_rfl) (by rfl) (rs:=[.tmp 4]) (by rfl) (by kernel_rfl) (by simp only [Tryz.ntmps134,yaz,yba];decide) (Nat.le_refl _) fun hcl hlt=>?_
    change aw _ _ _ (KI Tryz.prog [(247,Ent.pure p_zsCas)] (aEnd Tryz.prog [.tmp 4] H.nx _ _ (assoc [])) []) _ _
    clear hlt
    simp only [go_sem,byq,p_zsCas,h0,h1,h2,h3,true_and,Bool.bne_false,Bool.bne_true]
    refine ⟨x.cases,y.cases,⟨rfl,rfl,hx,hy⟩,?_⟩
    try simp only [go_sem,byq,p_zsCas,h0,h1,h2,h3,true_and,Bool.bne_false,Bool.bne_true]
    simp (disch:=first | assumption | omega | (simp;done) | (simp;omega) | (simp only [bt,and_true];first | done | omega | (simp;done))) [↓zmi,beq,ybc,ybd,ybe,endOk,wk,wk2,wk1,wkM,wkL,wkLL,ybf,hcl]
    first | done | repeat (first | exact AHeap.Le.refl _ | refine AHeap.Le.push ?_ _)
  cases h4:(x.dflt==y.dflt)
  · simp only [h0,h1,h2,h3,h4,Bool.false_and,Bool.and_false,Bool.true_and] at hR
    subst hR
    refine ACalls.of_aw (Ω:=[(247,Ent.pure p_zsCas)]) (T:=assoc []) mixed (TblOk.cons ok_zsCas TblOk.nil) Tryz.func134 (by kernel_rfl) (by rfl) (rs:=[.tmp 4]) (by rfl) (by kernel_rfl) (by simp only [Tryz.ntmps134,yaz,yba];decide) (Nat.le_refl _) fun hcl hlt=>?_
    change aw _ _ _ (KI Tryz.prog [(247,Ent.pure p_zsCas)] (aEnd Tryz.prog [.tmp 4] H.nx _ _ (assoc [])) []) _ _
    clear hlt
    simp only [go_sem,byq,p_zsCas,h0,h1,h2,h3,h4,true_and,Bool.bne_false,Bool.bne_true]
    refine ⟨x.cases,y.cases,⟨rfl,rfl,hx,hy⟩,?_⟩
    try simp only [go_sem,byq,p_zsCas,h0,h1,h2,h3,h4,true_and,Bool.bne_false,Bool.bne_true]
    simp (disch:=first | assumption | omega | (simp;done) | (simp;omega) | (simp only [bt,and_true];first | done | omega | (simp;done))) [↓zmi,beq,ybc,ybd,ybe,endOk,wk,wk2,wk1,wkM,wkL,wkLL,ybf,hcl]
    first | done | repeat (first | exact AHeap.Le.refl _ | refine AHeap.Le.push ?_ _)
  simp only [h0,h1,h2,h3,h4,Bool.true_and] at hR
  subst hR
  refine ACalls.of_aw (Ω:=[(247,Ent.pure p_zsCas)]) (T:=assoc []) mixed (TblOk.cons ok_zsCas TblOk.nil) Tryz.func134 (by kernel_rfl) (by rfl) (rs:=[.tmp 4]) (by rfl) (by kernel_rfl) (by simp only [Tryz.ntmps134,yaz,yba];decide) (Nat.le_refl _) fun hcl hlt=>?_
  change aw _ _ _ (KI Tryz.prog [(247,Ent.pure p_zsCas)] (aEnd Tryz.prog [.tmp 4] H.nx _ _ (assoc [])) []) _ _
  clear hlt
  simp only [go_sem,byq,p_zsCas,h0,h1,h2,h3,h4,true_and,Bool.bne_false,Bool.bne_true]
  refine ⟨x.cases,y.cases,⟨rfl,rfl,hx,hy⟩,?_⟩
  try simp only [go_sem,byq,p_zsCas,h0,h1,h2,h3,h4,true_and,Bool.bne_false,Bool.bne_true]
  simp (disch:=first | assumption | omega | (simp;done) | (simp;omega) | (simp only [bt,and_true];first | done | omega | (simp;done))) [↓zmi,beq,ybc,ybd,ybe,endOk,wk,wk2,wk1,wkM,wkL,wkLL,ybf,hcl]
  first | done | repeat (first | exact AHeap.Le.refl _ | refine AHeap.Le.push ?_ _)
def eqAct (a b:SAction):Bool:=(a.id==b.id)&&(a.name==b.name)&&(eqL eqPar a.params b.params)&&(eqL eqPri a.body b.body)&&(a.restr==b.restr)
theorem eqAct_refl (a:SAction):eqAct a a=true:=by simp [eqAct,eqL_refl eqI_refl,eqL_refl eqB_refl,eqL_refl eqV_refl,eqL_refl eqCas_refl,eqL_refl eqPar_refl,eqL_refl eqPri_refl,eqL_refl eqKey_refl]
def p_zAct:List AV→AHeap→(AV→Prop)→Prop
  | [.agg l,.agg k],_,K=>∃ x y:SAction,(.agg l=actionAV x∧.agg k=actionAV y∧CAct x∧CAct y)∧K (.bool (eqAct x y))
  | _,_,_=>False
set_option maxHeartbeats 4000000 in
theorem ok_zAct:EntOk Tryz.prog 136 (Ent.pure p_zAct):=by
  refine EntOk.pure fun args H K h=>?_
  unfold p_zAct at h
  split at h
  rotate_left
  · exact h.elim
  rename_i l k
  obtain ⟨x,y,⟨e1,e2,hx,hy⟩,hK⟩:=h
  have e1':=AV.agg.inj e1
  have e2':=AV.agg.inj e2
  subst e1'
  subst e2'
  clear e1 e2
  refine ⟨_,hK,?_⟩
  clear hK
  obtain ⟨R,hR⟩:∃ R,eqAct x y=R:=⟨_,rfl⟩
  rw [hR]
  unfold eqAct at hR
  cases h0:(x.id==y.id)
  · simp only [h0,Bool.false_and,Bool.and_false,Bool.true_and] at hR
    subst hR
    refine ACalls.of_aw (Ω:=[(248,Ent.pure p_zsPar),(249,Ent.pure p_zsPri)]) (T:=assoc []) mixed (TblOk.cons ok_zsPar (TblOk.cons ok_zsPri TblOk.nil)) Tryz.func136 (by kernel_rfl) (by rfl) (rs:=[.tmp 4]) (by rfl) (by kernel_rfl) (by simp only [Tryz.ntmps136,yaz,yba];decide) (Nat.le_refl _) fun hcl hlt=>?_
    change aw _ _ _ (KI Tryz.prog [(248,Ent.pure p_zsPar),(249,Ent.pure p_zsPri)] (aEnd Tryz.prog [.tmp 4] H.nx _ _ (assoc [])) []) _ _
    clear hlt
    simp only [go_sem,byq,p_zsPar,p_zsPri,h0,true_and,Bool.bne_false,Bool.bne_true]
    simp (disch:=first | assumption | omega | (simp;done) | (simp;omega) | (simp only [bt,and_true];first | done | omega | (simp;done))) [↓zmi,beq,ybc,ybd,ybe,endOk,wk,wk2,wk1,wkM,wkL,wkLL,ybf,hcl]
    first | done | repeat (first | exact AHeap.Le.refl _ | refine AHeap.Le.push ?_ _)
  cases h1:(x.name==y.name)
  · simp only [h0,h1,Bool.false_and,Bool.and_false,Bool.true_and] at hR
    subst hR
    refine ACalls.of_aw (Ω:=[(248,Ent.pure p_zsPar),(249,Ent.pure p_zsPri)]) (T:=assoc []) mixed (TblOk.cons ok_zsPar (TblOk.cons ok_zsPri TblOk.nil)) Tryz.func136 (by kernel_rfl) (by rfl) (rs:=[.tmp 4]) (by rfl) (by kernel_rfl) (by simp only [Tryz.ntmps136,yaz,yba];decide) (Nat.le_refl _) fun hcl hlt=>?_
    change aw _ _ _ (KI Tryz.prog [(248,Ent.pure p_zsPar),(249,Ent.pure p_zsPri)] (aEnd Tryz.prog [.tmp 4] H.nx _ _ (assoc [])) []) _ _
    clear hlt
    simp only [go_sem,byq,p_zsPar,p_zsPri,h0,h1,true_and,Bool.bne_false,Bool.bne_true]
    simp (disch:=first | assumption | omega | (simp;done) | (simp;omega) | (simp only [bt,and_true];first | done | omega | (simp;done))) [↓zmi,beq,ybc,ybd,ybe,endOk,wk,wk2,wk1,wkM,wkL,wkLL,ybf,hcl]
    first | done | repeat (first | exact AHeap.Le.refl _ | refine AHeap.Le.push ?_ _)
  cases h2:(eqL eqPar x.params y.params)
  · simp only [h0,h1,h2,Bool.false_and,Bool.and_false,Bool.true_and] at hR
    subst hR
    refine ACalls.of_aw (Ω:=[(248,Ent.pure p_zsPar),(249,Ent.pure p_zsPri)]) (T:=assoc []) mixed (TblOk.cons ok_zsPar (TblOk.cons ok_zsPri TblOk.nil)) Tryz.func136 (by kernel_rfl) (by rfl) (rs:=[.tmp 4]) (by rfl) (by kernel_rfl) (by simp only [Tryz.ntmps136,yaz,yba];decide) (Nat.le_refl _) fun hcl hlt=>?_
    change aw _ _ _ (KI Tryz.prog [(248,Ent.pure p_zsPar),(249,Ent.pure p_zsPri)] (aEnd Tryz.prog [.tmp 4] H.nx _ _ (assoc [])) []) _ _
    clear hlt
    simp only [go_sem,byq,p_zsPar,p_zsPri,h0,h1,h2,true_and,Bool.bne_false,Bool.bne_true]
    refine ⟨x.params,y.params,⟨rfl,rfl,hx.1,hy.1⟩,?_⟩
    try simp only [go_sem,byq,p_zsPar,p_zsPri,h0,h1,h2,true_and,Bool.bne_false,Bool.bne_true]
    simp (disch:=first | assumption | omega | (simp;done) | (simp;omega) | (simp only [bt,and_true];first | done | omega | (simp;done))) [↓zmi,beq,ybc,ybd,ybe,endOk,wk,wk2,wk1,wkM,wkL,wkLL,ybf,hcl]
    first | done | repeat (first | exact AHeap.Le.refl _ | refine AHeap.Le.push ?_ _)
  cases h3:(eqL eqPri x.body y.body)
  · simp only [h0,h1,h2,h3,Bool.false_and,Bool.and_false,Bool.true_and] at hR
    subst hR
    refine ACalls.of_aw (Ω:=[(248,Ent.pure p_zsPar),(249,Ent.pure p_zsPri)]) (T:=assoc []) mixed (TblOk.cons ok_zsPar (TblOk.cons ok_zsPri TblOk.nil)) Tryz.func136 (by kernel_rfl) (by rfl) (rs:=[.tmp 4]) (by rfl) (by kernel_rfl) (by simp only [Tryz.ntmps136,yaz,yba];decide) (Nat.le_refl _) fun hcl hlt=>?_
    change aw _ _ _ (KI Tryz.prog [(248,Ent.pure p_zsPar),(249,Ent.pure p_zsPri)] (aEnd Tryz.prog [.tmp 4] H.nx _ _ (assoc [])) []) _ _
    clear hlt
    simp only [go_sem,byq,p_zsPar,p_zsPri,h0,h1,h2,h3,true_and,Bool.bne_false,Bool.bne_true]
    refine ⟨x.params,y.params,⟨rfl,rfl,hx.1,hy.1⟩,?_⟩
    try simp only [go_sem,byq,p_zsPar,p_zsPri,h0,h1,h2,h3,true_and,Bool.bne_false,Bool.bne_true]
    refine ⟨x.body,y.body,⟨rfl,rfl,hx.2,hy.2⟩,?_⟩
    try simp only [go_sem,byq,p_zsPar,p_zsPri,h0,h1,h2,h3,true_and,Bool.bne_false,Bool.bne_true]
    simp (disch:=first | assumption | omega | (simp;done) | (simp;omega) | (simp only [bt,and_true];first | done | omega | (simp;done))) [↓zmi,beq,ybc,ybd,ybe,endOk,wk,wk2,wk1,wkM,wkL,wkLL,ybf,hcl]
    first | done | repeat (first | exact AHeap.Le.refl _ | refine AHeap.Le.push ?_ _)
  cases h4:(x.restr==y.restr)
  · simp only [h0,h1,h2,h3,h4,Bool.false_and,Bool.and_false,Bool.true_and] at hR
    subst hR
    refine ACalls.of_aw (Ω:=[(248,Ent.pure p_zsPar),(249,Ent.pure p_zsPri)]) (T:=assoc []) mixed (TblOk.cons ok_zsPar (TblOk.cons ok_zsPri TblOk.nil)) Tryz.func136 (by kernel_rfl) (by rfl) (rs:=[.tmp 4]) (by rfl) (by kernel_rfl) (by simp only [Tryz.ntmps136,yaz,yba];decide) (Nat.le_refl _) fun hcl hlt=>?_
    change aw _ _ _ (KI Tryz.prog [(248,Ent.pure p_zsPar),(249,Ent.pure p_zsPri)] (aEnd Tryz.prog [.tmp 4] H.nx _ _ (assoc [])) []) _ _
    clear hlt
    simp only [go_sem,byq,p_zsPar,p_zsPri,h0,h1,h2,h3,h4,true_and,Bool.bne_false,Bool.bne_true]
    refine ⟨x.params,y.params,⟨rfl,rfl,hx.1,hy.1⟩,?_⟩
    try simp only [go_sem,byq,p_zsPar,p_zsPri,h0,h1,h2,h3,h4,true_and,Bool.bne_false,Bool.bne_true]
    refine ⟨x.body,y.body,⟨rfl,rfl,hx.2,hy.2⟩,?_⟩
    try simp only [go_sem,byq,p_zsPar,p_zsPri,h0,h1,h2,h3,h4,true_and,Bool.bne_false,Bool.bne_true]
    simp (disch:=first | assumption | omega | (simp;done) | (simp;omega) | (simp only [bt,and_true];first | done | omega | (simp;done))) [↓zmi,beq,ybc,ybd,ybe,endOk,wk,wk2,wk1,wkM,wkL,wkLL,ybf,hcl]
    first | done | repeat (first | exact AHeap.Le.refl _ | refine AHeap.Le.push ?_ _)
  simp only [h0,h1,h2,h3,h4,Bool.true_and] at hR
  subst hR
  refine ACalls.of_aw (Ω:=[(248,Ent.pure p_zsPar),(249,Ent.pure p_zsPri)]) (T:=assoc []) mixed (TblOk.cons ok_zsPar (TblOk.cons ok_zsPri TblOk.nil)) Tryz.func136 (by kernel_rfl) (by rfl) (rs:=[.tmp 4]) (by rfl) (by kernel_rfl) (by simp only [Tryz.ntmps136,yaz,yba];decide) (Nat.le_refl _) fun hcl hlt=>?_
  change aw _ _ _ (KI Tryz.prog [(248,Ent.pure p_zsPar),(249,Ent.pure p_zsPri)] (aEnd Tryz.prog [.tmp 4] H.nx _ _ (assoc [])) []) _ _
  clear hlt
  simp only [go_sem,byq,p_zsPar,p_zsPri,h0,h1,h2,h3,h4,true_and,Bool.bne_false,Bool.bne_true]
  refine ⟨x.params,y.params,⟨rfl,rfl,hx.1,hy.1⟩,?_⟩
  try simp only [go_sem,byq,p_zsPar,p_zsPri,h0,h1,h2,h3,h4,true_and,Bool.bne_false,Bool.bne_true]
  refine ⟨x.body,y.body,⟨rfl,rfl,hx.2,hy.2⟩,?_⟩
  try simp only [go_sem,byq,p_zsPar,p_zsPri,h0,h1,h2,h3,h4,true_and,Bool.bne_false,Bool.bne_true]
  simp (disch:=first | assumption | omega | (simp;done) | (simp;omega) | (simp only [bt,and_true];first | done | omega | (simp;done))) [↓zmi,beq,ybc,ybd,ybe,endOk,wk,wk2,wk1,wkM,wkL,wkLL,ybf,hcl]
  first | done | repeat (first | exact AHeap.Le.refl _ | refine AHeap.Le.push ?_ _)
def eqTab (a b:STable):Bool:=(a.id==b.id)&&(a.name==b.name)&&(eqL eqKey a.keys b.keys)&&(eqL eqI a.actions b.actions)&&(a.dflt==b.dflt)&&(eqL eqV a.dargs b.dargs)&&(a.size==b.size)&&(a.restr==b.restr)
theorem eqTab_refl (a:STable):eqTab a a=true:=by simp [eqTab,eqL_refl eqI_refl,eqL_refl eqB_refl,eqL_refl eqV_refl,eqL_refl eqCas_refl,eqL_refl eqPar_refl,eqL_refl eqPri_refl,eqL_refl eqKey_refl]
def p_zTab:List AV→AHeap→(AV→Prop)→Prop
  | [.agg l,.agg k],_,K=>∃ x y:STable,(.agg l=tableAV x∧.agg k=tableAV y∧CTab x∧CTab y)∧K (.bool (eqTab x y))
  | _,_,_=>False
set_option maxHeartbeats 4000000 in
theorem ok_zTab:EntOk Tryz.prog 138 (Ent.pure p_zTab):=by
  refine EntOk.pure fun args H K h=>?_
  unfold p_zTab at h
  split at h
  rotate_left
  · exact h.elim
  rename_i l k
  obtain ⟨x,y,⟨e1,e2,hx,hy⟩,hK⟩:=h
  have e1':=AV.agg.inj e1
  have e2':=AV.agg.inj e2
  subst e1'
  subst e2'
  clear e1 e2
  refine ⟨_,hK,?_⟩
  clear hK
  obtain ⟨R,hR⟩:∃ R,eqTab x y=R:=⟨_,rfl⟩
  rw [hR]
  unfold eqTab at hR
  cases h0:(x.id==y.id)
  · simp only [h0,Bool.false_and,Bool.and_false,Bool.true_and] at hR
    subst hR
    refine ACalls.of_aw (Ω:=[(250,Ent.pure p_zsKey),(130,Ent.pure p_zsInt),(251,Ent.pure p_zsVal)]) (T:=assoc []) mixed (TblOk.cons ok_zsKey (TblOk.cons ok_zsInt (TblOk.cons ok_zsVal TblOk.nil))) Tryz.func138 (by kernel_rfl) (by rfl) (rs:=[.tmp 4]) (by rfl) (by kernel_rfl) (by simp only [Tryz.ntmps138,yaz,yba];decide) (Nat.le_refl _) fun hcl hlt=>?_
    change aw _ _ _ (KI Tryz.prog [(250,Ent.pure p_zsKey),(130,Ent.pure p_zsInt),(251,Ent.pure p_zsVal)] (aEnd Tryz.prog [.tmp 4] H.nx _ _ (assoc [])) []) _ _
    clear hlt
    simp only [go_sem,byq,p_zsKey,p_zsInt,p_zsVal,h0,true_and,Bool.bne_false,Bool.bne_true]
    simp (disch:=first | assumption | omega | (simp;done) | (simp;omega) | (simp only [bt,and_true];first | done | omega | (simp;done))) [↓zmi,beq,ybc,ybd,ybe,endOk,wk,wk2,wk1,wkM,wkL,wkLL,ybf,hcl]
    first | done | repeat (first | exact AHeap.Le.refl _ | refine AHeap.Le.push ?_ _)
  cases h1:(x.name==y.name)
  · simp only [h0,h1,Bool.false_and,Bool.and_false,Bool.true_and] at hR
    subst hR
    refine ACalls.of_aw (Ω:=[(250,Ent.pure p_zsKey),(130,Ent.pure p_zsInt),(251,Ent.pure p_zsVal)]) (T:=assoc []) mixed (TblOk.cons ok_zsKey (TblOk.cons ok_zsInt (TblOk.cons ok_zsVal TblOk.nil))) Tryz.func138 (by kernel_rfl) (by rfl) (rs:=[.tmp 4]) (by rfl) (by kernel_rfl) (by simp only [Tryz.ntmps138,yaz,yba];decide) (Nat.le_refl _) fun hcl hlt=>?_
    change aw _ _ _ (KI Tryz.prog [(250,Ent.pure p_zsKey),(130,Ent.pure p_zsInt),(251,Ent.pure p_zsVal)] (aEnd Tryz.prog [.tmp 4] H.nx _ _ (assoc [])) []) _ _
    clear hlt
    simp only [go_sem,byq,p_zsKey,p_zsInt,p_zsVal,h0,h1,true_and,Bool.bne_false,Bool.bne_true]
    simp (disch:=first | assumption | omega | (simp;done) | (simp;omega) | (simp only [bt,and_true];first | done | omega | (simp;done))) [↓zmi,beq,ybc,ybd,ybe,endOk,wk,wk2,wk1,wkM,wkL,wkLL,ybf,hcl]
    first | done | repeat (first | exact AHeap.Le.refl _ | refine AHeap.Le.push ?_ _)
  cases h2:(eqL eqKey x.keys y.keys)
  · simp only [h0,h1,h2,Bool.false_and,Bool.and_false,Bool.true_and] at hR
    subst hR
    refine ACalls.of_aw (Ω:=[(250,Ent.pure p_zsKey),(130,Ent.pure p_zsInt),(251,Ent.pure p_zsVal)]) (T:=assoc []) mixed (TblOk.cons ok_zsKey (TblOk.cons ok_zsInt (TblOk.cons ok_zsVal TblOk.nil))) Tryz.func138 (by kernel_rfl) (by rfl) (rs:=[.tmp 4]) (by rfl) (by kernel_rfl) (by simp only [Tryz.ntmps138,yaz,yba];decide) (Nat.le_refl _) fun hcl hlt=>?_
    change aw _ _ _ (KI Tryz.prog [(250,Ent.pure p_zsKey),(130,Ent.pure p_zsInt),(251,Ent.pure p_zsVal)] (aEnd Tryz.prog [.tmp 4] H.nx _ _ (assoc [])) []) _ _
    clear hlt
    simp only [go_sem,byq,p_zsKey,p_zsInt,p_zsVal,h0,h1,h2,true_and,Bool.bne_false,Bool.bne_true]
    refine ⟨x.keys,y.keys,⟨rfl,rfl,hx.1,hy.1⟩,?_⟩
    try simp only [go_sem,byq,p_zsKey,p_zsInt,p_zsVal,h0,h1,h2,true_and,Bool.bne_false,Bool.bne_true]
    simp (disch:=first | assumption | omega | (simp;done) | (simp;omega) | (simp only [bt,and_true];first | done | omega | (simp;done))) [↓zmi,beq,ybc,ybd,ybe,endOk,wk,wk2,wk1,wkM,wkL,wkLL,ybf,hcl]
    first | done | repeat (first | exact AHeap.Le.refl _ | refine AHeap.Le.push ?_ _)
  cases h3:(eqL eqI x.actions y.actions)
  · simp only [h0,h1,h2,h3,Bool.false_and,Bool.and_false,Bool.true_and] at hR
    subst hR
    refine ACalls.of_aw (Ω:=[(250,Ent.pure p_zsKey),(130,Ent.pure p_zsInt),(251,Ent.pure p_zsVal)]) (T:=assoc []) mixed (TblOk.cons ok_zsKey (TblOk.cons ok_zsInt (TblOk.cons ok_zsVal TblOk.nil))) Tryz.func138 (by kernel_rfl) (by rfl) (rs:=[.tmp 4]) (by rfl) (by kernel_rfl) (by simp only [Tryz.ntmps138,yaz,yba];decide) (Nat.le_refl _) fun hcl hlt=>?_
    change aw _ _ _ (KI Tryz.prog [(250,Ent.pure p_zsKey),(130,Ent.pure p_zsInt),(251,Ent.pure p_zsVal)] (aEnd Tryz.prog [.tmp 4] H.nx _ _ (assoc [])) []) _ _
    clear hlt
    simp only [go_sem,byq,p_zsKey,p_zsInt,p_zsVal,h0,h1,h2,h3,true_and,Bool.bne_false,Bool.bne_true]
    refine ⟨x.keys,y.keys,⟨rfl,rfl,hx.1,hy.1⟩,?_⟩
    try simp only [go_sem,byq,p_zsKey,p_zsInt,p_zsVal,h0,h1,h2,h3,true_and,Bool.bne_false,Bool.bne_true]
    refine ⟨x.actions,y.actions,⟨rfl,rfl,hx.2.1,hy.2.1⟩,?_⟩
    try simp only [go_sem,byq,p_zsKey,p_zsInt,p_zsVal,h0,h1,h2,h3,true_and,Bool.bne_false,Bool.bne_true]
    simp (disch:=first | assumption | omega | (simp;done) | (simp;omega) | (simp only [bt,and_true];first | done | omega | (simp;done))) [↓zmi,beq,ybc,ybd,ybe,endOk,wk,wk2,wk1,wkM,wkL,wkLL,ybf,hcl]
    first | done | repeat (first | exact AHeap.Le.refl _ | refine AHeap.Le.push ?_ _)
  cases h4:(x.dflt==y.dflt)
  · simp only [h0,h1,h2,h3,h4,Bool.false_and,Bool.and_false,Bool.true_and] at hR
    subst hR
    refine ACalls.of_aw (Ω:=[(250,Ent.pure p_zsKey),(130,Ent.pure p_zsInt),(251,Ent.pure p_zsVal)]) (T:=assoc []) mixed (TblOk.cons ok_zsKey (TblOk.cons ok_zsInt (TblOk.cons ok_zsVal TblOk.nil))) Tryz.func138 (by kernel_rfl) (by rfl) (rs:=[.tmp 4]) (by rfl) (by kernel_rfl) (by simp only [Tryz.ntmps138,yaz,yba];decide) (Nat.le_refl _) fun hcl hlt=>?_
    change aw _ _ _ (KI Tryz.prog [(250,Ent.pure p_zsKey),(130,Ent.pure p_zsInt),(251,Ent.pure p_zsVal)] (aEnd Tryz.prog [.tmp 4] H.nx _ _ (assoc [])) []) _ _
    clear hlt
    simp only [go_sem,byq,p_zsKey,p_zsInt,p_zsVal,h0,h1,h2,h3,h4,true_and,Bool.bne_false,Bool.bne_true]
    refine ⟨x.keys,y.keys,⟨rfl,rfl,hx.1,hy.1⟩,?_⟩
    try simp only [go_sem,byq,p_zsKey,p_zsInt,p_zsVal,h0,h1,h2,h3,h4,true_and,Bool.bne_false,Bool.bne_true]
    refine ⟨x.actions,y.actions,⟨rfl,rfl,hx.2.1,hy.2.1⟩,?_⟩
    try simp only [go_sem,byq,p_zsKey,p_zsInt,p_zsVal,h0,h1,h2,h3,h4,true_and,Bool.bne_false,Bool.bne_true]
    simp (disch:=first | assumption | omega | (simp;done) | (simp;omega) | (simp only [bt,and_true];first | done | omega | (simp;done))) [↓zmi,beq,ybc,ybd,ybe,endOk,wk,wk2,wk1,wkM,wkL,wkLL,ybf,hcl]
    first | done | repeat (first | exact AHeap.Le.refl _ | refine AHeap.Le.push ?_ _)
  cases h5:(eqL eqV x.dargs y.dargs)
  · simp only [h0,h1,h2,h3,h4,h5,Bool.false_and,Bool.and_false,Bool.true_and] at hR
    subst hR
    refine ACalls.of_aw (Ω:=[(250,Ent.pure p_zsKey),(130,Ent.pure p_zsInt),(251,Ent.pure p_zsVal)]) (T:=assoc []) mixed (TblOk.cons ok_zsKey (TblOk.cons ok_zsInt (TblOk.cons ok_zsVal TblOk.nil))) Tryz.func138 (by kernel_rfl) (by rfl) (rs:=[.tmp 4]) (by rfl) (by kernel_rfl) (by simp only [Tryz.ntmps138,yaz,yba];decide) (Nat.le_refl _) fun hcl hlt=>?_
    change aw _ _ _ (KI Tryz.prog [(250,Ent.pure p_zsKey),(130,Ent.pure p_zsInt),(251,Ent.pure p_zsVal)] (aEnd Tryz.prog [.tmp 4] H.nx _ _ (assoc [])) []) _ _
    clear hlt
    simp only [go_sem,byq,p_zsKey,p_zsInt,p_zsVal,h0,h1,h2,h3,h4,h5,true_and,Bool.bne_false,Bool.bne_true]
    refine ⟨x.keys,y.keys,⟨rfl,rfl,hx.1,hy.1⟩,?_⟩
    try simp only [go_sem,byq,p_zsKey,p_zsInt,p_zsVal,h0,h1,h2,h3,h4,h5,true_and,Bool.bne_false,Bool.bne_true]
    refine ⟨x.actions,y.actions,⟨rfl,rfl,hx.2.1,hy.2.1⟩,?_⟩
    try simp only [go_sem,byq,p_zsKey,p_zsInt,p_zsVal,h0,h1,h2,h3,h4,h5,true_and,Bool.bne_false,Bool.bne_true]
    refine ⟨x.dargs,y.dargs,⟨rfl,rfl,hx.2.2,hy.2.2⟩,?_⟩
    try simp only [go_sem,byq,p_zsKey,p_zsInt,p_zsVal,h0,h1,h2,h3,h4,h5,true_and,Bool.bne_false,Bool.bne_true]
    simp (disch:=first | assumption | omega | (simp;done) | (simp;omega) | (simp only [bt,and_true];first | done | omega | (simp;done))) [↓zmi,beq,ybc,ybd,ybe,endOk,wk,wk2,wk1,wkM,wkL,wkLL,ybf,hcl]
    first | done | repeat (first | exact AHeap.Le.refl _ | refine AHeap.Le.push ?_ _)
  cases h6:(x.size==y.size)
  · simp only [h0,h1,h2,h3,h4,h5,h6,Bool.false_and,Bool.and_false,Bool.true_and] at hR
    subst hR
    refine ACalls.of_aw (Ω:=[(250,Ent.pure p_zsKey),(130,Ent.pure p_zsInt),(251,Ent.pure p_zsVal)]) (T:=assoc []) mixed (TblOk.cons ok_zsKey (TblOk.cons ok_zsInt (TblOk.cons ok_zsVal TblOk.nil))) Tryz.func138 (by kernel_rfl) (by rfl) (rs:=[.tmp 4]) (by rfl) (by kernel_rfl) (by simp only [Tryz.ntmps138,yaz,yba];decide) (Nat.le_refl _) fun hcl hlt=>?_
    change aw _ _ _ (KI Tryz.prog [(250,Ent.pure p_zsKey),(130,Ent.pure p_zsInt),(251,Ent.pure p_zsVal)] (aEnd Tryz.prog [.tmp 4] H.nx _ _ (assoc [])) []) _ _
    clear hlt
    simp only [go_sem,byq,p_zsKey,p_zsInt,p_zsVal,h0,h1,h2,h3,h4,h5,h6,true_and,Bool.bne_false,Bool.bne_true]
    refine ⟨x.keys,y.keys,⟨rfl,rfl,hx.1,hy.1⟩,?_⟩
    try simp only [go_sem,byq,p_zsKey,p_zsInt,p_zsVal,h0,h1,h2,h3,h4,h5,h6,true_and,Bool.bne_false,Bool.bne_true]
    refine ⟨x.actions,y.actions,⟨rfl,rfl,hx.2.1,hy.2.1⟩,?_⟩
    try simp only [go_sem,byq,p_zsKey,p_zsInt,p_zsVal,h0,h1,h2,h3,h4,h5,h6,true_and,Bool.bne_false,Bool.bne_true]
    refine ⟨x.dargs,y.dargs,⟨rfl,rfl,hx.2.2,hy.2.2⟩,?_⟩
    try simp only [go_sem,byq,p_zsKey,p_zsInt,p_zsVal,h0,h1,h2,h3,h4,h5,h6,true_and,Bool.bne_false,Bool.bne_true]
    simp (disch:=first | assumption | omega | (simp;done) | (simp;omega) | (simp only [bt,and_true];first | done | omega | (simp;done))) [↓zmi,beq,ybc,ybd,ybe,endOk,wk,wk2,wk1,wkM,wkL,wkLL,ybf,hcl]
    first | done | repeat (first | exact AHeap.Le.refl _ | refine AHeap.Le.push ?_ _)
  cases h7:(x.restr==y.restr)
  · simp only [h0,h1,h2,h3,h4,h5,h6,h7,Bool.false_and,Bool.and_false,Bool.true_and] at hR
    subst hR
    refine ACalls.of_aw (Ω:=[(250,Ent.pure p_zsKey),(130,Ent.pure p_zsInt),(251,Ent.pure p_zsVal)]) (T:=assoc []) mixed (TblOk.cons ok_zsKey (TblOk.cons ok_zsInt (TblOk.cons ok_zsVal TblOk.nil))) Tryz.func138 (by kernel_rfl) (by rfl) (rs:=[.tmp 4]) (by rfl) (by kernel_rfl) (by simp only [Tryz.ntmps138,yaz,yba];decide) (Nat.le_refl _) fun hcl hlt=>?_
    change aw _ _ _ (KI Tryz.prog [(250,Ent.pure p_zsKey),(130,Ent.pure p_zsInt),(251,Ent.pure p_zsVal)] (aEnd Tryz.prog [.tmp 4] H.nx _ _ (assoc [])) []) _ _
    clear hlt
    simp only [go_sem,byq,p_zsKey,p_zsInt,p_zsVal,h0,h1,h2,h3,h4,h5,h6,h7,true_and,Bool.bne_false,Bool.bne_true]
    refine ⟨x.keys,y.keys,⟨rfl,rfl,hx.1,hy.1⟩,?_⟩
    try simp only [go_sem,byq,p_zsKey,p_zsInt,p_zsVal,h0,h1,h2,h3,h4,h5,h6,h7,true_and,Bool.bne_false,Bool.bne_true]
    refine ⟨x.actions,y.actions,⟨rfl,rfl,hx.2.1,hy.2.1⟩,?_⟩
    try simp only [go_sem,byq,p_zsKey,p_zsInt,p_zsVal,h0,h1,h2,h3,h4,h5,h6,h7,true_and,Bool.bne_false,Bool.bne_true]
    refine ⟨x.dargs,y.dargs,⟨rfl,rfl,hx.2.2,hy.2.2⟩,?_⟩
    try simp only [go_sem,byq,p_zsKey,p_zsInt,p_zsVal,h0,h1,h2,h3,h4,h5,h6,h7,true_and,Bool.bne_false,Bool.bne_true]
    simp (disch:=first | assumption | omega | (simp;done) | (simp;omega) | (simp only [bt,and_true];first | done | omega | (simp;done))) [↓zmi,beq,ybc,ybd,ybe,endOk,wk,wk2,wk1,wkM,wkL,wkLL,ybf,hcl]
    first | done | repeat (first | exact AHeap.Le.refl _ | refine AHeap.Le.push ?_ _)
  simp only [h0,h1,h2,h3,h4,h5,h6,h7,Bool.true_and] at hR
  subst hR
  refine ACalls.of_aw (Ω:=[(250,Ent.pure p_zsKey),(130,Ent.pure p_zsInt),(251,Ent.pure p_zsVal)]) (T:=assoc []) mixed (TblOk.cons ok_zsKey (TblOk.cons ok_zsInt (TblOk.cons ok_zsVal TblOk.nil))) Tryz.func138 (by kernel_rfl) (by rfl) (rs:=[.tmp 4]) (by rfl) (by kernel_rfl) (by simp only [Tryz.ntmps138,yaz,yba];decide) (Nat.le_refl _) fun hcl hlt=>?_
  change aw _ _ _ (KI Tryz.prog [(250,Ent.pure p_zsKey),(130,Ent.pure p_zsInt),(251,Ent.pure p_zsVal)] (aEnd Tryz.prog [.tmp 4] H.nx _ _ (assoc [])) []) _ _
  clear hlt
  simp only [go_sem,byq,p_zsKey,p_zsInt,p_zsVal,h0,h1,h2,h3,h4,h5,h6,h7,true_and,Bool.bne_false,Bool.bne_true]
  refine ⟨x.keys,y.keys,⟨rfl,rfl,hx.1,hy.1⟩,?_⟩
  try simp only [go_sem,byq,p_zsKey,p_zsInt,p_zsVal,h0,h1,h2,h3,h4,h5,h6,h7,true_and,Bool.bne_false,Bool.bne_true]
  refine ⟨x.actions,y.actions,⟨rfl,rfl,hx.2.1,hy.2.1⟩,?_⟩
  try simp only [go_sem,byq,p_zsKey,p_zsInt,p_zsVal,h0,h1,h2,h3,h4,h5,h6,h7,true_and,Bool.bne_false,Bool.bne_true]
  refine ⟨x.dargs,y.dargs,⟨rfl,rfl,hx.2.2,hy.2.2⟩,?_⟩
  try simp only [go_sem,byq,p_zsKey,p_zsInt,p_zsVal,h0,h1,h2,h3,h4,h5,h6,h7,true_and,Bool.bne_false,Bool.bne_true]
  simp (disch:=first | assumption | omega | (simp;done) | (simp;omega) | (simp only [bt,and_true];first | done | omega | (simp;done))) [↓zmi,beq,ybc,ybd,ybe,endOk,wk,wk2,wk1,wkM,wkL,wkLL,ybf,hcl]
  first | done | repeat (first | exact AHeap.Le.refl _ | refine AHeap.Le.push ?_ _)
def eqGra (a b:SGrant):Bool:=(a.table==b.table)&&(a.read==b.read)&&(a.write==b.write)&&(eqL eqB a.keys b.keys)
theorem eqGra_refl (a:SGrant):eqGra a a=true:=by simp [eqGra,eqL_refl eqI_refl,eqL_refl eqB_refl,eqL_refl eqV_refl,eqL_refl eqCas_refl,eqL_refl eqPar_refl,eqL_refl eqPri_refl,eqL_refl eqKey_refl]
def p_zGra:List AV→AHeap→(AV→Prop)→Prop
  | [.agg l,.agg k],_,K=>∃ x y:SGrant,(.agg l=grantAV x∧.agg k=grantAV y∧CGra x∧CGra y)∧K (.bool (eqGra x y))
  | _,_,_=>False
set_option maxHeartbeats 4000000 in
theorem ok_zGra:EntOk Tryz.prog 252 (Ent.pure p_zGra):=by
  refine EntOk.pure fun args H K h=>?_
  unfold p_zGra at h
  split at h
  rotate_left
  · exact h.elim
  rename_i l k
  obtain ⟨x,y,⟨e1,e2,hx,hy⟩,hK⟩:=h
  have e1':=AV.agg.inj e1
  have e2':=AV.agg.inj e2
  subst e1'
  subst e2'
  clear e1 e2
  refine ⟨_,hK,?_⟩
  clear hK
  obtain ⟨R,hR⟩:∃ R,eqGra x y=R:=⟨_,rfl⟩
  rw [hR]
  unfold eqGra at hR
  cases h0:(x.table==y.table)
  · simp only [h0,Bool.false_and,Bool.and_false,Bool.true_and] at hR
    subst hR
    refine ACalls.of_aw (Ω:=[(253,Ent.pure p_zsBoo)]) (T:=assoc []) mixed (TblOk.cons ok_zsBoo TblOk.nil) Tryz.func252 (by kernel_rfl) (by rfl) (rs:=[.tmp 4]) (by rfl) (by kernel_rfl) (by simp only [Tryz.ntmps252,yaz,yba];decide) (Nat.le_refl _) fun hcl hlt=>?_
    change aw _ _ _ (KI Tryz.prog [(253,Ent.pure p_zsBoo)] (aEnd Tryz.prog [.tmp 4] H.nx _ _ (assoc [])) []) _ _
    clear hlt
    simp only [go_sem,byq,p_zsBoo,h0,true_and,Bool.bne_false,Bool.bne_true]
    simp (disch:=first | assumption | omega | (simp;done) | (simp;omega) | (simp only [bt,and_true];first | done | omega | (simp;done))) [↓zmi,beq,ybc,ybd,ybe,endOk,wk,wk2,wk1,wkM,wkL,wkLL,ybf,hcl]
    first | done | repeat (first | exact AHeap.Le.refl _ | refine AHeap.Le.push ?_ _)
  cases h1:(x.read==y.read)
  · simp only [h0,h1,Bool.false_and,Bool.and_false,Bool.true_and] at hR
    subst hR
    refine ACalls.of_aw (Ω:=[(253,Ent.pure p_zsBoo)]) (T:=assoc []) mixed (TblOk.cons ok_zsBoo TblOk.nil) Tryz.func252 (by kernel_rfl) (by rfl) (rs:=[.tmp 4]) (by rfl) (by kernel_rfl) (by simp only [Tryz.ntmps252,yaz,yba];decide) (Nat.le_refl _) fun hcl hlt=>?_
    change aw _ _ _ (KI Tryz.prog [(253,Ent.pure p_zsBoo)] (aEnd Tryz.prog [.tmp 4] H.nx _ _ (assoc [])) []) _ _
    clear hlt
    simp only [go_sem,byq,p_zsBoo,h0,h1,true_and,Bool.bne_false,Bool.bne_true]
    simp (disch:=first | assumption | omega | (simp;done) | (simp;omega) | (simp only [bt,and_true];first | done | omega | (simp;done))) [↓zmi,beq,ybc,ybd,ybe,endOk,wk,wk2,wk1,wkM,wkL,wkLL,ybf,hcl]
    first | done | repeat (first | exact AHeap.Le.refl _ | refine AHeap.Le.push ?_ _)
  cases h2:(x.write==y.write)
  · simp only [h0,h1,h2,Bool.false_and,Bool.and_false,Bool.true_and] at hR
    subst hR
    refine ACalls.of_aw (Ω:=[(253,Ent.pure p_zsBoo)]) (T:=assoc []) mixed (TblOk.cons ok_zsBoo TblOk.nil) Tryz.func252 (by kernel_rfl) (by rfl) (rs:=[.tmp 4]) (by rfl) (by kernel_rfl) (by simp only [Tryz.ntmps252,yaz,yba];decide) (Nat.le_refl _) fun hcl hlt=>?_
    change aw _ _ _ (KI Tryz.prog [(253,Ent.pure p_zsBoo)] (aEnd Tryz.prog [.tmp 4] H.nx _ _ (assoc [])) []) _ _
    clear hlt
    simp only [go_sem,byq,p_zsBoo,h0,h1,h2,true_and,Bool.bne_false,Bool.bne_true]
    simp (disch:=first | assumption | omega | (simp;done) | (simp;omega) | (simp only [bt,and_true];first | done | omega | (simp;done))) [↓zmi,beq,ybc,ybd,ybe,endOk,wk,wk2,wk1,wkM,wkL,wkLL,ybf,hcl]
    first | done | repeat (first | exact AHeap.Le.refl _ | refine AHeap.Le.push ?_ _)
  cases h3:(eqL eqB x.keys y.keys)
  · simp only [h0,h1,h2,h3,Bool.false_and,Bool.and_false,Bool.true_and] at hR
    subst hR
    refine ACalls.of_aw (Ω:=[(253,Ent.pure p_zsBoo)]) (T:=assoc []) mixed (TblOk.cons ok_zsBoo TblOk.nil) Tryz.func252 (by kernel_rfl) (by rfl) (rs:=[.tmp 4]) (by rfl) (by kernel_rfl) (by simp only [Tryz.ntmps252,yaz,yba];decide) (Nat.le_refl _) fun hcl hlt=>?_
    change aw _ _ _ (KI Tryz.prog [(253,Ent.pure p_zsBoo)] (aEnd Tryz.prog [.tmp 4] H.nx _ _ (assoc [])) []) _ _
    clear hlt
    simp only [go_sem,byq,p_zsBoo,h0,h1,h2,h3,true_and,Bool.bne_false,Bool.bne_true]
    refine ⟨x.keys,y.keys,⟨rfl,rfl,hx,hy⟩,?_⟩
    try simp only [go_sem,byq,p_zsBoo,h0,h1,h2,h3,true_and,Bool.bne_false,Bool.bne_true]
    simp (disch:=first | assumption | omega | (simp;done) | (simp;omega) | (simp only [bt,and_true];first | done | omega | (simp;done))) [↓zmi,beq,ybc,ybd,ybe,endOk,wk,wk2,wk1,wkM,wkL,wkLL,ybf,hcl]
    first | done | repeat (first | exact AHeap.Le.refl _ | refine AHeap.Le.push ?_ _)
  simp only [h0,h1,h2,h3,Bool.true_and] at hR
  subst hR
  refine ACalls.of_aw (Ω:=[(253,Ent.pure p_zsBoo)]) (T:=assoc []) mixed (TblOk.cons ok_zsBoo TblOk.nil) Tryz.func252 (by kernel_rfl) (by rfl) (rs:=[.tmp 4]) (by rfl) (by kernel_rfl) (by simp only [Tryz.ntmps252,yaz,yba];decide) (Nat.le_refl _) fun hcl hlt=>?_
  change aw _ _ _ (KI Tryz.prog [(253,Ent.pure p_zsBoo)] (aEnd Tryz.prog [.tmp 4] H.nx _ _ (assoc [])) []) _ _
  clear hlt
  simp only [go_sem,byq,p_zsBoo,h0,h1,h2,h3,true_and,Bool.bne_false,Bool.bne_true]
  refine ⟨x.keys,y.keys,⟨rfl,rfl,hx,hy⟩,?_⟩
  try simp only [go_sem,byq,p_zsBoo,h0,h1,h2,h3,true_and,Bool.bne_false,Bool.bne_true]
  simp (disch:=first | assumption | omega | (simp;done) | (simp;omega) | (simp only [bt,and_true];first | done | omega | (simp;done))) [↓zmi,beq,ybc,ybd,ybe,endOk,wk,wk2,wk1,wkM,wkL,wkLL,ybf,hcl]
  first | done | repeat (first | exact AHeap.Le.refl _ | refine AHeap.Le.push ?_ _)
def p_zlGra:List AV→AHeap→(AV→Prop)→Prop
  | [.slice _ 4 l,.slice _ 4 k,.func (.func 252) [] []],_,K=>∃ xs ys:List (SGrant),(l=xs.map grantAV∧k=ys.map grantAV∧xs.length≤140737488355328∧ys.length≤140737488355328∧(∀ x∈xs,(CGra) x)∧∀ x∈ys,(CGra) x)∧K (.bool (eqL eqGra xs ys))
  | _,_,_=>False
set_option maxHeartbeats 2000000 in
theorem ok_zlGra:EntOk Tryz.prog 254 (Ent.pure p_zlGra):=by
  refine EntOk.pure fun args H K h=>?_
  unfold p_zlGra at h
  split at h
  rotate_left
  · exact h.elim
  rename_i m1 l m2 k
  obtain ⟨xs,ys,⟨rfl,rfl,hl1,hl2,ho1,ho2⟩,hK⟩:=h
  refine ⟨_,hK,?_⟩
  clear hK
  obtain ⟨R,hR⟩:∃ R,eqL eqGra xs ys=R:=⟨_,rfl⟩
  rw [hR]
  by_cases hlen:xs.length=ys.length
  case neg =>
    rw [eqL_len hlen] at hR
    subst hR
    have d0:((xs.length:Int) != (ys.length:Int))=true:=by rw [bne_iff_ne];omega
    refine ACalls.of_aw (Ω:=[(252,Ent.pure p_zGra)]) (T:=assoc []) mixed (TblOk.cons ok_zGra TblOk.nil) Tryz.func254 (by kernel_rfl) (by rfl) (rs:=[.tmp 6]) (by rfl) (by kernel_rfl) (by simp only [Tryz.ntmps254,yaz,yba];decide) (Nat.le_refl _) fun hcl hlt=>?_
    change aw _ _ _ (KI Tryz.prog [(252,Ent.pure p_zGra)] (aEnd Tryz.prog [.tmp 6] H.nx _ _ (assoc [])) []) _ _
    clear hlt
    simp only [go_sem,ybb,d0]
    simp (disch:=first | assumption | omega | (simp;done) | (simp;omega) | (simp only [bt,and_true];first | done | omega | (simp;done))) [↓zmi,beq,ybc,ybd,ybe,endOk,wk,wk2,wk1,wkM,wkL,wkLL,ybf,hcl]
  have d0:((xs.length:Int) != (ys.length:Int))=false:=by rw [hlen];simp
  refine ACalls.of_aw (Ω:=[(252,Ent.pure p_zGra)]) (T:=assoc []) mixed (TblOk.cons ok_zGra TblOk.nil) Tryz.func254 (by kernel_rfl) (by rfl) (rs:=[.tmp 6]) (by rfl) (by kernel_rfl) (by simp only [Tryz.ntmps254,yaz,yba];decide) (Nat.le_refl _) fun hcl hlt=>?_
  change aw _ _ _ (KI Tryz.prog [(252,Ent.pure p_zGra)] (aEnd Tryz.prog [.tmp 6] H.nx _ _ (assoc [])) []) _ _
  have hs1:=hlt (.slice m1 4 (xs.map grantAV)) (by simp)
  have hs2:=hlt (.slice m2 4 (ys.map grantAV)) (by simp)
  have hf:AV.lt H.nx (.func (.func 252) [] []):=hlt _ (by simp)
  clear hlt
  simp only [go_sem,ybb,d0]
  refine loop_introW (A:=Nat) (fun k=>[(1,.slice m2 4 (ys.map grantAV)),(2,.func (.func 252) [] []),(15,.slice m1 4 (xs.map grantAV)),(16,.int .i64 (xs.length:Int)),(17,.int .i64 (k:Int))]) (fun _=>H) (fun k=>k≤xs.length∧eqL eqGra (xs.drop k) (ys.drop k)=R) (fun k=>xs.length - k) 0 ⟨by omega,hR⟩ ?_ fun k hk=>?_
  · refine ⟨by simp only [zkk,zkp];omega,AHeap.Le.refl _,hcl,?_,?_⟩
    · simp only [ltF,zmz,and_true,true_and]
      exact ⟨hs2,hf,hs1⟩
    · simp [subW,wk2,wk1,wkM,Fr.get]
  obtain ⟨hk,hq⟩:=hk
  simp only [go_sem]
  refine cond_split (fun hc=>?_) (fun hc=>?_)
  · have hk':k<xs.length:=by simp at hc;omega
    have hk2:k<ys.length:=by omega
    obtain ⟨x,hx⟩:∃ x,x=xs[k]:=⟨_,rfl⟩
    obtain ⟨y,hy⟩:∃ y,y=ys[k]:=⟨_,rfl⟩
    have hd:xs.drop k=x::xs.drop (k+1):=by rw [hx];exact List.drop_eq_getElem_cons hk'
    have hd2:ys.drop k=y::ys.drop (k+1):=by rw [hy];exact List.drop_eq_getElem_cons hk2
    have hg:=getD_map (f:=grantAV) (l:=xs) (k:=k) (x:=x) (by rw [List.getElem?_eq_getElem hk',hx])
    have hg2:=getD_map (f:=grantAV) (l:=ys) (k:=k) (x:=y) (by rw [List.getElem?_eq_getElem hk2,hy])
    have e5:IntKind.i64.wrap ((k:Int)+1)=((k+1:Nat):Int):=by rw [wrap_i64]<;>omega
    have hox:=ho1 x (by rw [hx];exact List.getElem_mem hk')
    have hoy:=ho2 y (by rw [hy];exact List.getElem_mem hk2)
    rw [hd,hd2] at hq
    unfold eqL at hq
    simp only [go_sem,Int.toNat_natCast,ybb,hg,hg2,grantAV,grantAV,p_zGra]
    (repeat with_reducible refine And.intro (by first | assumption | decide | omega) ?_)
    refine ⟨x,y,⟨rfl,rfl,hox,hoy⟩,?_⟩
    try simp only [go_sem]
    refine cond_split (fun hb=>?_) (fun hb=>?_)
    · have hb':eqGra x y=false:=by simpa using hb
      rw [hb',Bool.false_and] at hq
      rw [← hq]
      try simp only [go_sem]
      simp (disch:=first | assumption | omega | (simp;done) | (simp;omega) | (simp only [bt,and_true];first | done | omega | (simp;done))) [↓zmi,beq,ybc,ybd,ybe,endOk,wk,wk2,wk1,wkM,wkL,wkLL,ybf,hcl]
      first | done | repeat (first | exact AHeap.Le.refl _ | refine AHeap.Le.push ?_ _)
    · have hb':eqGra x y=true:=by simpa using hb
      rw [hb',Bool.true_and] at hq
      simp only [go_sem,e5]
      refine ⟨k+1,⟨by omega,hq⟩,by omega,by (try simp only [zky]);omega,by repeat (first | exact AHeap.Le.refl _ | refine AHeap.Le.push ?_ _),hcl,?_,?_⟩
      · simp only [ltF,zmz,and_true,true_and]
        exact ⟨hs2,hf,hs1⟩
      · simp [subW,wk2,wk1,wkM,Fr.get]
  · have hk':k=xs.length:=by simp at hc;omega
    subst hk'
    rw [List.drop_length,hlen,List.drop_length] at hq
    rw [← hq]
    simp only [go_sem,eqL]
    simp (disch:=first | assumption | omega | (simp;done) | (simp;omega) | (simp only [bt,and_true];first | done | omega | (simp;done))) [↓zmi,beq,ybc,ybd,ybe,endOk,wk,wk2,wk1,wkM,wkL,wkLL,ybf,hcl]
end Go.AL


open Go Go.AL Go.Proofs
namespace Go.AL
set_option linter.all false
set_option maxRecDepth 10000

def eqRol (a b:SRole):Bool:=(a.id==b.id)&&(a.name==b.name)&&(eqL eqGra a.grants b.grants)&&(eqL eqI a.actions b.actions)&&(a.quota==b.quota)&&(a.audit==b.audit)
theorem eqRol_refl (a:SRole):eqRol a a=true:=by simp [eqRol,eqL_refl eqI_refl,eqL_refl eqB_refl,eqL_refl eqV_refl,eqL_refl eqCas_refl,eqL_refl eqPar_refl,eqL_refl eqPri_refl,eqL_refl eqKey_refl,eqL_refl eqGra_refl]
def p_zRol:List AV→AHeap→(AV→Prop)→Prop
  | [.agg l,.agg k],_,K=>∃ x y:SRole,(.agg l=roleAV x∧.agg k=roleAV y∧CRol x∧CRol y)∧K (.bool (eqRol x y))
  | _,_,_=>False
set_option maxHeartbeats 4000000 in
theorem ok_zRol:EntOk Tryz.prog 141 (Ent.pure p_zRol):=by
  refine EntOk.pure fun args H K h=>?_
  unfold p_zRol at h
  split at h
  rotate_left
  · exact h.elim
  rename_i l k
  obtain ⟨x,y,⟨e1,e2,hx,hy⟩,hK⟩:=h
  have e1':=AV.agg.inj e1
  have e2':=AV.agg.inj e2
  subst e1'
  subst e2'
  clear e1 e2
  refine ⟨_,hK,?_⟩
  clear hK
  obtain ⟨R,hR⟩:∃ R,eqRol x y=R:=⟨_,rfl⟩
  rw [hR]
  unfold eqRol at hR
  cases h0:(x.id==y.id)
  · simp only [h0,Bool.false_and,Bool.and_false,Bool.true_and] at hR
    subst hR
    refine ACalls.of_aw (Ω:=[(254,Ent.pure p_zlGra),(130,Ent.pure p_zsInt),(252,Ent.pure p_zGra)]) (T:=assoc []) mixed (TblOk.cons ok_zlGra (TblOk.cons ok_zsInt (TblOk.cons ok_zGra TblOk.nil))) Tryz.func141 (by kernel_rfl) (by rfl) (rs:=[.tmp 4]) (by rfl) (by kernel_rfl) (by simp only [Tryz.ntmps141,yaz,yba];decide) (Nat.le_refl _) fun hcl hlt=>?_
    change aw _ _ _ (KI Tryz.prog [(254,Ent.pure p_zlGra),(130,Ent.pure p_zsInt),(252,Ent.pure p_zGra)] (aEnd Tryz.prog [.tmp 4] H.nx _ _ (assoc [])) []) _ _
    clear hlt
    simp only [go_sem,byq,p_zlGra,p_zsInt,h0,true_and,Bool.bne_false,Bool.bne_true]
    simp (disch:=first | assumption | omega | (simp;done) | (simp;omega) | (simp only [bt,and_true];first | done | omega | (simp;done))) [↓zmi,beq,ybc,ybd,ybe,endOk,wk,wk2,wk1,wkM,wkL,wkLL,ybf,hcl]
    first | done | repeat (first | exact AHeap.Le.refl _ | refine AHeap.Le.push ?_ _)
  cases h1:(x.name==y.name)
  · simp only [h0,h1,Bool.false_and,Bool.and_false,Bool.true_and] at hR
    subst hR
    refine ACalls.of_aw (Ω:=[(254,Ent.pure p_zlGra),(130,Ent.pure p_zsInt),(252,Ent.pure p_zGra)]) (T:=assoc []) mixed (TblOk.cons ok_zlGra (TblOk.cons ok_zsInt (TblOk.cons ok_zGra TblOk.nil))) Tryz.func141 (by kernel_rfl) (by rfl) (rs:=[.tmp 4]) (by rfl) (by kernel_rfl) (by simp only [Tryz.ntmps141,yaz,yba];decide) (Nat.le_refl _) fun hcl hlt=>?_
    change aw _ _ _ (KI Tryz.prog [(254,Ent.pure p_zlGra),(130,Ent.pure p_zsInt),(252,Ent.pure p_zGra)] (aEnd Tryz.prog [.tmp 4] H.nx _ _ (assoc [])) []) _ _
    clear hlt
    simp only [go_sem,byq,p_zlGra,p_zsInt,h0,h1,true_and,Bool.bne_false,Bool.bne_true]
    simp (disch:=first | assumption | omega | (simp;done) | (simp;omega) | (simp only [bt,and_true];first | done | omega | (simp;done))) [↓zmi,beq,ybc,ybd,ybe,endOk,wk,wk2,wk1,wkM,wkL,wkLL,ybf,hcl]
    first | done | repeat (first | exact AHeap.Le.refl _ | refine AHeap.Le.push ?_ _)
  cases h2:(eqL eqGra x.grants y.grants)
  · simp only [h0,h1,h2,Bool.false_and,Bool.and_false,Bool.true_and] at hR
    subst hR
    refine ACalls.of_aw (Ω:=[(254,Ent.pure p_zlGra),(130,Ent.pure p_zsInt),(252,Ent.pure p_zGra)]) (T:=assoc []) mixed (TblOk.cons ok_zlGra (TblOk.cons ok_zsInt (TblOk.cons ok_zGra TblOk.nil))) Tryz.func141 (by kernel_rfl) (by rfl) (rs:=[.tmp 4]) (by rfl) (by kernel_rfl) (by simp only [Tryz.ntmps141,yaz,yba];decide) (Nat.le_refl _) fun hcl hlt=>?_
    change aw _ _ _ (KI Tryz.prog [(254,Ent.pure p_zlGra),(130,Ent.pure p_zsInt),(252,Ent.pure p_zGra)] (aEnd Tryz.prog [.tmp 4] H.nx _ _ (assoc [])) []) _ _
    clear hlt
    simp only [go_sem,byq,p_zlGra,p_zsInt,h0,h1,h2,true_and,Bool.bne_false,Bool.bne_true]
    refine ⟨x.grants,y.grants,⟨rfl,rfl,hx.1,hy.1,hx.2.2,hy.2.2⟩,?_⟩
    try simp only [go_sem,byq,p_zlGra,p_zsInt,h0,h1,h2,true_and,Bool.bne_false,Bool.bne_true]
    simp (disch:=first | assumption | omega | (simp;done) | (simp;omega) | (simp only [bt,and_true];first | done | omega | (simp;done))) [↓zmi,beq,ybc,ybd,ybe,endOk,wk,wk2,wk1,wkM,wkL,wkLL,ybf,hcl]
    first | done | repeat (first | exact AHeap.Le.refl _ | refine AHeap.Le.push ?_ _)
  cases h3:(eqL eqI x.actions y.actions)
  · simp only [h0,h1,h2,h3,Bool.false_and,Bool.and_false,Bool.true_and] at hR
    subst hR
    refine ACalls.of_aw (Ω:=[(254,Ent.pure p_zlGra),(130,Ent.pure p_zsInt),(252,Ent.pure p_zGra)]) (T:=assoc []) mixed (TblOk.cons ok_zlGra (TblOk.cons ok_zsInt (TblOk.cons ok_zGra TblOk.nil))) Tryz.func141 (by kernel_rfl) (by rfl) (rs:=[.tmp 4]) (by rfl) (by kernel_rfl) (by simp only [Tryz.ntmps141,yaz,yba];decide) (Nat.le_refl _) fun hcl hlt=>?_
    change aw _ _ _ (KI Tryz.prog [(254,Ent.pure p_zlGra),(130,Ent.pure p_zsInt),(252,Ent.pure p_zGra)] (aEnd Tryz.prog [.tmp 4] H.nx _ _ (assoc [])) []) _ _
    clear hlt
    simp only [go_sem,byq,p_zlGra,p_zsInt,h0,h1,h2,h3,true_and,Bool.bne_false,Bool.bne_true]
    refine ⟨x.grants,y.grants,⟨rfl,rfl,hx.1,hy.1,hx.2.2,hy.2.2⟩,?_⟩
    try simp only [go_sem,byq,p_zlGra,p_zsInt,h0,h1,h2,h3,true_and,Bool.bne_false,Bool.bne_true]
    refine ⟨x.actions,y.actions,⟨rfl,rfl,hx.2.1,hy.2.1⟩,?_⟩
    try simp only [go_sem,byq,p_zlGra,p_zsInt,h0,h1,h2,h3,true_and,Bool.bne_false,Bool.bne_true]
    simp (disch:=first | assumption | omega | (simp;done) | (simp;omega) | (simp only [bt,and_true];first | done | omega | (simp;done))) [↓zmi,beq,ybc,ybd,ybe,endOk,wk,wk2,wk1,wkM,wkL,wkLL,ybf,hcl]
    first | done | repeat (first | exact AHeap.Le.refl _ | refine AHeap.Le.push ?_ _)
  cases h4:(x.quota==y.quota)
  · simp only [h0,h1,h2,h3,h4,Bool.false_and,Bool.and_false,Bool.true_and] at hR
    subst hR
    refine ACalls.of_aw (Ω:=[(254,Ent.pure p_zlGra),(130,Ent.pure p_zsInt),(252,Ent.pure p_zGra)]) (T:=assoc []) mixed (TblOk.cons ok_zlGra (TblOk.cons ok_zsInt (TblOk.cons ok_zGra TblOk.nil))) Tryz.func141 (by kernel_rfl) (by rfl) (rs:=[.tmp 4]) (by rfl) (by kernel_rfl) (by simp only [Tryz.ntmps141,yaz,yba];decide) (Nat.le_refl _) fun hcl hlt=>?_
    change aw _ _ _ (KI Tryz.prog [(254,Ent.pure p_zlGra),(130,Ent.pure p_zsInt),(252,Ent.pure p_zGra)] (aEnd Tryz.prog [.tmp 4] H.nx _ _ (assoc [])) []) _ _
    clear hlt
    simp only [go_sem,byq,p_zlGra,p_zsInt,h0,h1,h2,h3,h4,true_and,Bool.bne_false,Bool.bne_true]
    refine ⟨x.grants,y.grants,⟨rfl,rfl,hx.1,hy.1,hx.2.2,hy.2.2⟩,?_⟩
    try simp only [go_sem,byq,p_zlGra,p_zsInt,h0,h1,h2,h3,h4,true_and,Bool.bne_false,Bool.bne_true]
    refine ⟨x.actions,y.actions,⟨rfl,rfl,hx.2.1,hy.2.1⟩,?_⟩
    try simp only [go_sem,byq,p_zlGra,p_zsInt,h0,h1,h2,h3,h4,true_and,Bool.bne_false,Bool.bne_true]
    simp (disch:=first | assumption | omega | (simp;done) | (simp;omega) | (simp only [bt,and_true];first | done | omega | (simp;done))) [↓zmi,beq,ybc,ybd,ybe,endOk,wk,wk2,wk1,wkM,wkL,wkLL,ybf,hcl]
    first | done | repeat (first | exact AHeap.Le.refl _ | refine AHeap.Le.push ?_ _)
  cases h5:(x.audit==y.audit)
  · simp only [h0,h1,h2,h3,h4,h5,Bool.false_and,Bool.and_false,Bool.true_and] at hR
    subst hR
    refine ACalls.of_aw (Ω:=[(254,Ent.pure p_zlGra),(130,Ent.pure p_zsInt),(252,Ent.pure p_zGra)]) (T:=assoc []) mixed (TblOk.cons ok_zlGra (TblOk.cons ok_zsInt (TblOk.cons ok_zGra TblOk.nil))) Tryz.func141 (by kernel_rfl) (by rfl) (rs:=[.tmp 4]) (by rfl) (by kernel_rfl) (by simp only [Tryz.ntmps141,yaz,yba];decide) (Nat.le_refl _) fun hcl hlt=>?_
    change aw _ _ _ (KI Tryz.prog [(254,Ent.pure p_zlGra),(130,Ent.pure p_zsInt),(252,Ent.pure p_zGra)] (aEnd Tryz.prog [.tmp 4] H.nx _ _ (assoc [])) []) _ _
    clear hlt
    simp only [go_sem,byq,p_zlGra,p_zsInt,h0,h1,h2,h3,h4,h5,true_and,Bool.bne_false,Bool.bne_true]
    refine ⟨x.grants,y.grants,⟨rfl,rfl,hx.1,hy.1,hx.2.2,hy.2.2⟩,?_⟩
    try simp only [go_sem,byq,p_zlGra,p_zsInt,h0,h1,h2,h3,h4,h5,true_and,Bool.bne_false,Bool.bne_true]
    refine ⟨x.actions,y.actions,⟨rfl,rfl,hx.2.1,hy.2.1⟩,?_⟩
    try simp only [go_sem,byq,p_zlGra,p_zsInt,h0,h1,h2,h3,h4,h5,true_and,Bool.bne_false,Bool.bne_true]
    simp (disch:=first | assumption | omega | (simp;done) | (simp;omega) | (simp only [bt,and_true];first | done | omega | (simp;done))) [↓zmi,beq,ybc,ybd,ybe,endOk,wk,wk2,wk1,wkM,wkL,wkLL,ybf,hcl]
    first | done | repeat (first | exact AHeap.Le.refl _ | refine AHeap.Le.push ?_ _)
  simp only [h0,h1,h2,h3,h4,h5,Bool.true_and] at hR
  subst hR
  refine ACalls.of_aw (Ω:=[(254,Ent.pure p_zlGra),(130,Ent.pure p_zsInt),(252,Ent.pure p_zGra)]) (T:=assoc []) mixed (TblOk.cons ok_zlGra (TblOk.cons ok_zsInt (TblOk.cons ok_zGra TblOk.nil))) Tryz.func141 (by kernel_rfl) (by rfl) (rs:=[.tmp 4]) (by rfl) (by kernel_rfl) (by simp only [Tryz.ntmps141,yaz,yba];decide) (Nat.le_refl _) fun hcl hlt=>?_
  change aw _ _ _ (KI Tryz.prog [(254,Ent.pure p_zlGra),(130,Ent.pure p_zsInt),(252,Ent.pure p_zGra)] (aEnd Tryz.prog [.tmp 4] H.nx _ _ (assoc [])) []) _ _
  clear hlt
  simp only [go_sem,byq,p_zlGra,p_zsInt,h0,h1,h2,h3,h4,h5,true_and,Bool.bne_false,Bool.bne_true]
  refine ⟨x.grants,y.grants,⟨rfl,rfl,hx.1,hy.1,hx.2.2,hy.2.2⟩,?_⟩
  try simp only [go_sem,byq,p_zlGra,p_zsInt,h0,h1,h2,h3,h4,h5,true_and,Bool.bne_false,Bool.bne_true]
  refine ⟨x.actions,y.actions,⟨rfl,rfl,hx.2.1,hy.2.1⟩,?_⟩
  try simp only [go_sem,byq,p_zlGra,p_zsInt,h0,h1,h2,h3,h4,h5,true_and,Bool.bne_false,Bool.bne_true]
  simp (disch:=first | assumption | omega | (simp;done) | (simp;omega) | (simp only [bt,and_true];first | done | omega | (simp;done))) [↓zmi,beq,ybc,ybd,ybe,endOk,wk,wk2,wk1,wkM,wkL,wkLL,ybf,hcl]
  first | done | repeat (first | exact AHeap.Le.refl _ | refine AHeap.Le.push ?_ _)
def p_zlHdr:List AV→AHeap→(AV→Prop)→Prop
  | [.slice _ 3 l,.slice _ 3 k,.func (.func 129) [] []],_,K=>∃ xs ys:List (SHeader),(l=xs.map headerAV∧k=ys.map headerAV∧xs.length≤140737488355328∧ys.length≤140737488355328∧(∀ x∈xs,(CHdr) x)∧∀ x∈ys,(CHdr) x)∧K (.bool (eqL eqHdr xs ys))
  | _,_,_=>False
set_option maxHeartbeats 2000000 in
theorem ok_zlHdr:EntOk Tryz.prog 132 (Ent.pure p_zlHdr):=by
  refine EntOk.pure fun args H K h=>?_
  unfold p_zlHdr at h
  split at h
  rotate_left
  · exact h.elim
  rename_i m1 l m2 k
  obtain ⟨xs,ys,⟨rfl,rfl,hl1,hl2,ho1,ho2⟩,hK⟩:=h
  refine ⟨_,hK,?_⟩
  clear hK
  obtain ⟨R,hR⟩:∃ R,eqL eqHdr xs ys=R:=⟨_,rfl⟩
  rw [hR]
  by_cases hlen:xs.length=ys.length
  case neg =>
    rw [eqL_len hlen] at hR
    subst hR
    have d0:((xs.length:Int) != (ys.length:Int))=true:=by rw [bne_iff_ne];omega
    refine ACalls.of_aw (Ω:=[(129,Ent.pure p_zHdr)]) (T:=assoc []) mixed (TblOk.cons ok_zHdr TblOk.nil) Tryz.func132 (by kernel_rfl) (by rfl) (rs:=[.tmp 6]) (by rfl) (by kernel_rfl) (by simp only [Tryz.ntmps132,yaz,yba];decide) (Nat.le_refl _) fun hcl hlt=>?_
    change aw _ _ _ (KI Tryz.prog [(129,Ent.pure p_zHdr)] (aEnd Tryz.prog [.tmp 6] H.nx _ _ (assoc [])) []) _ _
    clear hlt
    simp only [go_sem,ybb,d0]
    simp (disch:=first | assumption | omega | (simp;done) | (simp;omega) | (simp only [bt,and_true];first | done | omega | (simp;done))) [↓zmi,beq,ybc,ybd,ybe,endOk,wk,wk2,wk1,wkM,wkL,wkLL,ybf,hcl]
  have d0:((xs.length:Int) != (ys.length:Int))=false:=by rw [hlen];simp
  refine ACalls.of_aw (Ω:=[(129,Ent.pure p_zHdr)]) (T:=assoc []) mixed (TblOk.cons ok_zHdr TblOk.nil) Tryz.func132 (by kernel_rfl) (by rfl) (rs:=[.tmp 6]) (by rfl) (by kernel_rfl) (by simp only [Tryz.ntmps132,yaz,yba];decide) (Nat.le_refl _) fun hcl hlt=>?_
  change aw _ _ _ (KI Tryz.prog [(129,Ent.pure p_zHdr)] (aEnd Tryz.prog [.tmp 6] H.nx _ _ (assoc [])) []) _ _
  have hs1:=hlt (.slice m1 3 (xs.map headerAV)) (by simp)
  have hs2:=hlt (.slice m2 3 (ys.map headerAV)) (by simp)
  have hf:AV.lt H.nx (.func (.func 129) [] []):=hlt _ (by simp)
  clear hlt
  simp only [go_sem,ybb,d0]
  refine loop_introW (A:=Nat) (fun k=>[(1,.slice m2 3 (ys.map headerAV)),(2,.func (.func 129) [] []),(15,.slice m1 3 (xs.map headerAV)),(16,.int .i64 (xs.length:Int)),(17,.int .i64 (k:Int))]) (fun _=>H) (fun k=>k≤xs.length∧eqL eqHdr (xs.drop k) (ys.drop k)=R) (fun k=>xs.length - k) 0 ⟨by omega,hR⟩ ?_ fun k hk=>?_
  · refine ⟨by simp only [zkk,zkp];omega,AHeap.Le.refl _,hcl,?_,?_⟩
    · simp only [ltF,zmz,and_true,true_and]
      exact ⟨hs2,hf,hs1⟩
    · simp [subW,wk2,wk1,wkM,Fr.get]
  obtain ⟨hk,hq⟩:=hk
  simp only [go_sem]
  refine cond_split (fun hc=>?_) (fun hc=>?_)
  · have hk':k<xs.length:=by simp at hc;omega
    have hk2:k<ys.length:=by omega
    obtain ⟨x,hx⟩:∃ x,x=xs[k]:=⟨_,rfl⟩
    obtain ⟨y,hy⟩:∃ y,y=ys[k]:=⟨_,rfl⟩
    have hd:xs.drop k=x::xs.drop (k+1):=by rw [hx];exact List.drop_eq_getElem_cons hk'
    have hd2:ys.drop k=y::ys.drop (k+1):=by rw [hy];exact List.drop_eq_getElem_cons hk2
    have hg:=getD_map (f:=headerAV) (l:=xs) (k:=k) (x:=x) (by rw [List.getElem?_eq_getElem hk',hx])
    have hg2:=getD_map (f:=headerAV) (l:=ys) (k:=k) (x:=y) (by rw [List.getElem?_eq_getElem hk2,hy])
    have e5:IntKind.i64.wrap ((k:Int)+1)=((k+1:Nat):Int):=by rw [wrap_i64]<;>omega
    have hox:=ho1 x (by rw [hx];exact List.getElem_mem hk')
    have hoy:=ho2 y (by rw [hy];exact List.getElem_mem hk2)
    rw [hd,hd2] at hq
    unfold eqL at hq
    simp only [go_sem,Int.toNat_natCast,ybb,hg,hg2,headerAV,headerAV,p_zHdr]
    (repeat with_reducible refine And.intro (by first | assumption | decide | omega) ?_)
    refine ⟨x,y,⟨rfl,rfl,hox,hoy⟩,?_⟩
    try simp only [go_sem]
    refine cond_split (fun hb=>?_) (fun hb=>?_)
    · have hb':eqHdr x y=false:=by simpa using hb
      rw [hb',Bool.false_and] at hq
      rw [← hq]
      try simp only [go_sem]
      simp (disch:=first | assumption | omega | (simp;done) | (simp;omega) | (simp only [bt,and_true];first | done | omega | (simp;done))) [↓zmi,beq,ybc,ybd,ybe,endOk,wk,wk2,wk1,wkM,wkL,wkLL,ybf,hcl]
      first | done | repeat (first | exact AHeap.Le.refl _ | refine AHeap.Le.push ?_ _)
    · have hb':eqHdr x y=true:=by simpa using hb
      rw [hb',Bool.true_and] at hq
      simp only [go_sem,e5]
      refine ⟨k+1,⟨by omega,hq⟩,by omega,by (try simp only [zky]);omega,by repeat (first | exact AHeap.Le.refl _ | refine AHeap.Le.push ?_ _),hcl,?_,?_⟩
      · simp only [ltF,zmz,and_true,true_and]
        exact ⟨hs2,hf,hs1⟩
      · simp [subW,wk2,wk1,wkM,Fr.get]
  · have hk':k=xs.length:=by simp at hc;omega
    subst hk'
    rw [List.drop_length,hlen,List.drop_length] at hq
    rw [← hq]
    simp only [go_sem,eqL]
    simp (disch:=first | assumption | omega | (simp;done) | (simp;omega) | (simp only [bt,and_true];first | done | omega | (simp;done))) [↓zmi,beq,ybc,ybd,ybe,endOk,wk,wk2,wk1,wkM,wkL,wkLL,ybf,hcl]
def p_zlSta:List AV→AHeap→(AV→Prop)→Prop
  | [.slice _ 5 l,.slice _ 5 k,.func (.func 134) [] []],_,K=>∃ xs ys:List (SState),(l=xs.map stateAV∧k=ys.map stateAV∧xs.length≤140737488355328∧ys.length≤140737488355328∧(∀ x∈xs,(CSta) x)∧∀ x∈ys,(CSta) x)∧K (.bool (eqL eqSta xs ys))
  | _,_,_=>False
set_option maxHeartbeats 2000000 in
theorem ok_zlSta:EntOk Tryz.prog 133 (Ent.pure p_zlSta):=by
  refine EntOk.pure fun args H K h=>?_
  unfold p_zlSta at h
  split at h
  rotate_left
  · exact h.elim
  rename_i m1 l m2 k
  obtain ⟨xs,ys,⟨rfl,rfl,hl1,hl2,ho1,ho2⟩,hK⟩:=h
  refine ⟨_,hK,?_⟩
  clear hK
  obtain ⟨R,hR⟩:∃ R,eqL eqSta xs ys=R:=⟨_,rfl⟩
  rw [hR]
  by_cases hlen:xs.length=ys.length
  case neg =>
    rw [eqL_len hlen] at hR
    subst hR
    have d0:((xs.length:Int) != (ys.length:Int))=true:=by rw [bne_iff_ne];omega
    refine ACalls.of_aw (Ω:=[(134,Ent.pure p_zSta)]) (T:=assoc []) mixed (TblOk.cons ok_zSta TblOk.nil) Tryz.func133 (by kernel_rfl) (by rfl) (rs:=[.tmp 6]) (by rfl) (by kernel_rfl) (by simp only [Tryz.ntmps133,yaz,yba];decide) (Nat.le_refl _) fun hcl hlt=>?_
    change aw _ _ _ (KI Tryz.prog [(134,Ent.pure p_zSta)] (aEnd Tryz.prog [.tmp 6] H.nx _ _ (assoc [])) []) _ _
    clear hlt
    simp only [go_sem,ybb,d0]
    simp (disch:=first | assumption | omega | (simp;done) | (simp;omega) | (simp only [bt,and_true];first | done | omega | (simp;done))) [↓zmi,beq,ybc,ybd,ybe,endOk,wk,wk2,wk1,wkM,wkL,wkLL,ybf,hcl]
  have d0:((xs.length:Int) != (ys.length:Int))=false:=by rw [hlen];simp
  refine ACalls.of_aw (Ω:=[(134,Ent.pure p_zSta)]) (T:=assoc []) mixed (TblOk.cons ok_zSta TblOk.nil) Tryz.func133 (by kernel_rfl) (by rfl) (rs:=[.tmp 6]) (by rfl) (by kernel_rfl) (by simp only [Tryz.ntmps133,yaz,yba];decide) (Nat.le_refl _) fun hcl hlt=>?_
  change aw _ _ _ (KI Tryz.prog [(134,Ent.pure p_zSta)] (aEnd Tryz.prog [.tmp 6] H.nx _ _ (assoc [])) []) _ _
  have hs1:=hlt (.slice m1 5 (xs.map stateAV)) (by simp)
  have hs2:=hlt (.slice m2 5 (ys.map stateAV)) (by simp)
  have hf:AV.lt H.nx (.func (.func 134) [] []):=hlt _ (by simp)
  clear hlt
  simp only [go_sem,ybb,d0]
  refine loop_introW (A:=Nat) (fun k=>[(1,.slice m2 5 (ys.map stateAV)),(2,.func (.func 134) [] []),(15,.slice m1 5 (xs.map stateAV)),(16,.int .i64 (xs.length:Int)),(17,.int .i64 (k:Int))]) (fun _=>H) (fun k=>k≤xs.length∧eqL eqSta (xs.drop k) (ys.drop k)=R) (fun k=>xs.length - k) 0 ⟨by omega,hR⟩ ?_ fun k hk=>?_
  · refine ⟨by simp only [zkk,zkp];omega,AHeap.Le.refl _,hcl,?_,?_⟩
    · simp only [ltF,zmz,and_true,true_and]
      exact ⟨hs2,hf,hs1⟩
    · simp [subW,wk2,wk1,wkM,Fr.get]
  obtain ⟨hk,hq⟩:=hk
  simp only [go_sem]
  refine cond_split (fun hc=>?_) (fun hc=>?_)
  · have hk':k<xs.length:=by simp at hc;omega
    have hk2:k<ys.length:=by omega
    obtain ⟨x,hx⟩:∃ x,x=xs[k]:=⟨_,rfl⟩
    obtain ⟨y,hy⟩:∃ y,y=ys[k]:=⟨_,rfl⟩
    have hd:xs.drop k=x::xs.drop (k+1):=by rw [hx];exact List.drop_eq_getElem_cons hk'
    have hd2:ys.drop k=y::ys.drop (k+1):=by rw [hy];exact List.drop_eq_getElem_cons hk2
    have hg:=getD_map (f:=stateAV) (l:=xs) (k:=k) (x:=x) (by rw [List.getElem?_eq_getElem hk',hx])
    have hg2:=getD_map (f:=stateAV) (l:=ys) (k:=k) (x:=y) (by rw [List.getElem?_eq_getElem hk2,hy])
    have e5:IntKind.i64.wrap ((k:Int)+1)=((k+1:Nat):Int):=by rw [wrap_i64]<;>omega
    have hox:=ho1 x (by rw [hx];exact List.getElem_mem hk')
    have hoy:=ho2 y (by rw [hy];exact List.getElem_mem hk2)
    rw [hd,hd2] at hq
    unfold eqL at hq
    simp only [go_sem,Int.toNat_natCast,ybb,hg,hg2,stateAV,stateAV,p_zSta]
    (repeat with_reducible refine And.intro (by first | assumption | decide | omega) ?_)
    refine ⟨x,y,⟨rfl,rfl,hox,hoy⟩,?_⟩
    try simp only [go_sem]
    refine cond_split (fun hb=>?_) (fun hb=>?_)
    · have hb':eqSta x y=false:=by simpa using hb
      rw [hb',Bool.false_and] at hq
      rw [← hq]
      try simp only [go_sem]
      simp (disch:=first | assumption | omega | (simp;done) | (simp;omega) | (simp only [bt,and_true];first | done | omega | (simp;done))) [↓zmi,beq,ybc,ybd,ybe,endOk,wk,wk2,wk1,wkM,wkL,wkLL,ybf,hcl]
      first | done | repeat (first | exact AHeap.Le.refl _ | refine AHeap.Le.push ?_ _)
    · have hb':eqSta x y=true:=by simpa using hb
      rw [hb',Bool.true_and] at hq
      simp only [go_sem,e5]
      refine ⟨k+1,⟨by omega,hq⟩,by omega,by (try simp only [zky]);omega,by repeat (first | exact AHeap.Le.refl _ | refine AHeap.Le.push ?_ _),hcl,?_,?_⟩
      · simp only [ltF,zmz,and_true,true_and]
        exact ⟨hs2,hf,hs1⟩
      · simp [subW,wk2,wk1,wkM,Fr.get]
  · have hk':k=xs.length:=by simp at hc;omega
    subst hk'
    rw [List.drop_length,hlen,List.drop_length] at hq
    rw [← hq]
    simp only [go_sem,eqL]
    simp (disch:=first | assumption | omega | (simp;done) | (simp;omega) | (simp only [bt,and_true];first | done | omega | (simp;done))) [↓zmi,beq,ybc,ybd,ybe,endOk,wk,wk2,wk1,wkM,wkL,wkLL,ybf,hcl]
def p_zlAct:List AV→AHeap→(AV→Prop)→Prop
  | [.slice _ 5 l,.slice _ 5 k,.func (.func 136) [] []],_,K=>∃ xs ys:List (SAction),(l=xs.map actionAV∧k=ys.map actionAV∧xs.length≤140737488355328∧ys.length≤140737488355328∧(∀ x∈xs,(CAct) x)∧∀ x∈ys,(CAct) x)∧K (.bool (eqL eqAct xs ys))
  | _,_,_=>False
set_option maxHeartbeats 2000000 in
theorem ok_zlAct:EntOk Tryz.prog 135 (Ent.pure p_zlAct):=by
  refine EntOk.pure fun args H K h=>?_
  unfold p_zlAct at h
  split at h
  rotate_left
  · exact h.elim
  rename_i m1 l m2 k
  obtain ⟨xs,ys,⟨rfl,rfl,hl1,hl2,ho1,ho2⟩,hK⟩:=h
  refine ⟨_,hK,?_⟩
  clear hK
  obtain ⟨R,hR⟩:∃ R,eqL eqAct xs ys=R:=⟨_,rfl⟩
  rw [hR]
  by_cases hlen:xs.length=ys.length
  case neg =>
    rw [eqL_len hlen] at hR
    subst hR
    have d0:((xs.length:Int) != (ys.length:Int))=true:=by rw [bne_iff_ne];omega
    refine ACalls.of_aw (Ω:=[(136,Ent.pure p_zAct)]) (T:=assoc []) mixed (TblOk.cons ok_zAct TblOk.nil) Tryz.func135 (by kernel_rfl) (by rfl) (rs:=[.tmp 6]) (by rfl) (by kernel_rfl) (by simp only [Tryz.ntmps135,yaz,yba];decide) (Nat.le_refl _) fun hcl hlt=>?_
    change aw _ _ _ (KI Tryz.prog [(136,Ent.pure p_zAct)] (aEnd Tryz.prog [.tmp 6] H.nx _ _ (assoc [])) []) _ _
    clear hlt
    simp only [go_sem,ybb,d0]
    simp (disch:=first | assumption | omega | (simp;done) | (simp;omega) | (simp only [bt,and_true];first | done | omega | (simp;done))) [↓zmi,beq,ybc,ybd,ybe,endOk,wk,wk2,wk1,wkM,wkL,wkLL,ybf,hcl]
  have d0:((xs.length:Int) != (ys.length:Int))=false:=by rw [hlen];simp
  refine ACalls.of_aw (Ω:=[(136,Ent.pure p_zAct)]) (T:=assoc []) mixed (TblOk.cons ok_zAct TblOk.nil) Tryz.func135 (by kernel_rfl) (by rfl) (rs:=[.tmp 6]) (by rfl) (by kernel_rfl) (by simp only [Tryz.ntmps135,yaz,yba];decide) (Nat.le_refl _) fun hcl hlt=>?_
  change aw _ _ _ (KI Tryz.prog [(136,Ent.pure p_zAct)] (aEnd Tryz.prog [.tmp 6] H.nx _ _ (assoc [])) []) _ _
  have hs1:=hlt (.slice m1 5 (xs.map actionAV)) (by simp)
  have hs2:=hlt (.slice m2 5 (ys.map actionAV)) (by simp)
  have hf:AV.lt H.nx (.func (.func 136) [] []):=hlt _ (by simp)
  clear hlt
  simp only [go_sem,ybb,d0]
  refine loop_introW (A:=Nat) (fun k=>[(1,.slice m2 5 (ys.map actionAV)),(2,.func (.func 136) [] []),(15,.slice m1 5 (xs.map actionAV)),(16,.int .i64 (xs.length:Int)),(17,.int .i64 (k:Int))]) (fun _=>H) (fun k=>k≤xs.length∧eqL eqAct (xs.drop k) (ys.drop k)=R) (fun k=>xs.length - k) 0 ⟨by omega,hR⟩ ?_ fun k hk=>?_
  · refine ⟨by simp only [zkk,zkp];omega,AHeap.Le.refl _,hcl,?_,?_⟩
    · simp only [ltF,zmz,and_true,true_and]
      exact ⟨hs2,hf,hs1⟩
    · simp [subW,wk2,wk1,wkM,Fr.get]
  obtain ⟨hk,hq⟩:=hk
  simp only [go_sem]
  refine cond_split (fun hc=>?_) (fun hc=>?_)
  · have hk':k<xs.length:=by simp at hc;omega
    have hk2:k<ys.length:=by omega
    obtain ⟨x,hx⟩:∃ x,x=xs[k]:=⟨_,rfl⟩
    obtain ⟨y,hy⟩:∃ y,y=ys[k]:=⟨_,rfl⟩
    have hd:xs.drop k=x::xs.drop (k+1):=by rw [hx];exact List.drop_eq_getElem_cons hk'
    have hd2:ys.drop k=y::ys.drop (k+1):=by rw [hy];exact List.drop_eq_getElem_cons hk2
    have hg:=getD_map (f:=actionAV) (l:=xs) (k:=k) (x:=x) (by rw [List.getElem?_eq_getElem hk',hx])
    have hg2:=getD_map (f:=actionAV) (l:=ys) (k:=k) (x:=y) (by rw [List.getElem?_eq_getElem hk2,hy])
    have e5:IntKind.i64.wrap ((k:Int)+1)=((k+1:Nat):Int):=by rw [wrap_i64]<;>omega
    have hox:=ho1 x (by rw [hx];exact List.getElem_mem hk')
    have hoy:=ho2 y (by rw [hy];exact List.getElem_mem hk2)
    rw [hd,hd2] at hq
    unfold eqL at hq
    simp only [go_sem,Int.toNat_natCast,ybb,hg,hg2,actionAV,actionAV,p_zAct]
    (repeat with_reducible refine And.intro (by first | assumption | decide | omega) ?_)
    refine ⟨x,y,⟨rfl,rfl,hox,hoy⟩,?_⟩
    try simp only [go_sem]
    refine cond_split (fun hb=>?_) (fun hb=>?_)
    · have hb':eqAct x y=false:=by simpa using hb
      rw [hb',Bool.false_and] at hq
      rw [← hq]
      try simp only [go_sem]
      simp (disch:=first | assumption | omega | (simp;done) | (simp;omega) | (simp only [bt,and_true];first | done | omega | (simp;done))) [↓zmi,beq,ybc,ybd,ybe,endOk,wk,wk2,wk1,wkM,wkL,wkLL,ybf,hcl]
      first | done | repeat (first | exact AHeap.Le.refl _ | refine AHeap.Le.push ?_ _)
    · have hb':eqAct x y=true:=by simpa using hb
      rw [hb',Bool.true_and] at hq
      simp only [go_sem,e5]
      refine ⟨k+1,⟨by omega,hq⟩,by omega,by (try simp only [zky]);omega,by repeat (first | exact AHeap.Le.refl _ | refine AHeap.Le.push ?_ _),hcl,?_,?_⟩
      · simp only [ltF,zmz,and_true,true_and]
        exact ⟨hs2,hf,hs1⟩
      · simp [subW,wk2,wk1,wkM,Fr.get]
  · have hk':k=xs.length:=by simp at hc;omega
    subst hk'
    rw [List.drop_length,hlen,List.drop_length] at hq
    rw [← hq]
    simp only [go_sem,eqL]
    simp (disch:=first | assumption | omega | (simp;done) | (simp;omega) | (simp only [bt,and_true];first | done | omega | (simp;done))) [↓zmi,beq,ybc,ybd,ybe,endOk,wk,wk2,wk1,wkM,wkL,wkLL,ybf,hcl]
def p_zlTab:List AV→AHeap→(AV→Prop)→Prop
  | [.slice _ 8 l,.slice _ 8 k,.func (.func 138) [] []],_,K=>∃ xs ys:List (STable),(l=xs.map tableAV∧k=ys.map tableAV∧xs.length≤140737488355328∧ys.length≤140737488355328∧(∀ x∈xs,(CTab) x)∧∀ x∈ys,(CTab) x)∧K (.bool (eqL eqTab xs ys))
  | _,_,_=>False
set_option maxHeartbeats 2000000 in
theorem ok_zlTab:EntOk Tryz.prog 137 (Ent.pure p_zlTab):=by
  refine EntOk.pure fun args H K h=>?_
  unfold p_zlTab at h
  split at h
  rotate_left
  · exact h.elim
  rename_i m1 l m2 k
  obtain ⟨xs,ys,⟨rfl,rfl,hl1,hl2,ho1,ho2⟩,hK⟩:=h
  refine ⟨_,hK,?_⟩
  clear hK
  obtain ⟨R,hR⟩:∃ R,eqL eqTab xs ys=R:=⟨_,rfl⟩
  rw [hR]
  by_cases hlen:xs.length=ys.length
  case neg =>
    rw [eqL_len hlen] at hR
    subst hR
    have d0:((xs.length:Int) != (ys.length:Int))=true:=by rw [bne_iff_ne];omega
    refine ACalls.of_aw (Ω:=[(138,Ent.pure p_zTab)]) (T:=assoc []) mixed (TblOk.cons ok_zTab TblOk.nil) Tryz.func137 (by kernel_rfl) (by rfl) (rs:=[.tmp 6]) (by rfl) (by kernel_rfl) (by simp only [Tryz.ntmps137,yaz,yba];decide) (Nat.le_refl _) fun hcl hlt=>?_
    change aw _ _ _ (KI Tryz.prog [(138,Ent.pure p_zTab)] (aEnd Tryz.prog [.tmp 6] H.nx _ _ (assoc [])) []) _ _
    clear hlt
    simp only [go_sem,ybb,d0]
    simp (disch:=first | assumption | omega | (simp;done) | (simp;omega) | (simp only [bt,and_true];first | done | omega | (simp;done))) [↓zmi,beq,ybc,ybd,ybe,endOk,wk,wk2,wk1,wkM,wkL,wkLL,ybf,hcl]
  have d0:((xs.length:Int) != (ys.length:Int))=false:=by rw [hlen];simp
  refine ACalls.of_aw (Ω:=[(138,Ent.pure p_zTab)]) (T:=assoc []) mixed (TblOk.cons ok_zTab TblOk.nil) Tryz.func137 (by kernel_rfl) (by rfl) (rs:=[.tmp 6]) (by rfl) (by kernel_rfl) (by simp only [Tryz.ntmps137,yaz,yba];decide) (Nat.le_refl _) fun hcl hlt=>?_
  change aw _ _ _ (KI Tryz.prog [(138,Ent.pure p_zTab)] (aEnd Tryz.prog [.tmp 6] H.nx _ _ (assoc [])) []) _ _
  have hs1:=hlt (.slice m1 8 (xs.map tableAV)) (by simp)
  have hs2:=hlt (.slice m2 8 (ys.map tableAV)) (by simp)
  have hf:AV.lt H.nx (.func (.func 138) [] []):=hlt _ (by simp)
  clear hlt
  simp only [go_sem,ybb,d0]
  refine loop_introW (A:=Nat) (fun k=>[(1,.slice m2 8 (ys.map tableAV)),(2,.func (.func 138) [] []),(15,.slice m1 8 (xs.map tableAV)),(16,.int .i64 (xs.length:Int)),(17,.int .i64 (k:Int))]) (fun _=>H) (fun k=>k≤xs.length∧eqL eqTab (xs.drop k) (ys.drop k)=R) (fun k=>xs.length - k) 0 ⟨by omega,hR⟩ ?_ fun k hk=>?_
  · refine ⟨by simp only [zkk,zkp];omega,AHeap.Le.refl _,hcl,?_,?_⟩
    · simp only [ltF,zmz,and_true,true_and]
      exact ⟨hs2,hf,hs1⟩
    · simp [subW,wk2,wk1,wkM,Fr.get]
  obtain ⟨hk,hq⟩:=hk
  simp only [go_sem]
  refine cond_split (fun hc=>?_) (fun hc=>?_)
  · have hk':k<xs.length:=by simp at hc;omega
    have hk2:k<ys.length:=by omega
    obtain ⟨x,hx⟩:∃ x,x=xs[k]:=⟨_,rfl⟩
    obtain ⟨y,hy⟩:∃ y,y=ys[k]:=⟨_,rfl⟩
    have hd:xs.drop k=x::xs.drop (k+1):=by rw [hx];exact List.drop_eq_getElem_cons hk'
    have hd2:ys.drop k=y::ys.drop (k+1):=by rw [hy];exact List.drop_eq_getElem_cons hk2
    have hg:=getD_map (f:=tableAV) (l:=xs) (k:=k) (x:=x) (by rw [List.getElem?_eq_getElem hk',hx])
    have hg2:=getD_map (f:=tableAV) (l:=ys) (k:=k) (x:=y) (by rw [List.getElem?_eq_getElem hk2,hy])
    have e5:IntKind.i64.wrap ((k:Int)+1)=((k+1:Nat):Int):=by rw [wrap_i64]<;>omega
    have hox:=ho1 x (by rw [hx];exact List.getElem_mem hk')
    have hoy:=ho2 y (by rw [hy];exact List.getElem_mem hk2)
    rw [hd,hd2] at hq
    unfold eqL at hq
    simp only [go_sem,Int.toNat_natCast,ybb,hg,hg2,tableAV,tableAV,p_zTab]
    (repeat with_reducible refine And.intro (by first | assumption | decide | omega) ?_)
    refine ⟨x,y,⟨rfl,rfl,hox,hoy⟩,?_⟩
    try simp only [go_sem]
    refine cond_split (fun hb=>?_) (fun hb=>?_)
    · have hb':eqTab x y=false:=by simpa using hb
      rw [hb',Bool.false_and] at hq
      rw [← hq]
      try simp only [go_sem]
      simp (disch:=first | assumption | omega | (simp;done) | (simp;omega) | (simp only [bt,and_true];first | done | omega | (simp;done))) [↓zmi,beq,ybc,ybd,ybe,endOk,wk,wk2,wk1,wkM,wkL,wkLL,ybf,hcl]
      first | done | repeat (first | exact AHeap.Le.refl _ | refine AHeap.Le.push ?_ _)
    · have hb':eqTab x y=true:=by simpa using hb
      rw [hb',Bool.true_and] at hq
      simp only [go_sem,e5]
      refine ⟨k+1,⟨by omega,hq⟩,by omega,by (try simp only [zky]);omega,by repeat (first | exact AHeap.Le.refl _ | refine AHeap.Le.push ?_ _),hcl,?_,?_⟩
      · simp only [ltF,zmz,and_true,true_and]
        exact ⟨hs2,hf,hs1⟩
      · simp [subW,wk2,wk1,wkM,Fr.get]
  · have hk':k=xs.length:=by simp at hc;omega
    subst hk'
    rw [List.drop_length,hlen,List.drop_length] at hq
    rw [← hq]
    simp only [go_sem,eqL]
    simp (disch:=first | assumption | omega | (simp;done) | (simp;omega) | (simp only [bt,and_true];first | done | omega | (simp;done))) [↓zmi,beq,ybc,ybd,ybe,endOk,wk,wk2,wk1,wkM,wkL,wkLL,ybf,hcl]
def p_zlRol:List AV→AHeap→(AV→Prop)→Prop
  | [.slice _ 6 l,.slice _ 6 k,.func (.func 141) [] []],_,K=>∃ xs ys:List (SRole),(l=xs.map roleAV∧k=ys.map roleAV∧xs.length≤140737488355328∧ys.length≤140737488355328∧(∀ x∈xs,(CRol) x)∧∀ x∈ys,(CRol) x)∧K (.bool (eqL eqRol xs ys))
  | _,_,_=>False
set_option maxHeartbeats 2000000 in
theorem ok_zlRol:EntOk Tryz.prog 140 (Ent.pure p_zlRol):=by
  refine EntOk.pure fun args H K h=>?_
  unfold p_zlRol at h
  split at h
  rotate_left
  · exact h.elim
  rename_i m1 l m2 k
  obtain ⟨xs,ys,⟨rfl,rfl,hl1,hl2,ho1,ho2⟩,hK⟩:=h
  refine ⟨_,hK,?_⟩
  clear hK
  obtain ⟨R,hR⟩:∃ R,eqL eqRol xs ys=R:=⟨_,rfl⟩
  rw [hR]
  by_cases hlen:xs.length=ys.length
  case neg =>
    rw [eqL_len hlen] at hR
    subst hR
    have d0:((xs.length:Int) != (ys.length:Int))=true:=by rw [bne_iff_ne];omega
    refine ACalls.of_aw (Ω:=[(141,Ent.pure p_zRol)]) (T:=assoc []) mixed (TblOk.cons ok_zRol TblOk.nil) Tryz.func140 (by kernel_rfl) (by rfl) (rs:=[.tmp 6]) (by rfl) (by kernel_rfl) (by simp only [Tryz.ntmps140,yaz,yba];decide) (Nat.le_refl _) fun hcl hlt=>?_
    change aw _ _ _ (KI Tryz.prog [(141,Ent.pure p_zRol)] (aEnd Tryz.prog [.tmp 6] H.nx _ _ (assoc [])) []) _ _
    clear hlt
    simp only [go_sem,ybb,d0]
    simp (disch:=first | assumption | omega | (simp;done) | (simp;omega) | (simp only [bt,and_true];first | done | omega | (simp;done))) [↓zmi,beq,ybc,ybd,ybe,endOk,wk,wk2,wk1,wkM,wkL,wkLL,ybf,hcl]
  have d0:((xs.length:Int) != (ys.length:Int))=false:=by rw [hlen];simp
  refine ACalls.of_aw (Ω:=[(141,Ent.pure p_zRol)]) (T:=assoc []) mixed (TblOk.cons ok_zRol TblOk.nil) Tryz.func140 (by kernel_rfl) (by rfl) (rs:=[.tmp 6]) (by rfl) (by kernel_rfl) (by simp only [Tryz.ntmps140,yaz,yba];decide) (Nat.le_refl _) fun hcl hlt=>?_
  change aw _ _ _ (KI Tryz.prog [(141,Ent.pure p_zRol)] (aEnd Tryz.prog [.tmp 6] H.nx _ _ (assoc [])) []) _ _
  have hs1:=hlt (.slice m1 6 (xs.map roleAV)) (by simp)
  have hs2:=hlt (.slice m2 6 (ys.map roleAV)) (by simp)
  have hf:AV.lt H.nx (.func (.func 141) [] []):=hlt _ (by simp)
  clear hlt
  simp only [go_sem,ybb,d0]
  refine loop_introW (A:=Nat) (fun k=>[(1,.slice m2 6 (ys.map roleAV)),(2,.func (.func 141) [] []),(15,.slice m1 6 (xs.map roleAV)),(16,.int .i64 (xs.length:Int)),(17,.int .i64 (k:Int))]) (fun _=>H) (fun k=>k≤xs.length∧eqL eqRol (xs.drop k) (ys.drop k)=R) (fun k=>xs.length - k) 0 ⟨by omega,hR⟩ ?_ fun k hk=>?_
  · refine ⟨by simp only [zkk,zkp];omega,AHeap.Le.refl _,hcl,?_,?_⟩
    · simp only [ltF,zmz,and_true,true_and]
      exact ⟨hs2,hf,hs1⟩
    · simp [subW,wk2,wk1,wkM,Fr.get]
  obtain ⟨hk,hq⟩:=hk
  simp only [go_sem]
  refine cond_split (fun hc=>?_) (fun hc=>?_)
  · have hk':k<xs.length:=by simp at hc;omega
    have hk2:k<ys.length:=by omega
    obtain ⟨x,hx⟩:∃ x,x=xs[k]:=⟨_,rfl⟩
    obtain ⟨y,hy⟩:∃ y,y=ys[k]:=⟨_,rfl⟩
    have hd:xs.drop k=x::xs.drop (k+1):=by rw [hx];exact List.drop_eq_getElem_cons hk'
    have hd2:ys.drop k=y::ys.drop (k+1):=by rw [hy];exact List.drop_eq_getElem_cons hk2
    have hg:=getD_map (f:=roleAV) (l:=xs) (k:=k) (x:=x) (by rw [List.getElem?_eq_getElem hk',hx])
    have hg2:=getD_map (f:=roleAV) (l:=ys) (k:=k) (x:=y) (by rw [List.getElem?_eq_getElem hk2,hy])
    have e5:IntKind.i64.wrap ((k:Int)+1)=((k+1:Nat):Int):=by rw [wrap_i64]<;>omega
    have hox:=ho1 x (by rw [hx];exact List.getElem_mem hk')
    have hoy:=ho2 y (by rw [hy];exact List.getElem_mem hk2)
    rw [hd,hd2] at hq
    unfold eqL at hq
    simp only [go_sem,Int.toNat_natCast,ybb,hg,hg2,roleAV,roleAV,p_zRol]
    (repeat with_reducible refine And.intro (by first | assumption | decide | omega) ?_)
    refine ⟨x,y,⟨rfl,rfl,hox,hoy⟩,?_⟩
    try simp only [go_sem]
    refine cond_split (fun hb=>?_) (fun hb=>?_)
    · have hb':eqRol x y=false:=by simpa using hb
      rw [hb',Bool.false_and] at hq
      rw [← hq]
      try simp only [go_sem]
      simp (disch:=first | assumption | omega | (simp;done) | (simp;omega) | (simp only [bt,and_true];first | done | omega | (simp;done))) [↓zmi,beq,ybc,ybd,ybe,endOk,wk,wk2,wk1,wkM,wkL,wkLL,ybf,hcl]
      first | done | repeat (first | exact AHeap.Le.refl _ | refine AHeap.Le.push ?_ _)
    · have hb':eqRol x y=true:=by simpa using hb
      rw [hb',Bool.true_and] at hq
      simp only [go_sem,e5]
      refine ⟨k+1,⟨by omega,hq⟩,by omega,by (try simp only [zky]);omega,by repeat (first | exact AHeap.Le.refl _ | refine AHeap.Le.push ?_ _),hcl,?_,?_⟩
      · simp only [ltF,zmz,and_true,true_and]
        exact ⟨hs2,hf,hs1⟩
      · simp [subW,wk2,wk1,wkM,Fr.get]
  · have hk':k=xs.length:=by simp at hc;omega
    subst hk'
    rw [List.drop_length,hlen,List.drop_length] at hq
    rw [← hq]
    simp only [go_sem,eqL]
    simp (disch:=first | assumption | omega | (simp;done) | (simp;omega) | (simp only [bt,and_true];first | done | omega | (simp;done))) [↓zmi,beq,ybc,ybd,ybe,endOk,wk,wk2,wk1,wkM,wkL,wkLL,ybf,hcl]
/-- a schema whose parts may be compared -/
structure CSch (z:Sch):Prop where
  f:z.fields.length≤140737488355328
  h:z.headers.length≤140737488355328
  h':∀ e∈z.headers,CHdr e
  s:z.states.length≤140737488355328
  s':∀ e∈z.states,CSta e
  a:z.actions.length≤140737488355328
  a':∀ e∈z.actions,CAct e
  t:z.tables.length≤140737488355328
  t':∀ e∈z.tables,CTab e
  g:z.stages.length≤140737488355328
  r:z.roles.length≤140737488355328
  r':∀ e∈z.roles,CRol e
  x:z.refs.length≤140737488355328
def eqSch (a b:Sch):Bool:=(a.maxBatch==b.maxBatch)&&(a.budget==b.budget)&&(eqL eqFld a.fields b.fields)&&(eqL eqHdr a.headers b.headers)&&(eqL eqSta a.states b.states)&&(eqL eqAct a.actions b.actions)&&(eqL eqTab a.tables b.tables)&&(eqL eqStg a.stages b.stages)&&(eqL eqRol a.roles b.roles)&&(eqL eqRef a.refs b.refs)
theorem eqSch_refl (a:Sch):eqSch a a=true:=by simp [eqSch,eqL_refl eqFld_refl,eqL_refl eqHdr_refl,eqL_refl eqSta_refl,eqL_refl eqAct_refl,eqL_refl eqTab_refl,eqL_refl eqStg_refl,eqL_refl eqRol_refl,eqL_refl eqRef_refl]
def pSame:List AV→AHeap→(AV→Prop)→Prop
  | [.agg l,.agg k],_,K=>∃ x y:Sch,(l=schC x∧k=schC y∧CSch x∧CSch y)∧K (.bool (eqSch x y))
  | _,_,_=>False
def p_zSame:List AV→AHeap→(AV→Prop)→Prop:=pSame
set_option maxHeartbeats 16000000 in
theorem ok_zSame:EntOk Tryz.prog 30 (Ent.pure p_zSame):=by
  unfold p_zSame
  refine EntOk.pure fun args H K h=>?_
  unfold pSame at h
  split at h
  rotate_left
  · exact h.elim
  rename_i l k
  obtain ⟨x,y,⟨rfl,rfl,hx,hy⟩,hK⟩:=h
  refine ⟨_,hK,?_⟩
  clear hK
  obtain ⟨R,hR⟩:∃ R,eqSch x y=R:=⟨_,rfl⟩
  rw [hR]
  unfold eqSch at hR
  cases h0:(x.maxBatch==y.maxBatch)
  · simp only [h0,Bool.false_and,Bool.and_false,Bool.true_and] at hR
    subst hR
    refine ACalls.of_aw (Ω:=[(131,Ent.pure p_zsFld),(132,Ent.pure p_zlHdr),(133,Ent.pure p_zlSta),(135,Ent.pure p_zlAct),(137,Ent.pure p_zlTab),(139,Ent.pure p_zsStg),(140,Ent.pure p_zlRol),(142,Ent.pure p_zsRef),(129,Ent.pure p_zHdr),(134,Ent.pure p_zSta),(136,Ent.pure p_zAct),(138,Ent.pure p_zTab),(141,Ent.pure p_zRol)]) (T:=assoc []) mixed (TblOk.cons ok_zsFld (TblOk.cons ok_zlHdr (TblOk.cons ok_zlSta (TblOk.cons ok_zlAct (TblOk.cons ok_zlTab (TblOk.cons ok_zsStg (TblOk.cons ok_zlRol (TblOk.cons ok_zsRef (TblOk.cons ok_zHdr (TblOk.cons ok_zSta (TblOk.cons ok_zAct (TblOk.cons ok_zTab (TblOk.cons ok_zRol TblOk.nil))))))))))))) Tryz.func30 (by kernel_rfl) (by rfl) (rs:=[.tmp 4]) (by rfl) (by kernel_rfl) (by simp only [Tryz.ntmps30,yaz,yba];decide) (Nat.le_refl _) fun hcl hlt=>?_
    change aw _ _ _ (KI Tryz.prog [(131,Ent.pure p_zsFld),(132,Ent.pure p_zlHdr),(133,Ent.pure p_zlSta),(135,Ent.pure p_zlAct),(137,Ent.pure p_zlTab),(139,Ent.pure p_zsStg),(140,Ent.pure p_zlRol),(142,Ent.pure p_zsRef),(129,Ent.pure p_zHdr),(134,Ent.pure p_zSta),(136,Ent.pure p_zAct),(138,Ent.pure p_zTab),(141,Ent.pure p_zRol)] (aEnd Tryz.prog [.tmp 4] H.nx _ _ (assoc [])) []) _ _
    clear hlt
    try simp only [List.append_eq,yal,yak]
    simp only [go_sem,byq,schC,p_zsFld,p_zlHdr,p_zlSta,p_zlAct,p_zlTab,p_zsStg,p_zlRol,p_zsRef,h0,true_and,Bool.bne_false,Bool.bne_true]
    simp (disch:=first | assumption | omega | (simp;done) | (simp;omega) | (simp only [bt,and_true];first | done | omega | (simp;done))) [↓zmi,beq,ybc,ybd,ybe,endOk,wk,wk2,wk1,wkM,wkL,wkLL,ybf,hcl]
    first | done | repeat (first | exact AHeap.Le.refl _ | refine AHeap.Le.push ?_ _)
  cases h1:(x.budget==y.budget)
  · simp only [h0,h1,Bool.false_and,Bool.and_false,Bool.true_and] at hR
    subst hR
    refine ACalls.of_aw (Ω:=[(131,Ent.pure p_zsFld),(132,Ent.pure p_zlHdr),(133,Ent.pure p_zlSta),(135,Ent.pure p_zlAct),(137,Ent.pure p_zlTab),(139,Ent.pure p_zsStg),(140,Ent.pure p_zlRol),(142,Ent.pure p_zsRef),(129,Ent.pure p_zHdr),(134,Ent.pure p_zSta),(136,Ent.pure p_zAct),(138,Ent.pure p_zTab),(141,Ent.pure p_zRol)]) (T:=assoc []) mixed (TblOk.cons ok_zsFld (TblOk.cons ok_zlHdr (TblOk.cons ok_zlSta (TblOk.cons ok_zlAct (TblOk.cons ok_zlTab (TblOk.cons ok_zsStg (TblOk.cons ok_zlRol (TblOk.cons ok_zsRef (TblOk.cons ok_zHdr (TblOk.cons ok_zSta (TblOk.cons ok_zAct (TblOk.cons ok_zTab (TblOk.cons ok_zRol TblOk.nil))))))))))))) Tryz.func30 (by kernel_rfl) (by rfl) (rs:=[.tmp 4]) (by rfl) (by kernel_rfl) (by simp only [Tryz.ntmps30,yaz,yba];decide) (Nat.le_refl _) fun hcl hlt=>?_
    change aw _ _ _ (KI Tryz.prog [(131,Ent.pure p_zsFld),(132,Ent.pure p_zlHdr),(133,Ent.pure p_zlSta),(135,Ent.pure p_zlAct),(137,Ent.pure p_zlTab),(139,Ent.pure p_zsStg),(140,Ent.pure p_zlRol),(142,Ent.pure p_zsRef),(129,Ent.pure p_zHdr),(134,Ent.pure p_zSta),(136,Ent.pure p_zAct),(138,Ent.pure p_zTab),(141,Ent.pure p_zRol)] (aEnd Tryz.prog [.tmp 4] H.nx _ _ (assoc [])) []) _ _
    clear hlt
    try simp only [List.append_eq,yal,yak]
    simp only [go_sem,byq,schC,p_zsFld,p_zlHdr,p_zlSta,p_zlAct,p_zlTab,p_zsStg,p_zlRol,p_zsRef,h0,h1,true_and,Bool.bne_false,Bool.bne_true]
    simp (disch:=first | assumption | omega | (simp;done) | (simp;omega) | (simp only [bt,and_true];first | done | omega | (simp;done))) [↓zmi,beq,ybc,ybd,ybe,endOk,wk,wk2,wk1,wkM,wkL,wkLL,ybf,hcl]
    first | done | repeat (first | exact AHeap.Le.refl _ | refine AHeap.Le.push ?_ _)
  cases h2:(eqL eqFld x.fields y.fields)
  · simp only [h0,h1,h2,Bool.false_and,Bool.and_false,Bool.true_and] at hR
    subst hR
    refine ACalls.of_aw (Ω:=[(131,Ent.pure p_zsFld),(132,Ent.pure p_zlHdr),(133,Ent.pure p_zlSta),(135,Ent.pure p_zlAct),(137,Ent.pure p_zlTab),(139,Ent.pure p_zsStg),(140,Ent.pure p_zlRol),(142,Ent.pure p_zsRef),(129,Ent.pure p_zHdr),(134,Ent.pure p_zSta),(136,Ent.pure p_zAct),(138,Ent.pure p_zTab),(141,Ent.pure p_zRol)]) (T:=assoc []) mixed (TblOk.cons ok_zsFld (TblOk.cons ok_zlHdr (TblOk.cons ok_zlSta (TblOk.cons ok_zlAct (TblOk.cons ok_zlTab (TblOk.cons ok_zsStg (TblOk.cons ok_zlRol (TblOk.cons ok_zsRef (TblOk.cons ok_zHdr (TblOk.cons ok_zSta (TblOk.cons ok_zAct (TblOk.cons ok_zTab (TblOk.cons ok_zRol TblOk.nil))))))))))))) Tryz.func30 (by kernel_rfl) (by rfl) (rs:=[.tmp 4]) (by rfl) (by kernel_rfl) (by simp only [Tryz.ntmps30,yaz,yba];decide) (Nat.le_refl _) fun hcl hlt=>?_
    change aw _ _ _ (KI Tryz.prog [(131,Ent.pure p_zsFld),(132,Ent.pure p_zlHdr),(133,Ent.pure p_zlSta),(135,Ent.pure p_zlAct),(137,Ent.pure p_zlTab),(139,Ent.pure p_zsStg),(140,Ent.pure p_zlRol),(142,Ent.pure p_zsRef),(129,Ent.pure p_zHdr),(134,Ent.pure p_zSta),(136,Ent.pure p_zAct),(138,Ent.pure p_zTab),(141,Ent.pure p_zRol)] (aEnd Tryz.prog [.tmp 4] H.nx _ _ (assoc [])) []) _ _
    clear hlt
    try simp only [List.append_eq,yal,yak]
    simp only [go_sem,byq,schC,p_zsFld,p_zlHdr,p_zlSta,p_zlAct,p_zlTab,p_zsStg,p_zlRol,p_zsRef,h0,h1,h2,true_and,Bool.bne_false,Bool.bne_true]
    refine ⟨x.fields,y.fields,⟨rfl,rfl,hx.f,hy.f⟩,?_⟩
    try simp only [go_sem,byq,p_zsFld,p_zlHdr,p_zlSta,p_zlAct,p_zlTab,p_zsStg,p_zlRol,p_zsRef,h0,h1,h2,true_and,Bool.bne_false,Bool.bne_true]
    simp (disch:=first | assumption | omega | (simp;done) | (simp;omega) | (simp only [bt,and_true];first | done | omega | (simp;done))) [↓zmi,beq,ybc,ybd,ybe,endOk,wk,wk2,wk1,wkM,wkL,wkLL,ybf,hcl]
    first | done | repeat (first | exact AHeap.Le.refl _ | refine AHeap.Le.push ?_ _)
  cases h3:(eqL eqHdr x.headers y.headers)
  · simp only [h0,h1,h2,h3,Bool.false_and,Bool.and_false,Bool.true_and] at hR
    subst hR
    refine ACalls.of_aw (Ω:=[(131,Ent.pure p_zsFld),(132,Ent.pure p_zlHdr),(133,Ent.pure p_zlSta),(135,Ent.pure p_zlAct),(137,Ent.pure p_zlTab),(139,Ent.pure p_zsStg),(140,Ent.pure p_zlRol),(142,Ent.pure p_zsRef),(129,Ent.pure p_zHdr),(134,Ent.pure p_zSta),(136,Ent.pure p_zAct),(138,Ent.pure p_zTab),(141,Ent.pure p_zRol)]) (T:=assoc []) mixed (TblOk.cons ok_zsFld (TblOk.cons ok_zlHdr (TblOk.cons ok_zlSta (TblOk.cons ok_zlAct (TblOk.cons ok_zlTab (TblOk.cons ok_zsStg (TblOk.cons ok_zlRol (TblOk.cons ok_zsRef (TblOk.cons ok_zHdr (TblOk.cons ok_zSta (TblOk.cons ok_zAct (TblOk.cons ok_zTab (TblOk.cons ok_zRol TblOk.nil))))))))))))) Tryz.func30 (by kernel_rfl) (by rfl) (rs:=[.tmp 4]) (by rfl) (by kernel_rfl) (by simp only [Tryz.ntmps30,yaz,yba];decide) (Nat.le_refl _) fun hcl hlt=>?_
    change aw _ _ _ (KI Tryz.prog [(131,Ent.pure p_zsFld),(132,Ent.pure p_zlHdr),(133,Ent.pure p_zlSta),(135,Ent.pure p_zlAct),(137,Ent.pure p_zlTab),(139,Ent.pure p_zsStg),(140,Ent.pure p_zlRol),(142,Ent.pure p_zsRef),(129,Ent.pure p_zHdr),(134,Ent.pure p_zSta),(136,Ent.pure p_zAct),(138,Ent.pure p_zTab),(141,Ent.pure p_zRol)] (aEnd Tryz.prog [.tmp 4] H.nx _ _ (assoc [])) []) _ _
    clear hlt
    try simp only [List.append_eq,yal,yak]
    simp only [go_sem,byq,schC,p_zsFld,p_zlHdr,p_zlSta,p_zlAct,p_zlTab,p_zsStg,p_zlRol,p_zsRef,h0,h1,h2,h3,true_and,Bool.bne_false,Bool.bne_true]
    refine ⟨x.fields,y.fields,⟨rfl,rfl,hx.f,hy.f⟩,?_⟩
    try simp only [go_sem,byq,p_zsFld,p_zlHdr,p_zlSta,p_zlAct,p_zlTab,p_zsStg,p_zlRol,p_zsRef,h0,h1,h2,h3,true_and,Bool.bne_false,Bool.bne_true]
    refine ⟨x.headers,y.headers,⟨rfl,rfl,hx.h,hy.h,hx.h',hy.h'⟩,?_⟩
    try simp only [go_sem,byq,p_zsFld,p_zlHdr,p_zlSta,p_zlAct,p_zlTab,p_zsStg,p_zlRol,p_zsRef,h0,h1,h2,h3,true_and,Bool.bne_false,Bool.bne_true]
    simp (disch:=first | assumption | omega | (simp;done) | (simp;omega) | (simp only [bt,and_true];first | done | omega | (simp;done))) [↓zmi,beq,ybc,ybd,ybe,endOk,wk,wk2,wk1,wkM,wkL,wkLL,ybf,hcl]
    first | done | repeat (first | exact AHeap.Le.refl _ | refine AHeap.Le.push ?_ _)
  cases h4:(eqL eqSta x.states y.states)
  · simp only [h0,h1,h2,h3,h4,Bool.false_and,Bool.and_false,Bool.true_and] at hR
    subst hR
    refine ACalls.of_aw (Ω:=[(131,Ent.pure p_zsFld),(132,Ent.pure p_zlHdr),(133,Ent.pure p_zlSta),(135,Ent.pure p_zlAct),(137,Ent.pure p_zlTab),(139,Ent.pure p_zsStg),(140,Ent.pure p_zlRol),(142,Ent.pure p_zsRef),(129,Ent.pure p_zHdr),(134,Ent.pure p_zSta),(136,Ent.pure p_zAct),(138,Ent.pure p_zTab),(141,Ent.pure p_zRol)]) (T:=assoc []) mixed (TblOk.cons ok_zsFld (TblOk.cons ok_zlHdr (TblOk.cons ok_zlSta (TblOk.cons ok_zlAct (TblOk.cons ok_zlTab (TblOk.cons ok_zsStg (TblOk.cons ok_zlRol (TblOk.cons ok_zsRef (TblOk.cons ok_zHdr (TblOk.cons ok_zSta (TblOk.cons ok_zAct (TblOk.cons ok_zTab (TblOk.cons ok_zRol TblOk.nil))))))))))))) Tryz.func30 (by kernel_rfl) (by rfl) (rs:=[.tmp 4]) (by rfl) (by kernel_rfl) (by simp only [Tryz.ntmps30,yaz,yba];decide) (Nat.le_refl _) fun hcl hlt=>?_
    change aw _ _ _ (KI Tryz.prog [(131,Ent.pure p_zsFld),(132,Ent.pure p_zlHdr),(133,Ent.pure p_zlSta),(135,Ent.pure p_zlAct),(137,Ent.pure p_zlTab),(139,Ent.pure p_zsStg),(140,Ent.pure p_zlRol),(142,Ent.pure p_zsRef),(129,Ent.pure p_zHdr),(134,Ent.pure p_zSta),(136,Ent.pure p_zAct),(138,Ent.pure p_zTab),(141,Ent.pure p_zRol)] (aEnd Tryz.prog [.tmp 4] H.nx _ _ (assoc [])) []) _ _
    clear hlt
    try simp only [List.append_eq,yal,yak]
    simp only [go_sem,byq,schC,p_zsFld,p_zlHdr,p_zlSta,p_zlAct,p_zlTab,p_zsStg,p_zlRol,p_zsRef,h0,h1,h2,h3,h4,true_and,Bool.bne_false,Bool.bne_true]
    refine ⟨x.fields,y.fields,⟨rfl,rfl,hx.f,hy.f⟩,?_⟩
    try simp only [go_sem,byq,p_zsFld,p_zlHdr,p_zlSta,p_zlAct,p_zlTab,p_zsStg,p_zlRol,p_zsRef,h0,h1,h2,h3,h4,true_and,Bool.bne_false,Bool.bne_true]
    refine ⟨x.headers,y.headers,⟨rfl,rfl,hx.h,hy.h,hx.h',hy.h'⟩,?_⟩
    try simp only [go_sem,byq,p_zsFld,p_zlHdr,p_zlSta,p_zlAct,p_zlTab,p_zsStg,p_zlRol,p_zsRef,h0,h1,h2,h3,h4,true_and,Bool.bne_false,Bool.bne_true]
    refine ⟨x.states,y.states,⟨rfl,rfl,hx.s,hy.s,hx.s',hy.s'⟩,?_⟩
    try simp only [go_sem,byq,p_zsFld,p_zlHdr,p_zlSta,p_zlAct,p_zlTab,p_zsStg,p_zlRol,p_zsRef,h0,h1,h2,h3,h4,true_and,Bool.bne_false,Bool.bne_true]
    simp (disch:=first | assumption | omega | (simp;done) | (simp;omega) | (simp only [bt,and_true];first | done | omega | (simp;done))) [↓zmi,beq,ybc,ybd,ybe,endOk,wk,wk2,wk1,wkM,wkL,wkLL,ybf,hcl]
    first | done | repeat (first | exact AHeap.Le.refl _ | refine AHeap.Le.push ?_ _)
  cases h5:(eqL eqAct x.actions y.actions)
  · simp only [h0,h1,h2,h3,h4,h5,Bool.false_and,Bool.and_false,Bool.true_and] at hR
    subst hR
    refine ACalls.of_aw (Ω:=[(131,Ent.pure p_zsFld),(132,Ent.pure p_zlHdr),(133,Ent.pure p_zlSta),(135,Ent.pure p_zlAct),(137,Ent.pure p_zlTab),(139,Ent.pure p_zsStg),(140,Ent.pure p_zlRol),(142,Ent.pure p_zsRef),(129,Ent.pure p_zHdr),(134,Ent.pure p_zSta),(136,Ent.pure p_zAct),(138,Ent.pure p_zTab),(141,Ent.pure p_zRol)]) (T:=assoc []) mixed (TblOk.cons ok_zsFld (TblOk.cons ok_zlHdr (TblOk.cons ok_zlSta (TblOk.cons ok_zlAct (TblOk.cons ok_zlTab (TblOk.cons ok_zsStg (TblOk.cons ok_zlRol (TblOk.cons ok_zsRef (TblOk.cons ok_zHdr (TblOk.cons ok_zSta (TblOk.cons ok_zAct (TblOk.cons ok_zTab (TblOk.cons ok_zRol TblOk.nil))))))))))))) Tryz.func30 (by kernel_rfl) (by rfl) (rs:=[.tmp 4]) (by rfl) (by kernel_rfl) (by simp only [Tryz.ntmps30,yaz,yba];decide) (Nat.le_refl _) fun hcl hlt=>?_
    change aw _ _ _ (KI Tryz.prog [(131,Ent.pure p_zsFld),(132,Ent.pure p_zlHdr),(133,Ent.pure p_zlSta),(135,Ent.pure p_zlAct),(137,Ent.pure p_zlTab),(139,Ent.pure p_zsStg),(140,Ent.pure p_zlRol),(142,Ent.pure p_zsRef),(129,Ent.pure p_zHdr),(134,Ent.pure p_zSta),(136,Ent.pure p_zAct),(138,Ent.pure p_zTab),(141,Ent.pure p_zRol)] (aEnd Tryz.prog [.tmp 4] H.nx _ _ (assoc [])) []) _ _
    clear hlt
    try simp only [List.append_eq,yal,yak]
    simp only [go_sem,byq,schC,p_zsFld,p_zlHdr,p_zlSta,p_zlAct,p_zlTab,p_zsStg,p_zlRol,p_zsRef,h0,h1,h2,h3,h4,h5,true_and,Bool.bne_false,Bool.bne_true]
    refine ⟨x.fields,y.fields,⟨rfl,rfl,hx.f,hy.f⟩,?_⟩
    try simp only [go_sem,byq,p_zsFld,p_zlHdr,p_zlSta,p_zlAct,p_zlTab,p_zsStg,p_zlRol,p_zsRef,h0,h1,h2,h3,h4,h5,true_and,Bool.bne_false,Bool.bne_true]
    refine ⟨x.headers,y.headers,⟨rfl,rfl,hx.h,hy.h,hx.h',hy.h'⟩,?_⟩
    try simp only [go_sem,byq,p_zsFld,p_zlHdr,p_zlSta,p_zlAct,p_zlTab,p_zsStg,p_zlRol,p_zsRef,h0,h1,h2,h3,h4,h5,true_and,Bool.bne_false,Bool.bne_true]
    refine ⟨x.states,y.states,⟨rfl,rfl,hx.s,hy.s,hx.s',hy.s'⟩,?_⟩
    try simp only [go_sem,byq,p_zsFld,p_zlHdr,p_zlSta,p_zlAct,p_zlTab,p_zsStg,p_zlRol,p_zsRef,h0,h1,h2,h3,h4,h5,true_and,Bool.bne_false,Bool.bne_true]
    refine ⟨x.actions,y.actions,⟨rfl,rfl,hx.a,hy.a,hx.a',hy.a'⟩,?_⟩
    try simp only [go_sem,byq,p_zsFld,p_zlHdr,p_zlSta,p_zlAct,p_zlTab,p_zsStg,p_zlRol,p_zsRef,h0,h1,h2,h3,h4,h5,true_and,Bool.bne_false,Bool.bne_true]
    simp (disch:=first | assumption | omega | (simp;done) | (simp;omega) | (simp only [bt,and_true];first | done | omega | (simp;done))) [↓zmi,beq,ybc,ybd,ybe,endOk,wk,wk2,wk1,wkM,wkL,wkLL,ybf,hcl]
    first | done | repeat (first | exact AHeap.Le.refl _ | refine AHeap.Le.push ?_ _)
  cases h6:(eqL eqTab x.tables y.tables)
  · simp only [h0,h1,h2,h3,h4,h5,h6,Bool.false_and,Bool.and_false,Bool.true_and] at hR
    subst hR
    refine ACalls.of_aw (Ω:=[(131,Ent.pure p_zsFld),(132,Ent.pure p_zlHdr),(133,Ent.pure p_zlSta),(135,Ent.pure p_zlAct),(137,Ent.pure p_zlTab),(139,Ent.pure p_zsStg),(140,Ent.pure p_zlRol),(142,Ent.pure p_zsRef),(129,Ent.pure p_zHdr),(134,Ent.pure p_zSta),(136,Ent.pure p_zAct),(138,Ent.pure p_zTab),(141,Ent.pure p_zRol)]) (T:=assoc []) mixed (TblOk.cons ok_zsFld (TblOk.cons ok_zlHdr (TblOk.cons ok_zlSta (TblOk.cons ok_zlAct (TblOk.cons ok_zlTab (TblOk.cons ok_zsStg (TblOk.cons ok_zlRol (TblOk.cons ok_zsRef (TblOk.cons ok_zHdr (TblOk.cons ok_zSta (TblOk.cons ok_zAct (TblOk.cons ok_zTab (TblOk.cons ok_zRol TblOk.nil))))))))))))) Tryz.func30 (by kernel_rfl) (by rfl) (rs:=[.tmp 4]) (by rfl) (by kernel_rfl) (by simp only [Tryz.ntmps30,yaz,yba];decide) (Nat.le_refl _) fun hcl hlt=>?_
    change aw _ _ _ (KI Tryz.prog [(131,Ent.pure p_zsFld),(132,Ent.pure p_zlHdr),(133,Ent.pure p_zlSta),(135,Ent.pure p_zlAct),(137,Ent.pure p_zlTab),(139,Ent.pure p_zsStg),(140,Ent.pure p_zlRol),(142,Ent.pure p_zsRef),(129,Ent.pure p_zHdr),(134,Ent.pure p_zSta),(136,Ent.pure p_zAct),(138,Ent.pure p_zTab),(141,Ent.pure p_zRol)] (aEnd Tryz.prog [.tmp 4] H.nx _ _ (assoc [])) []) _ _
    clear hlt
    try simp only [List.append_eq,yal,yak]
    simp only [go_sem,byq,schC,p_zsFld,p_zlHdr,p_zlSta,p_zlAct,p_zlTab,p_zsStg,p_zlRol,p_zsRef,h0,h1,h2,h3,h4,h5,h6,true_and,Bool.bne_false,Bool.bne_true]
    refine ⟨x.fields,y.fields,⟨rfl,rfl,hx.f,hy.f⟩,?_⟩
    try simp only [go_sem,byq,p_zsFld,p_zlHdr,p_zlSta,p_zlAct,p_zlTab,p_zsStg,p_zlRol,p_zsRef,h0,h1,h2,h3,h4,h5,h6,true_and,Bool.bne_false,Bool.bne_true]
    refine ⟨x.headers,y.headers,⟨rfl,rfl,hx.h,hy.h,hx.h',hy.h'⟩,?_⟩
    try simp only [go_sem,byq,p_zsFld,p_zlHdr,p_zlSta,p_zlAct,p_zlTab,p_zsStg,p_zlRol,p_zsRef,h0,h1,h2,h3,h4,h5,h6,true_and,Bool.bne_false,Bool.bne_true]
    refine ⟨x.states,y.states,⟨rfl,rfl,hx.s,hy.s,hx.s',hy.s'⟩,?_⟩
    try simp only [go_sem,byq,p_zsFld,p_zlHdr,p_zlSta,p_zlAct,p_zlTab,p_zsStg,p_zlRol,p_zsRef,h0,h1,h2,h3,h4,h5,h6,true_and,Bool.bne_false,Bool.bne_true]
    refine ⟨x.actions,y.actions,⟨rfl,rfl,hx.a,hy.a,hx.a',hy.a'⟩,?_⟩
    try simp only [go_sem,byq,p_zsFld,p_zlHdr,p_zlSta,p_zlAct,p_zlTab,p_zsStg,p_zlRol,p_zsRef,h0,h1,h2,h3,h4,h5,h6,true_and,Bool.bne_false,Bool.bne_true]
    refine ⟨x.tables,y.tables,⟨rfl,rfl,hx.t,hy.t,hx.t',hy.t'⟩,?_⟩
    try simp only [go_sem,byq,p_zsFld,p_zlHdr,p_zlSta,p_zlAct,p_zlTab,p_zsStg,p_zlRol,p_zsRef,h0,h1,h2,h3,h4,h5,h6,true_and,Bool.bne_false,Bool.bne_true]
    simp (disch:=first | assumption | omega | (simp;done) | (simp;omega) | (simp only [bt,and_true];first | done | omega | (simp;done))) [↓zmi,beq,ybc,ybd,ybe,endOk,wk,wk2,wk1,wkM,wkL,wkLL,ybf,hcl]
    first | done | repeat (first | exact AHeap.Le.refl _ | refine AHeap.Le.push ?_ _)
  cases h7:(eqL eqStg x.stages y.stages)
  · simp only [h0,h1,h2,h3,h4,h5,h6,h7,Bool.false_and,Bool.and_false,Bool.true_and] at hR
    subst hR
    refine ACalls.of_aw (Ω:=[(131,Ent.pure p_zsFld),(132,Ent.pure p_zlHdr),(133,Ent.pure p_zlSta),(135,Ent.pure p_zlAct),(137,Ent.pure p_zlTab),(139,Ent.pure p_zsStg),(140,Ent.pure p_zlRol),(142,Ent.pure p_zsRef),(129,Ent.pure p_zHdr),(134,Ent.pure p_zSta),(136,Ent.pure p_zAct),(138,Ent.pure p_zTab),(141,Ent.pure p_zRol)]) (T:=assoc []) mixed (TblOk.cons ok_zsFld (TblOk.cons ok_zlHdr (TblOk.cons ok_zlSta (TblOk.cons ok_zlAct (TblOk.cons ok_zlTab (TblOk.cons ok_zsStg (TblOk.cons ok_zlRol (TblOk.cons ok_zsRef (TblOk.cons ok_zHdr (TblOk.cons ok_zSta (TblOk.cons ok_zAct (TblOk.cons ok_zTab (TblOk.cons ok_zRol TblOk.nil))))))))))))) Tryz.func30 (by kernel_rfl) (by rfl) (rs:=[.tmp 4]) (by rfl) (by kernel_rfl) (by simp only [Tryz.ntmps30,yaz,yba];decide) (Nat.le_refl _) fun hcl hlt=>?_
    change aw _ _ _ (KI Tryz.prog [(131,Ent.pure p_zsFld),(132,Ent.pure p_zlHdr),(133,Ent.pure p_zlSta),(135,Ent.pure p_zlAct),(137,Ent.pure p_zlTab),(139,Ent.pure p_zsStg),(140,Ent.pure p_zlRol),(142,Ent.pure p_zsRef),(129,Ent.pure p_zHdr),(134,Ent.pure p_zSta),(136,Ent.pure p_zAct),(138,Ent.pure p_zTab),(141,Ent.pure p_zRol)] (aEnd Tryz.prog [.tmp 4] H.nx _ _ (assoc [])) []) _ _
    clear hlt
    try simp only [List.append_eq,yal,yak]
    simp only [go_sem,byq,schC,p_zsFld,p_zlHdr,p_zlSta,p_zlAct,p_zlTab,p_zsStg,p_zlRol,p_zsRef,h0,h1,h2,h3,h4,h5,h6,h7,true_and,Bool.bne_false,Bool.bne_true]
    refine ⟨x.fields,y.fields,⟨rfl,rfl,hx.f,hy.f⟩,?_⟩
    try simp only [go_sem,byq,p_zsFld,p_zlHdr,p_zlSta,p_zlAct,p_zlTab,p_zsStg,p_zlRol,p_zsRef,h0,h1,h2,h3,h4,h5,h6,h7,true_and,Bool.bne_false,Bool.bne_true]
    refine ⟨x.headers,y.headers,⟨rfl,rfl,hx.h,hy.h,hx.h',hy.h'⟩,?_⟩
    try simp only [go_sem,byq,p_zsFld,p_zlHdr,p_zlSta,p_zlAct,p_zlTab,p_zsStg,p_zlRol,p_zsRef,h0,h1,h2,h3,h4,h5,h6,h7,true_and,Bool.bne_false,Bool.bne_true]
    refine ⟨x.states,y.states,⟨rfl,rfl,hx.s,hy.s,hx.s',hy.s'⟩,?_⟩
    try simp only [go_sem,byq,p_zsFld,p_zlHdr,p_zlSta,p_zlAct,p_zlTab,p_zsStg,p_zlRol,p_zsRef,h0,h1,h2,h3,h4,h5,h6,h7,true_and,Bool.bne_false,Bool.bne_true]
    refine ⟨x.actions,y.actions,⟨rfl,rfl,hx.a,hy.a,hx.a',hy.a'⟩,?_⟩
    try simp only [go_sem,byq,p_zsFld,p_zlHdr,p_zlSta,p_zlAct,p_zlTab,p_zsStg,p_zlRol,p_zsRef,h0,h1,h2,h3,h4,h5,h6,h7,true_and,Bool.bne_false,Bool.bne_true]
    refine ⟨x.tables,y.tables,⟨rfl,rfl,hx.t,hy.t,hx.t',hy.t'⟩,?_⟩
    try simp only [go_sem,byq,p_zsFld,p_zlHdr,p_zlSta,p_zlAct,p_zlTab,p_zsStg,p_zlRol,p_zsRef,h0,h1,h2,h3,h4,h5,h6,h7,true_and,Bool.bne_false,Bool.bne_true]
    refine ⟨x.stages,y.stages,⟨rfl,rfl,hx.g,hy.g⟩,?_⟩
    try simp only [go_sem,byq,p_zsFld,p_zlHdr,p_zlSta,p_zlAct,p_zlTab,p_zsStg,p_zlRol,p_zsRef,h0,h1,h2,h3,h4,h5,h6,h7,true_and,Bool.bne_false,Bool.bne_true]
    simp (disch:=first | assumption | omega | (simp;done) | (simp;omega) | (simp only [bt,and_true];first | done | omega | (simp;done))) [↓zmi,beq,ybc,ybd,ybe,endOk,wk,wk2,wk1,wkM,wkL,wkLL,ybf,hcl]
    first | done | repeat (first | exact AHeap.Le.refl _ | refine AHeap.Le.push ?_ _)
  cases h8:(eqL eqRol x.roles y.roles)
  · simp only [h0,h1,h2,h3,h4,h5,h6,h7,h8,Bool.false_and,Bool.and_false,Bool.true_and] at hR
    subst hR
    refine ACalls.of_aw (Ω:=[(131,Ent.pure p_zsFld),(132,Ent.pure p_zlHdr),(133,Ent.pure p_zlSta),(135,Ent.pure p_zlAct),(137,Ent.pure p_zlTab),(139,Ent.pure p_zsStg),(140,Ent.pure p_zlRol),(142,Ent.pure p_zsRef),(129,Ent.pure p_zHdr),(134,Ent.pure p_zSta),(136,Ent.pure p_zAct),(138,Ent.pure p_zTab),(141,Ent.pure p_zRol)]) (T:=assoc []) mixed (TblOk.cons ok_zsFld (TblOk.cons ok_zlHdr (TblOk.cons ok_zlSta (TblOk.cons ok_zlAct (TblOk.cons ok_zlTab (TblOk.cons ok_zsStg (TblOk.cons ok_zlRol (TblOk.cons ok_zsRef (TblOk.cons ok_zHdr (TblOk.cons ok_zSta (TblOk.cons ok_zAct (TblOk.cons ok_zTab (TblOk.cons ok_zRol TblOk.nil))))))))))))) Tryz.func30 (by kernel_rfl) (by rfl) (rs:=[.tmp 4]) (by rfl) (by kernel_rfl) (by simp only [Tryz.ntmps30,yaz,yba];decide) (Nat.le_refl _) fun hcl hlt=>?_
    change aw _ _ _ (KI Tryz.prog [(131,Ent.pure p_zsFld),(132,Ent.pure p_zlHdr),(133,Ent.pure p_zlSta),(135,Ent.pure p_zlAct),(137,Ent.pure p_zlTab),(139,Ent.pure p_zsStg),(140,Ent.pure p_zlRol),(142,Ent.pure p_zsRef),(129,Ent.pure p_zHdr),(134,Ent.pure p_zSta),(136,Ent.pure p_zAct),(138,Ent.pure p_zTab),(141,Ent.pure p_zRol)] (aEnd Tryz.prog [.tmp 4] H.nx _ _ (assoc [])) []) _ _
    clear hlt
    try simp only [List.append_eq,yal,yak]
    simp only [go_sem,byq,schC,p_zsFld,p_zlHdr,p_zlSta,p_zlAct,p_zlTab,p_zsStg,p_zlRol,p_zsRef,h0,h1,h2,h3,h4,h5,h6,h7,h8,true_and,Bool.bne_false,Bool.bne_true]
    refine ⟨x.fields,y.fields,⟨rfl,rfl,hx.f,hy.f⟩,?_⟩
    try simp only [go_sem,byq,p_zsFld,p_zlHdr,p_zlSta,p_zlAct,p_zlTab,p_zsStg,p_zlRol,p_zsRef,h0,h1,h2,h3,h4,h5,h6,h7,h8,true_and,Bool.bne_false,Bool.bne_true]
    refine ⟨x.headers,y.headers,⟨rfl,rfl,hx.h,hy.h,hx.h',hy.h'⟩,?_⟩
    try simp only [go_sem,byq,p_zsFld,p_zlHdr,p_zlSta,p_zlAct,p_zlTab,p_zsStg,p_zlRol,p_zsRef,h0,h1,h2,h3,h4,h5,h6,h7,h8,true_and,Bool.bne_false,Bool.bne_true]
    refine ⟨x.states,y.states,⟨rfl,rfl,hx.s,hy.s,hx.s',hy.s'⟩,?_⟩
    try simp only [go_sem,byq,p_zsFld,p_zlHdr,p_zlSta,p_zlAct,p_zlTab,p_zsStg,p_zlRol,p_zsRef,h0,h1,h2,h3,h4,h5,h6,h7,h8,true_and,Bool.bne_false,Bool.bne_true]
    refine ⟨x.actions,y.actions,⟨rfl,rfl,hx.a,hy.a,hx.a',hy.a'⟩,?_⟩
    try simp only [go_sem,byq,p_zsFld,p_zlHdr,p_zlSta,p_zlAct,p_zlTab,p_zsStg,p_zlRol,p_zsRef,h0,h1,h2,h3,h4,h5,h6,h7,h8,true_and,Bool.bne_false,Bool.bne_true]
    refine ⟨x.tables,y.tables,⟨rfl,rfl,hx.t,hy.t,hx.t',hy.t'⟩,?_⟩
    try simp only [go_sem,byq,p_zsFld,p_zlHdr,p_zlSta,p_zlAct,p_zlTab,p_zsStg,p_zlRol,p_zsRef,h0,h1,h2,h3,h4,h5,h6,h7,h8,true_and,Bool.bne_false,Bool.bne_true]
    refine ⟨x.stages,y.stages,⟨rfl,rfl,hx.g,hy.g⟩,?_⟩
    try simp only [go_sem,byq,p_zsFld,p_zlHdr,p_zlSta,p_zlAct,p_zlTab,p_zsStg,p_zlRol,p_zsRef,h0,h1,h2,h3,h4,h5,h6,h7,h8,true_and,Bool.bne_false,Bool.bne_true]
    refine ⟨x.roles,y.roles,⟨rfl,rfl,hx.r,hy.r,hx.r',hy.r'⟩,?_⟩
    try simp only [go_sem,byq,p_zsFld,p_zlHdr,p_zlSta,p_zlAct,p_zlTab,p_zsStg,p_zlRol,p_zsRef,h0,h1,h2,h3,h4,h5,h6,h7,h8,true_and,Bool.bne_false,Bool.bne_true]
    simp (disch:=first | assumption | omega | (simp;done) | (simp;omega) | (simp only [bt,and_true];first | done | omega | (simp;done))) [↓zmi,beq,ybc,ybd,ybe,endOk,wk,wk2,wk1,wkM,wkL,wkLL,ybf,hcl]
    first | done | repeat (first | exact AHeap.Le.refl _ | refine AHeap.Le.push ?_ _)
  cases h9:(eqL eqRef x.refs y.refs)
  · simp only [h0,h1,h2,h3,h4,h5,h6,h7,h8,h9,Bool.false_and,Bool.and_false,Bool.true_and] at hR
    subst hR
    refine ACalls.of_aw (Ω:=[(131,Ent.pure p_zsFld),(132,Ent.pure p_zlHdr),(133,Ent.pure p_zlSta),(135,Ent.pure p_zlAct),(137,Ent.pure p_zlTab),(139,Ent.pure p_zsStg),(140,Ent.pure p_zlRol),(142,Ent.pure p_zsRef),(129,Ent.pure p_zHdr),(134,Ent.pure p_zSta),(136,Ent.pure p_zAct),(138,Ent.pure p_zTab),(141,Ent.pure p_zRol)]) (T:=assoc []) mixed (TblOk.cons ok_zsFld (TblOk.cons ok_zlHdr (TblOk.cons ok_zlSta (TblOk.cons ok_zlAct (TblOk.cons ok_zlTab (TblOk.cons ok_zsStg (TblOk.cons ok_zlRol (TblOk.cons ok_zsRef (TblOk.cons ok_zHdr (TblOk.cons ok_zSta (TblOk.cons ok_zAct (TblOk.cons ok_zTab (TblOk.cons ok_zRol TblOk.nil))))))))))))) Tryz.func30 (by kernel_rfl) (by rfl) (rs:=[.tmp 4]) (by rfl) (by kernel_rfl) (by simp only [Tryz.ntmps30,yaz,yba];decide) (Nat.le_refl _) fun hcl hlt=>?_
    change aw _ _ _ (KI Tryz.prog [(131,Ent.pure p_zsFld),(132,Ent.pure p_zlHdr),(133,Ent.pure p_zlSta),(135,Ent.pure p_zlAct),(137,Ent.pure p_zlTab),(139,Ent.pure p_zsStg),(140,Ent.pure p_zlRol),(142,Ent.pure p_zsRef),(129,Ent.pure p_zHdr),(134,Ent.pure p_zSta),(136,Ent.pure p_zAct),(138,Ent.pure p_zTab),(141,Ent.pure p_zRol)] (aEnd Tryz.prog [.tmp 4] H.nx _ _ (assoc [])) []) _ _
    clear hlt
    try simp only [List.append_eq,yal,yak]
    simp only [go_sem,byq,schC,p_zsFld,p_zlHdr,p_zlSta,p_zlAct,p_zlTab,p_zsStg,p_zlRol,p_zsRef,h0,h1,h2,h3,h4,h5,h6,h7,h8,h9,true_and,Bool.bne_false,Bool.bne_true]
    refine ⟨x.fields,y.fields,⟨rfl,rfl,hx.f,hy.f⟩,?_⟩
    try simp only [go_sem,byq,p_zsFld,p_zlHdr,p_zlSta,p_zlAct,p_zlTab,p_zsStg,p_zlRol,p_zsRef,h0,h1,h2,h3,h4,h5,h6,h7,h8,h9,true_and,Bool.bne_false,Bool.bne_true]
    refine ⟨x.headers,y.headers,⟨rfl,rfl,hx.h,hy.h,hx.h',hy.h'⟩,?_⟩
    try simp only [go_sem,byq,p_zsFld,p_zlHdr,p_zlSta,p_zlAct,p_zlTab,p_zsStg,p_zlRol,p_zsRef,h0,h1,h2,h3,h4,h5,h6,h7,h8,h9,true_and,Bool.bne_false,Bool.bne_true]
    refine ⟨x.states,y.states,⟨rfl,rfl,hx.s,hy.s,hx.s',hy.s'⟩,?_⟩
    try simp only [go_sem,byq,p_zsFld,p_zlHdr,p_zlSta,p_zlAct,p_zlTab,p_zsStg,p_zlRol,p_zsRef,h0,h1,h2,h3,h4,h5,h6,h7,h8,h9,true_and,Bool.bne_false,Bool.bne_true]
    refine ⟨x.actions,y.actions,⟨rfl,rfl,hx.a,hy.a,hx.a',hy.a'⟩,?_⟩
    try simp only [go_sem,byq,p_zsFld,p_zlHdr,p_zlSta,p_zlAct,p_zlTab,p_zsStg,p_zlRol,p_zsRef,h0,h1,h2,h3,h4,h5,h6,h7,h8,h9,true_and,Bool.bne_false,Bool.bne_true]
    refine ⟨x.tables,y.tables,⟨rfl,rfl,hx.t,hy.t,hx.t',hy.t'⟩,?_⟩
    try simp only [go_sem,byq,p_zsFld,p_zlHdr,p_zlSta,p_zlAct,p_zlTab,p_zsStg,p_zlRol,p_zsRef,h0,h1,h2,h3,h4,h5,h6,h7,h8,h9,true_and,Bool.bne_false,Bool.bne_true]
    refine ⟨x.stages,y.stages,⟨rfl,rfl,hx.g,hy.g⟩,?_⟩
    try simp only [go_sem,byq,p_zsFld,p_zlHdr,p_zlSta,p_zlAct,p_zlTab,p_zsStg,p_zlRol,p_zsRef,h0,h1,h2,h3,h4,h5,h6,h7,h8,h9,true_and,Bool.bne_false,Bool.bne_true]
    refine ⟨x.roles,y.roles,⟨rfl,rfl,hx.r,hy.r,hx.r',hy.r'⟩,?_⟩
    try simp only [go_sem,byq,p_zsFld,p_zlHdr,p_zlSta,p_zlAct,p_zlTab,p_zsStg,p_zlRol,p_zsRef,h0,h1,h2,h3,h4,h5,h6,h7,h8,h9,true_and,Bool.bne_false,Bool.bne_true]
    refine ⟨x.refs,y.refs,⟨rfl,rfl,hx.x,hy.x⟩,?_⟩
    try simp only [go_sem,byq,p_zsFld,p_zlHdr,p_zlSta,p_zlAct,p_zlTab,p_zsStg,p_zlRol,p_zsRef,h0,h1,h2,h3,h4,h5,h6,h7,h8,h9,true_and,Bool.bne_false,Bool.bne_true]
    simp (disch:=first | assumption | omega | (simp;done) | (simp;omega) | (simp only [bt,and_true];first | done | omega | (simp;done))) [↓zmi,beq,ybc,ybd,ybe,endOk,wk,wk2,wk1,wkM,wkL,wkLL,ybf,hcl]
    first | done | repeat (first | exact AHeap.Le.refl _ | refine AHeap.Le.push ?_ _)
  simp only [h0,h1,h2,h3,h4,h5,h6,h7,h8,h9,Bool.true_and] at hR
  subst hR
  refine ACalls.of_aw (Ω:=[(131,Ent.pure p_zsFld),(132,Ent.pure p_zlHdr),(133,Ent.pure p_zlSta),(135,Ent.pure p_zlAct),(137,Ent.pure p_zlTab),(139,Ent.pure p_zsStg),(140,Ent.pure p_zlRol),(142,Ent.pure p_zsRef),(129,Ent.pure p_zHdr),(134,Ent.pure p_zSta),(136,Ent.pure p_zAct),(138,Ent.pure p_zTab),(141,Ent.pure p_zRol)]) (T:=assoc []) mixed (TblOk.cons ok_zsFld (TblOk.cons ok_zlHdr (TblOk.cons ok_zlSta (TblOk.cons ok_zlAct (TblOk.cons ok_zlTab (TblOk.cons ok_zsStg (TblOk.cons ok_zlRol (TblOk.cons ok_zsRef (TblOk.cons ok_zHdr (TblOk.cons ok_zSta (TblOk.cons ok_zAct (TblOk.cons ok_zTab (TblOk.cons ok_zRol TblOk.nil))))))))))))) Tryz.func30 (by kernel_rfl) (by rfl) (rs:=[.tmp 4]) (by rfl) (by kernel_rfl) (by simp only [Tryz.ntmps30,yaz,yba];decide) (Nat.le_refl _) fun hcl hlt=>?_
  change aw _ _ _ (KI Tryz.prog [(131,Ent.pure p_zsFld),(132,Ent.pure p_zlHdr),(133,Ent.pure p_zlSta),(135,Ent.pure p_zlAct),(137,Ent.pure p_zlTab),(139,Ent.pure p_zsStg),(140,Ent.pure p_zlRol),(142,Ent.pure p_zsRef),(129,Ent.pure p_zHdr),(134,Ent.pure p_zSta),(136,Ent.pure p_zAct),(138,Ent.pure p_zTab),(141,Ent.pure p_zRol)] (aEnd Tryz.prog [.tmp 4] H.nx _ _ (assoc [])) []) _ _
  clear hlt
  try simp only [List.append_eq,yal,yak]
  simp only [go_sem,byq,schC,p_zsFld,p_zlHdr,p_zlSta,p_zlAct,p_zlTab,p_zsStg,p_zlRol,p_zsRef,h0,h1,h2,h3,h4,h5,h6,h7,h8,h9,true_and,Bool.bne_false,Bool.bne_true]
  refine ⟨x.fields,y.fields,⟨rfl,rfl,hx.f,hy.f⟩,?_⟩
  try simp only [go_sem,byq,p_zsFld,p_zlHdr,p_zlSta,p_zlAct,p_zlTab,p_zsStg,p_zlRol,p_zsRef,h0,h1,h2,h3,h4,h5,h6,h7,h8,h9,true_and,Bool.bne_false,Bool.bne_true]
  refine ⟨x.headers,y.headers,⟨rfl,rfl,hx.h,hy.h,hx.h',hy.h'⟩,?_⟩
  try simp only [go_sem,byq,p_zsFld,p_zlHdr,p_zlSta,p_zlAct,p_zlTab,p_zsStg,p_zlRol,p_zsRef,h0,h1,h2,h3,h4,h5,h6,h7,h8,h9,true_and,Bool.bne_false,Bool.bne_true]
  refine ⟨x.states,y.states,⟨rfl,rfl,hx.s,hy.s,hx.s',hy.s'⟩,?_⟩
  try simp only [go_sem,byq,p_zsFld,p_zlHdr,p_zlSta,p_zlAct,p_zlTab,p_zsStg,p_zlRol,p_zsRef,h0,h1,h2,h3,h4,h5,h6,h7,h8,h9,true_and,Bool.bne_false,Bool.bne_true]
  refine ⟨x.actions,y.actions,⟨rfl,rfl,hx.a,hy.a,hx.a',hy.a'⟩,?_⟩
  try simp only [go_sem,byq,p_zsFld,p_zlHdr,p_zlSta,p_zlAct,p_zlTab,p_zsStg,p_zlRol,p_zsRef,h0,h1,h2,h3,h4,h5,h6,h7,h8,h9,true_and,Bool.bne_false,Bool.bne_true]
  refine ⟨x.tables,y.tables,⟨rfl,rfl,hx.t,hy.t,hx.t',hy.t'⟩,?_⟩
  try simp only [go_sem,byq,p_zsFld,p_zlHdr,p_zlSta,p_zlAct,p_zlTab,p_zsStg,p_zlRol,p_zsRef,h0,h1,h2,h3,h4,h5,h6,h7,h8,h9,true_and,Bool.bne_false,Bool.bne_true]
  refine ⟨x.stages,y.stages,⟨rfl,rfl,hx.g,hy.g⟩,?_⟩
  try simp only [go_sem,byq,p_zsFld,p_zlHdr,p_zlSta,p_zlAct,p_zlTab,p_zsStg,p_zlRol,p_zsRef,h0,h1,h2,h3,h4,h5,h6,h7,h8,h9,true_and,Bool.bne_false,Bool.bne_true]
  refine ⟨x.roles,y.roles,⟨rfl,rfl,hx.r,hy.r,hx.r',hy.r'⟩,?_⟩
  try simp only [go_sem,byq,p_zsFld,p_zlHdr,p_zlSta,p_zlAct,p_zlTab,p_zsStg,p_zlRol,p_zsRef,h0,h1,h2,h3,h4,h5,h6,h7,h8,h9,true_and,Bool.bne_false,Bool.bne_true]
  refine ⟨x.refs,y.refs,⟨rfl,rfl,hx.x,hy.x⟩,?_⟩
  try simp only [go_sem,byq,p_zsFld,p_zlHdr,p_zlSta,p_zlAct,p_zlTab,p_zsStg,p_zlRol,p_zsRef,h0,h1,h2,h3,h4,h5,h6,h7,h8,h9,true_and,Bool.bne_false,Bool.bne_true]
  simp (disch:=first | assumption | omega | (simp;done) | (simp;omega) | (simp only [bt,and_true];first | done | omega | (simp;done))) [↓zmi,beq,ybc,ybd,ybe,endOk,wk,wk2,wk1,wkM,wkL,wkLL,ybf,hcl]
  first | done | repeat (first | exact AHeap.Le.refl _ | refine AHeap.Le.push ?_ _)
end Go.AL

