/- Contracts and plain laws, a part of the proof; no condition of its own. -/
import Derived.Test.YthpglnacipgolaaGreatW03e
open List renaming length_cons → yaz, length_nil → yba, take_of_length_le → ybc, drop_append → ybd, take_append → ybe, drop_eq_nil_of_le → ybf, length_map → ybb, take_zero → yar
open Go Go.AL Go.Proofs
namespace Go.AL
set_option linter.all false
set_option maxRecDepth 10000
theorem ti_lstHdr:ti Tryz.prog 144=some ⟨.struct [(0,3,false),(1,141,false),(2,142,false)],3,24,.agg [.int .i64 0,.nilf,.nilf]⟩:=by kernel_rfl
theorem ti_fwHdr:ti Tryz.prog 141=some ⟨.func,1,8,.nilf⟩:=by kernel_rfl
theorem ti_frHdr:ti Tryz.prog 142=some ⟨.func,1,8,.nilf⟩:=by kernel_rfl
theorem ti_lstSta:ti Tryz.prog 153=some ⟨.struct [(0,3,false),(1,150,false),(2,151,false)],3,24,.agg [.int .i64 0,.nilf,.nilf]⟩:=by kernel_rfl
theorem ti_fwSta:ti Tryz.prog 150=some ⟨.func,1,8,.nilf⟩:=by kernel_rfl
theorem ti_frSta:ti Tryz.prog 151=some ⟨.func,1,8,.nilf⟩:=by kernel_rfl
theorem ti_lstAct:ti Tryz.prog 159=some ⟨.struct [(0,3,false),(1,156,false),(2,157,false)],3,24,.agg [.int .i64 0,.nilf,.nilf]⟩:=by kernel_rfl
theorem ti_fwAct:ti Tryz.prog 156=some ⟨.func,1,8,.nilf⟩:=by kernel_rfl
theorem ti_frAct:ti Tryz.prog 157=some ⟨.func,1,8,.nilf⟩:=by kernel_rfl
theorem ti_lstGra:ti Tryz.prog 359=some ⟨.struct [(0,3,false),(1,356,false),(2,357,false)],3,24,.agg [.int .i64 0,.nilf,.nilf]⟩:=by kernel_rfl
theorem ti_fwGra:ti Tryz.prog 356=some ⟨.func,1,8,.nilf⟩:=by kernel_rfl
theorem ti_frGra:ti Tryz.prog 357=some ⟨.func,1,8,.nilf⟩:=by kernel_rfl
attribute [go_sem] ti_lstHdr ti_fwHdr ti_frHdr ti_lstSta ti_fwSta ti_frSta ti_lstAct ti_fwAct ti_frAct ti_lstGra ti_fwGra ti_frGra
/-! Hdr -/
def e_wrHdr:=eW (headerAV) okHeader eHeader
def e_putHdr:=ePut 180 3 (headerAV) okHeader eHeader
set_option maxHeartbeats 8000000 in
theorem ok_wrHdr:EntOk Tryz.prog 180 (Ent.effect e_wrHdr):=by
  unfold e_wrHdr
  refine EntOk.effect fun args H K h=>?_
  unfold eW at h
  split at h
  rotate_left
  · exact h.elim
  rename_i id x
  obtain ⟨q,s,a,⟨hW,rfl,ha,hl⟩,hK⟩:=h
  refine ⟨_,_,hK,?_⟩
  clear hK
  have hF:=hW.facts
  have hcl0:=hW.closed (t:=s.add (eHeader a))
  have hid:=AHeap.get_lt hW.o
  have hq:=AHeap.get_lt hW.bu
  refine ACalls.of_aw (Ω:=[(55,Ent.effect e_zNum),(177,Ent.effect e_zTxt),(182,Ent.pure p_cdInt),(181,Ent.effect e_putInt)]) (T:=assoc [(3,[[],[],[],[],[1,3]])]) mixed (TblOk.cons ok_zNum (TblOk.cons ok_zTxt (TblOk.cons ok_cdInt (TblOk.cons ok_putInt TblOk.nil)))) Tryz.func180 (by kernel_rfl) (by rfl) (rs:=[]) (by rfl) (by kernel_rfl) (by simp only [Tryz.ntmps180,yaz,yba];decide) (by rw [swH_nx];omega) fun hcl hlt=>?_
  change aw _ _ _ (KI Tryz.prog [(55,Ent.effect e_zNum),(177,Ent.effect e_zTxt),(182,Ent.pure p_cdInt),(181,Ent.effect e_putInt)] (aEnd Tryz.prog [] H.nx _ _ (assoc [(3,[[],[],[],[],[1,3]])])) []) _ _
  clear hlt
  have hcl1:=hcl0 hcl
  unfold eHeader at hl hcl1 ⊢
  rw [← enc_assoc,← enc_assoc] at hl hcl1 ⊢
  have hl3:=hl
  have hl2:=enc_pre hl3
  have hl1:=enc_pre hl2
  simp only [go_sem,headerAV,p_cdInt,inL,swH_nx,swH_cells0]
  refine w_num (.inr rfl) (hW.push _) hl1 ?_
  rw [hF.p0]
  simp only [go_sem,headerAV,p_cdInt,inL,swH_nx,swH_cells0]
  refine w_txt (ha) ((hW.next _).push _) hl2 ?_
  rw [hF.p1]
  simp only [go_sem,headerAV,p_cdInt,inL,swH_nx,swH_cells0]
  refine w_put (c:=.int .i64) (fun _ _=>trivial) ((hW.next _).push _) hl3 ?_
  rw [hF.p1]
  try simp only [go_sem,headerAV,p_cdInt,inL,swH_nx,swH_cells0]
  simp (disch:=first | assumption | omega | (simp;done) | (simp;omega) | (simp only [bt,and_true];first | done | omega | (simp;done))) [↓zmi,beq,ybc,ybd,ybe,endOk,wk,wk2,wk1,wkM,wkL,wkLL,ybf,hcl1]
set_option maxHeartbeats 8000000 in
theorem ok_putHdr:EntOk Tryz.prog 58 (Ent.effect e_putHdr):=by
  unfold e_putHdr
  refine EntOk.effect fun args H K h=>?_
  unfold ePut at h
  split at h
  rotate_left
  · exact h.elim
  rename_i id most f' r sz' xs
  obtain ⟨q,s,l,⟨hW,rfl,rfl,rfl,ha,hl⟩,hK⟩:=h
  refine ⟨_,_,hK,?_⟩
  clear hK
  have hF:=hW.facts
  have hcl0:=fun t=>hW.closed (t:=t)
  have hid:=AHeap.get_lt hW.o
  have hq:=AHeap.get_lt hW.bu
  have hll:=put_len one_header hl
  obtain ⟨b,sl,sf,sa⟩:=s
  have hne:=far_of hid
  have hneq:=far_of hq
  have n1:(id=q)=False:=eq_false hW.ne
  have n2:(q=id)=False:=eq_false fun e=>hW.ne e.symm
  have hcs:=cells_some hW.o
  have hb0:=hW.bu
  have hi0:=hW.o
  have hnn:=hW.ne
  have hlb:b.length≤encMax:=enc_pre hl
  rw [encMax_eq] at hlb
  dsimp only at hcs hb0 hi0 hlb
  have lw2:=wUint_len (l.length:Int) 2
  refine ACalls.of_aw (Ω:=[(175,Ent.pure p_AppendUint),(180,Ent.effect e_wrHdr)]) (T:=assoc [(2,[[],[],[],[],[],[],[],[],[4,7],[],[],[4,7]])]) mixed (TblOk.cons ok_AppendUint (TblOk.cons ok_wrHdr TblOk.nil)) Tryz.func58 (by kernel_rfl) (by rfl) (rs:=[]) (by rfl) (by kernel_rfl) (by simp only [Tryz.ntmps58,yaz,yba];decide) (by rw [swH_nx];omega) fun hcl hlt=>?_
  change aw _ _ _ (KI Tryz.prog [(175,Ent.pure p_AppendUint),(180,Ent.effect e_wrHdr)] (aEnd Tryz.prog [] H.nx _ _ (assoc [(2,[[],[],[],[],[],[],[],[],[4,7],[],[],[4,7]])])) []) _ _
  clear hlt
  have hcl1:=fun t=>hcl0 t hcl
  have hcm:=fun cs=>@cells_set_same H id cs hid
  have hA:=fun X Y=>@cells_set_far H id q X Y hnn hid
  have hB:=fun X=>get_set_far (X:=X) hnn hb0
  have eh:=fun X Y Z=>@set_set_far H id q X Y Z
  have hL2:sl=true→(sl||decide ((l.length:Int) > most))=true:=fun h=>by rw [h,Bool.true_or]
  have hL3:sl=false→decide ((l.length:Int) > most)=(sl||decide ((l.length:Int) > most)):=fun h=>by rw [h,Bool.false_or]
  have hst:=swH_cnt (H:=H) (id:=id) (q:=q) (b:=b) (sl:=sl) (sf:=sf) (sa:=sa) (n:=l.length) (most:=most)
  have hS1:=hW.next ((⟨b,sl,sf,sa⟩:Enc).add (eCnt l.length most))
  have htot:(((⟨b,sl,sf,sa⟩:Enc).add (eCnt l.length most)).add (eAll eHeader l))=(⟨b,sl,sf,sa⟩:Enc).add (eList eHeader most l):=by rw [enc_assoc];rfl
  rw [← htot] at hl ⊢
  generalize ((⟨b,sl,sf,sa⟩:Enc).add (eCnt l.length most))=s1 at *
  generalize (sl||decide ((l.length:Int) > most))=L at *
  have hlv:∀ n,(AV.slice .any 3 (l.map (headerAV))).lt n:=fun n=>lt_map (fun x=>lt_headerAV x)
  have hlc:=fun n=>@lt_codec n most 180 r
  cases sl
  case' true =>
    rw [hL2 rfl] at hst
    simp only [go_sem,byq,hne,hneq,n1,n2,hcs,hcm,hA,hB,eh,hi0,hb0,p_AppendUint,ybb]
  case' false =>
    simp only [go_sem,byq,hne,hneq,n1,n2,hcs,hcm,hA,hB,eh,hi0,hb0,p_AppendUint,ybb,hL3 rfl]
  all_goals
    (repeat with_reducible refine And.intro (by first | assumption | decide | omega | exact ⟨by omega,by omega⟩) ?_)
    refine loop_introW (A:=Nat) (fun k=>[(0,.ptr id 0),(4,.ptr H.nx 0),(33,.slice .any 3 (l.map (headerAV))),(34,.int .i64 (l.length:Int)),(35,.int .i64 (k:Int))])
      (fun k=>(swH H id q (s1.add (eAll eHeader (l.take k)))).push (.cells (codecC most 180 r))) (fun k=>k≤l.length) (fun k=>l.length - k) 0 (by omega) ?_ fun k hk=>?_
    · rw [yar,eAll,enc_add0,hst]
      refine ⟨by simp only [zkk,zkp,zky,zkz,swH_nx];omega,by repeat (first | exact AHeap.Le.refl _ | refine AHeap.Le.push ?_ _),?_,?_,?_⟩
      · rw [← hst];exact closed_cells (hcl1 _) (hlc _)
      · simp [ltF,zky,zkz,znh,zmz,hlv]
        omega
      · simp [subW,wk2,wk1,wkM,Fr.get]
    simp only [go_sem]
    refine cond_split (fun hc=>?_) (fun hc=>?_)
    · have hk':k<l.length:=by simp at hc;omega
      obtain ⟨x,hx⟩:∃ x,x=l[k]:=⟨_,rfl⟩
      have hg:=getD_map (f:=headerAV) (l:=l) (k:=k) (x:=x) (by rw [List.getElem?_eq_getElem hk',hx])
      have e5:IntKind.i64.wrap ((k:Int)+1)=((k+1:Nat):Int):=by rw [wrap_i64]<;>omega
      have hxo:=ha x (by rw [hx];exact List.getElem_mem hk')
      obtain ⟨es,hlk⟩:=put_step (g:=eHeader) hk' hx hl
      have hSk:=hW.next (s1.add (eAll eHeader (l.take k)))
      simp only [go_sem,Int.toNat_natCast,ybb,hg,swH_nx,headerAV,codecC,encMax_eq]
      refine ⟨by omega,?_⟩
      refine w_el (c:=headerAV) hxo (hSk.push2 _ _) hlk ?_
      rw [hF.p2,es]
      simp only [go_sem,e5]
      refine ⟨k+1,by omega,by omega,by simp only [zkk,zkp,zky,swH_nx];omega,by repeat (first | exact AHeap.Le.refl _ | refine AHeap.Le.push ?_ _),closed_cells (hcl1 _) (hlc _),?_,?_⟩
      · simp [ltF,zky,swH_nx,znh,zmz,hlv]
        omega
      · simp [subW,wk2,wk1,wkM,Fr.get]
    · have hk':k=l.length:=by simp at hc;omega
      subst hk'
      rw [List.take_length]
      simp only [go_sem]
      refine ⟨?_,by repeat (first | exact AHeap.Le.refl _ | refine AHeap.Le.push ?_ _),hcl1 _,?_⟩
      · simp [wk,wk2,wk1,wkLL]
      · simp [znm,znp]
def p_cdHdr:List AV→AHeap→(AV→Prop)→Prop
  | [],_,K=>K (.agg (codecC 8 180 183))
  | _,_,_=>False
theorem ok_cdHdr:EntOk Tryz.prog 59 (Ent.pure p_cdHdr):=by
  refine EntOk.pure fun args H K h=>?_
  unfold p_cdHdr at h
  split at h
  rotate_left
  · exact h.elim
  refine ⟨_,h,?_⟩
  refine ACalls.of_aw (Ω:=[]) (T:=assoc []) mixed TblOk.nil Tryz.func59 (by kernel_rfl) (by rfl) (rs:=[.cell 0 144]) (by rfl) (by kernel_rfl) (by simp only [Tryz.ntmps59,yaz,yba];decide) (Nat.le_refl _) fun hcl hlt=>?_
  change aw _ _ _ (KI Tryz.prog [] (aEnd Tryz.prog [.cell 0 144] H.nx _ _ (assoc [])) []) _ _
  clear hlt
  simp only [go_sem,codecC]
  simp (disch:=first | assumption | omega | (simp;done) | (simp;omega) | (simp only [bt,and_true];first | done | omega | (simp;done))) [↓zmi,beq,ybc,ybd,ybe,endOk,wk,wk2,wk1,wkM,wkL,wkLL,ybf,hcl,lt_func0]
/-! Sta -/
def e_wrSta:=eW (stateAV) okState eState
def e_putSta:=ePut 185 5 (stateAV) okState eState
set_option maxHeartbeats 8000000 in
theorem ok_wrSta:EntOk Tryz.prog 185 (Ent.effect e_wrSta):=by
  unfold e_wrSta
  refine EntOk.effect fun args H K h=>?_
  unfold eW at h
  split at h
  rotate_left
  · exact h.elim
  rename_i id x
  obtain ⟨q,s,a,⟨hW,rfl,ha,hl⟩,hK⟩:=h
  refine ⟨_,_,hK,?_⟩
  clear hK
  have hF:=hW.facts
  have hcl0:=hW.closed (t:=s.add (eState a))
  have hid:=AHeap.get_lt hW.o
  have hq:=AHeap.get_lt hW.bu
  refine ACalls.of_aw (Ω:=[(55,Ent.effect e_zNum),(187,Ent.pure p_cdCas),(186,Ent.effect e_putCas)]) (T:=assoc [(4,[[],[],[],[],[1,3]])]) mixed (TblOk.cons ok_zNum (TblOk.cons ok_cdCas (TblOk.cons ok_putCas TblOk.nil))) Tryz.func185 (by kernel_rfl) (by rfl) (rs:=[]) (by rfl) (by kernel_rfl) (by simp only [Tryz.ntmps185,yaz,yba];decide) (by rw [swH_nx];omega) fun hcl hlt=>?_
  change aw _ _ _ (KI Tryz.prog [(55,Ent.effect e_zNum),(187,Ent.pure p_cdCas),(186,Ent.effect e_putCas)] (aEnd Tryz.prog [] H.nx _ _ (assoc [(4,[[],[],[],[],[1,3]])])) []) _ _
  clear hlt
  have hcl1:=hcl0 hcl
  unfold eState at hl hcl1 ⊢
  rw [← enc_assoc,← enc_assoc,← enc_assoc,← enc_assoc] at hl hcl1 ⊢
  have hl5:=hl
  have hl4:=enc_pre hl5
  have hl3:=enc_pre hl4
  have hl2:=enc_pre hl3
  have hl1:=enc_pre hl2
  simp only [go_sem,stateAV,p_cdCas,swH_nx,swH_cells0]
  refine w_num (.inr rfl) (hW.push _) hl1 ?_
  rw [hF.p0]
  simp only [go_sem,stateAV,p_cdCas,swH_nx,swH_cells0]
  refine w_num (.inr rfl) ((hW.next _).push _) hl2 ?_
  rw [hF.p1]
  simp only [go_sem,stateAV,p_cdCas,swH_nx,swH_cells0]
  refine w_num (.inr rfl) ((hW.next _).push _) hl3 ?_
  rw [hF.p1]
  simp only [go_sem,stateAV,p_cdCas,swH_nx,swH_cells0]
  refine w_put (c:=caseAV) (ha) ((hW.next _).push _) hl4 ?_
  rw [hF.p1]
  simp only [go_sem,stateAV,p_cdCas,swH_nx,swH_cells0]
  refine w_num (.inr rfl) ((hW.next _).push _) hl5 ?_
  rw [hF.p1]
  try simp only [go_sem,stateAV,p_cdCas,swH_nx,swH_cells0]
  simp (disch:=first | assumption | omega | (simp;done) | (simp;omega) | (simp only [bt,and_true];first | done | omega | (simp;done))) [↓zmi,beq,ybc,ybd,ybe,endOk,wk,wk2,wk1,wkM,wkL,wkLL,ybf,hcl1]
set_option maxHeartbeats 8000000 in
theorem ok_putSta:EntOk Tryz.prog 60 (Ent.effect e_putSta):=by
  unfold e_putSta
  refine EntOk.effect fun args H K h=>?_
  unfold ePut at h
  split at h
  rotate_left
  · exact h.elim
  rename_i id most f' r sz' xs
  obtain ⟨q,s,l,⟨hW,rfl,rfl,rfl,ha,hl⟩,hK⟩:=h
  refine ⟨_,_,hK,?_⟩
  clear hK
  have hF:=hW.facts
  have hcl0:=fun t=>hW.closed (t:=t)
  have hid:=AHeap.get_lt hW.o
  have hq:=AHeap.get_lt hW.bu
  have hll:=put_len one_state hl
  obtain ⟨b,sl,sf,sa⟩:=s
  have hne:=far_of hid
  have hneq:=far_of hq
  have n1:(id=q)=False:=eq_false hW.ne
  have n2:(q=id)=False:=eq_false fun e=>hW.ne e.symm
  have hcs:=cells_some hW.o
  have hb0:=hW.bu
  have hi0:=hW.o
  have hnn:=hW.ne
  have hlb:b.length≤encMax:=enc_pre hl
  rw [encMax_eq] at hlb
  dsimp only at hcs hb0 hi0 hlb
  have lw2:=wUint_len (l.length:Int) 2
  refine ACalls.of_aw (Ω:=[(175,Ent.pure p_AppendUint),(185,Ent.effect e_wrSta)]) (T:=assoc [(2,[[],[],[],[],[],[],[],[],[4,7],[],[],[4,7]])]) mixed (TblOk.cons ok_AppendUint (TblOk.cons ok_wrSta TblOk.nil)) Tryz.func60 (by kernel_rfl) (by rfl) (rs:=[]) (by rfl) (by kernel_rfl) (by simp only [Tryz.ntmps60,yaz,yba];decide) (by rw [swH_nx];omega) fun hcl hlt=>?_
  change aw _ _ _ (KI Tryz.prog [(175,Ent.pure p_AppendUint),(185,Ent.effect e_wrSta)] (aEnd Tryz.prog [] H.nx _ _ (assoc [(2,[[],[],[],[],[],[],[],[],[4,7],[],[],[4,7]])])) []) _ _
  clear hlt
  have hcl1:=fun t=>hcl0 t hcl
  have hcm:=fun cs=>@cells_set_same H id cs hid
  have hA:=fun X Y=>@cells_set_far H id q X Y hnn hid
  have hB:=fun X=>get_set_far (X:=X) hnn hb0
  have eh:=fun X Y Z=>@set_set_far H id q X Y Z
  have hL2:sl=true→(sl||decide ((l.length:Int) > most))=true:=fun h=>by rw [h,Bool.true_or]
  have hL3:sl=false→decide ((l.length:Int) > most)=(sl||decide ((l.length:Int) > most)):=fun h=>by rw [h,Bool.false_or]
  have hst:=swH_cnt (H:=H) (id:=id) (q:=q) (b:=b) (sl:=sl) (sf:=sf) (sa:=sa) (n:=l.length) (most:=most)
  have hS1:=hW.next ((⟨b,sl,sf,sa⟩:Enc).add (eCnt l.length most))
  have htot:(((⟨b,sl,sf,sa⟩:Enc).add (eCnt l.length most)).add (eAll eState l))=(⟨b,sl,sf,sa⟩:Enc).add (eList eState most l):=by rw [enc_assoc];rfl
  rw [← htot] at hl ⊢
  generalize ((⟨b,sl,sf,sa⟩:Enc).add (eCnt l.length most))=s1 at *
  generalize (sl||decide ((l.length:Int) > most))=L at *
  have hlv:∀ n,(AV.slice .any 5 (l.map (stateAV))).lt n:=fun n=>lt_map (fun x=>lt_stateAV x)
  have hlc:=fun n=>@lt_codec n most 185 r
  cases sl
  case' true =>
    rw [hL2 rfl] at hst
    simp only [go_sem,byq,hne,hneq,n1,n2,hcs,hcm,hA,hB,eh,hi0,hb0,p_AppendUint,ybb]
  case' false =>
    simp only [go_sem,byq,hne,hneq,n1,n2,hcs,hcm,hA,hB,eh,hi0,hb0,p_AppendUint,ybb,hL3 rfl]
  all_goals
    (repeat with_reducible refine And.intro (by first | assumption | decide | omega | exact ⟨by omega,by omega⟩) ?_)
    refine loop_introW (A:=Nat) (fun k=>[(0,.ptr id 0),(4,.ptr H.nx 0),(33,.slice .any 5 (l.map (stateAV))),(34,.int .i64 (l.length:Int)),(35,.int .i64 (k:Int))])
      (fun k=>(swH H id q (s1.add (eAll eState (l.take k)))).push (.cells (codecC most 185 r))) (fun k=>k≤l.length) (fun k=>l.length - k) 0 (by omega) ?_ fun k hk=>?_
    · rw [yar,eAll,enc_add0,hst]
      refine ⟨by simp only [zkk,zkp,zky,zkz,swH_nx];omega,by repeat (first | exact AHeap.Le.refl _ | refine AHeap.Le.push ?_ _),?_,?_,?_⟩
      · rw [← hst];exact closed_cells (hcl1 _) (hlc _)
      · simp [ltF,zky,zkz,znh,zmz,hlv]
        omega
      · simp [subW,wk2,wk1,wkM,Fr.get]
    simp only [go_sem]
    refine cond_split (fun hc=>?_) (fun hc=>?_)
    · have hk':k<l.length:=by simp at hc;omega
      obtain ⟨x,hx⟩:∃ x,x=l[k]:=⟨_,rfl⟩
      have hg:=getD_map (f:=stateAV) (l:=l) (k:=k) (x:=x) (by rw [List.getElem?_eq_getElem hk',hx])
      have e5:IntKind.i64.wrap ((k:Int)+1)=((k+1:Nat):Int):=by rw [wrap_i64]<;>omega
      have hxo:=ha x (by rw [hx];exact List.getElem_mem hk')
      obtain ⟨es,hlk⟩:=put_step (g:=eState) hk' hx hl
      have hSk:=hW.next (s1.add (eAll eState (l.take k)))
      simp only [go_sem,Int.toNat_natCast,ybb,hg,swH_nx,stateAV,codecC,encMax_eq]
      refine ⟨by omega,?_⟩
      refine w_el (c:=stateAV) hxo (hSk.push2 _ _) hlk ?_
      rw [hF.p2,es]
      simp only [go_sem,e5]
      refine ⟨k+1,by omega,by omega,by simp only [zkk,zkp,zky,swH_nx];omega,by repeat (first | exact AHeap.Le.refl _ | refine AHeap.Le.push ?_ _),closed_cells (hcl1 _) (hlc _),?_,?_⟩
      · simp [ltF,zky,swH_nx,znh,zmz,hlv]
        omega
      · simp [subW,wk2,wk1,wkM,Fr.get]
    · have hk':k=l.length:=by simp at hc;omega
      subst hk'
      rw [List.take_length]
      simp only [go_sem]
      refine ⟨?_,by repeat (first | exact AHeap.Le.refl _ | refine AHeap.Le.push ?_ _),hcl1 _,?_⟩
      · simp [wk,wk2,wk1,wkLL]
      · simp [znm,znp]
def p_cdSta:List AV→AHeap→(AV→Prop)→Prop
  | [],_,K=>K (.agg (codecC 12 185 188))
  | _,_,_=>False
theorem ok_cdSta:EntOk Tryz.prog 61 (Ent.pure p_cdSta):=by
  refine EntOk.pure fun args H K h=>?_
  unfold p_cdSta at h
  split at h
  rotate_left
  · exact h.elim
  refine ⟨_,h,?_⟩
  refine ACalls.of_aw (Ω:=[]) (T:=assoc []) mixed TblOk.nil Tryz.func61 (by kernel_rfl) (by rfl) (rs:=[.cell 0 153]) (by rfl) (by kernel_rfl) (by simp only [Tryz.ntmps61,yaz,yba];decide) (Nat.le_refl _) fun hcl hlt=>?_
  change aw _ _ _ (KI Tryz.prog [] (aEnd Tryz.prog [.cell 0 153] H.nx _ _ (assoc [])) []) _ _
  clear hlt
  simp only [go_sem,codecC]
  simp (disch:=first | assumption | omega | (simp;done) | (simp;omega) | (simp only [bt,and_true];first | done | omega | (simp;done))) [↓zmi,beq,ybc,ybd,ybe,endOk,wk,wk2,wk1,wkM,wkL,wkLL,ybf,hcl,lt_func0]
/-! Act -/
def e_wrAct:=eW (actionAV) okAction eAction
def e_putAct:=ePut 190 5 (actionAV) okAction eAction
set_option maxHeartbeats 8000000 in
theorem ok_wrAct:EntOk Tryz.prog 190 (Ent.effect e_wrAct):=by
  unfold e_wrAct
  refine EntOk.effect fun args H K h=>?_
  unfold eW at h
  split at h
  rotate_left
  · exact h.elim
  rename_i id x
  obtain ⟨q,s,a,⟨hW,rfl,ha,hl⟩,hK⟩:=h
  refine ⟨_,_,hK,?_⟩
  clear hK
  have hF:=hW.facts
  have hcl0:=hW.closed (t:=s.add (eAction a))
  have hid:=AHeap.get_lt hW.o
  have hq:=AHeap.get_lt hW.bu
  refine ACalls.of_aw (Ω:=[(55,Ent.effect e_zNum),(177,Ent.effect e_zTxt),(192,Ent.pure p_cdPar),(191,Ent.effect e_putPar),(194,Ent.pure p_cdPrm),(193,Ent.effect e_putPrm)]) (T:=assoc [(3,[[],[],[],[],[1,3]]),(4,[[],[],[],[],[1,3]])]) mixed (TblOk.cons ok_zNum (TblOk.cons ok_zTxt (TblOk.cons ok_cdPar (TblOk.cons ok_putPar (TblOk.cons ok_cdPrm (TblOk.cons ok_putPrm TblOk.nil)))))) Tryz.func190 (by kernel_rfl) (by rfl) (rs:=[]) (by rfl) (by kernel_rfl) (by simp only [Tryz.ntmps190,yaz,yba];decide) (by rw [swH_nx];omega) fun hcl hlt=>?_
  change aw _ _ _ (KI Tryz.prog [(55,Ent.effect e_zNum),(177,Ent.effect e_zTxt),(192,Ent.pure p_cdPar),(191,Ent.effect e_putPar),(194,Ent.pure p_cdPrm),(193,Ent.effect e_putPrm)] (aEnd Tryz.prog [] H.nx _ _ (assoc [(3,[[],[],[],[],[1,3]]),(4,[[],[],[],[],[1,3]])])) []) _ _
  clear hlt
  have hcl1:=hcl0 hcl
  unfold eAction at hl hcl1 ⊢
  rw [← enc_assoc,← enc_assoc,← enc_assoc,← enc_assoc] at hl hcl1 ⊢
  have hl5:=hl
  have hl4:=enc_pre hl5
  have hl3:=enc_pre hl4
  have hl2:=enc_pre hl3
  have hl1:=enc_pre hl2
  simp only [go_sem,actionAV,p_cdPar,p_cdPrm,swH_nx,swH_cells0]
  refine w_num (.inr rfl) (hW.push _) hl1 ?_
  rw [hF.p0]
  simp only [go_sem,actionAV,p_cdPar,p_cdPrm,swH_nx,swH_cells0]
  refine w_txt (ha.1) ((hW.next _).push _) hl2 ?_
  rw [hF.p1]
  simp only [go_sem,actionAV,p_cdPar,p_cdPrm,swH_nx,swH_cells0]
  refine w_put (c:=paramAV) (ha.2.1) ((hW.next _).push _) hl3 ?_
  rw [hF.p1]
  simp only [go_sem,actionAV,p_cdPar,p_cdPrm,swH_nx,swH_cells0]
  refine w_put (c:=primAV) (ha.2.2.1) ((hW.next _).push _) hl4 ?_
  rw [hF.p1]
  simp only [go_sem,actionAV,p_cdPar,p_cdPrm,swH_nx,swH_cells0]
  refine w_txt (ha.2.2.2) ((hW.next _).push _) hl5 ?_
  rw [hF.p1]
  try simp only [go_sem,actionAV,p_cdPar,p_cdPrm,swH_nx,swH_cells0]
  simp (disch:=first | assumption | omega | (simp;done) | (simp;omega) | (simp only [bt,and_true];first | done | omega | (simp;done))) [↓zmi,beq,ybc,ybd,ybe,endOk,wk,wk2,wk1,wkM,wkL,wkLL,ybf,hcl1]
set_option maxHeartbeats 8000000 in
theorem ok_putAct:EntOk Tryz.prog 62 (Ent.effect e_putAct):=by
  unfold e_putAct
  refine EntOk.effect fun args H K h=>?_
  unfold ePut at h
  split at h
  rotate_left
  · exact h.elim
  rename_i id most f' r sz' xs
  obtain ⟨q,s,l,⟨hW,rfl,rfl,rfl,ha,hl⟩,hK⟩:=h
  refine ⟨_,_,hK,?_⟩
  clear hK
  have hF:=hW.facts
  have hcl0:=fun t=>hW.closed (t:=t)
  have hid:=AHeap.get_lt hW.o
  have hq:=AHeap.get_lt hW.bu
  have hll:=put_len one_action hl
  obtain ⟨b,sl,sf,sa⟩:=s
  have hne:=far_of hid
  have hneq:=far_of hq
  have n1:(id=q)=False:=eq_false hW.ne
  have n2:(q=id)=False:=eq_false fun e=>hW.ne e.symm
  have hcs:=cells_some hW.o
  have hb0:=hW.bu
  have hi0:=hW.o
  have hnn:=hW.ne
  have hlb:b.length≤encMax:=enc_pre hl
  rw [encMax_eq] at hlb
  dsimp only at hcs hb0 hi0 hlb
  have lw2:=wUint_len (l.length:Int) 2
  refine ACalls.of_aw (Ω:=[(175,Ent.pure p_AppendUint),(190,Ent.effect e_wrAct)]) (T:=assoc [(2,[[],[],[],[],[],[],[],[],[4,7],[],[],[4,7]])]) mixed (TblOk.cons ok_AppendUint (TblOk.cons ok_wrAct TblOk.nil)) Tryz.func62 (by kernel_rfl) (by rfl) (rs:=[]) (by rfl) (by kernel_rfl) (by simp only [Tryz.ntmps62,yaz,yba];decide) (by rw [swH_nx];omega) fun hcl hlt=>?_
  change aw _ _ _ (KI Tryz.prog [(175,Ent.pure p_AppendUint),(190,Ent.effect e_wrAct)] (aEnd Tryz.prog [] H.nx _ _ (assoc [(2,[[],[],[],[],[],[],[],[],[4,7],[],[],[4,7]])])) []) _ _
  clear hlt
  have hcl1:=fun t=>hcl0 t hcl
  have hcm:=fun cs=>@cells_set_same H id cs hid
  have hA:=fun X Y=>@cells_set_far H id q X Y hnn hid
  have hB:=fun X=>get_set_far (X:=X) hnn hb0
  have eh:=fun X Y Z=>@set_set_far H id q X Y Z
  have hL2:sl=true→(sl||decide ((l.length:Int) > most))=true:=fun h=>by rw [h,Bool.true_or]
  have hL3:sl=false→decide ((l.length:Int) > most)=(sl||decide ((l.length:Int) > most)):=fun h=>by rw [h,Bool.false_or]
  have hst:=swH_cnt (H:=H) (id:=id) (q:=q) (b:=b) (sl:=sl) (sf:=sf) (sa:=sa) (n:=l.length) (most:=most)
  have hS1:=hW.next ((⟨b,sl,sf,sa⟩:Enc).add (eCnt l.length most))
  have htot:(((⟨b,sl,sf,sa⟩:Enc).add (eCnt l.length most)).add (eAll eAction l))=(⟨b,sl,sf,sa⟩:Enc).add (eList eAction most l):=by rw [enc_assoc];rfl
  rw [← htot] at hl ⊢
  generalize ((⟨b,sl,sf,sa⟩:Enc).add (eCnt l.length most))=s1 at *
  generalize (sl||decide ((l.length:Int) > most))=L at *
  have hlv:∀ n,(AV.slice .any 5 (l.map (actionAV))).lt n:=fun n=>lt_map (fun x=>lt_actionAV x)
  have hlc:=fun n=>@lt_codec n most 190 r
  cases sl
  case' true =>
    rw [hL2 rfl] at hst
    simp only [go_sem,byq,hne,hneq,n1,n2,hcs,hcm,hA,hB,eh,hi0,hb0,p_AppendUint,ybb]
  case' false =>
    simp only [go_sem,byq,hne,hneq,n1,n2,hcs,hcm,hA,hB,eh,hi0,hb0,p_AppendUint,ybb,hL3 rfl]
  all_goals
    (repeat with_reducible refine And.intro (by first | assumption | decide | omega | exact ⟨by omega,by omega⟩) ?_)
    refine loop_introW (A:=Nat) (fun k=>[(0,.ptr id 0),(4,.ptr H.nx 0),(33,.slice .any 5 (l.map (actionAV))),(34,.int .i64 (l.length:Int)),(35,.int .i64 (k:Int))])
      (fun k=>(swH H id q (s1.add (eAll eAction (l.take k)))).push (.cells (codecC most 190 r))) (fun k=>k≤l.length) (fun k=>l.length - k) 0 (by omega) ?_ fun k hk=>?_
    · rw [yar,eAll,enc_add0,hst]
      refine ⟨by simp only [zkk,zkp,zky,zkz,swH_nx];omega,by repeat (first | exact AHeap.Le.refl _ | refine AHeap.Le.push ?_ _),?_,?_,?_⟩
      · rw [← hst];exact closed_cells (hcl1 _) (hlc _)
      · simp [ltF,zky,zkz,znh,zmz,hlv]
        omega
      · simp [subW,wk2,wk1,wkM,Fr.get]
    simp only [go_sem]
    refine cond_split (fun hc=>?_) (fun hc=>?_)
    · have hk':k<l.length:=by simp at hc;omega
      obtain ⟨x,hx⟩:∃ x,x=l[k]:=⟨_,rfl⟩
      have hg:=getD_map (f:=actionAV) (l:=l) (k:=k) (x:=x) (by rw [List.getElem?_eq_getElem hk',hx])
      have e5:IntKind.i64.wrap ((k:Int)+1)=((k+1:Nat):Int):=by rw [wrap_i64]<;>omega
      have hxo:=ha x (by rw [hx];exact List.getElem_mem hk')
      obtain ⟨es,hlk⟩:=put_step (g:=eAction) hk' hx hl
      have hSk:=hW.next (s1.add (eAll eAction (l.take k)))
      simp only [go_sem,Int.toNat_natCast,ybb,hg,swH_nx,actionAV,codecC,encMax_eq]
      refine ⟨by omega,?_⟩
      refine w_el (c:=actionAV) hxo (hSk.push2 _ _) hlk ?_
      rw [hF.p2,es]
      simp only [go_sem,e5]
      refine ⟨k+1,by omega,by omega,by simp only [zkk,zkp,zky,swH_nx];omega,by repeat (first | exact AHeap.Le.refl _ | refine AHeap.Le.push ?_ _),closed_cells (hcl1 _) (hlc _),?_,?_⟩
      · simp [ltF,zky,swH_nx,znh,zmz,hlv]
        omega
      · simp [subW,wk2,wk1,wkM,Fr.get]
    · have hk':k=l.length:=by simp at hc;omega
      subst hk'
      rw [List.take_length]
      simp only [go_sem]
      refine ⟨?_,by repeat (first | exact AHeap.Le.refl _ | refine AHeap.Le.push ?_ _),hcl1 _,?_⟩
      · simp [wk,wk2,wk1,wkLL]
      · simp [znm,znp]
def p_cdAct:List AV→AHeap→(AV→Prop)→Prop
  | [],_,K=>K (.agg (codecC 12 190 195))
  | _,_,_=>False
theorem ok_cdAct:EntOk Tryz.prog 63 (Ent.pure p_cdAct):=by
  refine EntOk.pure fun args H K h=>?_
  unfold p_cdAct at h
  split at h
  rotate_left
  · exact h.elim
  refine ⟨_,h,?_⟩
  refine ACalls.of_aw (Ω:=[]) (T:=assoc []) mixed TblOk.nil Tryz.func63 (by kernel_rfl) (by rfl) (rs:=[.cell 0 159]) (by rfl) (by kernel_rfl) (by simp only [Tryz.ntmps63,yaz,yba];decide) (Nat.le_refl _) fun hcl hlt=>?_
  change aw _ _ _ (KI Tryz.prog [] (aEnd Tryz.prog [.cell 0 159] H.nx _ _ (assoc [])) []) _ _
  clear hlt
  simp only [go_sem,codecC]
  simp (disch:=first | assumption | omega | (simp;done) | (simp;omega) | (simp only [bt,and_true];first | done | omega | (simp;done))) [↓zmi,beq,ybc,ybd,ybe,endOk,wk,wk2,wk1,wkM,wkL,wkLL,ybf,hcl,lt_func0]
/-! Gra -/
def e_wrGra:=eW (grantAV) okAny eGrant
def e_putGra:=ePut 318 4 (grantAV) okAny eGrant
set_option maxHeartbeats 8000000 in
theorem ok_wrGra:EntOk Tryz.prog 318 (Ent.effect e_wrGra):=by
  unfold e_wrGra
  refine EntOk.effect fun args H K h=>?_
  unfold eW at h
  split at h
  rotate_left
  · exact h.elim
  rename_i id x
  obtain ⟨q,s,a,⟨hW,rfl,ha,hl⟩,hK⟩:=h
  refine ⟨_,_,hK,?_⟩
  clear hK
  have hF:=hW.facts
  have hcl0:=hW.closed (t:=s.add (eGrant a))
  have hid:=AHeap.get_lt hW.o
  have hq:=AHeap.get_lt hW.bu
  refine ACalls.of_aw (Ω:=[(55,Ent.effect e_zNum),(211,Ent.effect e_zTru),(320,Ent.pure p_cdTru),(319,Ent.effect e_putTru)]) (T:=assoc [(4,[[],[],[],[],[1,3]])]) mixed (TblOk.cons ok_zNum (TblOk.cons ok_zTru (TblOk.cons ok_cdTru (TblOk.cons ok_putTru TblOk.nil)))) Tryz.func318 (by kernel_rfl) (by rfl) (rs:=[]) (by rfl) (by kernel_rfl) (by simp only [Tryz.ntmps318,yaz,yba];decide) (by rw [swH_nx];omega) fun hcl hlt=>?_
  change aw _ _ _ (KI Tryz.prog [(55,Ent.effect e_zNum),(211,Ent.effect e_zTru),(320,Ent.pure p_cdTru),(319,Ent.effect e_putTru)] (aEnd Tryz.prog [] H.nx _ _ (assoc [(4,[[],[],[],[],[1,3]])])) []) _ _
  clear hlt
  have hcl1:=hcl0 hcl
  unfold eGrant at hl hcl1 ⊢
  rw [← enc_assoc,← enc_assoc,← enc_assoc] at hl hcl1 ⊢
  have hl4:=hl
  have hl3:=enc_pre hl4
  have hl2:=enc_pre hl3
  have hl1:=enc_pre hl2
  simp only [go_sem,grantAV,p_cdTru,boL,swH_nx,swH_cells0]
  refine w_num (.inr rfl) (hW.push _) hl1 ?_
  rw [hF.p0]
  simp only [go_sem,grantAV,p_cdTru,boL,swH_nx,swH_cells0]
  refine w_tru ((hW.next _).push _) hl2 ?_
  rw [hF.p1]
  simp only [go_sem,grantAV,p_cdTru,boL,swH_nx,swH_cells0]
  refine w_tru ((hW.next _).push _) hl3 ?_
  rw [hF.p1]
  simp only [go_sem,grantAV,p_cdTru,boL,swH_nx,swH_cells0]
  refine w_put (c:=.bool) (fun _ _=>trivial) ((hW.next _).push _) hl4 ?_
  rw [hF.p1]
  try simp only [go_sem,grantAV,p_cdTru,boL,swH_nx,swH_cells0]
  simp (disch:=first | assumption | omega | (simp;done) | (simp;omega) | (simp only [bt,and_true];first | done | omega | (simp;done))) [↓zmi,beq,ybc,ybd,ybe,endOk,wk,wk2,wk1,wkM,wkL,wkLL,ybf,hcl1]
set_option maxHeartbeats 8000000 in
theorem ok_putGra:EntOk Tryz.prog 209 (Ent.effect e_putGra):=by
  unfold e_putGra
  refine EntOk.effect fun args H K h=>?_
  unfold ePut at h
  split at h
  rotate_left
  · exact h.elim
  rename_i id most f' r sz' xs
  obtain ⟨q,s,l,⟨hW,rfl,rfl,rfl,ha,hl⟩,hK⟩:=h
  refine ⟨_,_,hK,?_⟩
  clear hK
  have hF:=hW.facts
  have hcl0:=fun t=>hW.closed (t:=t)
  have hid:=AHeap.get_lt hW.o
  have hq:=AHeap.get_lt hW.bu
  have hll:=put_len one_grant hl
  obtain ⟨b,sl,sf,sa⟩:=s
  have hne:=far_of hid
  have hneq:=far_of hq
  have n1:(id=q)=False:=eq_false hW.ne
  have n2:(q=id)=False:=eq_false fun e=>hW.ne e.symm
  have hcs:=cells_some hW.o
  have hb0:=hW.bu
  have hi0:=hW.o
  have hnn:=hW.ne
  have hlb:b.length≤encMax:=enc_pre hl
  rw [encMax_eq] at hlb
  dsimp only at hcs hb0 hi0 hlb
  have lw2:=wUint_len (l.length:Int) 2
  refine ACalls.of_aw (Ω:=[(175,Ent.pure p_AppendUint),(318,Ent.effect e_wrGra)]) (T:=assoc [(2,[[],[],[],[],[],[],[],[],[4,7],[],[],[4,7]])]) mixed (TblOk.cons ok_AppendUint (TblOk.cons ok_wrGra TblOk.nil)) Tryz.func209 (by kernel_rfl) (by rfl) (rs:=[]) (by rfl) (by kernel_rfl) (by simp only [Tryz.ntmps209,yaz,yba];decide) (by rw [swH_nx];omega) fun hcl hlt=>?_
  change aw _ _ _ (KI Tryz.prog [(175,Ent.pure p_AppendUint),(318,Ent.effect e_wrGra)] (aEnd Tryz.prog [] H.nx _ _ (assoc [(2,[[],[],[],[],[],[],[],[],[4,7],[],[],[4,7]])])) []) _ _
  clear hlt
  have hcl1:=fun t=>hcl0 t hcl
  have hcm:=fun cs=>@cells_set_same H id cs hid
  have hA:=fun X Y=>@cells_set_far H id q X Y hnn hid
  have hB:=fun X=>get_set_far (X:=X) hnn hb0
  have eh:=fun X Y Z=>@set_set_far H id q X Y Z
  have hL2:sl=true→(sl||decide ((l.length:Int) > most))=true:=fun h=>by rw [h,Bool.true_or]
  have hL3:sl=false→decide ((l.length:Int) > most)=(sl||decide ((l.length:Int) > most)):=fun h=>by rw [h,Bool.false_or]
  have hst:=swH_cnt (H:=H) (id:=id) (q:=q) (b:=b) (sl:=sl) (sf:=sf) (sa:=sa) (n:=l.length) (most:=most)
  have hS1:=hW.next ((⟨b,sl,sf,sa⟩:Enc).add (eCnt l.length most))
  have htot:(((⟨b,sl,sf,sa⟩:Enc).add (eCnt l.length most)).add (eAll eGrant l))=(⟨b,sl,sf,sa⟩:Enc).add (eList eGrant most l):=by rw [enc_assoc];rfl
  rw [← htot] at hl ⊢
  generalize ((⟨b,sl,sf,sa⟩:Enc).add (eCnt l.length most))=s1 at *
  generalize (sl||decide ((l.length:Int) > most))=L at *
  have hlv:∀ n,(AV.slice .any 4 (l.map (grantAV))).lt n:=fun n=>lt_map (fun x=>lt_grantAV x)
  have hlc:=fun n=>@lt_codec n most 318 r
  cases sl
  case' true =>
    rw [hL2 rfl] at hst
    simp only [go_sem,byq,hne,hneq,n1,n2,hcs,hcm,hA,hB,eh,hi0,hb0,p_AppendUint,ybb]
  case' false =>
    simp only [go_sem,byq,hne,hneq,n1,n2,hcs,hcm,hA,hB,eh,hi0,hb0,p_AppendUint,ybb,hL3 rfl]
  all_goals
    (repeat with_reducible refine And.intro (by first | assumption | decide | omega | exact ⟨by omega,by omega⟩) ?_)
    refine loop_introW (A:=Nat) (fun k=>[(0,.ptr id 0),(4,.ptr H.nx 0),(33,.slice .any 4 (l.map (grantAV))),(34,.int .i64 (l.length:Int)),(35,.int .i64 (k:Int))])
      (fun k=>(swH H id q (s1.add (eAll eGrant (l.take k)))).push (.cells (codecC most 318 r))) (fun k=>k≤l.length) (fun k=>l.length - k) 0 (by omega) ?_ fun k hk=>?_
    · rw [yar,eAll,enc_add0,hst]
      refine ⟨by simp only [zkk,zkp,zky,zkz,swH_nx];omega,by repeat (first | exact AHeap.Le.refl _ | refine AHeap.Le.push ?_ _),?_,?_,?_⟩
      · rw [← hst];exact closed_cells (hcl1 _) (hlc _)
      · simp [ltF,zky,zkz,znh,zmz,hlv]
        omega
      · simp [subW,wk2,wk1,wkM,Fr.get]
    simp only [go_sem]
    refine cond_split (fun hc=>?_) (fun hc=>?_)
    · have hk':k<l.length:=by simp at hc;omega
      obtain ⟨x,hx⟩:∃ x,x=l[k]:=⟨_,rfl⟩
      have hg:=getD_map (f:=grantAV) (l:=l) (k:=k) (x:=x) (by rw [List.getElem?_eq_getElem hk',hx])
      have e5:IntKind.i64.wrap ((k:Int)+1)=((k+1:Nat):Int):=by rw [wrap_i64]<;>omega
      have hxo:=ha x (by rw [hx];exact List.getElem_mem hk')
      obtain ⟨es,hlk⟩:=put_step (g:=eGrant) hk' hx hl
      have hSk:=hW.next (s1.add (eAll eGrant (l.take k)))
      simp only [go_sem,Int.toNat_natCast,ybb,hg,swH_nx,grantAV,codecC,encMax_eq]
      refine ⟨by omega,?_⟩
      refine w_el (c:=grantAV) hxo (hSk.push2 _ _) hlk ?_
      rw [hF.p2,es]
      simp only [go_sem,e5]
      refine ⟨k+1,by omega,by omega,by simp only [zkk,zkp,zky,swH_nx];omega,by repeat (first | exact AHeap.Le.refl _ | refine AHeap.Le.push ?_ _),closed_cells (hcl1 _) (hlc _),?_,?_⟩
      · simp [ltF,zky,swH_nx,znh,zmz,hlv]
        omega
      · simp [subW,wk2,wk1,wkM,Fr.get]
    · have hk':k=l.length:=by simp at hc;omega
      subst hk'
      rw [List.take_length]
      simp only [go_sem]
      refine ⟨?_,by repeat (first | exact AHeap.Le.refl _ | refine AHeap.Le.push ?_ _),hcl1 _,?_⟩
      · simp [wk,wk2,wk1,wkLL]
      · simp [znm,znp]
def p_cdGra:List AV→AHeap→(AV→Prop)→Prop
  | [],_,K=>K (.agg (codecC 8 318 321))
  | _,_,_=>False
theorem ok_cdGra:EntOk Tryz.prog 210 (Ent.pure p_cdGra):=by
  refine EntOk.pure fun args H K h=>?_
  unfold p_cdGra at h
  split at h
  rotate_left
  · exact h.elim
  refine ⟨_,h,?_⟩
  refine ACalls.of_aw (Ω:=[]) (T:=assoc []) mixed TblOk.nil Tryz.func210 (by kernel_rfl) (by rfl) (rs:=[.cell 0 359]) (by rfl) (by kernel_rfl) (by simp only [Tryz.ntmps210,yaz,yba];decide) (Nat.le_refl _) fun hcl hlt=>?_
  change aw _ _ _ (KI Tryz.prog [] (aEnd Tryz.prog [.cell 0 359] H.nx _ _ (assoc [])) []) _ _
  clear hlt
  simp only [go_sem,codecC]
  simp (disch:=first | assumption | omega | (simp;done) | (simp;omega) | (simp only [bt,and_true];first | done | omega | (simp;done))) [↓zmi,beq,ybc,ybd,ybe,endOk,wk,wk2,wk1,wkM,wkL,wkLL,ybf,hcl,lt_func0]
end Go.AL


open Go Go.AL Go.Proofs
namespace Go.AL
set_option linter.all false
set_option maxRecDepth 10000
theorem ti_lstTab:ti Tryz.prog 165=some ⟨.struct [(0,3,false),(1,162,false),(2,163,false)],3,24,.agg [.int .i64 0,.nilf,.nilf]⟩:=by kernel_rfl
theorem ti_fwTab:ti Tryz.prog 162=some ⟨.func,1,8,.nilf⟩:=by kernel_rfl
theorem ti_frTab:ti Tryz.prog 163=some ⟨.func,1,8,.nilf⟩:=by kernel_rfl
theorem ti_lstRol:ti Tryz.prog 177=some ⟨.struct [(0,3,false),(1,174,false),(2,175,false)],3,24,.agg [.int .i64 0,.nilf,.nilf]⟩:=by kernel_rfl
theorem ti_fwRol:ti Tryz.prog 174=some ⟨.func,1,8,.nilf⟩:=by kernel_rfl
theorem ti_frRol:ti Tryz.prog 175=some ⟨.func,1,8,.nilf⟩:=by kernel_rfl
attribute [go_sem] ti_lstTab ti_fwTab ti_frTab ti_lstRol ti_fwRol ti_frRol
/-! Tab -/
def e_wrTab:=eW (tableAV) okTable eTable
def e_putTab:=ePut 198 8 (tableAV) okTable eTable
set_option maxHeartbeats 8000000 in
theorem ok_wrTab:EntOk Tryz.prog 198 (Ent.effect e_wrTab):=by
  unfold e_wrTab
  refine EntOk.effect fun args H K h=>?_
  unfold eW at h
  split at h
  rotate_left
  · exact h.elim
  rename_i id x
  obtain ⟨q,s,a,⟨hW,rfl,ha,hl⟩,hK⟩:=h
  refine ⟨_,_,hK,?_⟩
  clear hK
  have hF:=hW.facts
  have hcl0:=hW.closed (t:=s.add (eTable a))
  have hid:=AHeap.get_lt hW.o
  have hq:=AHeap.get_lt hW.bu
  refine ACalls.of_aw (Ω:=[(55,Ent.effect e_zNum),(177,Ent.effect e_zTxt),(200,Ent.pure p_cdKey),(199,Ent.effect e_putKey),(182,Ent.pure p_cdInt),(181,Ent.effect e_putInt),(202,Ent.pure p_cdVal),(201,Ent.effect e_putVal)]) (T:=assoc [(3,[[],[],[],[],[1,3]]),(4,[[],[],[],[],[1,3]]),(6,[[],[],[],[],[1,3]])]) mixed (TblOk.cons ok_zNum (TblOk.cons ok_zTxt (TblOk.cons ok_cdKey (TblOk.cons ok_putKey (TblOk.cons ok_cdInt (TblOk.cons ok_putInt (TblOk.cons ok_cdVal (TblOk.cons ok_putVal TblOk.nil)))))))) Tryz.func198 (by kernel_rfl) (by rfl) (rs:=[]) (by rfl) (by kernel_rfl) (by simp only [Tryz.ntmps198,yaz,yba];decide) (by rw [swH_nx];omega) fun hcl hlt=>?_
  change aw _ _ _ (KI Tryz.prog [(55,Ent.effect e_zNum),(177,Ent.effect e_zTxt),(200,Ent.pure p_cdKey),(199,Ent.effect e_putKey),(182,Ent.pure p_cdInt),(181,Ent.effect e_putInt),(202,Ent.pure p_cdVal),(201,Ent.effect e_putVal)] (aEnd Tryz.prog [] H.nx _ _ (assoc [(3,[[],[],[],[],[1,3]]),(4,[[],[],[],[],[1,3]]),(6,[[],[],[],[],[1,3]])])) []) _ _
  clear hlt
  have hcl1:=hcl0 hcl
  unfold eTable at hl hcl1 ⊢
  rw [← enc_assoc,← enc_assoc,← enc_assoc,← enc_assoc,← enc_assoc,← enc_assoc,← enc_assoc] at hl hcl1 ⊢
  have hl8:=hl
  have hl7:=enc_pre hl8
  have hl6:=enc_pre hl7
  have hl5:=enc_pre hl6
  have hl4:=enc_pre hl5
  have hl3:=enc_pre hl4
  have hl2:=enc_pre hl3
  have hl1:=enc_pre hl2
  simp only [go_sem,tableAV,p_cdInt,p_cdKey,p_cdVal,inL,swH_nx,swH_cells0]
  refine w_num (.inr rfl) (hW.push _) hl1 ?_
  rw [hF.p0]
  simp only [go_sem,tableAV,p_cdInt,p_cdKey,p_cdVal,inL,swH_nx,swH_cells0]
  refine w_txt (ha.1) ((hW.next _).push _) hl2 ?_
  rw [hF.p1]
  simp only [go_sem,tableAV,p_cdInt,p_cdKey,p_cdVal,inL,swH_nx,swH_cells0]
  refine w_put (c:=keyAV) (ha.2.1) ((hW.next _).push _) hl3 ?_
  rw [hF.p1]
  simp only [go_sem,tableAV,p_cdInt,p_cdKey,p_cdVal,inL,swH_nx,swH_cells0]
  refine w_put (c:=.int .i64) (fun _ _=>trivial) ((hW.next _).push _) hl4 ?_
  rw [hF.p1]
  simp only [go_sem,tableAV,p_cdInt,p_cdKey,p_cdVal,inL,swH_nx,swH_cells0]
  refine w_num (.inr rfl) ((hW.next _).push _) hl5 ?_
  rw [hF.p1]
  simp only [go_sem,tableAV,p_cdInt,p_cdKey,p_cdVal,inL,swH_nx,swH_cells0]
  refine w_put (c:=vv) (ha.2.2.1) ((hW.next _).push _) hl6 ?_
  rw [hF.p1]
  simp only [go_sem,tableAV,p_cdInt,p_cdKey,p_cdVal,inL,swH_nx,swH_cells0]
  refine w_num (.inr rfl) ((hW.next _).push _) hl7 ?_
  rw [hF.p1]
  simp only [go_sem,tableAV,p_cdInt,p_cdKey,p_cdVal,inL,swH_nx,swH_cells0]
  refine w_txt (ha.2.2.2) ((hW.next _).push _) hl8 ?_
  rw [hF.p1]
  try simp only [go_sem,tableAV,p_cdInt,p_cdKey,p_cdVal,inL,swH_nx,swH_cells0]
  simp (disch:=first | assumption | omega | (simp;done) | (simp;omega) | (simp only [bt,and_true];first | done | omega | (simp;done))) [↓zmi,beq,ybc,ybd,ybe,endOk,wk,wk2,wk1,wkM,wkL,wkLL,ybf,hcl1]
set_option maxHeartbeats 8000000 in
theorem ok_putTab:EntOk Tryz.prog 64 (Ent.effect e_putTab):=by
  unfold e_putTab
  refine EntOk.effect fun args H K h=>?_
  unfold ePut at h
  split at h
  rotate_left
  · exact h.elim
  rename_i id most f' r sz' xs
  obtain ⟨q,s,l,⟨hW,rfl,rfl,rfl,ha,hl⟩,hK⟩:=h
  refine ⟨_,_,hK,?_⟩
  clear hK
  have hF:=hW.facts
  have hcl0:=fun t=>hW.closed (t:=t)
  have hid:=AHeap.get_lt hW.o
  have hq:=AHeap.get_lt hW.bu
  have hll:=put_len one_table hl
  obtain ⟨b,sl,sf,sa⟩:=s
  have hne:=far_of hid
  have hneq:=far_of hq
  have n1:(id=q)=False:=eq_false hW.ne
  have n2:(q=id)=False:=eq_false fun e=>hW.ne e.symm
  have hcs:=cells_some hW.o
  have hb0:=hW.bu
  have hi0:=hW.o
  have hnn:=hW.ne
  have hlb:b.length≤encMax:=enc_pre hl
  rw [encMax_eq] at hlb
  dsimp only at hcs hb0 hi0 hlb
  have lw2:=wUint_len (l.length:Int) 2
  refine ACalls.of_aw (Ω:=[(175,Ent.pure p_AppendUint),(198,Ent.effect e_wrTab)]) (T:=assoc [(2,[[],[],[],[],[],[],[],[],[4,7],[],[],[4,7]])]) mixed (TblOk.cons ok_AppendUint (TblOk.cons ok_wrTab TblOk.nil)) Tryz.func64 (by kernel_rfl) (by rfl) (rs:=[]) (by rfl) (by kernel_rfl) (by simp only [Tryz.ntmps64,yaz,yba];decide) (by rw [swH_nx];omega) fun hcl hlt=>?_
  change aw _ _ _ (KI Tryz.prog [(175,Ent.pure p_AppendUint),(198,Ent.effect e_wrTab)] (aEnd Tryz.prog [] H.nx _ _ (assoc [(2,[[],[],[],[],[],[],[],[],[4,7],[],[],[4,7]])])) []) _ _
  clear hlt
  have hcl1:=fun t=>hcl0 t hcl
  have hcm:=fun cs=>@cells_set_same H id cs hid
  have hA:=fun X Y=>@cells_set_far H id q X Y hnn hid
  have hB:=fun X=>get_set_far (X:=X) hnn hb0
  have eh:=fun X Y Z=>@set_set_far H id q X Y Z
  have hL2:sl=true→(sl||decide ((l.length:Int) > most))=true:=fun h=>by rw [h,Bool.true_or]
  have hL3:sl=false→decide ((l.length:Int) > most)=(sl||decide ((l.length:Int) > most)):=fun h=>by rw [h,Bool.false_or]
  have hst:=swH_cnt (H:=H) (id:=id) (q:=q) (b:=b) (sl:=sl) (sf:=sf) (sa:=sa) (n:=l.length) (most:=most)
  have hS1:=hW.next ((⟨b,sl,sf,sa⟩:Enc).add (eCnt l.length most))
  have htot:(((⟨b,sl,sf,sa⟩:Enc).add (eCnt l.length most)).add (eAll eTable l))=(⟨b,sl,sf,sa⟩:Enc).add (eList eTable most l):=by rw [enc_assoc];rfl
  rw [← htot] at hl ⊢
  generalize ((⟨b,sl,sf,sa⟩:Enc).add (eCnt l.length most))=s1 at *
  generalize (sl||decide ((l.length:Int) > most))=L at *
  have hlv:∀ n,(AV.slice .any 8 (l.map (tableAV))).lt n:=fun n=>lt_map (fun x=>lt_tableAV x)
  have hlc:=fun n=>@lt_codec n most 198 r
  cases sl
  case' true =>
    rw [hL2 rfl] at hst
    simp only [go_sem,byq,hne,hneq,n1,n2,hcs,hcm,hA,hB,eh,hi0,hb0,p_AppendUint,ybb]
  case' false =>
    simp only [go_sem,byq,hne,hneq,n1,n2,hcs,hcm,hA,hB,eh,hi0,hb0,p_AppendUint,ybb,hL3 rfl]
  all_goals
    (repeat with_reducible refine And.intro (by first | assumption | decide | omega | exact ⟨by omega,by omega⟩) ?_)
    refine loop_introW (A:=Nat) (fun k=>[(0,.ptr id 0),(4,.ptr H.nx 0),(33,.slice .any 8 (l.map (tableAV))),(34,.int .i64 (l.length:Int)),(35,.int .i64 (k:Int))])
      (fun k=>(swH H id q (s1.add (eAll eTable (l.take k)))).push (.cells (codecC most 198 r))) (fun k=>k≤l.length) (fun k=>l.length - k) 0 (by omega) ?_ fun k hk=>?_
    · rw [yar,eAll,enc_add0,hst]
      refine ⟨by simp only [zkk,zkp,zky,zkz,swH_nx];omega,by repeat (first | exact AHeap.Le.refl _ | refine AHeap.Le.push ?_ _),?_,?_,?_⟩
      · rw [← hst];exact closed_cells (hcl1 _) (hlc _)
      · simp [ltF,zky,zkz,znh,zmz,hlv]
        omega
      · simp [subW,wk2,wk1,wkM,Fr.get]
    simp only [go_sem]
    refine cond_split (fun hc=>?_) (fun hc=>?_)
    · have hk':k<l.length:=by simp at hc;omega
      obtain ⟨x,hx⟩:∃ x,x=l[k]:=⟨_,rfl⟩
      have hg:=getD_map (f:=tableAV) (l:=l) (k:=k) (x:=x) (by rw [List.getElem?_eq_getElem hk',hx])
      have e5:IntKind.i64.wrap ((k:Int)+1)=((k+1:Nat):Int):=by rw [wrap_i64]<;>omega
      have hxo:=ha x (by rw [hx];exact List.getElem_mem hk')
      obtain ⟨es,hlk⟩:=put_step (g:=eTable) hk' hx hl
      have hSk:=hW.next (s1.add (eAll eTable (l.take k)))
      simp only [go_sem,Int.toNat_natCast,ybb,hg,swH_nx,tableAV,codecC,encMax_eq]
      refine ⟨by omega,?_⟩
      refine w_el (c:=tableAV) hxo (hSk.push2 _ _) hlk ?_
      rw [hF.p2,es]
      simp only [go_sem,e5]
      refine ⟨k+1,by omega,by omega,by simp only [zkk,zkp,zky,swH_nx];omega,by repeat (first | exact AHeap.Le.refl _ | refine AHeap.Le.push ?_ _),closed_cells (hcl1 _) (hlc _),?_,?_⟩
      · simp [ltF,zky,swH_nx,znh,zmz,hlv]
        omega
      · simp [subW,wk2,wk1,wkM,Fr.get]
    · have hk':k=l.length:=by simp at hc;omega
      subst hk'
      rw [List.take_length]
      simp only [go_sem]
      refine ⟨?_,by repeat (first | exact AHeap.Le.refl _ | refine AHeap.Le.push ?_ _),hcl1 _,?_⟩
      · simp [wk,wk2,wk1,wkLL]
      · simp [znm,znp]
def p_cdTab:List AV→AHeap→(AV→Prop)→Prop
  | [],_,K=>K (.agg (codecC 8 198 203))
  | _,_,_=>False
theorem ok_cdTab:EntOk Tryz.prog 65 (Ent.pure p_cdTab):=by
  refine EntOk.pure fun args H K h=>?_
  unfold p_cdTab at h
  split at h
  rotate_left
  · exact h.elim
  refine ⟨_,h,?_⟩
  refine ACalls.of_aw (Ω:=[]) (T:=assoc []) mixed TblOk.nil Tryz.func65 (by kernel_rfl) (by rfl) (rs:=[.cell 0 165]) (by rfl) (by kernel_rfl) (by simp only [Tryz.ntmps65,yaz,yba];decide) (Nat.le_refl _) fun hcl hlt=>?_
  change aw _ _ _ (KI Tryz.prog [] (aEnd Tryz.prog [.cell 0 165] H.nx _ _ (assoc [])) []) _ _
  clear hlt
  simp only [go_sem,codecC]
  simp (disch:=first | assumption | omega | (simp;done) | (simp;omega) | (simp only [bt,and_true];first | done | omega | (simp;done))) [↓zmi,beq,ybc,ybd,ybe,endOk,wk,wk2,wk1,wkM,wkL,wkLL,ybf,hcl,lt_func0]
/-! Rol -/
def e_wrRol:=eW (roleAV) okRole eRole
def e_putRol:=ePut 208 6 (roleAV) okRole eRole
set_option maxHeartbeats 8000000 in
theorem ok_wrRol:EntOk Tryz.prog 208 (Ent.effect e_wrRol):=by
  unfold e_wrRol
  refine EntOk.effect fun args H K h=>?_
  unfold eW at h
  split at h
  rotate_left
  · exact h.elim
  rename_i id x
  obtain ⟨q,s,a,⟨hW,rfl,ha,hl⟩,hK⟩:=h
  refine ⟨_,_,hK,?_⟩
  clear hK
  have hF:=hW.facts
  have hcl0:=hW.closed (t:=s.add (eRole a))
  have hid:=AHeap.get_lt hW.o
  have hq:=AHeap.get_lt hW.bu
  refine ACalls.of_aw (Ω:=[(55,Ent.effect e_zNum),(177,Ent.effect e_zTxt),(210,Ent.pure p_cdGra),(209,Ent.effect e_putGra),(182,Ent.pure p_cdInt),(181,Ent.effect e_putInt),(211,Ent.effect e_zTru)]) (T:=assoc [(3,[[],[],[],[],[1,3]]),(4,[[],[],[],[],[1,3]])]) mixed (TblOk.cons ok_zNum (TblOk.cons ok_zTxt (TblOk.cons ok_cdGra (TblOk.cons ok_putGra (TblOk.cons ok_cdInt (TblOk.cons ok_putInt (TblOk.cons ok_zTru TblOk.nil))))))) Tryz.func208 (by kernel_rfl) (by rfl) (rs:=[]) (by rfl) (by kernel_rfl) (by simp only [Tryz.ntmps208,yaz,yba];decide) (by rw [swH_nx];omega) fun hcl hlt=>?_
  change aw _ _ _ (KI Tryz.prog [(55,Ent.effect e_zNum),(177,Ent.effect e_zTxt),(210,Ent.pure p_cdGra),(209,Ent.effect e_putGra),(182,Ent.pure p_cdInt),(181,Ent.effect e_putInt),(211,Ent.effect e_zTru)] (aEnd Tryz.prog [] H.nx _ _ (assoc [(3,[[],[],[],[],[1,3]]),(4,[[],[],[],[],[1,3]])])) []) _ _
  clear hlt
  have hcl1:=hcl0 hcl
  unfold eRole at hl hcl1 ⊢
  rw [← enc_assoc,← enc_assoc,← enc_assoc,← enc_assoc,← enc_assoc] at hl hcl1 ⊢
  have hl6:=hl
  have hl5:=enc_pre hl6
  have hl4:=enc_pre hl5
  have hl3:=enc_pre hl4
  have hl2:=enc_pre hl3
  have hl1:=enc_pre hl2
  simp only [go_sem,roleAV,p_cdGra,p_cdInt,inL,swH_nx,swH_cells0]
  refine w_num (.inr rfl) (hW.push _) hl1 ?_
  rw [hF.p0]
  simp only [go_sem,roleAV,p_cdGra,p_cdInt,inL,swH_nx,swH_cells0]
  refine w_txt (ha) ((hW.next _).push _) hl2 ?_
  rw [hF.p1]
  simp only [go_sem,roleAV,p_cdGra,p_cdInt,inL,swH_nx,swH_cells0]
  refine w_put (c:=grantAV) (fun _ _=>trivial) ((hW.next _).push _) hl3 ?_
  rw [hF.p1]
  simp only [go_sem,roleAV,p_cdGra,p_cdInt,inL,swH_nx,swH_cells0]
  refine w_put (c:=.int .i64) (fun _ _=>trivial) ((hW.next _).push _) hl4 ?_
  rw [hF.p1]
  simp only [go_sem,roleAV,p_cdGra,p_cdInt,inL,swH_nx,swH_cells0]
  refine w_num (.inr rfl) ((hW.next _).push _) hl5 ?_
  rw [hF.p1]
  simp only [go_sem,roleAV,p_cdGra,p_cdInt,inL,swH_nx,swH_cells0]
  refine w_tru ((hW.next _).push _) hl6 ?_
  rw [hF.p1]
  try simp only [go_sem,roleAV,p_cdGra,p_cdInt,inL,swH_nx,swH_cells0]
  simp (disch:=first | assumption | omega | (simp;done) | (simp;omega) | (simp only [bt,and_true];first | done | omega | (simp;done))) [↓zmi,beq,ybc,ybd,ybe,endOk,wk,wk2,wk1,wkM,wkL,wkLL,ybf,hcl1]
set_option maxHeartbeats 8000000 in
theorem ok_putRol:EntOk Tryz.prog 68 (Ent.effect e_putRol):=by
  unfold e_putRol
  refine EntOk.effect fun args H K h=>?_
  unfold ePut at h
  split at h
  rotate_left
  · exact h.elim
  rename_i id most f' r sz' xs
  obtain ⟨q,s,l,⟨hW,rfl,rfl,rfl,ha,hl⟩,hK⟩:=h
  refine ⟨_,_,hK,?_⟩
  clear hK
  have hF:=hW.facts
  have hcl0:=fun t=>hW.closed (t:=t)
  have hid:=AHeap.get_lt hW.o
  have hq:=AHeap.get_lt hW.bu
  have hll:=put_len one_role hl
  obtain ⟨b,sl,sf,sa⟩:=s
  have hne:=far_of hid
  have hneq:=far_of hq
  have n1:(id=q)=False:=eq_false hW.ne
  have n2:(q=id)=False:=eq_false fun e=>hW.ne e.symm
  have hcs:=cells_some hW.o
  have hb0:=hW.bu
  have hi0:=hW.o
  have hnn:=hW.ne
  have hlb:b.length≤encMax:=enc_pre hl
  rw [encMax_eq] at hlb
  dsimp only at hcs hb0 hi0 hlb
  have lw2:=wUint_len (l.length:Int) 2
  refine ACalls.of_aw (Ω:=[(175,Ent.pure p_AppendUint),(208,Ent.effect e_wrRol)]) (T:=assoc [(2,[[],[],[],[],[],[],[],[],[4,7],[],[],[4,7]])]) mixed (TblOk.cons ok_AppendUint (TblOk.cons ok_wrRol TblOk.nil)) Tryz.func68 (by kernel_rfl) (by rfl) (rs:=[]) (by rfl) (by kernel_rfl) (by simp only [Tryz.ntmps68,yaz,yba];decide) (by rw [swH_nx];omega) fun hcl hlt=>?_
  change aw _ _ _ (KI Tryz.prog [(175,Ent.pure p_AppendUint),(208,Ent.effect e_wrRol)] (aEnd Tryz.prog [] H.nx _ _ (assoc [(2,[[],[],[],[],[],[],[],[],[4,7],[],[],[4,7]])])) []) _ _
  clear hlt
  have hcl1:=fun t=>hcl0 t hcl
  have hcm:=fun cs=>@cells_set_same H id cs hid
  have hA:=fun X Y=>@cells_set_far H id q X Y hnn hid
  have hB:=fun X=>get_set_far (X:=X) hnn hb0
  have eh:=fun X Y Z=>@set_set_far H id q X Y Z
  have hL2:sl=true→(sl||decide ((l.length:Int) > most))=true:=fun h=>by rw [h,Bool.true_or]
  have hL3:sl=false→decide ((l.length:Int) > most)=(sl||decide ((l.length:Int) > most)):=fun h=>by rw [h,Bool.false_or]
  have hst:=swH_cnt (H:=H) (id:=id) (q:=q) (b:=b) (sl:=sl) (sf:=sf) (sa:=sa) (n:=l.length) (most:=most)
  have hS1:=hW.next ((⟨b,sl,sf,sa⟩:Enc).add (eCnt l.length most))
  have htot:(((⟨b,sl,sf,sa⟩:Enc).add (eCnt l.length most)).add (eAll eRole l))=(⟨b,sl,sf,sa⟩:Enc).add (eList eRole most l):=by rw [enc_assoc];rfl
  rw [← htot] at hl ⊢
  generalize ((⟨b,sl,sf,sa⟩:Enc).add (eCnt l.length most))=s1 at *
  generalize (sl||decide ((l.length:Int) > most))=L at *
  have hlv:∀ n,(AV.slice .any 6 (l.map (roleAV))).lt n:=fun n=>lt_map (fun x=>lt_roleAV x)
  have hlc:=fun n=>@lt_codec n most 208 r
  cases sl
  case' true =>
    rw [hL2 rfl] at hst
    simp only [go_sem,byq,hne,hneq,n1,n2,hcs,hcm,hA,hB,eh,hi0,hb0,p_AppendUint,ybb]
  case' false =>
    simp only [go_sem,byq,hne,hneq,n1,n2,hcs,hcm,hA,hB,eh,hi0,hb0,p_AppendUint,ybb,hL3 rfl]
  all_goals
    (repeat with_reducible refine And.intro (by first | assumption | decide | omega | exact ⟨by omega,by omega⟩) ?_)
    refine loop_introW (A:=Nat) (fun k=>[(0,.ptr id 0),(4,.ptr H.nx 0),(33,.slice .any 6 (l.map (roleAV))),(34,.int .i64 (l.length:Int)),(35,.int .i64 (k:Int))])
      (fun k=>(swH H id q (s1.add (eAll eRole (l.take k)))).push (.cells (codecC most 208 r))) (fun k=>k≤l.length) (fun k=>l.length - k) 0 (by omega) ?_ fun k hk=>?_
    · rw [yar,eAll,enc_add0,hst]
      refine ⟨by simp only [zkk,zkp,zky,zkz,swH_nx];omega,by repeat (first | exact AHeap.Le.refl _ | refine AHeap.Le.push ?_ _),?_,?_,?_⟩
      · rw [← hst];exact closed_cells (hcl1 _) (hlc _)
      · simp [ltF,zky,zkz,znh,zmz,hlv]
        omega
      · simp [subW,wk2,wk1,wkM,Fr.get]
    simp only [go_sem]
    refine cond_split (fun hc=>?_) (fun hc=>?_)
    · have hk':k<l.length:=by simp at hc;omega
      obtain ⟨x,hx⟩:∃ x,x=l[k]:=⟨_,rfl⟩
      have hg:=getD_map (f:=roleAV) (l:=l) (k:=k) (x:=x) (by rw [List.getElem?_eq_getElem hk',hx])
      have e5:IntKind.i64.wrap ((k:Int)+1)=((k+1:Nat):Int):=by rw [wrap_i64]<;>omega
      have hxo:=ha x (by rw [hx];exact List.getElem_mem hk')
      obtain ⟨es,hlk⟩:=put_step (g:=eRole) hk' hx hl
      have hSk:=hW.next (s1.add (eAll eRole (l.take k)))
      simp only [go_sem,Int.toNat_natCast,ybb,hg,swH_nx,roleAV,codecC,encMax_eq]
      refine ⟨by omega,?_⟩
      refine w_el (c:=roleAV) hxo (hSk.push2 _ _) hlk ?_
      rw [hF.p2,es]
      simp only [go_sem,e5]
      refine ⟨k+1,by omega,by omega,by simp only [zkk,zkp,zky,swH_nx];omega,by repeat (first | exact AHeap.Le.refl _ | refine AHeap.Le.push ?_ _),closed_cells (hcl1 _) (hlc _),?_,?_⟩
      · simp [ltF,zky,swH_nx,znh,zmz,hlv]
        omega
      · simp [subW,wk2,wk1,wkM,Fr.get]
    · have hk':k=l.length:=by simp at hc;omega
      subst hk'
      rw [List.take_length]
      simp only [go_sem]
      refine ⟨?_,by repeat (first | exact AHeap.Le.refl _ | refine AHeap.Le.push ?_ _),hcl1 _,?_⟩
      · simp [wk,wk2,wk1,wkLL]
      · simp [znm,znp]
def p_cdRol:List AV→AHeap→(AV→Prop)→Prop
  | [],_,K=>K (.agg (codecC 6 208 212))
  | _,_,_=>False
theorem ok_cdRol:EntOk Tryz.prog 69 (Ent.pure p_cdRol):=by
  refine EntOk.pure fun args H K h=>?_
  unfold p_cdRol at h
  split at h
  rotate_left
  · exact h.elim
  refine ⟨_,h,?_⟩
  refine ACalls.of_aw (Ω:=[]) (T:=assoc []) mixed TblOk.nil Tryz.func69 (by kernel_rfl) (by rfl) (rs:=[.cell 0 177]) (by rfl) (by kernel_rfl) (by simp only [Tryz.ntmps69,yaz,yba];decide) (Nat.le_refl _) fun hcl hlt=>?_
  change aw _ _ _ (KI Tryz.prog [] (aEnd Tryz.prog [.cell 0 177] H.nx _ _ (assoc [])) []) _ _
  clear hlt
  simp only [go_sem,codecC]
  simp (disch:=first | assumption | omega | (simp;done) | (simp;omega) | (simp only [bt,and_true];first | done | omega | (simp;done))) [↓zmi,beq,ybc,ybd,ybe,endOk,wk,wk2,wk1,wkM,wkL,wkLL,ybf,hcl,lt_func0]
end Go.AL

