/- Contracts and plain laws, a part of the proof; no condition of its own. -/
import Derived.Test.YthpglnacipgolaaGreatW03c
open List renaming length_cons → yaz, length_nil → yba, take_of_length_le → ybc, drop_append → ybd, take_append → ybe, drop_eq_nil_of_le → ybf, length_map → ybb, take_zero → yar
open Go Go.AL Go.Proofs
namespace Go.AL
set_option linter.all false
set_option maxRecDepth 10000
theorem ti_lstInt:ti Tryz.prog 317=some ⟨.struct [(0,3,false),(1,314,false),(2,315,false)],3,24,.agg [.int .i64 0,.nilf,.nilf]⟩:=by kernel_rfl
theorem ti_fwInt:ti Tryz.prog 314=some ⟨.func,1,8,.nilf⟩:=by kernel_rfl
theorem ti_frInt:ti Tryz.prog 315=some ⟨.func,1,8,.nilf⟩:=by kernel_rfl
theorem ti_lstVal:ti Tryz.prog 351=some ⟨.struct [(0,3,false),(1,348,false),(2,349,false)],3,24,.agg [.int .i64 0,.nilf,.nilf]⟩:=by kernel_rfl
theorem ti_fwVal:ti Tryz.prog 348=some ⟨.func,1,8,.nilf⟩:=by kernel_rfl
theorem ti_frVal:ti Tryz.prog 349=some ⟨.func,1,8,.nilf⟩:=by kernel_rfl
theorem ti_lstTru:ti Tryz.prog 428=some ⟨.struct [(0,3,false),(1,425,false),(2,426,false)],3,24,.agg [.int .i64 0,.nilf,.nilf]⟩:=by kernel_rfl
theorem ti_fwTru:ti Tryz.prog 425=some ⟨.func,1,8,.nilf⟩:=by kernel_rfl
theorem ti_frTru:ti Tryz.prog 426=some ⟨.func,1,8,.nilf⟩:=by kernel_rfl
theorem ti_lstFld:ti Tryz.prog 138=some ⟨.struct [(0,3,false),(1,135,false),(2,136,false)],3,24,.agg [.int .i64 0,.nilf,.nilf]⟩:=by kernel_rfl
theorem ti_fwFld:ti Tryz.prog 135=some ⟨.func,1,8,.nilf⟩:=by kernel_rfl
theorem ti_frFld:ti Tryz.prog 136=some ⟨.func,1,8,.nilf⟩:=by kernel_rfl
theorem ti_lstCas:ti Tryz.prog 324=some ⟨.struct [(0,3,false),(1,321,false),(2,322,false)],3,24,.agg [.int .i64 0,.nilf,.nilf]⟩:=by kernel_rfl
theorem ti_fwCas:ti Tryz.prog 321=some ⟨.func,1,8,.nilf⟩:=by kernel_rfl
theorem ti_frCas:ti Tryz.prog 322=some ⟨.func,1,8,.nilf⟩:=by kernel_rfl
attribute [go_sem] ti_lstInt ti_fwInt ti_frInt ti_lstVal ti_fwVal ti_frVal ti_lstTru ti_fwTru ti_frTru ti_lstFld ti_fwFld ti_frFld ti_lstCas ti_fwCas ti_frCas
theorem lt_func0 {n:Nat} {f:Fn}:AV.lt n (.func f [] []):=by rw [AV.lt];exact ⟨fun j hj=>absurd hj (by simp),fun j hj=>absurd hj (by simp)⟩
/-- how a list's codec stands in memory -/
def codecC (most:Int) (f r:Nat):List AV:=[.int .i64 most,.func (.func f) [] [],.func (.func r) [] []]
theorem lt_codec {n:Nat} {most:Int} {f r:Nat}:ltL n (codecC most f r):=by simp [codecC,zno,znp,zmz,lt_func0]
theorem put_len {α:Type} {g:α→Enc} (h1:∀ x,1≤(g x).b.length) {l:List α} {s:Enc} {m:Int} (hl:(s.add (eList g m l)).b.length≤encMax):l.length≤100000000000000:=by
  have h2:=one_all h1 l
  unfold eList at hl
  rw [enc_len,enc_len,encMax_eq] at hl
  omega
theorem put_step {α:Type} {g:α→Enc} {l:List α} {s:Enc} {k:Nat} {x:α} (hk:k<l.length) (hx:x=l[k]) (hl:(s.add (eAll g l)).b.length≤encMax) :
    (s.add (eAll g (l.take k))).add (g x)=s.add (eAll g (l.take (k+1)))∧((s.add (eAll g (l.take k))).add (g x)).b.length≤encMax:=by
  have et:l.take (k+1)=l.take k++[x]:=by rw [hx,List.take_succ_eq_append_getElem hk]
  have es:(s.add (eAll g (l.take k))).add (g x)=s.add (eAll g (l.take (k+1))):=by rw [enc_assoc,← eAll_snoc,et]
  refine ⟨es,?_⟩
  have h1:=eAll_take g l (k+1)
  rw [es]
  rw [enc_len] at hl ⊢
  omega
theorem cells_set_far {H:AHeap} {id q:Nat} {X:List AV} {Y:AObj} (hn:id≠q) (hid:id<H.nx):cellsOf? ((H.set id (.cells X)).set q Y) id=some X:=by
  unfold cellsOf?;rw [AHeap.get_set_ne _ _ hn,AHeap.get_set_same _ _ hid]
theorem get_set_far {H:AHeap} {id q:Nat} {X o:AObj} (hn:id≠q) (h:H.get q=some o):(H.set id X).get q=some o:=by rw [AHeap.get_set_ne _ _ (fun e=>hn e.symm)];exact h
theorem set_set_far {H:AHeap} {id q:Nat} {X Y Z:AObj}:((H.set id X).set q Y).set id Z=(H.set q Y).set id Z:=by
  unfold AHeap.set;congr 1;funext j;dsimp only;by_cases h1:j=id<;>simp [h1]
theorem swH_cnt {H:AHeap} {id q n:Nat} {b:List UInt8} {sl sf sa:Bool} {most:Int}:swH H id q ((⟨b,sl,sf,sa⟩:Enc).add (eCnt n most))=(H.set q (.buf 1 (b.length+(wUint (n:Int) 2).length))).set id (.cells (swC q (b++wUint (n:Int) 2) (sl||decide ((n:Int) > most)) sf sa)):=by
  unfold swH Enc.add eCnt swC
  simp only [Bool.or_false,List.length_append]
theorem SOn.push2 {H:AHeap} {id q:Nat} {s:Enc} (h:SOn H id q s) (x y:AObj):SOn ((H.push x).push y) id q s:=(h.push x).push y
theorem swH_cells0 {H:AHeap} {id q:Nat} {s:Enc}:(swH H id q s).nx=H.nx:=swH_nx
theorem lt_vv {n v:Nat}:(vv v).lt n:=by simp [vv,znl,zno,znp,zmz]
theorem lt_fieldAV {n:Nat} (x:SField):(fieldAV x).lt n:=by simp [fieldAV,znl,zno,znp,zmz,znb]
theorem lt_caseAV {n:Nat} (x:SCase):(caseAV x).lt n:=by simp [caseAV,vc,znl,zno,znp,zmz]
theorem lt_paramAV {n:Nat} (x:SParam):(paramAV x).lt n:=by simp [paramAV,znl,zno,znp,zmz,znb]
theorem lt_primAV {n:Nat} (x:SPrim):(primAV x).lt n:=by simp [primAV,vc,znl,zno,znp,zmz]
theorem lt_keyAV {n:Nat} (x:SKey):(keyAV x).lt n:=by simp [keyAV,znl,zno,znp,zmz,znb]
theorem lt_stageAV {n:Nat} (x:SStage):(stageAV x).lt n:=by simp [stageAV,znl,zno,znp,zmz]
theorem lt_refAV {n:Nat} (x:SRef):(refAV x).lt n:=by simp [refAV,znl,zno,znp,zmz]
theorem lt_headerAV {n:Nat} (x:SHeader):(headerAV x).lt n:=by simp [headerAV,inL,znl,zno,znp,zmz,znb,lt_map fun _=>of_eq_true zmz]
theorem lt_stateAV {n:Nat} (x:SState):(stateAV x).lt n:=by simp [stateAV,znl,zno,znp,zmz,lt_map lt_caseAV]
theorem lt_actionAV {n:Nat} (x:SAction):(actionAV x).lt n:=by simp [actionAV,znl,zno,znp,zmz,znb,lt_map lt_paramAV,lt_map lt_primAV]
theorem lt_grantAV {n:Nat} (x:SGrant):(grantAV x).lt n:=by simp [grantAV,boL,znl,zno,znp,zmz,zna,lt_map fun _=>of_eq_true zna]
theorem lt_tableAV {n:Nat} (x:STable):(tableAV x).lt n:=by simp [tableAV,inL,znl,zno,znp,zmz,znb,lt_map fun _=>of_eq_true zmz,lt_map lt_keyAV,lt_map fun _=>lt_vv]
theorem lt_roleAV {n:Nat} (x:SRole):(roleAV x).lt n:=by simp [roleAV,inL,znl,zno,znp,zmz,znb,zna,lt_map fun _=>of_eq_true zmz,lt_map lt_grantAV]
/-! Int -/
def e_wrInt:=eW (.int .i64) okAny eInt
def e_putInt:=ePut 307 1 (.int .i64) okAny eInt
set_option maxHeartbeats 8000000 in
theorem ok_wrInt:EntOk Tryz.prog 307 (Ent.effect e_wrInt):=by
  unfold e_wrInt
  refine EntOk.effect fun args H K h=>?_
  unfold eW at h
  split at h
  rotate_left
  · exact h.elim
  rename_i id x
  obtain ⟨q,s,a,⟨hW,rfl,ha,hl⟩,hK⟩:=h
  refine ⟨_,_,hK,?_⟩
  clear hK
  have hF:=hW.facts
  have hcl0:=hW.closed (t:=s.add (eInt a))
  have hid:=AHeap.get_lt hW.o
  have hq:=AHeap.get_lt hW.bu
  refine ACalls.of_aw (Ω:=[(55,Ent.effect e_zNum)]) (T:=assoc []) mixed (TblOk.cons ok_zNum TblOk.nil) Tryz.func307 (by kernel_rfl) (by rfl) (rs:=[]) (by rfl) (by kernel_rfl) (by simp only [Tryz.ntmps307,yaz,yba];decide) (by rw [swH_nx];omega) fun hcl hlt=>?_
  change aw _ _ _ (KI Tryz.prog [(55,Ent.effect e_zNum)] (aEnd Tryz.prog [] H.nx _ _ (assoc [])) []) _ _
  clear hlt
  have hcl1:=hcl0 hcl
  unfold eInt at hl hcl1 ⊢
  have hl1:=hl
  simp only [go_sem,swH_nx,swH_cells0]
  refine w_num (.inr rfl) hW hl1 ?_
  try simp only [go_sem,swH_nx,swH_cells0]
  simp (disch:=first | assumption | omega | (simp;done) | (simp;omega) | (simp only [bt,and_true];first | done | omega | (simp;done))) [↓zmi,beq,ybc,ybd,ybe,endOk,wk,wk2,wk1,wkM,wkL,wkLL,ybf,hcl1]
set_option maxHeartbeats 8000000 in
theorem ok_putInt:EntOk Tryz.prog 181 (Ent.effect e_putInt):=by
  unfold e_putInt
  refine EntOk.effect fun args H K h=>?_
  unfold ePut at h
  split at h
  rotate_left
  · exact h.elim
  rename_i id most f' r sz' xs
  obtain ⟨q,s,l,⟨hW,rfl,rfl,rfl,ha,hl⟩,hK⟩:=h
  refine ⟨_,_,hK,?_⟩
  clear hK
  have hF:=hW.facts
  have hcl0:=fun t=>hW.closed (t:=t)
  have hid:=AHeap.get_lt hW.o
  have hq:=AHeap.get_lt hW.bu
  have hll:=put_len one_eInt hl
  obtain ⟨b,sl,sf,sa⟩:=s
  have hne:=far_of hid
  have hneq:=far_of hq
  have n1:(id=q)=False:=eq_false hW.ne
  have n2:(q=id)=False:=eq_false fun e=>hW.ne e.symm
  have hcs:=cells_some hW.o
  have hb0:=hW.bu
  have hi0:=hW.o
  have hnn:=hW.ne
  have hlb:b.length≤encMax:=enc_pre hl
  rw [encMax_eq] at hlb
  dsimp only at hcs hb0 hi0 hlb
  have lw2:=wUint_len (l.length:Int) 2
  refine ACalls.of_aw (Ω:=[(175,Ent.pure p_AppendUint),(307,Ent.effect e_wrInt)]) (T:=assoc [(2,[[],[],[],[],[],[],[],[],[4,7],[],[],[4,7]])]) mixed (TblOk.cons ok_AppendUint (TblOk.cons ok_wrInt TblOk.nil)) Tryz.func181 (by kernel_rfl) (by rfl) (rs:=[]) (by rfl) (by kernel_rfl) (by simp only [Tryz.ntmps181,yaz,yba];decide) (by rw [swH_nx];omega) fun hcl hlt=>?_
  change aw _ _ _ (KI Tryz.prog [(175,Ent.pure p_AppendUint),(307,Ent.effect e_wrInt)] (aEnd Tryz.prog [] H.nx _ _ (assoc [(2,[[],[],[],[],[],[],[],[],[4,7],[],[],[4,7]])])) []) _ _
  clear hlt
  have hcl1:=fun t=>hcl0 t hcl
  have hcm:=fun cs=>@cells_set_same H id cs hid
  have hA:=fun X Y=>@cells_set_far H id q X Y hnn hid
  have hB:=fun X=>get_set_far (X:=X) hnn hb0
  have eh:=fun X Y Z=>@set_set_far H id q X Y Z
  have hL2:sl=true→(sl||decide ((l.length:Int) > most))=true:=fun h=>by rw [h,Bool.true_or]
  have hL3:sl=false→decide ((l.length:Int) > most)=(sl||decide ((l.length:Int) > most)):=fun h=>by rw [h,Bool.false_or]
  have hst:=swH_cnt (H:=H) (id:=id) (q:=q) (b:=b) (sl:=sl) (sf:=sf) (sa:=sa) (n:=l.length) (most:=most)
  have hS1:=hW.next ((⟨b,sl,sf,sa⟩:Enc).add (eCnt l.length most))
  have htot:(((⟨b,sl,sf,sa⟩:Enc).add (eCnt l.length most)).add (eAll eInt l))=(⟨b,sl,sf,sa⟩:Enc).add (eList eInt most l):=by rw [enc_assoc];rfl
  rw [← htot] at hl ⊢
  generalize ((⟨b,sl,sf,sa⟩:Enc).add (eCnt l.length most))=s1 at *
  generalize (sl||decide ((l.length:Int) > most))=L at *
  have hlv:∀ n,(AV.slice .any 1 (l.map (.int .i64))).lt n:=fun n=>lt_map (fun x=>of_eq_true zmz)
  have hlc:=fun n=>@lt_codec n most 307 r
  cases sl
  case' true =>
    rw [hL2 rfl] at hst
    simp only [go_sem,byq,hne,hneq,n1,n2,hcs,hcm,hA,hB,eh,hi0,hb0,p_AppendUint,ybb]
  case' false =>
    simp only [go_sem,byq,hne,hneq,n1,n2,hcs,hcm,hA,hB,eh,hi0,hb0,p_AppendUint,ybb,hL3 rfl]
  all_goals
    (repeat with_reducible refine And.intro (by first | assumption | decide | omega | exact ⟨by omega,by omega⟩) ?_)
    refine loop_introW (A:=Nat) (fun k=>[(0,.ptr id 0),(4,.ptr H.nx 0),(33,.slice .any 1 (l.map (.int .i64))),(34,.int .i64 (l.length:Int)),(35,.int .i64 (k:Int))])
      (fun k=>(swH H id q (s1.add (eAll eInt (l.take k)))).push (.cells (codecC most 307 r))) (fun k=>k≤l.length) (fun k=>l.length - k) 0 (by omega) ?_ fun k hk=>?_
    · rw [yar,eAll,enc_add0,hst]
      refine ⟨by simp only [zkk,zkp,zky,zkz,swH_nx];omega,by repeat (first | exact AHeap.Le.refl _ | refine AHeap.Le.push ?_ _),?_,?_,?_⟩
      · rw [← hst];exact closed_cells (hcl1 _) (hlc _)
      · simp [ltF,zky,zkz,znh,zmz,hlv]
        omega
      · simp [subW,wk2,wk1,wkM,Fr.get]
    simp only [go_sem]
    refine cond_split (fun hc=>?_) (fun hc=>?_)
    · have hk':k<l.length:=by simp at hc;omega
      obtain ⟨x,hx⟩:∃ x,x=l[k]:=⟨_,rfl⟩
      have hg:=getD_map (f:=.int .i64) (l:=l) (k:=k) (x:=x) (by rw [List.getElem?_eq_getElem hk',hx])
      have e5:IntKind.i64.wrap ((k:Int)+1)=((k+1:Nat):Int):=by rw [wrap_i64]<;>omega
      have hxo:=ha x (by rw [hx];exact List.getElem_mem hk')
      obtain ⟨es,hlk⟩:=put_step (g:=eInt) hk' hx hl
      have hSk:=hW.next (s1.add (eAll eInt (l.take k)))
      simp only [go_sem,Int.toNat_natCast,ybb,hg,swH_nx,codecC,encMax_eq]
      refine ⟨by omega,?_⟩
      refine w_el (c:=.int .i64) hxo (hSk.push _) hlk ?_
      rw [hF.p1,es]
      simp only [go_sem,e5]
      refine ⟨k+1,by omega,by omega,by simp only [zkk,zkp,zky,swH_nx];omega,by repeat (first | exact AHeap.Le.refl _ | refine AHeap.Le.push ?_ _),closed_cells (hcl1 _) (hlc _),?_,?_⟩
      · simp [ltF,zky,swH_nx,znh,zmz,hlv]
        omega
      · simp [subW,wk2,wk1,wkM,Fr.get]
    · have hk':k=l.length:=by simp at hc;omega
      subst hk'
      rw [List.take_length]
      simp only [go_sem]
      refine ⟨?_,by repeat (first | exact AHeap.Le.refl _ | refine AHeap.Le.push ?_ _),hcl1 _,?_⟩
      · simp [wk,wk2,wk1,wkLL]
      · simp [znm,znp]
def p_cdInt:List AV→AHeap→(AV→Prop)→Prop
  | [.int .i64 most],_,K=>K (.agg (codecC most 307 308))
  | _,_,_=>False
theorem ok_cdInt:EntOk Tryz.prog 182 (Ent.pure p_cdInt):=by
  refine EntOk.pure fun args H K h=>?_
  unfold p_cdInt at h
  split at h
  rotate_left
  · exact h.elim
  refine ⟨_,h,?_⟩
  refine ACalls.of_aw (Ω:=[]) (T:=assoc []) mixed TblOk.nil Tryz.func182 (by kernel_rfl) (by rfl) (rs:=[.cell 2 317]) (by rfl) (by kernel_rfl) (by simp only [Tryz.ntmps182,yaz,yba];decide) (Nat.le_refl _) fun hcl hlt=>?_
  change aw _ _ _ (KI Tryz.prog [] (aEnd Tryz.prog [.cell 2 317] H.nx _ _ (assoc [])) []) _ _
  clear hlt
  simp only [go_sem,codecC]
  simp (disch:=first | assumption | omega | (simp;done) | (simp;omega) | (simp only [bt,and_true];first | done | omega | (simp;done))) [↓zmi,beq,ybc,ybd,ybe,endOk,wk,wk2,wk1,wkM,wkL,wkLL,ybf,hcl,lt_func0]
/-! Val -/
def e_putVal:=ePut 310 2 (vv) okVal eVal
set_option maxHeartbeats 8000000 in
theorem ok_putVal:EntOk Tryz.prog 201 (Ent.effect e_putVal):=by
  unfold e_putVal
  refine EntOk.effect fun args H K h=>?_
  unfold ePut at h
  split at h
  rotate_left
  · exact h.elim
  rename_i id most f' r sz' xs
  obtain ⟨q,s,l,⟨hW,rfl,rfl,rfl,ha,hl⟩,hK⟩:=h
  refine ⟨_,_,hK,?_⟩
  clear hK
  have hF:=hW.facts
  have hcl0:=fun t=>hW.closed (t:=t)
  have hid:=AHeap.get_lt hW.o
  have hq:=AHeap.get_lt hW.bu
  have hll:=put_len one_eVal hl
  obtain ⟨b,sl,sf,sa⟩:=s
  have hne:=far_of hid
  have hneq:=far_of hq
  have n1:(id=q)=False:=eq_false hW.ne
  have n2:(q=id)=False:=eq_false fun e=>hW.ne e.symm
  have hcs:=cells_some hW.o
  have hb0:=hW.bu
  have hi0:=hW.o
  have hnn:=hW.ne
  have hlb:b.length≤encMax:=enc_pre hl
  rw [encMax_eq] at hlb
  dsimp only at hcs hb0 hi0 hlb
  have lw2:=wUint_len (l.length:Int) 2
  refine ACalls.of_aw (Ω:=[(175,Ent.pure p_AppendUint),(310,Ent.effect e_zVal)]) (T:=assoc [(2,[[],[],[],[],[],[],[],[],[4,7],[],[],[4,7]])]) mixed (TblOk.cons ok_AppendUint (TblOk.cons ok_zVal TblOk.nil)) Tryz.func201 (by kernel_rfl) (by rfl) (rs:=[]) (by rfl) (by kernel_rfl) (by simp only [Tryz.ntmps201,yaz,yba];decide) (by rw [swH_nx];omega) fun hcl hlt=>?_
  change aw _ _ _ (KI Tryz.prog [(175,Ent.pure p_AppendUint),(310,Ent.effect e_zVal)] (aEnd Tryz.prog [] H.nx _ _ (assoc [(2,[[],[],[],[],[],[],[],[],[4,7],[],[],[4,7]])])) []) _ _
  clear hlt
  have hcl1:=fun t=>hcl0 t hcl
  have hcm:=fun cs=>@cells_set_same H id cs hid
  have hA:=fun X Y=>@cells_set_far H id q X Y hnn hid
  have hB:=fun X=>get_set_far (X:=X) hnn hb0
  have eh:=fun X Y Z=>@set_set_far H id q X Y Z
  have hL2:sl=true→(sl||decide ((l.length:Int) > most))=true:=fun h=>by rw [h,Bool.true_or]
  have hL3:sl=false→decide ((l.length:Int) > most)=(sl||decide ((l.length:Int) > most)):=fun h=>by rw [h,Bool.false_or]
  have hst:=swH_cnt (H:=H) (id:=id) (q:=q) (b:=b) (sl:=sl) (sf:=sf) (sa:=sa) (n:=l.length) (most:=most)
  have hS1:=hW.next ((⟨b,sl,sf,sa⟩:Enc).add (eCnt l.length most))
  have htot:(((⟨b,sl,sf,sa⟩:Enc).add (eCnt l.length most)).add (eAll eVal l))=(⟨b,sl,sf,sa⟩:Enc).add (eList eVal most l):=by rw [enc_assoc];rfl
  rw [← htot] at hl ⊢
  generalize ((⟨b,sl,sf,sa⟩:Enc).add (eCnt l.length most))=s1 at *
  generalize (sl||decide ((l.length:Int) > most))=L at *
  have hlv:∀ n,(AV.slice .any 2 (l.map (vv))).lt n:=fun n=>lt_map (fun x=>lt_vv)
  have hlc:=fun n=>@lt_codec n most 310 r
  cases sl
  case' true =>
    rw [hL2 rfl] at hst
    simp only [go_sem,byq,hne,hneq,n1,n2,hcs,hcm,hA,hB,eh,hi0,hb0,p_AppendUint,ybb]
  case' false =>
    simp only [go_sem,byq,hne,hneq,n1,n2,hcs,hcm,hA,hB,eh,hi0,hb0,p_AppendUint,ybb,hL3 rfl]
  all_goals
    (repeat with_reducible refine And.intro (by first | assumption | decide | omega | exact ⟨by omega,by omega⟩) ?_)
    refine loop_introW (A:=Nat) (fun k=>[(0,.ptr id 0),(4,.ptr H.nx 0),(33,.slice .any 2 (l.map (vv))),(34,.int .i64 (l.length:Int)),(35,.int .i64 (k:Int))])
      (fun k=>(swH H id q (s1.add (eAll eVal (l.take k)))).push (.cells (codecC most 310 r))) (fun k=>k≤l.length) (fun k=>l.length - k) 0 (by omega) ?_ fun k hk=>?_
    · rw [yar,eAll,enc_add0,hst]
      refine ⟨by simp only [zkk,zkp,zky,zkz,swH_nx];omega,by repeat (first | exact AHeap.Le.refl _ | refine AHeap.Le.push ?_ _),?_,?_,?_⟩
      · rw [← hst];exact closed_cells (hcl1 _) (hlc _)
      · simp [ltF,zky,zkz,znh,zmz,hlv]
        omega
      · simp [subW,wk2,wk1,wkM,Fr.get]
    simp only [go_sem]
    refine cond_split (fun hc=>?_) (fun hc=>?_)
    · have hk':k<l.length:=by simp at hc;omega
      obtain ⟨x,hx⟩:∃ x,x=l[k]:=⟨_,rfl⟩
      have hg:=getD_map (f:=vv) (l:=l) (k:=k) (x:=x) (by rw [List.getElem?_eq_getElem hk',hx])
      have e5:IntKind.i64.wrap ((k:Int)+1)=((k+1:Nat):Int):=by rw [wrap_i64]<;>omega
      have hxo:=ha x (by rw [hx];exact List.getElem_mem hk')
      obtain ⟨es,hlk⟩:=put_step (g:=eVal) hk' hx hl
      have hSk:=hW.next (s1.add (eAll eVal (l.take k)))
      simp only [go_sem,Int.toNat_natCast,ybb,hg,swH_nx,vv,codecC,encMax_eq]
      refine ⟨by omega,?_⟩
      refine w_val hxo (hSk.push2 _ _) hlk ?_
      rw [hF.p2,es]
      simp only [go_sem,e5]
      refine ⟨k+1,by omega,by omega,by simp only [zkk,zkp,zky,swH_nx];omega,by repeat (first | exact AHeap.Le.refl _ | refine AHeap.Le.push ?_ _),closed_cells (hcl1 _) (hlc _),?_,?_⟩
      · simp [ltF,zky,swH_nx,znh,zmz,hlv]
        omega
      · simp [subW,wk2,wk1,wkM,Fr.get]
    · have hk':k=l.length:=by simp at hc;omega
      subst hk'
      rw [List.take_length]
      simp only [go_sem]
      refine ⟨?_,by repeat (first | exact AHeap.Le.refl _ | refine AHeap.Le.push ?_ _),hcl1 _,?_⟩
      · simp [wk,wk2,wk1,wkLL]
      · simp [znm,znp]
def p_cdVal:List AV→AHeap→(AV→Prop)→Prop
  | [],_,K=>K (.agg (codecC 4 310 234))
  | _,_,_=>False
theorem ok_cdVal:EntOk Tryz.prog 202 (Ent.pure p_cdVal):=by
  refine EntOk.pure fun args H K h=>?_
  unfold p_cdVal at h
  split at h
  rotate_left
  · exact h.elim
  refine ⟨_,h,?_⟩
  refine ACalls.of_aw (Ω:=[]) (T:=assoc []) mixed TblOk.nil Tryz.func202 (by kernel_rfl) (by rfl) (rs:=[.cell 0 351]) (by rfl) (by kernel_rfl) (by simp only [Tryz.ntmps202,yaz,yba];decide) (Nat.le_refl _) fun hcl hlt=>?_
  change aw _ _ _ (KI Tryz.prog [] (aEnd Tryz.prog [.cell 0 351] H.nx _ _ (assoc [])) []) _ _
  clear hlt
  simp only [go_sem,codecC]
  simp (disch:=first | assumption | omega | (simp;done) | (simp;omega) | (simp only [bt,and_true];first | done | omega | (simp;done))) [↓zmi,beq,ybc,ybd,ybe,endOk,wk,wk2,wk1,wkM,wkL,wkLL,ybf,hcl,lt_func0]
/-! Tru -/
def e_putTru:=ePut 211 1 (.bool) okAny eTru
set_option maxHeartbeats 8000000 in
theorem ok_putTru:EntOk Tryz.prog 319 (Ent.effect e_putTru):=by
  unfold e_putTru
  refine EntOk.effect fun args H K h=>?_
  unfold ePut at h
  split at h
  rotate_left
  · exact h.elim
  rename_i id most f' r sz' xs
  obtain ⟨q,s,l,⟨hW,rfl,rfl,rfl,ha,hl⟩,hK⟩:=h
  refine ⟨_,_,hK,?_⟩
  clear hK
  have hF:=hW.facts
  have hcl0:=fun t=>hW.closed (t:=t)
  have hid:=AHeap.get_lt hW.o
  have hq:=AHeap.get_lt hW.bu
  have hll:=put_len one_eTru hl
  obtain ⟨b,sl,sf,sa⟩:=s
  have hne:=far_of hid
  have hneq:=far_of hq
  have n1:(id=q)=False:=eq_false hW.ne
  have n2:(q=id)=False:=eq_false fun e=>hW.ne e.symm
  have hcs:=cells_some hW.o
  have hb0:=hW.bu
  have hi0:=hW.o
  have hnn:=hW.ne
  have hlb:b.length≤encMax:=enc_pre hl
  rw [encMax_eq] at hlb
  dsimp only at hcs hb0 hi0 hlb
  have lw2:=wUint_len (l.length:Int) 2
  refine ACalls.of_aw (Ω:=[(175,Ent.pure p_AppendUint),(211,Ent.effect e_zTru)]) (T:=assoc [(2,[[],[],[],[],[],[],[],[],[4,7],[],[],[4,7]])]) mixed (TblOk.cons ok_AppendUint (TblOk.cons ok_zTru TblOk.nil)) Tryz.func319 (by kernel_rfl) (by rfl) (rs:=[]) (by rfl) (by kernel_rfl) (by simp only [Tryz.ntmps319,yaz,yba];decide) (by rw [swH_nx];omega) fun hcl hlt=>?_
  change aw _ _ _ (KI Tryz.prog [(175,Ent.pure p_AppendUint),(211,Ent.effect e_zTru)] (aEnd Tryz.prog [] H.nx _ _ (assoc [(2,[[],[],[],[],[],[],[],[],[4,7],[],[],[4,7]])])) []) _ _
  clear hlt
  have hcl1:=fun t=>hcl0 t hcl
  have hcm:=fun cs=>@cells_set_same H id cs hid
  have hA:=fun X Y=>@cells_set_far H id q X Y hnn hid
  have hB:=fun X=>get_set_far (X:=X) hnn hb0
  have eh:=fun X Y Z=>@set_set_far H id q X Y Z
  have hL2:sl=true→(sl||decide ((l.length:Int) > most))=true:=fun h=>by rw [h,Bool.true_or]
  have hL3:sl=false→decide ((l.length:Int) > most)=(sl||decide ((l.length:Int) > most)):=fun h=>by rw [h,Bool.false_or]
  have hst:=swH_cnt (H:=H) (id:=id) (q:=q) (b:=b) (sl:=sl) (sf:=sf) (sa:=sa) (n:=l.length) (most:=most)
  have hS1:=hW.next ((⟨b,sl,sf,sa⟩:Enc).add (eCnt l.length most))
  have htot:(((⟨b,sl,sf,sa⟩:Enc).add (eCnt l.length most)).add (eAll eTru l))=(⟨b,sl,sf,sa⟩:Enc).add (eList eTru most l):=by rw [enc_assoc];rfl
  rw [← htot] at hl ⊢
  generalize ((⟨b,sl,sf,sa⟩:Enc).add (eCnt l.length most))=s1 at *
  generalize (sl||decide ((l.length:Int) > most))=L at *
  have hlv:∀ n,(AV.slice .any 1 (l.map (.bool))).lt n:=fun n=>lt_map (fun x=>of_eq_true zna)
  have hlc:=fun n=>@lt_codec n most 211 r
  cases sl
  case' true =>
    rw [hL2 rfl] at hst
    simp only [go_sem,byq,hne,hneq,n1,n2,hcs,hcm,hA,hB,eh,hi0,hb0,p_AppendUint,ybb]
  case' false =>
    simp only [go_sem,byq,hne,hneq,n1,n2,hcs,hcm,hA,hB,eh,hi0,hb0,p_AppendUint,ybb,hL3 rfl]
  all_goals
    (repeat with_reducible refine And.intro (by first | assumption | decide | omega | exact ⟨by omega,by omega⟩) ?_)
    refine loop_introW (A:=Nat) (fun k=>[(0,.ptr id 0),(4,.ptr H.nx 0),(33,.slice .any 1 (l.map (.bool))),(34,.int .i64 (l.length:Int)),(35,.int .i64 (k:Int))])
      (fun k=>(swH H id q (s1.add (eAll eTru (l.take k)))).push (.cells (codecC most 211 r))) (fun k=>k≤l.length) (fun k=>l.length - k) 0 (by omega) ?_ fun k hk=>?_
    · rw [yar,eAll,enc_add0,hst]
      refine ⟨by simp only [zkk,zkp,zky,zkz,swH_nx];omega,by repeat (first | exact AHeap.Le.refl _ | refine AHeap.Le.push ?_ _),?_,?_,?_⟩
      · rw [← hst];exact closed_cells (hcl1 _) (hlc _)
      · simp [ltF,zky,zkz,znh,zmz,hlv]
        omega
      · simp [subW,wk2,wk1,wkM,Fr.get]
    simp only [go_sem]
    refine cond_split (fun hc=>?_) (fun hc=>?_)
    · have hk':k<l.length:=by simp at hc;omega
      obtain ⟨x,hx⟩:∃ x,x=l[k]:=⟨_,rfl⟩
      have hg:=getD_map (f:=.bool) (l:=l) (k:=k) (x:=x) (by rw [List.getElem?_eq_getElem hk',hx])
      have e5:IntKind.i64.wrap ((k:Int)+1)=((k+1:Nat):Int):=by rw [wrap_i64]<;>omega
      have hxo:=ha x (by rw [hx];exact List.getElem_mem hk')
      obtain ⟨es,hlk⟩:=put_step (g:=eTru) hk' hx hl
      have hSk:=hW.next (s1.add (eAll eTru (l.take k)))
      simp only [go_sem,Int.toNat_natCast,ybb,hg,swH_nx,codecC,encMax_eq]
      refine ⟨by omega,?_⟩
      refine w_tru (hSk.push _) hlk ?_
      rw [hF.p1,es]
      simp only [go_sem,e5]
      refine ⟨k+1,by omega,by omega,by simp only [zkk,zkp,zky,swH_nx];omega,by repeat (first | exact AHeap.Le.refl _ | refine AHeap.Le.push ?_ _),closed_cells (hcl1 _) (hlc _),?_,?_⟩
      · simp [ltF,zky,swH_nx,znh,zmz,hlv]
        omega
      · simp [subW,wk2,wk1,wkM,Fr.get]
    · have hk':k=l.length:=by simp at hc;omega
      subst hk'
      rw [List.take_length]
      simp only [go_sem]
      refine ⟨?_,by repeat (first | exact AHeap.Le.refl _ | refine AHeap.Le.push ?_ _),hcl1 _,?_⟩
      · simp [wk,wk2,wk1,wkLL]
      · simp [znm,znp]
def p_cdTru:List AV→AHeap→(AV→Prop)→Prop
  | [],_,K=>K (.agg (codecC 4 211 96))
  | _,_,_=>False
theorem ok_cdTru:EntOk Tryz.prog 320 (Ent.pure p_cdTru):=by
  refine EntOk.pure fun args H K h=>?_
  unfold p_cdTru at h
  split at h
  rotate_left
  · exact h.elim
  refine ⟨_,h,?_⟩
  refine ACalls.of_aw (Ω:=[]) (T:=assoc []) mixed TblOk.nil Tryz.func320 (by kernel_rfl) (by rfl) (rs:=[.cell 0 428]) (by rfl) (by kernel_rfl) (by simp only [Tryz.ntmps320,yaz,yba];decide) (Nat.le_refl _) fun hcl hlt=>?_
  change aw _ _ _ (KI Tryz.prog [] (aEnd Tryz.prog [.cell 0 428] H.nx _ _ (assoc [])) []) _ _
  clear hlt
  simp only [go_sem,codecC]
  simp (disch:=first | assumption | omega | (simp;done) | (simp;omega) | (simp only [bt,and_true];first | done | omega | (simp;done))) [↓zmi,beq,ybc,ybd,ybe,endOk,wk,wk2,wk1,wkM,wkL,wkLL,ybf,hcl,lt_func0]
/-! Fld -/
def e_wrFld:=eW (fieldAV) okField eField
def e_putFld:=ePut 176 3 (fieldAV) okField eField
set_option maxHeartbeats 8000000 in
theorem ok_wrFld:EntOk Tryz.prog 176 (Ent.effect e_wrFld):=by
  unfold e_wrFld
  refine EntOk.effect fun args H K h=>?_
  unfold eW at h
  split at h
  rotate_left
  · exact h.elim
  rename_i id x
  obtain ⟨q,s,a,⟨hW,rfl,ha,hl⟩,hK⟩:=h
  refine ⟨_,_,hK,?_⟩
  clear hK
  have hF:=hW.facts
  have hcl0:=hW.closed (t:=s.add (eField a))
  have hid:=AHeap.get_lt hW.o
  have hq:=AHeap.get_lt hW.bu
  refine ACalls.of_aw (Ω:=[(55,Ent.effect e_zNum),(177,Ent.effect e_zTxt)]) (T:=assoc []) mixed (TblOk.cons ok_zNum (TblOk.cons ok_zTxt TblOk.nil)) Tryz.func176 (by kernel_rfl) (by rfl) (rs:=[]) (by rfl) (by kernel_rfl) (by simp only [Tryz.ntmps176,yaz,yba];decide) (by rw [swH_nx];omega) fun hcl hlt=>?_
  change aw _ _ _ (KI Tryz.prog [(55,Ent.effect e_zNum),(177,Ent.effect e_zTxt)] (aEnd Tryz.prog [] H.nx _ _ (assoc [])) []) _ _
  clear hlt
  have hcl1:=hcl0 hcl
  unfold eField at hl hcl1 ⊢
  rw [← enc_assoc,← enc_assoc] at hl hcl1 ⊢
  have hl3:=hl
  have hl2:=enc_pre hl3
  have hl1:=enc_pre hl2
  simp only [go_sem,fieldAV,swH_nx,swH_cells0]
  refine w_num (.inr rfl) (hW.push _) hl1 ?_
  rw [hF.p0]
  simp only [go_sem,fieldAV,swH_nx,swH_cells0]
  refine w_txt (ha) ((hW.next _).push _) hl2 ?_
  rw [hF.p1]
  simp only [go_sem,fieldAV,swH_nx,swH_cells0]
  refine w_num (.inl rfl) ((hW.next _).push _) hl3 ?_
  rw [hF.p1]
  try simp only [go_sem,fieldAV,swH_nx,swH_cells0]
  simp (disch:=first | assumption | omega | (simp;done) | (simp;omega) | (simp only [bt,and_true];first | done | omega | (simp;done))) [↓zmi,beq,ybc,ybd,ybe,endOk,wk,wk2,wk1,wkM,wkL,wkLL,ybf,hcl1]
set_option maxHeartbeats 8000000 in
theorem ok_putFld:EntOk Tryz.prog 56 (Ent.effect e_putFld):=by
  unfold e_putFld
  refine EntOk.effect fun args H K h=>?_
  unfold ePut at h
  split at h
  rotate_left
  · exact h.elim
  rename_i id most f' r sz' xs
  obtain ⟨q,s,l,⟨hW,rfl,rfl,rfl,ha,hl⟩,hK⟩:=h
  refine ⟨_,_,hK,?_⟩
  clear hK
  have hF:=hW.facts
  have hcl0:=fun t=>hW.closed (t:=t)
  have hid:=AHeap.get_lt hW.o
  have hq:=AHeap.get_lt hW.bu
  have hll:=put_len one_field hl
  obtain ⟨b,sl,sf,sa⟩:=s
  have hne:=far_of hid
  have hneq:=far_of hq
  have n1:(id=q)=False:=eq_false hW.ne
  have n2:(q=id)=False:=eq_false fun e=>hW.ne e.symm
  have hcs:=cells_some hW.o
  have hb0:=hW.bu
  have hi0:=hW.o
  have hnn:=hW.ne
  have hlb:b.length≤encMax:=enc_pre hl
  rw [encMax_eq] at hlb
  dsimp only at hcs hb0 hi0 hlb
  have lw2:=wUint_len (l.length:Int) 2
  refine ACalls.of_aw (Ω:=[(175,Ent.pure p_AppendUint),(176,Ent.effect e_wrFld)]) (T:=assoc [(2,[[],[],[],[],[],[],[],[],[4,7],[],[],[4,7]])]) mixed (TblOk.cons ok_AppendUint (TblOk.cons ok_wrFld TblOk.nil)) Tryz.func56 (by kernel_rfl) (by rfl) (rs:=[]) (by rfl) (by kernel_rfl) (by simp only [Tryz.ntmps56,yaz,yba];decide) (by rw [swH_nx];omega) fun hcl hlt=>?_
  change aw _ _ _ (KI Tryz.prog [(175,Ent.pure p_AppendUint),(176,Ent.effect e_wrFld)] (aEnd Tryz.prog [] H.nx _ _ (assoc [(2,[[],[],[],[],[],[],[],[],[4,7],[],[],[4,7]])])) []) _ _
  clear hlt
  have hcl1:=fun t=>hcl0 t hcl
  have hcm:=fun cs=>@cells_set_same H id cs hid
  have hA:=fun X Y=>@cells_set_far H id q X Y hnn hid
  have hB:=fun X=>get_set_far (X:=X) hnn hb0
  have eh:=fun X Y Z=>@set_set_far H id q X Y Z
  have hL2:sl=true→(sl||decide ((l.length:Int) > most))=true:=fun h=>by rw [h,Bool.true_or]
  have hL3:sl=false→decide ((l.length:Int) > most)=(sl||decide ((l.length:Int) > most)):=fun h=>by rw [h,Bool.false_or]
  have hst:=swH_cnt (H:=H) (id:=id) (q:=q) (b:=b) (sl:=sl) (sf:=sf) (sa:=sa) (n:=l.length) (most:=most)
  have hS1:=hW.next ((⟨b,sl,sf,sa⟩:Enc).add (eCnt l.length most))
  have htot:(((⟨b,sl,sf,sa⟩:Enc).add (eCnt l.length most)).add (eAll eField l))=(⟨b,sl,sf,sa⟩:Enc).add (eList eField most l):=by rw [enc_assoc];rfl
  rw [← htot] at hl ⊢
  generalize ((⟨b,sl,sf,sa⟩:Enc).add (eCnt l.length most))=s1 at *
  generalize (sl||decide ((l.length:Int) > most))=L at *
  have hlv:∀ n,(AV.slice .any 3 (l.map (fieldAV))).lt n:=fun n=>lt_map (fun x=>lt_fieldAV x)
  have hlc:=fun n=>@lt_codec n most 176 r
  cases sl
  case' true =>
    rw [hL2 rfl] at hst
    simp only [go_sem,byq,hne,hneq,n1,n2,hcs,hcm,hA,hB,eh,hi0,hb0,p_AppendUint,ybb]
  case' false =>
    simp only [go_sem,byq,hne,hneq,n1,n2,hcs,hcm,hA,hB,eh,hi0,hb0,p_AppendUint,ybb,hL3 rfl]
  all_goals
    (repeat with_reducible refine And.intro (by first | assumption | decide | omega | exact ⟨by omega,by omega⟩) ?_)
    refine loop_introW (A:=Nat) (fun k=>[(0,.ptr id 0),(4,.ptr H.nx 0),(33,.slice .any 3 (l.map (fieldAV))),(34,.int .i64 (l.length:Int)),(35,.int .i64 (k:Int))])
      (fun k=>(swH H id q (s1.add (eAll eField (l.take k)))).push (.cells (codecC most 176 r))) (fun k=>k≤l.length) (fun k=>l.length - k) 0 (by omega) ?_ fun k hk=>?_
    · rw [yar,eAll,enc_add0,hst]
      refine ⟨by simp only [zkk,zkp,zky,zkz,swH_nx];omega,by repeat (first | exact AHeap.Le.refl _ | refine AHeap.Le.push ?_ _),?_,?_,?_⟩
      · rw [← hst];exact closed_cells (hcl1 _) (hlc _)
      · simp [ltF,zky,zkz,znh,zmz,hlv]
        omega
      · simp [subW,wk2,wk1,wkM,Fr.get]
    simp only [go_sem]
    refine cond_split (fun hc=>?_) (fun hc=>?_)
    · have hk':k<l.length:=by simp at hc;omega
      obtain ⟨x,hx⟩:∃ x,x=l[k]:=⟨_,rfl⟩
      have hg:=getD_map (f:=fieldAV) (l:=l) (k:=k) (x:=x) (by rw [List.getElem?_eq_getElem hk',hx])
      have e5:IntKind.i64.wrap ((k:Int)+1)=((k+1:Nat):Int):=by rw [wrap_i64]<;>omega
      have hxo:=ha x (by rw [hx];exact List.getElem_mem hk')
      obtain ⟨es,hlk⟩:=put_step (g:=eField) hk' hx hl
      have hSk:=hW.next (s1.add (eAll eField (l.take k)))
      simp only [go_sem,Int.toNat_natCast,ybb,hg,swH_nx,fieldAV,codecC,encMax_eq]
      refine ⟨by omega,?_⟩
      refine w_el (c:=fieldAV) hxo (hSk.push2 _ _) hlk ?_
      rw [hF.p2,es]
      simp only [go_sem,e5]
      refine ⟨k+1,by omega,by omega,by simp only [zkk,zkp,zky,swH_nx];omega,by repeat (first | exact AHeap.Le.refl _ | refine AHeap.Le.push ?_ _),closed_cells (hcl1 _) (hlc _),?_,?_⟩
      · simp [ltF,zky,swH_nx,znh,zmz,hlv]
        omega
      · simp [subW,wk2,wk1,wkM,Fr.get]
    · have hk':k=l.length:=by simp at hc;omega
      subst hk'
      rw [List.take_length]
      simp only [go_sem]
      refine ⟨?_,by repeat (first | exact AHeap.Le.refl _ | refine AHeap.Le.push ?_ _),hcl1 _,?_⟩
      · simp [wk,wk2,wk1,wkLL]
      · simp [znm,znp]
def p_cdFld:List AV→AHeap→(AV→Prop)→Prop
  | [],_,K=>K (.agg (codecC 32 176 178))
  | _,_,_=>False
theorem ok_cdFld:EntOk Tryz.prog 57 (Ent.pure p_cdFld):=by
  refine EntOk.pure fun args H K h=>?_
  unfold p_cdFld at h
  split at h
  rotate_left
  · exact h.elim
  refine ⟨_,h,?_⟩
  refine ACalls.of_aw (Ω:=[]) (T:=assoc []) mixed TblOk.nil Tryz.func57 (by kernel_rfl) (by rfl) (rs:=[.cell 0 138]) (by rfl) (by kernel_rfl) (by simp only [Tryz.ntmps57,yaz,yba];decide) (Nat.le_refl _) fun hcl hlt=>?_
  change aw _ _ _ (KI Tryz.prog [] (aEnd Tryz.prog [.cell 0 138] H.nx _ _ (assoc [])) []) _ _
  clear hlt
  simp only [go_sem,codecC]
  simp (disch:=first | assumption | omega | (simp;done) | (simp;omega) | (simp only [bt,and_true];first | done | omega | (simp;done))) [↓zmi,beq,ybc,ybd,ybe,endOk,wk,wk2,wk1,wkM,wkL,wkLL,ybf,hcl,lt_func0]
/-! Cas -/
def e_wrCas:=eW (caseAV) okCase eCase
def e_putCas:=ePut 309 5 (caseAV) okCase eCase
set_option maxHeartbeats 8000000 in
theorem ok_wrCas:EntOk Tryz.prog 309 (Ent.effect e_wrCas):=by
  unfold e_wrCas
  refine EntOk.effect fun args H K h=>?_
  unfold eW at h
  split at h
  rotate_left
  · exact h.elim
  rename_i id x
  obtain ⟨q,s,a,⟨hW,rfl,ha,hl⟩,hK⟩:=h
  refine ⟨_,_,hK,?_⟩
  clear hK
  have hF:=hW.facts
  have hcl0:=hW.closed (t:=s.add (eCase a))
  have hid:=AHeap.get_lt hW.o
  have hq:=AHeap.get_lt hW.bu
  refine ACalls.of_aw (Ω:=[(310,Ent.effect e_zVal),(55,Ent.effect e_zNum)]) (T:=assoc []) mixed (TblOk.cons ok_zVal (TblOk.cons ok_zNum TblOk.nil)) Tryz.func309 (by kernel_rfl) (by rfl) (rs:=[]) (by rfl) (by kernel_rfl) (by simp only [Tryz.ntmps309,yaz,yba];decide) (by rw [swH_nx];omega) fun hcl hlt=>?_
  change aw _ _ _ (KI Tryz.prog [(310,Ent.effect e_zVal),(55,Ent.effect e_zNum)] (aEnd Tryz.prog [] H.nx _ _ (assoc [])) []) _ _
  clear hlt
  have hcl1:=hcl0 hcl
  unfold eCase at hl hcl1 ⊢
  rw [← enc_assoc,← enc_assoc] at hl hcl1 ⊢
  have hl3:=hl
  have hl2:=enc_pre hl3
  have hl1:=enc_pre hl2
  simp only [go_sem,caseAV,vc,swH_nx,swH_cells0]
  refine w_val (ha.1) (hW.push _) hl1 ?_
  rw [hF.p0]
  simp only [go_sem,caseAV,vc,swH_nx,swH_cells0]
  refine w_val (ha.2) ((hW.next _).push _) hl2 ?_
  rw [hF.p1]
  simp only [go_sem,caseAV,vc,swH_nx,swH_cells0]
  refine w_num (.inr rfl) ((hW.next _).push _) hl3 ?_
  rw [hF.p1]
  try simp only [go_sem,caseAV,vc,swH_nx,swH_cells0]
  simp (disch:=first | assumption | omega | (simp;done) | (simp;omega) | (simp only [bt,and_true];first | done | omega | (simp;done))) [↓zmi,beq,ybc,ybd,ybe,endOk,wk,wk2,wk1,wkM,wkL,wkLL,ybf,hcl1]
set_option maxHeartbeats 8000000 in
theorem ok_putCas:EntOk Tryz.prog 186 (Ent.effect e_putCas):=by
  unfold e_putCas
  refine EntOk.effect fun args H K h=>?_
  unfold ePut at h
  split at h
  rotate_left
  · exact h.elim
  rename_i id most f' r sz' xs
  obtain ⟨q,s,l,⟨hW,rfl,rfl,rfl,ha,hl⟩,hK⟩:=h
  refine ⟨_,_,hK,?_⟩
  clear hK
  have hF:=hW.facts
  have hcl0:=fun t=>hW.closed (t:=t)
  have hid:=AHeap.get_lt hW.o
  have hq:=AHeap.get_lt hW.bu
  have hll:=put_len one_case hl
  obtain ⟨b,sl,sf,sa⟩:=s
  have hne:=far_of hid
  have hneq:=far_of hq
  have n1:(id=q)=False:=eq_false hW.ne
  have n2:(q=id)=False:=eq_false fun e=>hW.ne e.symm
  have hcs:=cells_some hW.o
  have hb0:=hW.bu
  have hi0:=hW.o
  have hnn:=hW.ne
  have hlb:b.length≤encMax:=enc_pre hl
  rw [encMax_eq] at hlb
  dsimp only at hcs hb0 hi0 hlb
  have lw2:=wUint_len (l.length:Int) 2
  refine ACalls.of_aw (Ω:=[(175,Ent.pure p_AppendUint),(309,Ent.effect e_wrCas)]) (T:=assoc [(2,[[],[],[],[],[],[],[],[],[4,7],[],[],[4,7]])]) mixed (TblOk.cons ok_AppendUint (TblOk.cons ok_wrCas TblOk.nil)) Tryz.func186 (by kernel_rfl) (by rfl) (rs:=[]) (by rfl) (by kernel_rfl) (by simp only [Tryz.ntmps186,yaz,yba];decide) (by rw [swH_nx];omega) fun hcl hlt=>?_
  change aw _ _ _ (KI Tryz.prog [(175,Ent.pure p_AppendUint),(309,Ent.effect e_wrCas)] (aEnd Tryz.prog [] H.nx _ _ (assoc [(2,[[],[],[],[],[],[],[],[],[4,7],[],[],[4,7]])])) []) _ _
  clear hlt
  have hcl1:=fun t=>hcl0 t hcl
  have hcm:=fun cs=>@cells_set_same H id cs hid
  have hA:=fun X Y=>@cells_set_far H id q X Y hnn hid
  have hB:=fun X=>get_set_far (X:=X) hnn hb0
  have eh:=fun X Y Z=>@set_set_far H id q X Y Z
  have hL2:sl=true→(sl||decide ((l.length:Int) > most))=true:=fun h=>by rw [h,Bool.true_or]
  have hL3:sl=false→decide ((l.length:Int) > most)=(sl||decide ((l.length:Int) > most)):=fun h=>by rw [h,Bool.false_or]
  have hst:=swH_cnt (H:=H) (id:=id) (q:=q) (b:=b) (sl:=sl) (sf:=sf) (sa:=sa) (n:=l.length) (most:=most)
  have hS1:=hW.next ((⟨b,sl,sf,sa⟩:Enc).add (eCnt l.length most))
  have htot:(((⟨b,sl,sf,sa⟩:Enc).add (eCnt l.length most)).add (eAll eCase l))=(⟨b,sl,sf,sa⟩:Enc).add (eList eCase most l):=by rw [enc_assoc];rfl
  rw [← htot] at hl ⊢
  generalize ((⟨b,sl,sf,sa⟩:Enc).add (eCnt l.length most))=s1 at *
  generalize (sl||decide ((l.length:Int) > most))=L at *
  have hlv:∀ n,(AV.slice .any 5 (l.map (caseAV))).lt n:=fun n=>lt_map (fun x=>lt_caseAV x)
  have hlc:=fun n=>@lt_codec n most 309 r
  cases sl
  case' true =>
    rw [hL2 rfl] at hst
    simp only [go_sem,byq,hne,hneq,n1,n2,hcs,hcm,hA,hB,eh,hi0,hb0,p_AppendUint,ybb]
  case' false =>
    simp only [go_sem,byq,hne,hneq,n1,n2,hcs,hcm,hA,hB,eh,hi0,hb0,p_AppendUint,ybb,hL3 rfl]
  all_goals
    (repeat with_reducible refine And.intro (by first | assumption | decide | omega | exact ⟨by omega,by omega⟩) ?_)
    refine loop_introW (A:=Nat) (fun k=>[(0,.ptr id 0),(4,.ptr H.nx 0),(33,.slice .any 5 (l.map (caseAV))),(34,.int .i64 (l.length:Int)),(35,.int .i64 (k:Int))])
      (fun k=>(swH H id q (s1.add (eAll eCase (l.take k)))).push (.cells (codecC most 309 r))) (fun k=>k≤l.length) (fun k=>l.length - k) 0 (by omega) ?_ fun k hk=>?_
    · rw [yar,eAll,enc_add0,hst]
      refine ⟨by simp only [zkk,zkp,zky,zkz,swH_nx];omega,by repeat (first | exact AHeap.Le.refl _ | refine AHeap.Le.push ?_ _),?_,?_,?_⟩
      · rw [← hst];exact closed_cells (hcl1 _) (hlc _)
      · simp [ltF,zky,zkz,znh,zmz,hlv]
        omega
      · simp [subW,wk2,wk1,wkM,Fr.get]
    simp only [go_sem]
    refine cond_split (fun hc=>?_) (fun hc=>?_)
    · have hk':k<l.length:=by simp at hc;omega
      obtain ⟨x,hx⟩:∃ x,x=l[k]:=⟨_,rfl⟩
      have hg:=getD_map (f:=caseAV) (l:=l) (k:=k) (x:=x) (by rw [List.getElem?_eq_getElem hk',hx])
      have e5:IntKind.i64.wrap ((k:Int)+1)=((k+1:Nat):Int):=by rw [wrap_i64]<;>omega
      have hxo:=ha x (by rw [hx];exact List.getElem_mem hk')
      obtain ⟨es,hlk⟩:=put_step (g:=eCase) hk' hx hl
      have hSk:=hW.next (s1.add (eAll eCase (l.take k)))
      simp only [go_sem,Int.toNat_natCast,ybb,hg,swH_nx,caseAV,vc,codecC,encMax_eq]
      refine ⟨by omega,?_⟩
      refine w_el (c:=caseAV) hxo (hSk.push2 _ _) hlk ?_
      rw [hF.p2,es]
      simp only [go_sem,e5]
      refine ⟨k+1,by omega,by omega,by simp only [zkk,zkp,zky,swH_nx];omega,by repeat (first | exact AHeap.Le.refl _ | refine AHeap.Le.push ?_ _),closed_cells (hcl1 _) (hlc _),?_,?_⟩
      · simp [ltF,zky,swH_nx,znh,zmz,hlv]
        omega
      · simp [subW,wk2,wk1,wkM,Fr.get]
    · have hk':k=l.length:=by simp at hc;omega
      subst hk'
      rw [List.take_length]
      simp only [go_sem]
      refine ⟨?_,by repeat (first | exact AHeap.Le.refl _ | refine AHeap.Le.push ?_ _),hcl1 _,?_⟩
      · simp [wk,wk2,wk1,wkLL]
      · simp [znm,znp]
def p_cdCas:List AV→AHeap→(AV→Prop)→Prop
  | [],_,K=>K (.agg (codecC 6 309 311))
  | _,_,_=>False
theorem ok_cdCas:EntOk Tryz.prog 187 (Ent.pure p_cdCas):=by
  refine EntOk.pure fun args H K h=>?_
  unfold p_cdCas at h
  split at h
  rotate_left
  · exact h.elim
  refine ⟨_,h,?_⟩
  refine ACalls.of_aw (Ω:=[]) (T:=assoc []) mixed TblOk.nil Tryz.func187 (by kernel_rfl) (by rfl) (rs:=[.cell 0 324]) (by rfl) (by kernel_rfl) (by simp only [Tryz.ntmps187,yaz,yba];decide) (Nat.le_refl _) fun hcl hlt=>?_
  change aw _ _ _ (KI Tryz.prog [] (aEnd Tryz.prog [.cell 0 324] H.nx _ _ (assoc [])) []) _ _
  clear hlt
  simp only [go_sem,codecC]
  simp (disch:=first | assumption | omega | (simp;done) | (simp;omega) | (simp only [bt,and_true];first | done | omega | (simp;done))) [↓zmi,beq,ybc,ybd,ybe,endOk,wk,wk2,wk1,wkM,wkL,wkLL,ybf,hcl,lt_func0]
end Go.AL


open Go Go.AL Go.Proofs
namespace Go.AL
set_option linter.all false
set_option maxRecDepth 10000
theorem ti_lstPar:ti Tryz.prog 331=some ⟨.struct [(0,3,false),(1,328,false),(2,329,false)],3,24,.agg [.int .i64 0,.nilf,.nilf]⟩:=by kernel_rfl
theorem ti_fwPar:ti Tryz.prog 328=some ⟨.func,1,8,.nilf⟩:=by kernel_rfl
theorem ti_frPar:ti Tryz.prog 329=some ⟨.func,1,8,.nilf⟩:=by kernel_rfl
theorem ti_lstPrm:ti Tryz.prog 337=some ⟨.struct [(0,3,false),(1,334,false),(2,335,false)],3,24,.agg [.int .i64 0,.nilf,.nilf]⟩:=by kernel_rfl
theorem ti_fwPrm:ti Tryz.prog 334=some ⟨.func,1,8,.nilf⟩:=by kernel_rfl
theorem ti_frPrm:ti Tryz.prog 335=some ⟨.func,1,8,.nilf⟩:=by kernel_rfl
theorem ti_lstKey:ti Tryz.prog 345=some ⟨.struct [(0,3,false),(1,342,false),(2,343,false)],3,24,.agg [.int .i64 0,.nilf,.nilf]⟩:=by kernel_rfl
theorem ti_fwKey:ti Tryz.prog 342=some ⟨.func,1,8,.nilf⟩:=by kernel_rfl
theorem ti_frKey:ti Tryz.prog 343=some ⟨.func,1,8,.nilf⟩:=by kernel_rfl
theorem ti_lstStg:ti Tryz.prog 171=some ⟨.struct [(0,3,false),(1,168,false),(2,169,false)],3,24,.agg [.int .i64 0,.nilf,.nilf]⟩:=by kernel_rfl
theorem ti_fwStg:ti Tryz.prog 168=some ⟨.func,1,8,.nilf⟩:=by kernel_rfl
theorem ti_frStg:ti Tryz.prog 169=some ⟨.func,1,8,.nilf⟩:=by kernel_rfl
theorem ti_lstRef:ti Tryz.prog 183=some ⟨.struct [(0,3,false),(1,180,false),(2,181,false)],3,24,.agg [.int .i64 0,.nilf,.nilf]⟩:=by kernel_rfl
theorem ti_fwRef:ti Tryz.prog 180=some ⟨.func,1,8,.nilf⟩:=by kernel_rfl
theorem ti_frRef:ti Tryz.prog 181=some ⟨.func,1,8,.nilf⟩:=by kernel_rfl
attribute [go_sem] ti_lstPar ti_fwPar ti_frPar ti_lstPrm ti_fwPrm ti_frPrm ti_lstKey ti_fwKey ti_frKey ti_lstStg ti_fwStg ti_frStg ti_lstRef ti_fwRef ti_frRef
/-! Par -/
def e_wrPar:=eW (paramAV) okParam eParam
def e_putPar:=ePut 312 2 (paramAV) okParam eParam
set_option maxHeartbeats 8000000 in
theorem ok_wrPar:EntOk Tryz.prog 312 (Ent.effect e_wrPar):=by
  unfold e_wrPar
  refine EntOk.effect fun args H K h=>?_
  unfold eW at h
  split at h
  rotate_left
  · exact h.elim
  rename_i id x
  obtain ⟨q,s,a,⟨hW,rfl,ha,hl⟩,hK⟩:=h
  refine ⟨_,_,hK,?_⟩
  clear hK
  have hF:=hW.facts
  have hcl0:=hW.closed (t:=s.add (eParam a))
  have hid:=AHeap.get_lt hW.o
  have hq:=AHeap.get_lt hW.bu
  refine ACalls.of_aw (Ω:=[(177,Ent.effect e_zTxt),(55,Ent.effect e_zNum)]) (T:=assoc []) mixed (TblOk.cons ok_zTxt (TblOk.cons ok_zNum TblOk.nil)) Tryz.func312 (by kernel_rfl) (by rfl) (rs:=[]) (by rfl) (by kernel_rfl) (by simp only [Tryz.ntmps312,yaz,yba];decide) (by rw [swH_nx];omega) fun hcl hlt=>?_
  change aw _ _ _ (KI Tryz.prog [(177,Ent.effect e_zTxt),(55,Ent.effect e_zNum)] (aEnd Tryz.prog [] H.nx _ _ (assoc [])) []) _ _
  clear hlt
  have hcl1:=hcl0 hcl
  unfold eParam at hl hcl1 ⊢
  rw [← enc_assoc] at hl hcl1 ⊢
  have hl2:=hl
  have hl1:=enc_pre hl2
  simp only [go_sem,paramAV,swH_nx,swH_cells0]
  refine w_txt (ha) (hW.push _) hl1 ?_
  rw [hF.p0]
  simp only [go_sem,paramAV,swH_nx,swH_cells0]
  refine w_num (.inl rfl) ((hW.next _).push _) hl2 ?_
  rw [hF.p1]
  try simp only [go_sem,paramAV,swH_nx,swH_cells0]
  simp (disch:=first | assumption | omega | (simp;done) | (simp;omega) | (simp only [bt,and_true];first | done | omega | (simp;done))) [↓zmi,beq,ybc,ybd,ybe,endOk,wk,wk2,wk1,wkM,wkL,wkLL,ybf,hcl1]
set_option maxHeartbeats 8000000 in
theorem ok_putPar:EntOk Tryz.prog 191 (Ent.effect e_putPar):=by
  unfold e_putPar
  refine EntOk.effect fun args H K h=>?_
  unfold ePut at h
  split at h
  rotate_left
  · exact h.elim
  rename_i id most f' r sz' xs
  obtain ⟨q,s,l,⟨hW,rfl,rfl,rfl,ha,hl⟩,hK⟩:=h
  refine ⟨_,_,hK,?_⟩
  clear hK
  have hF:=hW.facts
  have hcl0:=fun t=>hW.closed (t:=t)
  have hid:=AHeap.get_lt hW.o
  have hq:=AHeap.get_lt hW.bu
  have hll:=put_len one_param hl
  obtain ⟨b,sl,sf,sa⟩:=s
  have hne:=far_of hid
  have hneq:=far_of hq
  have n1:(id=q)=False:=eq_false hW.ne
  have n2:(q=id)=False:=eq_false fun e=>hW.ne e.symm
  have hcs:=cells_some hW.o
  have hb0:=hW.bu
  have hi0:=hW.o
  have hnn:=hW.ne
  have hlb:b.length≤encMax:=enc_pre hl
  rw [encMax_eq] at hlb
  dsimp only at hcs hb0 hi0 hlb
  have lw2:=wUint_len (l.length:Int) 2
  refine ACalls.of_aw (Ω:=[(175,Ent.pure p_AppendUint),(312,Ent.effect e_wrPar)]) (T:=assoc [(2,[[],[],[],[],[],[],[],[],[4,7],[],[],[4,7]])]) mixed (TblOk.cons ok_AppendUint (TblOk.cons ok_wrPar TblOk.nil)) Tryz.func191 (by kernel_rfl) (by rfl) (rs:=[]) (by rfl) (by kernel_rfl) (by simp only [Tryz.ntmps191,yaz,yba];decide) (by rw [swH_nx];omega) fun hcl hlt=>?_
  change aw _ _ _ (KI Tryz.prog [(175,Ent.pure p_AppendUint),(312,Ent.effect e_wrPar)] (aEnd Tryz.prog [] H.nx _ _ (assoc [(2,[[],[],[],[],[],[],[],[],[4,7],[],[],[4,7]])])) []) _ _
  clear hlt
  have hcl1:=fun t=>hcl0 t hcl
  have hcm:=fun cs=>@cells_set_same H id cs hid
  have hA:=fun X Y=>@cells_set_far H id q X Y hnn hid
  have hB:=fun X=>get_set_far (X:=X) hnn hb0
  have eh:=fun X Y Z=>@set_set_far H id q X Y Z
  have hL2:sl=true→(sl||decide ((l.length:Int) > most))=true:=fun h=>by rw [h,Bool.true_or]
  have hL3:sl=false→decide ((l.length:Int) > most)=(sl||decide ((l.length:Int) > most)):=fun h=>by rw [h,Bool.false_or]
  have hst:=swH_cnt (H:=H) (id:=id) (q:=q) (b:=b) (sl:=sl) (sf:=sf) (sa:=sa) (n:=l.length) (most:=most)
  have hS1:=hW.next ((⟨b,sl,sf,sa⟩:Enc).add (eCnt l.length most))
  have htot:(((⟨b,sl,sf,sa⟩:Enc).add (eCnt l.length most)).add (eAll eParam l))=(⟨b,sl,sf,sa⟩:Enc).add (eList eParam most l):=by rw [enc_assoc];rfl
  rw [← htot] at hl ⊢
  generalize ((⟨b,sl,sf,sa⟩:Enc).add (eCnt l.length most))=s1 at *
  generalize (sl||decide ((l.length:Int) > most))=L at *
  have hlv:∀ n,(AV.slice .any 2 (l.map (paramAV))).lt n:=fun n=>lt_map (fun x=>lt_paramAV x)
  have hlc:=fun n=>@lt_codec n most 312 r
  cases sl
  case' true =>
    rw [hL2 rfl] at hst
    simp only [go_sem,byq,hne,hneq,n1,n2,hcs,hcm,hA,hB,eh,hi0,hb0,p_AppendUint,ybb]
  case' false =>
    simp only [go_sem,byq,hne,hneq,n1,n2,hcs,hcm,hA,hB,eh,hi0,hb0,p_AppendUint,ybb,hL3 rfl]
  all_goals
    (repeat with_reducible refine And.intro (by first | assumption | decide | omega | exact ⟨by omega,by omega⟩) ?_)
    refine loop_introW (A:=Nat) (fun k=>[(0,.ptr id 0),(4,.ptr H.nx 0),(33,.slice .any 2 (l.map (paramAV))),(34,.int .i64 (l.length:Int)),(35,.int .i64 (k:Int))])
      (fun k=>(swH H id q (s1.add (eAll eParam (l.take k)))).push (.cells (codecC most 312 r))) (fun k=>k≤l.length) (fun k=>l.length - k) 0 (by omega) ?_ fun k hk=>?_
    · rw [yar,eAll,enc_add0,hst]
      refine ⟨by simp only [zkk,zkp,zky,zkz,swH_nx];omega,by repeat (first | exact AHeap.Le.refl _ | refine AHeap.Le.push ?_ _),?_,?_,?_⟩
      · rw [← hst];exact closed_cells (hcl1 _) (hlc _)
      · simp [ltF,zky,zkz,znh,zmz,hlv]
        omega
      · simp [subW,wk2,wk1,wkM,Fr.get]
    simp only [go_sem]
    refine cond_split (fun hc=>?_) (fun hc=>?_)
    · have hk':k<l.length:=by simp at hc;omega
      obtain ⟨x,hx⟩:∃ x,x=l[k]:=⟨_,rfl⟩
      have hg:=getD_map (f:=paramAV) (l:=l) (k:=k) (x:=x) (by rw [List.getElem?_eq_getElem hk',hx])
      have e5:IntKind.i64.wrap ((k:Int)+1)=((k+1:Nat):Int):=by rw [wrap_i64]<;>omega
      have hxo:=ha x (by rw [hx];exact List.getElem_mem hk')
      obtain ⟨es,hlk⟩:=put_step (g:=eParam) hk' hx hl
      have hSk:=hW.next (s1.add (eAll eParam (l.take k)))
      simp only [go_sem,Int.toNat_natCast,ybb,hg,swH_nx,paramAV,codecC,encMax_eq]
      refine ⟨by omega,?_⟩
      refine w_el (c:=paramAV) hxo (hSk.push2 _ _) hlk ?_
      rw [hF.p2,es]
      simp only [go_sem,e5]
      refine ⟨k+1,by omega,by omega,by simp only [zkk,zkp,zky,swH_nx];omega,by repeat (first | exact AHeap.Le.refl _ | refine AHeap.Le.push ?_ _),closed_cells (hcl1 _) (hlc _),?_,?_⟩
      · simp [ltF,zky,swH_nx,znh,zmz,hlv]
        omega
      · simp [subW,wk2,wk1,wkM,Fr.get]
    · have hk':k=l.length:=by simp at hc;omega
      subst hk'
      rw [List.take_length]
      simp only [go_sem]
      refine ⟨?_,by repeat (first | exact AHeap.Le.refl _ | refine AHeap.Le.push ?_ _),hcl1 _,?_⟩
      · simp [wk,wk2,wk1,wkLL]
      · simp [znm,znp]
def p_cdPar:List AV→AHeap→(AV→Prop)→Prop
  | [],_,K=>K (.agg (codecC 4 312 313))
  | _,_,_=>False
theorem ok_cdPar:EntOk Tryz.prog 192 (Ent.pure p_cdPar):=by
  refine EntOk.pure fun args H K h=>?_
  unfold p_cdPar at h
  split at h
  rotate_left
  · exact h.elim
  refine ⟨_,h,?_⟩
  refine ACalls.of_aw (Ω:=[]) (T:=assoc []) mixed TblOk.nil Tryz.func192 (by kernel_rfl) (by rfl) (rs:=[.cell 0 331]) (by rfl) (by kernel_rfl) (by simp only [Tryz.ntmps192,yaz,yba];decide) (Nat.le_refl _) fun hcl hlt=>?_
  change aw _ _ _ (KI Tryz.prog [] (aEnd Tryz.prog [.cell 0 331] H.nx _ _ (assoc [])) []) _ _
  clear hlt
  simp only [go_sem,codecC]
  simp (disch:=first | assumption | omega | (simp;done) | (simp;omega) | (simp only [bt,and_true];first | done | omega | (simp;done))) [↓zmi,beq,ybc,ybd,ybe,endOk,wk,wk2,wk1,wkM,wkL,wkLL,ybf,hcl,lt_func0]
/-! Prm -/
def e_wrPrm:=eW (primAV) okPrim ePrim
def e_putPrm:=ePut 314 6 (primAV) okPrim ePrim
set_option maxHeartbeats 8000000 in
theorem ok_wrPrm:EntOk Tryz.prog 314 (Ent.effect e_wrPrm):=by
  unfold e_wrPrm
  refine EntOk.effect fun args H K h=>?_
  unfold eW at h
  split at h
  rotate_left
  · exact h.elim
  rename_i id x
  obtain ⟨q,s,a,⟨hW,rfl,ha,hl⟩,hK⟩:=h
  refine ⟨_,_,hK,?_⟩
  clear hK
  have hF:=hW.facts
  have hcl0:=hW.closed (t:=s.add (ePrim a))
  have hid:=AHeap.get_lt hW.o
  have hq:=AHeap.get_lt hW.bu
  refine ACalls.of_aw (Ω:=[(55,Ent.effect e_zNum),(310,Ent.effect e_zVal)]) (T:=assoc []) mixed (TblOk.cons ok_zNum (TblOk.cons ok_zVal TblOk.nil)) Tryz.func314 (by kernel_rfl) (by rfl) (rs:=[]) (by rfl) (by kernel_rfl) (by simp only [Tryz.ntmps314,yaz,yba];decide) (by rw [swH_nx];omega) fun hcl hlt=>?_
  change aw _ _ _ (KI Tryz.prog [(55,Ent.effect e_zNum),(310,Ent.effect e_zVal)] (aEnd Tryz.prog [] H.nx _ _ (assoc [])) []) _ _
  clear hlt
  have hcl1:=hcl0 hcl
  unfold ePrim at hl hcl1 ⊢
  rw [← enc_assoc,← enc_assoc,← enc_assoc,← enc_assoc] at hl hcl1 ⊢
  have hl5:=hl
  have hl4:=enc_pre hl5
  have hl3:=enc_pre hl4
  have hl2:=enc_pre hl3
  have hl1:=enc_pre hl2
  simp only [go_sem,primAV,vc,swH_nx,swH_cells0]
  refine w_num (.inl rfl) (hW.push _) hl1 ?_
  rw [hF.p0]
  simp only [go_sem,primAV,vc,swH_nx,swH_cells0]
  refine w_num (.inr rfl) ((hW.next _).push _) hl2 ?_
  rw [hF.p1]
  simp only [go_sem,primAV,vc,swH_nx,swH_cells0]
  refine w_num (.inl rfl) ((hW.next _).push _) hl3 ?_
  rw [hF.p1]
  simp only [go_sem,primAV,vc,swH_nx,swH_cells0]
  refine w_num (.inr rfl) ((hW.next _).push _) hl4 ?_
  rw [hF.p1]
  simp only [go_sem,primAV,vc,swH_nx,swH_cells0]
  refine w_val (ha) ((hW.next _).push _) hl5 ?_
  rw [hF.p1]
  try simp only [go_sem,primAV,vc,swH_nx,swH_cells0]
  simp (disch:=first | assumption | omega | (simp;done) | (simp;omega) | (simp only [bt,and_true];first | done | omega | (simp;done))) [↓zmi,beq,ybc,ybd,ybe,endOk,wk,wk2,wk1,wkM,wkL,wkLL,ybf,hcl1]
set_option maxHeartbeats 8000000 in
theorem ok_putPrm:EntOk Tryz.prog 193 (Ent.effect e_putPrm):=by
  unfold e_putPrm
  refine EntOk.effect fun args H K h=>?_
  unfold ePut at h
  split at h
  rotate_left
  · exact h.elim
  rename_i id most f' r sz' xs
  obtain ⟨q,s,l,⟨hW,rfl,rfl,rfl,ha,hl⟩,hK⟩:=h
  refine ⟨_,_,hK,?_⟩
  clear hK
  have hF:=hW.facts
  have hcl0:=fun t=>hW.closed (t:=t)
  have hid:=AHeap.get_lt hW.o
  have hq:=AHeap.get_lt hW.bu
  have hll:=put_len one_prim hl
  obtain ⟨b,sl,sf,sa⟩:=s
  have hne:=far_of hid
  have hneq:=far_of hq
  have n1:(id=q)=False:=eq_false hW.ne
  have n2:(q=id)=False:=eq_false fun e=>hW.ne e.symm
  have hcs:=cells_some hW.o
  have hb0:=hW.bu
  have hi0:=hW.o
  have hnn:=hW.ne
  have hlb:b.length≤encMax:=enc_pre hl
  rw [encMax_eq] at hlb
  dsimp only at hcs hb0 hi0 hlb
  have lw2:=wUint_len (l.length:Int) 2
  refine ACalls.of_aw (Ω:=[(175,Ent.pure p_AppendUint),(314,Ent.effect e_wrPrm)]) (T:=assoc [(2,[[],[],[],[],[],[],[],[],[4,7],[],[],[4,7]])]) mixed (TblOk.cons ok_AppendUint (TblOk.cons ok_wrPrm TblOk.nil)) Tryz.func193 (by kernel_rfl) (by rfl) (rs:=[]) (by rfl) (by kernel_rfl) (by simp only [Tryz.ntmps193,yaz,yba];decide) (by rw [swH_nx];omega) fun hcl hlt=>?_
  change aw _ _ _ (KI Tryz.prog [(175,Ent.pure p_AppendUint),(314,Ent.effect e_wrPrm)] (aEnd Tryz.prog [] H.nx _ _ (assoc [(2,[[],[],[],[],[],[],[],[],[4,7],[],[],[4,7]])])) []) _ _
  clear hlt
  have hcl1:=fun t=>hcl0 t hcl
  have hcm:=fun cs=>@cells_set_same H id cs hid
  have hA:=fun X Y=>@cells_set_far H id q X Y hnn hid
  have hB:=fun X=>get_set_far (X:=X) hnn hb0
  have eh:=fun X Y Z=>@set_set_far H id q X Y Z
  have hL2:sl=true→(sl||decide ((l.length:Int) > most))=true:=fun h=>by rw [h,Bool.true_or]
  have hL3:sl=false→decide ((l.length:Int) > most)=(sl||decide ((l.length:Int) > most)):=fun h=>by rw [h,Bool.false_or]
  have hst:=swH_cnt (H:=H) (id:=id) (q:=q) (b:=b) (sl:=sl) (sf:=sf) (sa:=sa) (n:=l.length) (most:=most)
  have hS1:=hW.next ((⟨b,sl,sf,sa⟩:Enc).add (eCnt l.length most))
  have htot:(((⟨b,sl,sf,sa⟩:Enc).add (eCnt l.length most)).add (eAll ePrim l))=(⟨b,sl,sf,sa⟩:Enc).add (eList ePrim most l):=by rw [enc_assoc];rfl
  rw [← htot] at hl ⊢
  generalize ((⟨b,sl,sf,sa⟩:Enc).add (eCnt l.length most))=s1 at *
  generalize (sl||decide ((l.length:Int) > most))=L at *
  have hlv:∀ n,(AV.slice .any 6 (l.map (primAV))).lt n:=fun n=>lt_map (fun x=>lt_primAV x)
  have hlc:=fun n=>@lt_codec n most 314 r
  cases sl
  case' true =>
    rw [hL2 rfl] at hst
    simp only [go_sem,byq,hne,hneq,n1,n2,hcs,hcm,hA,hB,eh,hi0,hb0,p_AppendUint,ybb]
  case' false =>
    simp only [go_sem,byq,hne,hneq,n1,n2,hcs,hcm,hA,hB,eh,hi0,hb0,p_AppendUint,ybb,hL3 rfl]
  all_goals
    (repeat with_reducible refine And.intro (by first | assumption | decide | omega | exact ⟨by omega,by omega⟩) ?_)
    refine loop_introW (A:=Nat) (fun k=>[(0,.ptr id 0),(4,.ptr H.nx 0),(33,.slice .any 6 (l.map (primAV))),(34,.int .i64 (l.length:Int)),(35,.int .i64 (k:Int))])
      (fun k=>(swH H id q (s1.add (eAll ePrim (l.take k)))).push (.cells (codecC most 314 r))) (fun k=>k≤l.length) (fun k=>l.length - k) 0 (by omega) ?_ fun k hk=>?_
    · rw [yar,eAll,enc_add0,hst]
      refine ⟨by simp only [zkk,zkp,zky,zkz,swH_nx];omega,by repeat (first | exact AHeap.Le.refl _ | refine AHeap.Le.push ?_ _),?_,?_,?_⟩
      · rw [← hst];exact closed_cells (hcl1 _) (hlc _)
      · simp [ltF,zky,zkz,znh,zmz,hlv]
        omega
      · simp [subW,wk2,wk1,wkM,Fr.get]
    simp only [go_sem]
    refine cond_split (fun hc=>?_) (fun hc=>?_)
    · have hk':k<l.length:=by simp at hc;omega
      obtain ⟨x,hx⟩:∃ x,x=l[k]:=⟨_,rfl⟩
      have hg:=getD_map (f:=primAV) (l:=l) (k:=k) (x:=x) (by rw [List.getElem?_eq_getElem hk',hx])
      have e5:IntKind.i64.wrap ((k:Int)+1)=((k+1:Nat):Int):=by rw [wrap_i64]<;>omega
      have hxo:=ha x (by rw [hx];exact List.getElem_mem hk')
      obtain ⟨es,hlk⟩:=put_step (g:=ePrim) hk' hx hl
      have hSk:=hW.next (s1.add (eAll ePrim (l.take k)))
      simp only [go_sem,Int.toNat_natCast,ybb,hg,swH_nx,primAV,vc,codecC,encMax_eq]
      refine ⟨by omega,?_⟩
      refine w_el (c:=primAV) hxo (hSk.push2 _ _) hlk ?_
      rw [hF.p2,es]
      simp only [go_sem,e5]
      refine ⟨k+1,by omega,by omega,by simp only [zkk,zkp,zky,swH_nx];omega,by repeat (first | exact AHeap.Le.refl _ | refine AHeap.Le.push ?_ _),closed_cells (hcl1 _) (hlc _),?_,?_⟩
      · simp [ltF,zky,swH_nx,znh,zmz,hlv]
        omega
      · simp [subW,wk2,wk1,wkM,Fr.get]
    · have hk':k=l.length:=by simp at hc;omega
      subst hk'
      rw [List.take_length]
      simp only [go_sem]
      refine ⟨?_,by repeat (first | exact AHeap.Le.refl _ | refine AHeap.Le.push ?_ _),hcl1 _,?_⟩
      · simp [wk,wk2,wk1,wkLL]
      · simp [znm,znp]
def p_cdPrm:List AV→AHeap→(AV→Prop)→Prop
  | [],_,K=>K (.agg (codecC 12 314 315))
  | _,_,_=>False
theorem ok_cdPrm:EntOk Tryz.prog 194 (Ent.pure p_cdPrm):=by
  refine EntOk.pure fun args H K h=>?_
  unfold p_cdPrm at h
  split at h
  rotate_left
  · exact h.elim
  refine ⟨_,h,?_⟩
  refine ACalls.of_aw (Ω:=[]) (T:=assoc []) mixed TblOk.nil Tryz.func194 (by kernel_rfl) (by rfl) (rs:=[.cell 0 337]) (by rfl) (by kernel_rfl) (by simp only [Tryz.ntmps194,yaz,yba];decide) (Nat.le_refl _) fun hcl hlt=>?_
  change aw _ _ _ (KI Tryz.prog [] (aEnd Tryz.prog [.cell 0 337] H.nx _ _ (assoc [])) []) _ _
  clear hlt
  simp only [go_sem,codecC]
  simp (disch:=first | assumption | omega | (simp;done) | (simp;omega) | (simp only [bt,and_true];first | done | omega | (simp;done))) [↓zmi,beq,ybc,ybd,ybe,endOk,wk,wk2,wk1,wkM,wkL,wkLL,ybf,hcl,lt_func0]
/-! Key -/
def e_wrKey:=eW (keyAV) okKey eKey
def e_putKey:=ePut 316 3 (keyAV) okKey eKey
set_option maxHeartbeats 8000000 in
theorem ok_wrKey:EntOk Tryz.prog 316 (Ent.effect e_wrKey):=by
  unfold e_wrKey
  refine EntOk.effect fun args H K h=>?_
  unfold eW at h
  split at h
  rotate_left
  · exact h.elim
  rename_i id x
  obtain ⟨q,s,a,⟨hW,rfl,ha,hl⟩,hK⟩:=h
  refine ⟨_,_,hK,?_⟩
  clear hK
  have hF:=hW.facts
  have hcl0:=hW.closed (t:=s.add (eKey a))
  have hid:=AHeap.get_lt hW.o
  have hq:=AHeap.get_lt hW.bu
  refine ACalls.of_aw (Ω:=[(177,Ent.effect e_zTxt),(55,Ent.effect e_zNum)]) (T:=assoc []) mixed (TblOk.cons ok_zTxt (TblOk.cons ok_zNum TblOk.nil)) Tryz.func316 (by kernel_rfl) (by rfl) (rs:=[]) (by rfl) (by kernel_rfl) (by simp only [Tryz.ntmps316,yaz,yba];decide) (by rw [swH_nx];omega) fun hcl hlt=>?_
  change aw _ _ _ (KI Tryz.prog [(177,Ent.effect e_zTxt),(55,Ent.effect e_zNum)] (aEnd Tryz.prog [] H.nx _ _ (assoc [])) []) _ _
  clear hlt
  have hcl1:=hcl0 hcl
  unfold eKey at hl hcl1 ⊢
  rw [← enc_assoc,← enc_assoc] at hl hcl1 ⊢
  have hl3:=hl
  have hl2:=enc_pre hl3
  have hl1:=enc_pre hl2
  simp only [go_sem,keyAV,swH_nx,swH_cells0]
  refine w_txt (ha) (hW.push _) hl1 ?_
  rw [hF.p0]
  simp only [go_sem,keyAV,swH_nx,swH_cells0]
  refine w_num (.inr rfl) ((hW.next _).push _) hl2 ?_
  rw [hF.p1]
  simp only [go_sem,keyAV,swH_nx,swH_cells0]
  refine w_num (.inl rfl) ((hW.next _).push _) hl3 ?_
  rw [hF.p1]
  try simp only [go_sem,keyAV,swH_nx,swH_cells0]
  simp (disch:=first | assumption | omega | (simp;done) | (simp;omega) | (simp only [bt,and_true];first | done | omega | (simp;done))) [↓zmi,beq,ybc,ybd,ybe,endOk,wk,wk2,wk1,wkM,wkL,wkLL,ybf,hcl1]
set_option maxHeartbeats 8000000 in
theorem ok_putKey:EntOk Tryz.prog 199 (Ent.effect e_putKey):=by
  unfold e_putKey
  refine EntOk.effect fun args H K h=>?_
  unfold ePut at h
  split at h
  rotate_left
  · exact h.elim
  rename_i id most f' r sz' xs
  obtain ⟨q,s,l,⟨hW,rfl,rfl,rfl,ha,hl⟩,hK⟩:=h
  refine ⟨_,_,hK,?_⟩
  clear hK
  have hF:=hW.facts
  have hcl0:=fun t=>hW.closed (t:=t)
  have hid:=AHeap.get_lt hW.o
  have hq:=AHeap.get_lt hW.bu
  have hll:=put_len one_key hl
  obtain ⟨b,sl,sf,sa⟩:=s
  have hne:=far_of hid
  have hneq:=far_of hq
  have n1:(id=q)=False:=eq_false hW.ne
  have n2:(q=id)=False:=eq_false fun e=>hW.ne e.symm
  have hcs:=cells_some hW.o
  have hb0:=hW.bu
  have hi0:=hW.o
  have hnn:=hW.ne
  have hlb:b.length≤encMax:=enc_pre hl
  rw [encMax_eq] at hlb
  dsimp only at hcs hb0 hi0 hlb
  have lw2:=wUint_len (l.length:Int) 2
  refine ACalls.of_aw (Ω:=[(175,Ent.pure p_AppendUint),(316,Ent.effect e_wrKey)]) (T:=assoc [(2,[[],[],[],[],[],[],[],[],[4,7],[],[],[4,7]])]) mixed (TblOk.cons ok_AppendUint (TblOk.cons ok_wrKey TblOk.nil)) Tryz.func199 (by kernel_rfl) (by rfl) (rs:=[]) (by rfl) (by kernel_rfl) (by simp only [Tryz.ntmps199,yaz,yba];decide) (by rw [swH_nx];omega) fun hcl hlt=>?_
  change aw _ _ _ (KI Tryz.prog [(175,Ent.pure p_AppendUint),(316,Ent.effect e_wrKey)] (aEnd Tryz.prog [] H.nx _ _ (assoc [(2,[[],[],[],[],[],[],[],[],[4,7],[],[],[4,7]])])) []) _ _
  clear hlt
  have hcl1:=fun t=>hcl0 t hcl
  have hcm:=fun cs=>@cells_set_same H id cs hid
  have hA:=fun X Y=>@cells_set_far H id q X Y hnn hid
  have hB:=fun X=>get_set_far (X:=X) hnn hb0
  have eh:=fun X Y Z=>@set_set_far H id q X Y Z
  have hL2:sl=true→(sl||decide ((l.length:Int) > most))=true:=fun h=>by rw [h,Bool.true_or]
  have hL3:sl=false→decide ((l.length:Int) > most)=(sl||decide ((l.length:Int) > most)):=fun h=>by rw [h,Bool.false_or]
  have hst:=swH_cnt (H:=H) (id:=id) (q:=q) (b:=b) (sl:=sl) (sf:=sf) (sa:=sa) (n:=l.length) (most:=most)
  have hS1:=hW.next ((⟨b,sl,sf,sa⟩:Enc).add (eCnt l.length most))
  have htot:(((⟨b,sl,sf,sa⟩:Enc).add (eCnt l.length most)).add (eAll eKey l))=(⟨b,sl,sf,sa⟩:Enc).add (eList eKey most l):=by rw [enc_assoc];rfl
  rw [← htot] at hl ⊢
  generalize ((⟨b,sl,sf,sa⟩:Enc).add (eCnt l.length most))=s1 at *
  generalize (sl||decide ((l.length:Int) > most))=L at *
  have hlv:∀ n,(AV.slice .any 3 (l.map (keyAV))).lt n:=fun n=>lt_map (fun x=>lt_keyAV x)
  have hlc:=fun n=>@lt_codec n most 316 r
  cases sl
  case' true =>
    rw [hL2 rfl] at hst
    simp only [go_sem,byq,hne,hneq,n1,n2,hcs,hcm,hA,hB,eh,hi0,hb0,p_AppendUint,ybb]
  case' false =>
    simp only [go_sem,byq,hne,hneq,n1,n2,hcs,hcm,hA,hB,eh,hi0,hb0,p_AppendUint,ybb,hL3 rfl]
  all_goals
    (repeat with_reducible refine And.intro (by first | assumption | decide | omega | exact ⟨by omega,by omega⟩) ?_)
    refine loop_introW (A:=Nat) (fun k=>[(0,.ptr id 0),(4,.ptr H.nx 0),(33,.slice .any 3 (l.map (keyAV))),(34,.int .i64 (l.length:Int)),(35,.int .i64 (k:Int))])
      (fun k=>(swH H id q (s1.add (eAll eKey (l.take k)))).push (.cells (codecC most 316 r))) (fun k=>k≤l.length) (fun k=>l.length - k) 0 (by omega) ?_ fun k hk=>?_
    · rw [yar,eAll,enc_add0,hst]
      refine ⟨by simp only [zkk,zkp,zky,zkz,swH_nx];omega,by repeat (first | exact AHeap.Le.refl _ | refine AHeap.Le.push ?_ _),?_,?_,?_⟩
      · rw [← hst];exact closed_cells (hcl1 _) (hlc _)
      · simp [ltF,zky,zkz,znh,zmz,hlv]
        omega
      · simp [subW,wk2,wk1,wkM,Fr.get]
    simp only [go_sem]
    refine cond_split (fun hc=>?_) (fun hc=>?_)
    · have hk':k<l.length:=by simp at hc;omega
      obtain ⟨x,hx⟩:∃ x,x=l[k]:=⟨_,rfl⟩
      have hg:=getD_map (f:=keyAV) (l:=l) (k:=k) (x:=x) (by rw [List.getElem?_eq_getElem hk',hx])
      have e5:IntKind.i64.wrap ((k:Int)+1)=((k+1:Nat):Int):=by rw [wrap_i64]<;>omega
      have hxo:=ha x (by rw [hx];exact List.getElem_mem hk')
      obtain ⟨es,hlk⟩:=put_step (g:=eKey) hk' hx hl
      have hSk:=hW.next (s1.add (eAll eKey (l.take k)))
      simp only [go_sem,Int.toNat_natCast,ybb,hg,swH_nx,keyAV,codecC,encMax_eq]
      refine ⟨by omega,?_⟩
      refine w_el (c:=keyAV) hxo (hSk.push2 _ _) hlk ?_
      rw [hF.p2,es]
      simp only [go_sem,e5]
      refine ⟨k+1,by omega,by omega,by simp only [zkk,zkp,zky,swH_nx];omega,by repeat (first | exact AHeap.Le.refl _ | refine AHeap.Le.push ?_ _),closed_cells (hcl1 _) (hlc _),?_,?_⟩
      · simp [ltF,zky,swH_nx,znh,zmz,hlv]
        omega
      · simp [subW,wk2,wk1,wkM,Fr.get]
    · have hk':k=l.length:=by simp at hc;omega
      subst hk'
      rw [List.take_length]
      simp only [go_sem]
      refine ⟨?_,by repeat (first | exact AHeap.Le.refl _ | refine AHeap.Le.push ?_ _),hcl1 _,?_⟩
      · simp [wk,wk2,wk1,wkLL]
      · simp [znm,znp]
def p_cdKey:List AV→AHeap→(AV→Prop)→Prop
  | [],_,K=>K (.agg (codecC 4 316 317))
  | _,_,_=>False
theorem ok_cdKey:EntOk Tryz.prog 200 (Ent.pure p_cdKey):=by
  refine EntOk.pure fun args H K h=>?_
  unfold p_cdKey at h
  split at h
  rotate_left
  · exact h.elim
  refine ⟨_,h,?_⟩
  refine ACalls.of_aw (Ω:=[]) (T:=assoc []) mixed TblOk.nil Tryz.func200 (by kernel_rfl) (by rfl) (rs:=[.cell 0 345]) (by rfl) (by kernel_rfl) (by simp only [Tryz.ntmps200,yaz,yba];decide) (Nat.le_refl _) fun hcl hlt=>?_
  change aw _ _ _ (KI Tryz.prog [] (aEnd Tryz.prog [.cell 0 345] H.nx _ _ (assoc [])) []) _ _
  clear hlt
  simp only [go_sem,codecC]
  simp (disch:=first | assumption | omega | (simp;done) | (simp;omega) | (simp only [bt,and_true];first | done | omega | (simp;done))) [↓zmi,beq,ybc,ybd,ybe,endOk,wk,wk2,wk1,wkM,wkL,wkLL,ybf,hcl,lt_func0]
/-! Stg -/
def e_wrStg:=eW (stageAV) okAny eStage
def e_putStg:=ePut 206 2 (stageAV) okAny eStage
set_option maxHeartbeats 8000000 in
theorem ok_wrStg:EntOk Tryz.prog 206 (Ent.effect e_wrStg):=by
  unfold e_wrStg
  refine EntOk.effect fun args H K h=>?_
  unfold eW at h
  split at h
  rotate_left
  · exact h.elim
  rename_i id x
  obtain ⟨q,s,a,⟨hW,rfl,ha,hl⟩,hK⟩:=h
  refine ⟨_,_,hK,?_⟩
  clear hK
  have hF:=hW.facts
  have hcl0:=hW.closed (t:=s.add (eStage a))
  have hid:=AHeap.get_lt hW.o
  have hq:=AHeap.get_lt hW.bu
  refine ACalls.of_aw (Ω:=[(55,Ent.effect e_zNum)]) (T:=assoc []) mixed (TblOk.cons ok_zNum TblOk.nil) Tryz.func206 (by kernel_rfl) (by rfl) (rs:=[]) (by rfl) (by kernel_rfl) (by simp only [Tryz.ntmps206,yaz,yba];decide) (by rw [swH_nx];omega) fun hcl hlt=>?_
  change aw _ _ _ (KI Tryz.prog [(55,Ent.effect e_zNum)] (aEnd Tryz.prog [] H.nx _ _ (assoc [])) []) _ _
  clear hlt
  have hcl1:=hcl0 hcl
  unfold eStage at hl hcl1 ⊢
  rw [← enc_assoc] at hl hcl1 ⊢
  have hl2:=hl
  have hl1:=enc_pre hl2
  simp only [go_sem,stageAV,swH_nx,swH_cells0]
  refine w_num (.inr rfl) (hW.push _) hl1 ?_
  rw [hF.p0]
  simp only [go_sem,stageAV,swH_nx,swH_cells0]
  refine w_num (.inr rfl) ((hW.next _).push _) hl2 ?_
  rw [hF.p1]
  try simp only [go_sem,stageAV,swH_nx,swH_cells0]
  simp (disch:=first | assumption | omega | (simp;done) | (simp;omega) | (simp only [bt,and_true];first | done | omega | (simp;done))) [↓zmi,beq,ybc,ybd,ybe,endOk,wk,wk2,wk1,wkM,wkL,wkLL,ybf,hcl1]
set_option maxHeartbeats 8000000 in
theorem ok_putStg:EntOk Tryz.prog 66 (Ent.effect e_putStg):=by
  unfold e_putStg
  refine EntOk.effect fun args H K h=>?_
  unfold ePut at h
  split at h
  rotate_left
  · exact h.elim
  rename_i id most f' r sz' xs
  obtain ⟨q,s,l,⟨hW,rfl,rfl,rfl,ha,hl⟩,hK⟩:=h
  refine ⟨_,_,hK,?_⟩
  clear hK
  have hF:=hW.facts
  have hcl0:=fun t=>hW.closed (t:=t)
  have hid:=AHeap.get_lt hW.o
  have hq:=AHeap.get_lt hW.bu
  have hll:=put_len one_stage hl
  obtain ⟨b,sl,sf,sa⟩:=s
  have hne:=far_of hid
  have hneq:=far_of hq
  have n1:(id=q)=False:=eq_false hW.ne
  have n2:(q=id)=False:=eq_false fun e=>hW.ne e.symm
  have hcs:=cells_some hW.o
  have hb0:=hW.bu
  have hi0:=hW.o
  have hnn:=hW.ne
  have hlb:b.length≤encMax:=enc_pre hl
  rw [encMax_eq] at hlb
  dsimp only at hcs hb0 hi0 hlb
  have lw2:=wUint_len (l.length:Int) 2
  refine ACalls.of_aw (Ω:=[(175,Ent.pure p_AppendUint),(206,Ent.effect e_wrStg)]) (T:=assoc [(2,[[],[],[],[],[],[],[],[],[4,7],[],[],[4,7]])]) mixed (TblOk.cons ok_AppendUint (TblOk.cons ok_wrStg TblOk.nil)) Tryz.func66 (by kernel_rfl) (by rfl) (rs:=[]) (by rfl) (by kernel_rfl) (by simp only [Tryz.ntmps66,yaz,yba];decide) (by rw [swH_nx];omega) fun hcl hlt=>?_
  change aw _ _ _ (KI Tryz.prog [(175,Ent.pure p_AppendUint),(206,Ent.effect e_wrStg)] (aEnd Tryz.prog [] H.nx _ _ (assoc [(2,[[],[],[],[],[],[],[],[],[4,7],[],[],[4,7]])])) []) _ _
  clear hlt
  have hcl1:=fun t=>hcl0 t hcl
  have hcm:=fun cs=>@cells_set_same H id cs hid
  have hA:=fun X Y=>@cells_set_far H id q X Y hnn hid
  have hB:=fun X=>get_set_far (X:=X) hnn hb0
  have eh:=fun X Y Z=>@set_set_far H id q X Y Z
  have hL2:sl=true→(sl||decide ((l.length:Int) > most))=true:=fun h=>by rw [h,Bool.true_or]
  have hL3:sl=false→decide ((l.length:Int) > most)=(sl||decide ((l.length:Int) > most)):=fun h=>by rw [h,Bool.false_or]
  have hst:=swH_cnt (H:=H) (id:=id) (q:=q) (b:=b) (sl:=sl) (sf:=sf) (sa:=sa) (n:=l.length) (most:=most)
  have hS1:=hW.next ((⟨b,sl,sf,sa⟩:Enc).add (eCnt l.length most))
  have htot:(((⟨b,sl,sf,sa⟩:Enc).add (eCnt l.length most)).add (eAll eStage l))=(⟨b,sl,sf,sa⟩:Enc).add (eList eStage most l):=by rw [enc_assoc];rfl
  rw [← htot] at hl ⊢
  generalize ((⟨b,sl,sf,sa⟩:Enc).add (eCnt l.length most))=s1 at *
  generalize (sl||decide ((l.length:Int) > most))=L at *
  have hlv:∀ n,(AV.slice .any 2 (l.map (stageAV))).lt n:=fun n=>lt_map (fun x=>lt_stageAV x)
  have hlc:=fun n=>@lt_codec n most 206 r
  cases sl
  case' true =>
    rw [hL2 rfl] at hst
    simp only [go_sem,byq,hne,hneq,n1,n2,hcs,hcm,hA,hB,eh,hi0,hb0,p_AppendUint,ybb]
  case' false =>
    simp only [go_sem,byq,hne,hneq,n1,n2,hcs,hcm,hA,hB,eh,hi0,hb0,p_AppendUint,ybb,hL3 rfl]
  all_goals
    (repeat with_reducible refine And.intro (by first | assumption | decide | omega | exact ⟨by omega,by omega⟩) ?_)
    refine loop_introW (A:=Nat) (fun k=>[(0,.ptr id 0),(4,.ptr H.nx 0),(33,.slice .any 2 (l.map (stageAV))),(34,.int .i64 (l.length:Int)),(35,.int .i64 (k:Int))])
      (fun k=>(swH H id q (s1.add (eAll eStage (l.take k)))).push (.cells (codecC most 206 r))) (fun k=>k≤l.length) (fun k=>l.length - k) 0 (by omega) ?_ fun k hk=>?_
    · rw [yar,eAll,enc_add0,hst]
      refine ⟨by simp only [zkk,zkp,zky,zkz,swH_nx];omega,by repeat (first | exact AHeap.Le.refl _ | refine AHeap.Le.push ?_ _),?_,?_,?_⟩
      · rw [← hst];exact closed_cells (hcl1 _) (hlc _)
      · simp [ltF,zky,zkz,znh,zmz,hlv]
        omega
      · simp [subW,wk2,wk1,wkM,Fr.get]
    simp only [go_sem]
    refine cond_split (fun hc=>?_) (fun hc=>?_)
    · have hk':k<l.length:=by simp at hc;omega
      obtain ⟨x,hx⟩:∃ x,x=l[k]:=⟨_,rfl⟩
      have hg:=getD_map (f:=stageAV) (l:=l) (k:=k) (x:=x) (by rw [List.getElem?_eq_getElem hk',hx])
      have e5:IntKind.i64.wrap ((k:Int)+1)=((k+1:Nat):Int):=by rw [wrap_i64]<;>omega
      have hxo:=ha x (by rw [hx];exact List.getElem_mem hk')
      obtain ⟨es,hlk⟩:=put_step (g:=eStage) hk' hx hl
      have hSk:=hW.next (s1.add (eAll eStage (l.take k)))
      simp only [go_sem,Int.toNat_natCast,ybb,hg,swH_nx,stageAV,codecC,encMax_eq]
      refine ⟨by omega,?_⟩
      refine w_el (c:=stageAV) hxo (hSk.push2 _ _) hlk ?_
      rw [hF.p2,es]
      simp only [go_sem,e5]
      refine ⟨k+1,by omega,by omega,by simp only [zkk,zkp,zky,swH_nx];omega,by repeat (first | exact AHeap.Le.refl _ | refine AHeap.Le.push ?_ _),closed_cells (hcl1 _) (hlc _),?_,?_⟩
      · simp [ltF,zky,swH_nx,znh,zmz,hlv]
        omega
      · simp [subW,wk2,wk1,wkM,Fr.get]
    · have hk':k=l.length:=by simp at hc;omega
      subst hk'
      rw [List.take_length]
      simp only [go_sem]
      refine ⟨?_,by repeat (first | exact AHeap.Le.refl _ | refine AHeap.Le.push ?_ _),hcl1 _,?_⟩
      · simp [wk,wk2,wk1,wkLL]
      · simp [znm,znp]
def p_cdStg:List AV→AHeap→(AV→Prop)→Prop
  | [],_,K=>K (.agg (codecC 12 206 207))
  | _,_,_=>False
theorem ok_cdStg:EntOk Tryz.prog 67 (Ent.pure p_cdStg):=by
  refine EntOk.pure fun args H K h=>?_
  unfold p_cdStg at h
  split at h
  rotate_left
  · exact h.elim
  refine ⟨_,h,?_⟩
  refine ACalls.of_aw (Ω:=[]) (T:=assoc []) mixed TblOk.nil Tryz.func67 (by kernel_rfl) (by rfl) (rs:=[.cell 0 171]) (by rfl) (by kernel_rfl) (by simp only [Tryz.ntmps67,yaz,yba];decide) (Nat.le_refl _) fun hcl hlt=>?_
  change aw _ _ _ (KI Tryz.prog [] (aEnd Tryz.prog [.cell 0 171] H.nx _ _ (assoc [])) []) _ _
  clear hlt
  simp only [go_sem,codecC]
  simp (disch:=first | assumption | omega | (simp;done) | (simp;omega) | (simp only [bt,and_true];first | done | omega | (simp;done))) [↓zmi,beq,ybc,ybd,ybe,endOk,wk,wk2,wk1,wkM,wkL,wkLL,ybf,hcl,lt_func0]
/-! Ref -/
def e_wrRef:=eW (refAV) okAny eRef
def e_putRef:=ePut 214 6 (refAV) okAny eRef
set_option maxHeartbeats 8000000 in
theorem ok_wrRef:EntOk Tryz.prog 214 (Ent.effect e_wrRef):=by
  unfold e_wrRef
  refine EntOk.effect fun args H K h=>?_
  unfold eW at h
  split at h
  rotate_left
  · exact h.elim
  rename_i id x
  obtain ⟨q,s,a,⟨hW,rfl,ha,hl⟩,hK⟩:=h
  refine ⟨_,_,hK,?_⟩
  clear hK
  have hF:=hW.facts
  have hcl0:=hW.closed (t:=s.add (eRef a))
  have hid:=AHeap.get_lt hW.o
  have hq:=AHeap.get_lt hW.bu
  refine ACalls.of_aw (Ω:=[(55,Ent.effect e_zNum)]) (T:=assoc []) mixed (TblOk.cons ok_zNum TblOk.nil) Tryz.func214 (by kernel_rfl) (by rfl) (rs:=[]) (by rfl) (by kernel_rfl) (by simp only [Tryz.ntmps214,yaz,yba];decide) (by rw [swH_nx];omega) fun hcl hlt=>?_
  change aw _ _ _ (KI Tryz.prog [(55,Ent.effect e_zNum)] (aEnd Tryz.prog [] H.nx _ _ (assoc [])) []) _ _
  clear hlt
  have hcl1:=hcl0 hcl
  unfold eRef at hl hcl1 ⊢
  rw [← enc_assoc,← enc_assoc,← enc_assoc,← enc_assoc,← enc_assoc] at hl hcl1 ⊢
  have hl6:=hl
  have hl5:=enc_pre hl6
  have hl4:=enc_pre hl5
  have hl3:=enc_pre hl4
  have hl2:=enc_pre hl3
  have hl1:=enc_pre hl2
  simp only [go_sem,refAV,swH_nx,swH_cells0]
  refine w_num (.inr rfl) (hW.push _) hl1 ?_
  rw [hF.p0]
  simp only [go_sem,refAV,swH_nx,swH_cells0]
  refine w_num (.inl rfl) ((hW.next _).push _) hl2 ?_
  rw [hF.p1]
  simp only [go_sem,refAV,swH_nx,swH_cells0]
  refine w_num (.inr rfl) ((hW.next _).push _) hl3 ?_
  rw [hF.p1]
  simp only [go_sem,refAV,swH_nx,swH_cells0]
  refine w_num (.inl rfl) ((hW.next _).push _) hl4 ?_
  rw [hF.p1]
  simp only [go_sem,refAV,swH_nx,swH_cells0]
  refine w_num (.inr rfl) ((hW.next _).push _) hl5 ?_
  rw [hF.p1]
  simp only [go_sem,refAV,swH_nx,swH_cells0]
  refine w_num (.inl rfl) ((hW.next _).push _) hl6 ?_
  rw [hF.p1]
  try simp only [go_sem,refAV,swH_nx,swH_cells0]
  simp (disch:=first | assumption | omega | (simp;done) | (simp;omega) | (simp only [bt,and_true];first | done | omega | (simp;done))) [↓zmi,beq,ybc,ybd,ybe,endOk,wk,wk2,wk1,wkM,wkL,wkLL,ybf,hcl1]
set_option maxHeartbeats 8000000 in
theorem ok_putRef:EntOk Tryz.prog 70 (Ent.effect e_putRef):=by
  unfold e_putRef
  refine EntOk.effect fun args H K h=>?_
  unfold ePut at h
  split at h
  rotate_left
  · exact h.elim
  rename_i id most f' r sz' xs
  obtain ⟨q,s,l,⟨hW,rfl,rfl,rfl,ha,hl⟩,hK⟩:=h
  refine ⟨_,_,hK,?_⟩
  clear hK
  have hF:=hW.facts
  have hcl0:=fun t=>hW.closed (t:=t)
  have hid:=AHeap.get_lt hW.o
  have hq:=AHeap.get_lt hW.bu
  have hll:=put_len one_ref hl
  obtain ⟨b,sl,sf,sa⟩:=s
  have hne:=far_of hid
  have hneq:=far_of hq
  have n1:(id=q)=False:=eq_false hW.ne
  have n2:(q=id)=False:=eq_false fun e=>hW.ne e.symm
  have hcs:=cells_some hW.o
  have hb0:=hW.bu
  have hi0:=hW.o
  have hnn:=hW.ne
  have hlb:b.length≤encMax:=enc_pre hl
  rw [encMax_eq] at hlb
  dsimp only at hcs hb0 hi0 hlb
  have lw2:=wUint_len (l.length:Int) 2
  refine ACalls.of_aw (Ω:=[(175,Ent.pure p_AppendUint),(214,Ent.effect e_wrRef)]) (T:=assoc [(2,[[],[],[],[],[],[],[],[],[4,7],[],[],[4,7]])]) mixed (TblOk.cons ok_AppendUint (TblOk.cons ok_wrRef TblOk.nil)) Tryz.func70 (by kernel_rfl) (by rfl) (rs:=[]) (by rfl) (by kernel_rfl) (by simp only [Tryz.ntmps70,yaz,yba];decide) (by rw [swH_nx];omega) fun hcl hlt=>?_
  change aw _ _ _ (KI Tryz.prog [(175,Ent.pure p_AppendUint),(214,Ent.effect e_wrRef)] (aEnd Tryz.prog [] H.nx _ _ (assoc [(2,[[],[],[],[],[],[],[],[],[4,7],[],[],[4,7]])])) []) _ _
  clear hlt
  have hcl1:=fun t=>hcl0 t hcl
  have hcm:=fun cs=>@cells_set_same H id cs hid
  have hA:=fun X Y=>@cells_set_far H id q X Y hnn hid
  have hB:=fun X=>get_set_far (X:=X) hnn hb0
  have eh:=fun X Y Z=>@set_set_far H id q X Y Z
  have hL2:sl=true→(sl||decide ((l.length:Int) > most))=true:=fun h=>by rw [h,Bool.true_or]
  have hL3:sl=false→decide ((l.length:Int) > most)=(sl||decide ((l.length:Int) > most)):=fun h=>by rw [h,Bool.false_or]
  have hst:=swH_cnt (H:=H) (id:=id) (q:=q) (b:=b) (sl:=sl) (sf:=sf) (sa:=sa) (n:=l.length) (most:=most)
  have hS1:=hW.next ((⟨b,sl,sf,sa⟩:Enc).add (eCnt l.length most))
  have htot:(((⟨b,sl,sf,sa⟩:Enc).add (eCnt l.length most)).add (eAll eRef l))=(⟨b,sl,sf,sa⟩:Enc).add (eList eRef most l):=by rw [enc_assoc];rfl
  rw [← htot] at hl ⊢
  generalize ((⟨b,sl,sf,sa⟩:Enc).add (eCnt l.length most))=s1 at *
  generalize (sl||decide ((l.length:Int) > most))=L at *
  have hlv:∀ n,(AV.slice .any 6 (l.map (refAV))).lt n:=fun n=>lt_map (fun x=>lt_refAV x)
  have hlc:=fun n=>@lt_codec n most 214 r
  cases sl
  case' true =>
    rw [hL2 rfl] at hst
    simp only [go_sem,byq,hne,hneq,n1,n2,hcs,hcm,hA,hB,eh,hi0,hb0,p_AppendUint,ybb]
  case' false =>
    simp only [go_sem,byq,hne,hneq,n1,n2,hcs,hcm,hA,hB,eh,hi0,hb0,p_AppendUint,ybb,hL3 rfl]
  all_goals
    (repeat with_reducible refine And.intro (by first | assumption | decide | omega | exact ⟨by omega,by omega⟩) ?_)
    refine loop_introW (A:=Nat) (fun k=>[(0,.ptr id 0),(4,.ptr H.nx 0),(33,.slice .any 6 (l.map (refAV))),(34,.int .i64 (l.length:Int)),(35,.int .i64 (k:Int))])
      (fun k=>(swH H id q (s1.add (eAll eRef (l.take k)))).push (.cells (codecC most 214 r))) (fun k=>k≤l.length) (fun k=>l.length - k) 0 (by omega) ?_ fun k hk=>?_
    · rw [yar,eAll,enc_add0,hst]
      refine ⟨by simp only [zkk,zkp,zky,zkz,swH_nx];omega,by repeat (first | exact AHeap.Le.refl _ | refine AHeap.Le.push ?_ _),?_,?_,?_⟩
      · rw [← hst];exact closed_cells (hcl1 _) (hlc _)
      · simp [ltF,zky,zkz,znh,zmz,hlv]
        omega
      · simp [subW,wk2,wk1,wkM,Fr.get]
    simp only [go_sem]
    refine cond_split (fun hc=>?_) (fun hc=>?_)
    · have hk':k<l.length:=by simp at hc;omega
      obtain ⟨x,hx⟩:∃ x,x=l[k]:=⟨_,rfl⟩
      have hg:=getD_map (f:=refAV) (l:=l) (k:=k) (x:=x) (by rw [List.getElem?_eq_getElem hk',hx])
      have e5:IntKind.i64.wrap ((k:Int)+1)=((k+1:Nat):Int):=by rw [wrap_i64]<;>omega
      have hxo:=ha x (by rw [hx];exact List.getElem_mem hk')
      obtain ⟨es,hlk⟩:=put_step (g:=eRef) hk' hx hl
      have hSk:=hW.next (s1.add (eAll eRef (l.take k)))
      simp only [go_sem,Int.toNat_natCast,ybb,hg,swH_nx,refAV,codecC,encMax_eq]
      refine ⟨by omega,?_⟩
      refine w_el (c:=refAV) hxo (hSk.push2 _ _) hlk ?_
      rw [hF.p2,es]
      simp only [go_sem,e5]
      refine ⟨k+1,by omega,by omega,by simp only [zkk,zkp,zky,swH_nx];omega,by repeat (first | exact AHeap.Le.refl _ | refine AHeap.Le.push ?_ _),closed_cells (hcl1 _) (hlc _),?_,?_⟩
      · simp [ltF,zky,swH_nx,znh,zmz,hlv]
        omega
      · simp [subW,wk2,wk1,wkM,Fr.get]
    · have hk':k=l.length:=by simp at hc;omega
      subst hk'
      rw [List.take_length]
      simp only [go_sem]
      refine ⟨?_,by repeat (first | exact AHeap.Le.refl _ | refine AHeap.Le.push ?_ _),hcl1 _,?_⟩
      · simp [wk,wk2,wk1,wkLL]
      · simp [znm,znp]
def p_cdRef:List AV→AHeap→(AV→Prop)→Prop
  | [],_,K=>K (.agg (codecC 8 214 215))
  | _,_,_=>False
theorem ok_cdRef:EntOk Tryz.prog 71 (Ent.pure p_cdRef):=by
  refine EntOk.pure fun args H K h=>?_
  unfold p_cdRef at h
  split at h
  rotate_left
  · exact h.elim
  refine ⟨_,h,?_⟩
  refine ACalls.of_aw (Ω:=[]) (T:=assoc []) mixed TblOk.nil Tryz.func71 (by kernel_rfl) (by rfl) (rs:=[.cell 0 183]) (by rfl) (by kernel_rfl) (by simp only [Tryz.ntmps71,yaz,yba];decide) (Nat.le_refl _) fun hcl hlt=>?_
  change aw _ _ _ (KI Tryz.prog [] (aEnd Tryz.prog [.cell 0 183] H.nx _ _ (assoc [])) []) _ _
  clear hlt
  simp only [go_sem,codecC]
  simp (disch:=first | assumption | omega | (simp;done) | (simp;omega) | (simp only [bt,and_true];first | done | omega | (simp;done))) [↓zmi,beq,ybc,ybd,ybe,endOk,wk,wk2,wk1,wkM,wkL,wkLL,ybf,hcl,lt_func0]
end Go.AL

