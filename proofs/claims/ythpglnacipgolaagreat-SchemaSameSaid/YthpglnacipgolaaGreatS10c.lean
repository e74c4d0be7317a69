/- Contracts and plain laws, a part of the proof; no condition of its own. -/
import Derived.Test.YthpglnacipgolaaGreatS10z
import Derived.Test.YthpglnacipgolaaGreatLGen
import Derived.Test.YthpglnacipgolaaGreatLSch2
open List renaming length_cons → yaz, length_nil → yba, take_of_length_le → ybc, drop_append → ybd, take_append → ybe, drop_eq_nil_of_le → ybf, cons_append → yal, nil_append → yak, take_succ_cons → yaq, take_zero → yar, drop_succ_cons → yao, drop_zero → yap, map_cons → yae
open Go Go.AL Go.Proofs
namespace Go.AL
set_option linter.all false
set_option maxRecDepth 10000
theorem ti_tint:ti Tryz.prog 3=some ⟨.int .i64,1,8,.int .i64 0⟩:=by kernel_rfl
theorem ti_sfield:ti Tryz.prog 76=some ⟨.struct [(0,3,false),(1,9,false),(2,3,false)],3,32,.agg [.int .i64 0,.str [],.int .i64 0]⟩:=by kernel_rfl
theorem ti_sheader:ti Tryz.prog 114=some ⟨.struct [(0,3,false),(1,9,false),(2,46,false)],3,48,.agg [.int .i64 0,.str [],.slice .nil 1 []]⟩:=by kernel_rfl
theorem ti_scase:ti Tryz.prog 306=some ⟨.struct [(0,83,false),(2,83,false),(4,3,false)],5,40,.agg [.int .u64 0,.int .u64 0,.int .u64 0,.int .u64 0,.int .i64 0]⟩:=by kernel_rfl
theorem ti_sstate:ti Tryz.prog 149=some ⟨.struct [(0,3,false),(1,3,false),(2,3,false),(3,147,false),(4,3,false)],5,56,.agg [.int .i64 0,.int .i64 0,.int .i64 0,.slice .nil 1 [],.int .i64 0]⟩:=by kernel_rfl
theorem ti_sprim:ti Tryz.prog 129=some ⟨.struct [(0,3,false),(1,3,false),(2,127,false)],6,48,.agg [.int .i64 0,.int .i64 0,.int .i64 0,.int .i64 0,.int .u64 0,.int .u64 0]⟩:=by kernel_rfl
theorem ti_soperand:ti Tryz.prog 127=some ⟨.struct [(0,3,false),(1,3,false),(2,83,false)],4,32,.agg [.int .i64 0,.int .i64 0,.int .u64 0,.int .u64 0]⟩:=by kernel_rfl
theorem ti_sparam:ti Tryz.prog 122=some ⟨.struct [(0,9,false),(1,3,false)],2,24,.agg [.str [],.int .i64 0]⟩:=by kernel_rfl
theorem ti_saction:ti Tryz.prog 53=some ⟨.struct [(0,3,false),(1,9,false),(2,50,false),(3,51,false),(4,9,false)],5,88,.agg [.int .i64 0,.str [],.slice .nil 1 [],.slice .nil 1 [],.str []]⟩:=by kernel_rfl
theorem ti_skey:ti Tryz.prog 308=some ⟨.struct [(0,9,false),(1,3,false),(2,3,false)],3,32,.agg [.str [],.int .i64 0,.int .i64 0]⟩:=by kernel_rfl
theorem ti_stable:ti Tryz.prog 49=some ⟨.struct [(0,3,false),(1,9,false),(2,45,false),(3,46,false),(4,3,false),(5,47,false),(6,3,false),(7,9,false)],8,128,.agg [.int .i64 0,.str [],.slice .nil 1 [],.slice .nil 1 [],.int .i64 0,.slice .nil 1 [],.int .i64 0,.str []]⟩:=by kernel_rfl
theorem ti_sstage:ti Tryz.prog 78=some ⟨.struct [(0,3,false),(1,3,false)],2,16,.agg [.int .i64 0,.int .i64 0]⟩:=by kernel_rfl
theorem ti_sgrant:ti Tryz.prog 241=some ⟨.struct [(0,3,false),(1,4,false),(2,4,false),(3,239,false)],4,40,.agg [.int .i64 0,.bool false,.bool false,.slice .nil 1 []]⟩:=by kernel_rfl
theorem ti_srole:ti Tryz.prog 125=some ⟨.struct [(0,3,false),(1,9,false),(2,123,false),(3,46,false),(4,3,false),(5,4,false)],6,88,.agg [.int .i64 0,.str [],.slice .nil 1 [],.slice .nil 1 [],.int .i64 0,.bool false]⟩:=by kernel_rfl
theorem ti_sref:ti Tryz.prog 120=some ⟨.struct [(0,3,false),(1,3,false),(2,3,false),(3,3,false),(4,3,false),(5,3,false)],6,48,.agg [.int .i64 0,.int .i64 0,.int .i64 0,.int .i64 0,.int .i64 0,.int .i64 0]⟩:=by kernel_rfl
theorem ti_sschema:ti Tryz.prog 31=some ⟨.struct [(0,22,false),(1,23,false),(2,24,false),(3,25,false),(4,26,false),(5,27,false),(6,28,false),(7,29,false),(8,3,false),(9,3,false)],10,208,.agg [.slice .nil 1 [],.slice .nil 1 [],.slice .nil 1 [],.slice .nil 1 [],.slice .nil 1 [],.slice .nil 1 [],.slice .nil 1 [],.slice .nil 1 [],.int .i64 0,.int .i64 0]⟩:=by kernel_rfl
theorem ti_smatch:ti Tryz.prog 367=some ⟨.struct [(0,4,false),(1,83,false),(3,83,false),(5,3,false),(6,83,false)],8,64,.agg [.bool false,.int .u64 0,.int .u64 0,.int .u64 0,.int .u64 0,.int .i64 0,.int .u64 0,.int .u64 0]⟩:=by kernel_rfl
theorem ti_sentry:ti Tryz.prog 199=some ⟨.struct [(0,3,false),(1,197,false),(2,3,false),(3,3,false),(4,47,false)],5,72,.agg [.int .i64 0,.slice .nil 1 [],.int .i64 0,.int .i64 0,.slice .nil 1 []]⟩:=by kernel_rfl
theorem ti_lfield:ti Tryz.prog 22=some ⟨.slice 76,1,24,.slice .nil 1 []⟩:=by kernel_rfl
theorem ti_lheader:ti Tryz.prog 23=some ⟨.slice 114,1,24,.slice .nil 1 []⟩:=by kernel_rfl
theorem ti_lcase:ti Tryz.prog 147=some ⟨.slice 306,1,24,.slice .nil 1 []⟩:=by kernel_rfl
theorem ti_lstate:ti Tryz.prog 24=some ⟨.slice 149,1,24,.slice .nil 1 []⟩:=by kernel_rfl
theorem ti_lprim:ti Tryz.prog 51=some ⟨.slice 129,1,24,.slice .nil 1 []⟩:=by kernel_rfl
theorem ti_lparam:ti Tryz.prog 50=some ⟨.slice 122,1,24,.slice .nil 1 []⟩:=by kernel_rfl
theorem ti_laction:ti Tryz.prog 25=some ⟨.slice 53,1,24,.slice .nil 1 []⟩:=by kernel_rfl
theorem ti_lkey:ti Tryz.prog 45=some ⟨.slice 308,1,24,.slice .nil 1 []⟩:=by kernel_rfl
theorem ti_ltable:ti Tryz.prog 26=some ⟨.slice 49,1,24,.slice .nil 1 []⟩:=by kernel_rfl
theorem ti_lstage:ti Tryz.prog 27=some ⟨.slice 78,1,24,.slice .nil 1 []⟩:=by kernel_rfl
theorem ti_lgrant:ti Tryz.prog 123=some ⟨.slice 241,1,24,.slice .nil 1 []⟩:=by kernel_rfl
theorem ti_lrole:ti Tryz.prog 28=some ⟨.slice 125,1,24,.slice .nil 1 []⟩:=by kernel_rfl
theorem ti_lref:ti Tryz.prog 29=some ⟨.slice 120,1,24,.slice .nil 1 []⟩:=by kernel_rfl
theorem ti_lmatch:ti Tryz.prog 197=some ⟨.slice 367,1,24,.slice .nil 1 []⟩:=by kernel_rfl
theorem ti_lentry:ti Tryz.prog 55=some ⟨.slice 199,1,24,.slice .nil 1 []⟩:=by kernel_rfl
theorem ti_lval:ti Tryz.prog 47=some ⟨.slice 83,1,24,.slice .nil 1 []⟩:=by kernel_rfl
theorem ti_lint:ti Tryz.prog 46=some ⟨.slice 3,1,24,.slice .nil 1 []⟩:=by kernel_rfl
theorem ti_lbool:ti Tryz.prog 239=some ⟨.slice 4,1,24,.slice .nil 1 []⟩:=by kernel_rfl
attribute [go_sem] ti_tint ti_sfield ti_sheader ti_scase ti_sstate ti_sprim ti_soperand ti_sparam ti_saction ti_skey ti_stable ti_sstage ti_sgrant ti_srole ti_sref ti_sschema ti_smatch ti_sentry ti_lfield ti_lheader ti_lcase ti_lstate ti_lprim ti_lparam ti_laction ti_lkey ti_ltable ti_lstage ti_lgrant ti_lrole ti_lref ti_lmatch ti_lentry ti_lval ti_lint ti_lbool
/-- the next choice of two -/
def e_CBoolD:List AV→AHeap→(AEnd→AHeap→Prop)→Prop
  | [.ptr id 0],H,K=>onC (H.get id) fun b v=>K (.ret (.bool (decide (cv b v 2=1)))) (H.set id (codV b (v+1)))
  | _,_,_=>False
theorem ok_CBoolD:EntOk Tryz.prog 53 (Ent.effect e_CBoolD):=by
  refine EntOk.effect fun args H K h=>?_
  unfold e_CBoolD at h
  split at h
  rotate_left
  · exact h.elim
  rename_i id
  obtain ⟨b,v,hg,hb,hv,hK⟩:=onC_out h
  refine ⟨_,_,hK,?_⟩
  clear hK
  refine ACalls.of_aw (Ω:=[(48,Ent.effect e_ZNext)]) (T:=assoc []) mixed (TblOk.cons ok_ZNext TblOk.nil) Tryz.func53 (by kernel_rfl) (by rfl) (rs:=[.tmp 2]) (by rfl) (by kernel_rfl) (by simp only [Tryz.ntmps53,yaz,yba];decide) (Nat.le_refl _) fun hcl hlt=>?_
  change aw _ _ _ (KI Tryz.prog [(48,Ent.effect e_ZNext)] (aEnd Tryz.prog [.tmp 2] H.nx _ _ (assoc [])) []) _ _
  clear hlt
  have hid:=AHeap.get_lt hg
  have hcl2:(H.set id (codV b (v+1))).Closed:=closed_set hcl codV_lt
  have e2:(2:Int).toNat=2:=rfl
  simp only [go_sem,e_ZNext,hg,onC_cod hb,cp,e2,Nat.add_zero,Nat.min_eq_left hv]
  have e:((((cv b v 2:Nat):Int))==1)=decide (cv b v 2=1):=by rw [Bool.eq_iff_iff];simp;omega
  refine ⟨⟨by decide,by decide⟩,?_⟩
  rw [e]
  simp (disch:=first | assumption | omega | (simp;done) | (simp;omega) | (simp only [bt,and_true];first | done | omega | (simp;done))) [↓zmi,beq,ybc,ybd,ybe,endOk,wk,wk2,wk1,wkM,wkL,wkLL,ybf,hcl2]
theorem ne_nx {id n:Nat} (h:id<n):((id=n)=False)∧((id=n+1)=False)∧((id=n+1+1)=False)∧((id=n+1+1+1)=False)∧((id=n+1+1+1+1)=False)∧((id=n+1+1+1+1+1)=False)∧((id=n+1+1+1+1+1+1)=False)∧((id=n+1+1+1+1+1+1+1)=False)∧((id=n+1+1+1+1+1+1+1+1)=False)∧((id=n+1+1+1+1+1+1+1+1+1)=False)∧((id=n+1+1+1+1+1+1+1+1+1+1)=False)∧((id=n+1+1+1+1+1+1+1+1+1+1+1)=False)∧((id=n+1+1+1+1+1+1+1+1+1+1+1+1)=False)∧((id=n+1+1+1+1+1+1+1+1+1+1+1+1+1)=False)∧((id=n+1+1+1+1+1+1+1+1+1+1+1+1+1+1)=False)∧((id=n+1+1+1+1+1+1+1+1+1+1+1+1+1+1+1)=False) :=
  ⟨eq_false (by omega),eq_false (by omega),eq_false (by omega),eq_false (by omega),eq_false (by omega),eq_false (by omega),eq_false (by omega),eq_false (by omega),eq_false (by omega),eq_false (by omega),eq_false (by omega),eq_false (by omega),eq_false (by omega),eq_false (by omega),eq_false (by omega),eq_false (by omega)⟩
theorem get_codV {H:AHeap} {id:Nat} (h:id<H.nx) (b:List UInt8) (v:Nat):(H.set id (codV b v)).get id=some (codV b v):=AHeap.get_set_same _ _ h
theorem gEnds_get {b:List UInt8} {v:Nat}:([AV.int .i64 0,.int .i64 0,.int .i64 65535,.int .i64 3].getD (cv b v 4) .junk)=.int .i64 (gEnds (cv b v 4)):=by
  have h:=cv_lt (b:=b) (v:=v) (n:=4) (by decide)
  unfold gEnds
  generalize cv b v 4=c at *
  match c,h with
  | 0,_=>rfl
  | 1,_=>rfl
  | 2,_=>rfl
  | 3,_=>rfl
theorem lt_map {α:Type} {n sz:Nat} {f:α→AV} {l:List α} (h:∀ x,AV.lt n (f x)):AV.lt n (.slice .any sz (l.map f)):=lt_sliceZ fun x hx=>by
  obtain ⟨y,_,rfl⟩:=List.mem_map.1 hx
  exact h y
theorem ltL_vc {n v:Nat} {l:List AV}:ltL n (vc v++l)=ltL n l:=by simp [vc,zno,zmz]
theorem ltL_vc0 {n v:Nat}:ltL n (vc v)=True:=by simp [vc,zno,znp,zmz]
theorem lt_inL {n:Nat} {l:List Int}:AV.lt n (.slice .any 1 (inL l)):=lt_map fun x=>by simp only [zmz]
theorem lt_boL {n:Nat} {l:List Bool}:AV.lt n (.slice .any 1 (boL l)):=lt_map fun x=>by simp only [zna]
theorem lt_vvL {n:Nat} {l:List Nat}:AV.lt n (.slice .any 2 (l.map vv)):=lt_map fun x=>by simp only [vv,znl,zno,znp,zmz,and_true]
theorem lt_field {n:Nat} (x:SField):AV.lt n (fieldAV x):=by
  simp only [fieldAV,znl,zno,znp,zmz,znb,zna,ltL_vc,ltL_vc0,List.append_assoc,yal,yak,true_and,and_true]
theorem lt_header {n:Nat} (x:SHeader):AV.lt n (headerAV x):=by
  simp only [headerAV,znl,zno,znp,zmz,znb,zna,ltL_vc,ltL_vc0,List.append_assoc,yal,yak,true_and,and_true]
  exact lt_inL
theorem lt_case {n:Nat} (x:SCase):AV.lt n (caseAV x):=by
  simp only [caseAV,znl,zno,znp,zmz,znb,zna,ltL_vc,ltL_vc0,List.append_assoc,yal,yak,true_and,and_true]
theorem lt_state {n:Nat} (x:SState):AV.lt n (stateAV x):=by
  simp only [stateAV,znl,zno,znp,zmz,znb,zna,ltL_vc,ltL_vc0,List.append_assoc,yal,yak,true_and,and_true]
  exact lt_map lt_case
theorem lt_prim {n:Nat} (x:SPrim):AV.lt n (primAV x):=by
  simp only [primAV,znl,zno,znp,zmz,znb,zna,ltL_vc,ltL_vc0,List.append_assoc,yal,yak,true_and,and_true]
theorem lt_param {n:Nat} (x:SParam):AV.lt n (paramAV x):=by
  simp only [paramAV,znl,zno,znp,zmz,znb,zna,ltL_vc,ltL_vc0,List.append_assoc,yal,yak,true_and,and_true]
theorem lt_action {n:Nat} (x:SAction):AV.lt n (actionAV x):=by
  simp only [actionAV,znl,zno,znp,zmz,znb,zna,ltL_vc,ltL_vc0,List.append_assoc,yal,yak,true_and,and_true]
  exact ⟨lt_map lt_param,lt_map lt_prim⟩
theorem lt_key {n:Nat} (x:SKey):AV.lt n (keyAV x):=by
  simp only [keyAV,znl,zno,znp,zmz,znb,zna,ltL_vc,ltL_vc0,List.append_assoc,yal,yak,true_and,and_true]
theorem lt_table {n:Nat} (x:STable):AV.lt n (tableAV x):=by
  simp only [tableAV,znl,zno,znp,zmz,znb,zna,ltL_vc,ltL_vc0,List.append_assoc,yal,yak,true_and,and_true]
  exact ⟨lt_map lt_key,lt_inL,lt_vvL⟩
theorem lt_stage {n:Nat} (x:SStage):AV.lt n (stageAV x):=by
  simp only [stageAV,znl,zno,znp,zmz,znb,zna,ltL_vc,ltL_vc0,List.append_assoc,yal,yak,true_and,and_true]
theorem lt_grant {n:Nat} (x:SGrant):AV.lt n (grantAV x):=by
  simp only [grantAV,znl,zno,znp,zmz,znb,zna,ltL_vc,ltL_vc0,List.append_assoc,yal,yak,true_and,and_true]
  exact lt_boL
theorem lt_role {n:Nat} (x:SRole):AV.lt n (roleAV x):=by
  simp only [roleAV,znl,zno,znp,zmz,znb,zna,ltL_vc,ltL_vc0,List.append_assoc,yal,yak,true_and,and_true]
  exact ⟨lt_map lt_grant,lt_inL⟩
theorem lt_ref {n:Nat} (x:SRef):AV.lt n (refAV x):=by
  simp only [refAV,znl,zno,znp,zmz,znb,zna,ltL_vc,ltL_vc0,List.append_assoc,yal,yak,true_and,and_true]
theorem lt_sch {n:Nat} (x:Sch):AV.lt n (schAV x):=by
  simp only [schAV,schC,znl,zno,znp,zmz,true_and,and_true]
  exact ⟨lt_map lt_field,lt_map lt_header,lt_map lt_state,lt_map lt_action,lt_map lt_table,lt_map lt_stage,lt_map lt_role,lt_map lt_ref⟩
theorem cv_in {b:List UInt8} {u n:Nat} (h:0<n):(0≤((cv b u n:Nat):Int)∧((cv b u n:Nat):Int)<(n:Int))=True:=eq_true ⟨by omega,by have:=cv_lt (b:=b) (v:=u) h;omega⟩
/-- a function that takes from the choices -/
def eG (g:List UInt8→Nat→AV × Nat):List AV→AHeap→(AEnd→AHeap→Prop)→Prop
  | [.ptr id 0],H,K=>onC (H.get id) fun b v=>K (.ret (g b v).1) (H.set id (codV b (g b v).2))
  | _,_,_=>False
def e_CStates:=eG fun b v=>(.slice .any 5 ((gStates b v).1.map stateAV),(gStates b v).2)
set_option maxHeartbeats 4000000 in
theorem ok_CStates:EntOk Tryz.prog 49 (Ent.effect e_CStates):=by
  unfold e_CStates
  refine EntOk.effect fun args H K h=>?_
  unfold eG at h
  split at h
  rotate_left
  · exact h.elim
  rename_i id
  obtain ⟨b,v,hg,hb,hv,hK⟩:=onC_out h
  refine ⟨_,_,hK,?_⟩
  clear hK
  refine ACalls.of_aw (Ω:=[(48,Ent.effect e_ZNext),(53,Ent.effect e_CBoolD)]) (T:=assoc [(5,[[],[],[],[],[],[3],[],[],[],[],[3],[],[3,10],[],[3,10,12],[1,3,10,12],[],[1,3,10,12]]),(10,[[16]])]) mixed (TblOk.cons ok_ZNext (TblOk.cons ok_CBoolD TblOk.nil)) Tryz.func49 (by kernel_rfl) (by rfl) (rs:=[.tmp 2]) (by rfl) (by kernel_rfl) (by simp only [Tryz.ntmps49,yaz,yba];decide) (Nat.le_refl _) fun hcl hlt=>?_
  change aw _ _ _ (KI Tryz.prog [(48,Ent.effect e_ZNext),(53,Ent.effect e_CBoolD)] (aEnd Tryz.prog [.tmp 2] H.nx _ _ (assoc [(5,[[],[],[],[],[],[3],[],[],[],[],[3],[],[3,10],[],[3,10,12],[1,3,10,12],[],[1,3,10,12]]),(10,[[16]])])) []) _ _
  clear hlt
  have hid:=AHeap.get_lt hg
  have hne:=ne_nx hid
  have hgc:=get_codV (b:=b) hid
  have hcl2:∀ w,(H.set id (codV b w)).Closed:=fun w=>closed_set hcl codV_lt
  have c4:∀ u,(0≤((cv b u 4:Nat):Int)∧((cv b u 4:Nat):Int)<((4:Nat):Int))=True:=fun u=>cv_in (by decide)
  simp only [go_sem,e_ZNext,e_CBoolD,hg,hgc,onC_cod hb,cv_min,codV_min,cp_add,hne,gEnds_get,c4,Int.toNat_natCast]
  have w8:∀ u,IntKind.u64.wrap (IntKind.i64.wrap (8*((cv b u 2:Nat):Int)))=((8*cv b u 2:Nat):Int):=fun u=>by
    have:=cv_lt (b:=b) (v:=u) (n:=2) (by decide)
    rw [wrap_i64 (by omega) (by omega),wrap_u64 (by omega) (by omega)];omega
  have w1:∀ u,IntKind.i64.wrap (1+((cv b u 3:Nat):Int))=1+((cv b u 3:Nat):Int):=fun u=>by
    have:=cv_lt (b:=b) (v:=u) (n:=3) (by decide)
    rw [wrap_i64 (by omega) (by omega)]
  have hvs:∀ u,vc (8*cv b u 2)=[.int .u64 0,.int .u64 ((8*cv b u 2:Nat):Int)]:=fun u=>vc_small (by
    have:=cv_lt (b:=b) (v:=u) (n:=2) (by decide)
    omega)
  refine ⟨by decide,cond_split (fun h1=>?_) (fun h1=>?_)⟩
  · have h1':cv b (v+1) 2=1:=of_decide_eq_true h1
    simp only [blkE,blkP,bhq,Nat.reduceMod,Nat.reduceDiv,stepH,stepM,toMs1,toMs,toMs0,strK,pubK,pubF,pubV,yaq,yar,yao,yap,go_sem,e_ZNext,e_CBoolD,hg,hgc,onC_cod hb,cv_min,codV_min,cp_add,hne,gEnds_get,c4,w8,w1,Int.toNat_natCast]
    refine ⟨by decide,by decide,⟨by simp [zik,zgl,zgm,zgn],by decide,by decide,cond_split (fun h2=>?_) (fun h2=>?_)⟩⟩
    · have h2':cv b (v+5) 3=1:=by simp [cp] at h2;omega
      simp only [blkE,blkP,bhq,Nat.reduceMod,Nat.reduceDiv,stepH,stepM,toMs1,toMs,toMs0,strK,pubK,pubF,pubV,yaq,yar,yao,yap,go_sem,e_ZNext,e_CBoolD,hg,hgc,onC_cod hb,cv_min,codV_min,cp_add,hne,gEnds_get,c4,w8,w1,Int.toNat_natCast]
      refine ⟨by decide,?_⟩
      refine weak_slot 2 (.slice .any 5 ((gStates b v).1.map stateAV)) ?_ ?_
      · simp [Fr.get,gStates,h1',h2',stateAV,caseAV,vc_small,cp,hvs,wkD_agg,wkD_slice,wkDL_cons,wkDL_nil,wkDR_cons,wkDR_nil,wkD_int,wkD_str,wkD_bool,wkM,zik]
      · have e:(gStates b v).2=cp v 7:=by unfold gStates;simp only [h1',h2',if_true,if_false];rfl
        rw [e]
        simp only [go_sem,bhq,Nat.reduceMod,Nat.reduceDiv,stepH,stepM,toMs1,toMs,toMs0,strK,pubK,pubF,pubV,yaq,yar,yao,yap]
        simp (disch:=first | assumption | omega | (simp;done) | (simp;omega) | (simp only [bt,and_true];first | done | omega | (simp;done))) [↓zmi,beq,ybc,ybd,ybe,endOk,wk,wk2,wk1,wkM,wkL,wkLL,ybf,hcl2]
        first | exact lt_map lt_state | exact ⟨by repeat (first | exact AHeap.Le.refl _ | refine AHeap.Le.push ?_ _),lt_map lt_state⟩
    · have h2':¬ cv b (v+5) 3=1:=by simp [cp] at h2;omega
      simp only [blkE,blkP,bhq,Nat.reduceMod,Nat.reduceDiv,stepH,stepM,toMs1,toMs,toMs0,strK,pubK,pubF,pubV,yaq,yar,yao,yap,go_sem,e_ZNext,e_CBoolD,hg,hgc,onC_cod hb,cv_min,codV_min,cp_add,hne,gEnds_get,c4,w8,w1,Int.toNat_natCast]
      refine weak_slot 2 (.slice .any 5 ((gStates b v).1.map stateAV)) ?_ ?_
      · simp [Fr.get,gStates,h1',h2',stateAV,caseAV,vc_small,cp,hvs,wkD_agg,wkD_slice,wkDL_cons,wkDL_nil,wkDR_cons,wkDR_nil,wkD_int,wkD_str,wkD_bool,wkM,zik]
      · have e:(gStates b v).2=cp v 6:=by unfold gStates;simp only [h1',h2',if_true,if_false];rfl
        rw [e]
        simp only [go_sem,bhq,Nat.reduceMod,Nat.reduceDiv,stepH,stepM,toMs1,toMs,toMs0,strK,pubK,pubF,pubV,yaq,yar,yao,yap]
        simp (disch:=first | assumption | omega | (simp;done) | (simp;omega) | (simp only [bt,and_true];first | done | omega | (simp;done))) [↓zmi,beq,ybc,ybd,ybe,endOk,wk,wk2,wk1,wkM,wkL,wkLL,ybf,hcl2]
        first | exact lt_map lt_state | exact ⟨by repeat (first | exact AHeap.Le.refl _ | refine AHeap.Le.push ?_ _),lt_map lt_state⟩
  · have h1':¬ cv b (v+1) 2=1:=of_decide_eq_false h1
    simp only [blkE,blkP,bhq,Nat.reduceMod,Nat.reduceDiv,stepH,stepM,toMs1,toMs,toMs0,strK,pubK,pubF,pubV,yaq,yar,yao,yap,go_sem,e_ZNext,e_CBoolD,hg,hgc,onC_cod hb,cv_min,codV_min,cp_add,hne,gEnds_get,c4,w8,w1,Int.toNat_natCast]
    refine ⟨by decide,by decide,cond_split (fun h2=>?_) (fun h2=>?_)⟩
    · have h2':cv b (v+3) 3=1:=by simp [cp] at h2;omega
      simp only [blkE,blkP,bhq,Nat.reduceMod,Nat.reduceDiv,stepH,stepM,toMs1,toMs,toMs0,strK,pubK,pubF,pubV,yaq,yar,yao,yap,go_sem,e_ZNext,e_CBoolD,hg,hgc,onC_cod hb,cv_min,codV_min,cp_add,hne,gEnds_get,c4,w8,w1,Int.toNat_natCast]
      refine ⟨by decide,?_⟩
      refine weak_slot 2 (.slice .any 5 ((gStates b v).1.map stateAV)) ?_ ?_
      · simp [Fr.get,gStates,h1',h2',stateAV,caseAV,vc_small,cp,hvs,wkD_agg,wkD_slice,wkDL_cons,wkDL_nil,wkDR_cons,wkDR_nil,wkD_int,wkD_str,wkD_bool,wkM,zik]
      · have e:(gStates b v).2=cp v 5:=by unfold gStates;simp only [h1',h2',if_true,if_false];rfl
        rw [e]
        simp only [go_sem,bhq,Nat.reduceMod,Nat.reduceDiv,stepH,stepM,toMs1,toMs,toMs0,strK,pubK,pubF,pubV,yaq,yar,yao,yap]
        simp (disch:=first | assumption | omega | (simp;done) | (simp;omega) | (simp only [bt,and_true];first | done | omega | (simp;done))) [↓zmi,beq,ybc,ybd,ybe,endOk,wk,wk2,wk1,wkM,wkL,wkLL,ybf,hcl2]
        first | exact lt_map lt_state | exact ⟨by repeat (first | exact AHeap.Le.refl _ | refine AHeap.Le.push ?_ _),lt_map lt_state⟩
    · have h2':¬ cv b (v+3) 3=1:=by simp [cp] at h2;omega
      simp only [blkE,blkP,bhq,Nat.reduceMod,Nat.reduceDiv,stepH,stepM,toMs1,toMs,toMs0,strK,pubK,pubF,pubV,yaq,yar,yao,yap,go_sem,e_ZNext,e_CBoolD,hg,hgc,onC_cod hb,cv_min,codV_min,cp_add,hne,gEnds_get,c4,w8,w1,Int.toNat_natCast]
      refine weak_slot 2 (.slice .any 5 ((gStates b v).1.map stateAV)) ?_ ?_
      · simp [Fr.get,gStates,h1',h2',stateAV,caseAV,vc_small,cp,hvs,wkD_agg,wkD_slice,wkDL_cons,wkDL_nil,wkDR_cons,wkDR_nil,wkD_int,wkD_str,wkD_bool,wkM,zik]
      · have e:(gStates b v).2=cp v 4:=by unfold gStates;simp only [h1',h2',if_true,if_false];rfl
        rw [e]
        simp only [go_sem,bhq,Nat.reduceMod,Nat.reduceDiv,stepH,stepM,toMs1,toMs,toMs0,strK,pubK,pubF,pubV,yaq,yar,yao,yap]
        simp (disch:=first | assumption | omega | (simp;done) | (simp;omega) | (simp only [bt,and_true];first | done | omega | (simp;done))) [↓zmi,beq,ybc,ybd,ybe,endOk,wk,wk2,wk1,wkM,wkL,wkLL,ybf,hcl2]
        first | exact lt_map lt_state | exact ⟨by repeat (first | exact AHeap.Le.refl _ | refine AHeap.Le.push ?_ _),lt_map lt_state⟩
end Go.AL


open Go Go.AL Go.Proofs
namespace Go.AL
set_option linter.all false
set_option maxRecDepth 10000
theorem ti_lstring:ti Tryz.prog 273=some ⟨.slice 9,1,24,.slice .nil 1 []⟩:=by kernel_rfl
theorem ti_llstring:ti Tryz.prog 309=some ⟨.slice 273,1,24,.slice .nil 1 []⟩:=by kernel_rfl
attribute [go_sem] ti_lstring ti_llstring
/-- a proof that serves several ways into the same place -/
def JnT {α:Type} (F:α→Fr) (G:α→AHeap) (I:α→Prop) (K:Fr→AHeap→Prop):Prop:=∀ x,I x→K (F x) (G x)
theorem join_cut {α:Type} (F:α→Fr) (G:α→AHeap) (I:α→Prop) {K:Fr→AHeap→Prop} {C:Prop} (h:JnT F G I K→C) (hJ:JnT F G I K):C:=h hJ
theorem weak_joinA {F:Nat × AHeap→Fr} {I:Nat × AHeap→Prop} {n0 s id off sz len:Nat} {K:Fr→AHeap→Prop} {fr:Fr} {H:AHeap} (J:JnT F (fun x=>x.2) (fun x=>x.2.Closed∧I x) K) (hs:Fr.get fr s=.ms id off sz len) (hc:H.Closed) (hx:I (id,H)) (hn:n0≤H.nx) (hl:ltF H.nx (F (id,H))) (hw:subW H H (F (id,H)) fr):weakK n0 K fr H:=weak_here _ _ ⟨hn,AHeap.Le.refl _,hc,hl,hw⟩ (J _ ⟨hc,hx⟩)
theorem weak_objA {n0 s id off sz len:Nat} {K:Fr→AHeap→Prop} {fr:Fr} {H:AHeap} {cs:List AV} (cs':List AV) (hs:Fr.get fr s=.ms id off sz len) (hc:cellsOf? H id=some cs) (h:wkDL cs cs') (hk:K fr (H.set id (.cells cs'))):weakK n0 K fr H:=weak_obj id cs' hc h hk
/-- nothing but one object was changed -/
structure But (id:Nat) (H Hc:AHeap):Prop where
  nx:H.nx≤Hc.nx
  get:∀ j x,j≠id→H.get j=some x→Hc.get j=some x
theorem But.push {id:Nat} {H Hc:AHeap} (h:But id H Hc) (o:AObj):But id H (Hc.push o):=⟨by rw [zky];exact Nat.le_succ_of_le h.nx,fun j x hj hx=>by
  have:=h.get j x hj hx
  rw [AHeap.get_push_lt _ _ (AHeap.get_lt this)];exact this⟩
theorem But.set {id i:Nat} {H Hc:AHeap} (h:But id H Hc) (o:AObj) (hi:i=id∨H.nx≤i):But id H (Hc.set i o):=⟨by rw [zkz];exact h.nx,fun j x hj hx=>by
  have hlt:=AHeap.get_lt hx
  rw [AHeap.get_set_ne _ _ (by rcases hi with rfl | hi<;>omega)]
  exact h.get j x hj hx⟩
theorem But.del {id i:Nat} {H Hc:AHeap} (h:But id H Hc) (hi:H.nx≤i):But id H (Hc.del i):=⟨by rw [heap_nx_del];exact h.nx,fun j x hj hx=>by
  have hlt:=AHeap.get_lt hx
  rw [heap_get_del,if_neg (by omega)]
  exact h.get j x hj hx⟩
theorem But.self {id:Nat} {H:AHeap}:But id H H:=⟨Nat.le_refl _,fun _ _ _ h=>h⟩
theorem But.le {id:Nat} {H Hc:AHeap} {o:AObj} (h:But id H Hc) (hg:Hc.get id=some o):(H.set id o).Le Hc:=le_updZ h.get hg h.nx
theorem set_comm' {H:AHeap} {i j:Nat} {o o':AObj} (h:i≠j):(H.set i o).set j o'=(H.set j o').set i o:=by
  simp only [AHeap.set,AHeap.mk.injEq,true_and]
  funext k
  by_cases h1:k=i
  · subst h1;simp [h]
  · simp [h1]
theorem set_set' {H:AHeap} {i:Nat} {o o':AObj}:(H.set i o).set i o'=H.set i o':=by
  simp only [AHeap.set,AHeap.mk.injEq,true_and]
  funext k
  by_cases h1:k=i<;>simp [h1]
/-- the tables; the first k have their restrictions -/
def tabK (b:List UInt8) (v k:Nat):List STable:=(gTables b v).take k++((gTables b v).drop k).map fun t=>{ t with restr:=[] }
def tabC (b:List UInt8) (v k:Nat):List AV:=(tabK b v k).flatMap fun t=>(tableAV t).cells
theorem ltL_flat {α:Type} {n:Nat} {f:α→AV} {l:List α} (h:∀ x,AV.lt n (f x)):ltL n (l.flatMap fun x=>(f x).cells):=ltL_iff.2 fun j hj=>by
  obtain ⟨x,_,hx⟩:=List.mem_flatMap.1 (List.getElem_mem hj)
  obtain ⟨k,hk,e⟩:=List.mem_iff_getElem.1 hx
  rw [← e];exact AV.lt_cells (h x) k hk
theorem rowsOf_flat {α:Type} {sz:Nat} (h1:sz≠1) (f:α→List AV) (hf:∀ x,(f x).length=sz):∀ l:List α,rowsOf sz l.length (l.flatMap f)=l.map fun x=>.agg (f x)
  | []=>rfl
  | x::l=>by
    rw [yaz,List.flatMap_cons,rowsOf,if_neg h1,yae,show (f x++l.flatMap f).drop sz=l.flatMap f by rw [← hf x,List.drop_left],rowsOf_flat h1 f hf l]
    congr 2
    apply List.ext_getElem
    · simp [hf]
    · intro j a1 a2
      simp only [List.getElem_map,List.getElem_range]
      rw [List.getD_eq_getElem?_getD,List.getElem?_append_left a2,List.getElem?_eq_getElem a2];rfl
def txtAV:AV:=.slice .any 1 [.slice .any 1 (gText0.map .str),.slice .any 1 (gText1.map .str),.slice .any 1 (gText2.map .str),.slice .any 1 (gText3.map .str)]
def e_CTables:=eG fun b v=>(.slice .any 8 ((gTables b v).map tableAV),v+12)
set_option maxHeartbeats 4000000 in
theorem ok_CTables:EntOk Tryz.prog 51 (Ent.effect e_CTables):=by
  unfold e_CTables
  refine EntOk.effect fun args H K h=>?_
  unfold eG at h
  split at h
  rotate_left
  · exact h.elim
  rename_i id
  obtain ⟨b,v,hg,hb,hv,hK⟩:=onC_out h
  refine ⟨_,_,hK,?_⟩
  clear hK
  refine ACalls.of_aw (Ω:=[(48,Ent.effect e_ZNext),(53,Ent.effect e_CBoolD)]) (T:=assoc [(16,[[],[],[],[],[],[],[],[],[],[7],[],[],[5,7,9]]),(11,[[14]]),(13,[[1,1,1]])]) mixed (TblOk.cons ok_ZNext (TblOk.cons ok_CBoolD TblOk.nil)) Tryz.func51 (by kernel_rfl) (by rfl) (rs:=[.tmp 2]) (by rfl) (by kernel_rfl) (by simp only [Tryz.ntmps51,yaz,yba];decide) (Nat.le_refl _) fun hcl hlt=>?_
  change aw _ _ _ (KI Tryz.prog [(48,Ent.effect e_ZNext),(53,Ent.effect e_CBoolD)] (aEnd Tryz.prog [.tmp 2] H.nx _ _ (assoc [(16,[[],[],[],[],[],[],[],[],[],[7],[],[],[5,7,9]]),(11,[[14]]),(13,[[1,1,1]])])) []) _ _
  clear hlt
  have hid:=AHeap.get_lt hg
  have hne:=ne_nx hid
  have hne2:=ne_nx (show id<H.nx+1+1+1+1+1+1+1+1+1+1+1+1+1+1+1+1 by omega)
  have hgc:=get_codV (b:=b) hid
  have hcl2:∀ w,(H.set id (codV b w)).Closed:=fun w=>closed_set hcl codV_lt
  have c3:∀ u,(0≤((cv b u 3:Nat):Int)∧((cv b u 3:Nat):Int)<((3:Nat):Int))=True:=fun u=>cv_in (by decide)
  have w1:∀ (u n:Nat) (k:Int),0<n→n≤100→0≤k→k≤100→IntKind.i64.wrap (k+((cv b u n:Nat):Int))=k+((cv b u n:Nat):Int):=fun u n k h1 h2 h3 h4=>by
    have:=cv_lt (b:=b) (v:=u) (n:=n) h1
    rw [wrap_i64 (by omega) (by omega)]
  have e2:(2:Int).toNat=2:=rfl
  have e5:(5:Int).toNat=5:=rfl
  have e6:(6:Int).toNat=6:=rfl
  have e3:(3:Int).toNat=3:=rfl
  have a12:∀ u,IntKind.i64.wrap (1+((cv b u 2:Nat):Int))=1+((cv b u 2:Nat):Int):=fun u=>w1 u 2 1 (by decide) (by decide) (by decide) (by decide)
  have a25:∀ u,IntKind.i64.wrap (2+((cv b u 5:Nat):Int))=2+((cv b u 5:Nat):Int):=fun u=>w1 u 5 2 (by decide) (by decide) (by decide) (by decide)
  have a36:∀ u,IntKind.i64.wrap (3+((cv b u 6:Nat):Int))=3+((cv b u 6:Nat):Int):=fun u=>w1 u 6 3 (by decide) (by decide) (by decide) (by decide)
  have a46:∀ u,IntKind.i64.wrap (4+((cv b u 6:Nat):Int))=4+((cv b u 6:Nat):Int):=fun u=>w1 u 6 4 (by decide) (by decide) (by decide) (by decide)
  have a35:∀ u,IntKind.i64.wrap (3+((cv b u 5:Nat):Int))=3+((cv b u 5:Nat):Int):=fun u=>w1 u 5 3 (by decide) (by decide) (by decide) (by decide)
  simp only [go_sem,e_ZNext,e_CBoolD,hg,hgc,onC_cod hb,cv_min,codV_min,cp_add,hne,e2,e3,e5,e6,a12,a25,a36,a46,a35]
  apply join_cut (α:=Nat × AHeap) (fun x=>[(0,.ptr id 0),(7,.ms x.1 0 8 4),(8,txtAV)]) (fun x=>x.2) (fun x=>x.2.Closed∧H.nx≤x.1∧x.1<x.2.nx∧But id H x.2∧x.2.get id=some (codV b (cp v 8))∧x.2.get x.1=some (.cells (tabC b v 0)))
  · intro J
    (repeat with_reducible refine And.intro (by first | exact True.intro | decide | omega | (simp [zik,zgl,zgm,zgn,zgp,zgo,zgt];first | done | omega)) ?_)
    refine cond_split (fun h1=>?_) (fun h1=>?_)
    all_goals
      simp only [blkE,blkP,bhq,Nat.reduceMod,Nat.reduceDiv,stepH,stepM,toMs1,toMs,toMs0,strK,pubK,pubF,pubV,yaq,yar,yao,yap,go_sem,e_ZNext,e_CBoolD,hg,hgc,onC_cod hb,cv_min,codV_min,cp_add,hne,e2,e3,e5,e6,a12,a25,a36,a46,a35]
      (repeat with_reducible refine And.intro (by first | exact True.intro | decide | omega | (simp [zik,zgl,zgm,zgn,zgp,zgo,zgt];first | done | omega)) ?_)
      refine cond_split (fun h2=>?_) (fun h2=>?_)
    all_goals
      simp only [blkE,blkP,bhq,Nat.reduceMod,Nat.reduceDiv,stepH,stepM,toMs1,toMs,toMs0,strK,pubK,pubF,pubV,yaq,yar,yao,yap,go_sem,e_ZNext,e_CBoolD,hg,hgc,onC_cod hb,cv_min,codV_min,cp_add,hne,e2,e3,e5,e6,a12,a25,a36,a46,a35]
      (repeat with_reducible refine And.intro (by first | exact True.intro | decide | omega | (simp [zik,zgl,zgm,zgn,zgp,zgo,zgt];first | done | omega)) ?_)
      refine cond_split (fun h3=>?_) (fun h3=>?_)
    all_goals
      simp only [blkE,blkP,bhq,Nat.reduceMod,Nat.reduceDiv,stepH,stepM,toMs1,toMs,toMs0,strK,pubK,pubF,pubV,yaq,yar,yao,yap,go_sem,e_ZNext,e_CBoolD,hg,hgc,onC_cod hb,cv_min,codV_min,cp_add,hne,e2,e3,e5,e6,a12,a25,a36,a46,a35]
      (repeat with_reducible refine And.intro (by first | exact True.intro | decide | omega | (simp [zik,zgl,zgm,zgn,zgp,zgo,zgt];first | done | omega)) ?_)
      refine weak_objA (s:=7) (tabC b v 0) rfl (by simp only [go_sem];rfl) ?_ ?_
      · first | replace h1:=of_decide_eq_true h1 | replace h1:=of_decide_eq_false h1
        first | replace h2:=of_decide_eq_true h2 | replace h2:=of_decide_eq_false h2
        first | replace h3:=of_decide_eq_true h3 | replace h3:=of_decide_eq_false h3
        simp only [cp] at h1 h2 h3
        simp [tabC,tabK,gTables,gTable0,gTable1,gTable2,gTable3,tableAV,keyAV,inL,vv,h1,h2,h3,cp,AV.cells,wkD_agg,wkD_slice,wkDL_cons,wkDL_nil,wkDR_cons,wkDR_nil,wkD_int,wkD_str,wkD_bool,wkM]
      refine weak_slot 8 txtAV ?_ ?_
      · simp [Fr.get,txtAV,gText0,gText1,gText2,gText3,AV.cells,wkD_slice,wkDL_cons,wkDL_nil,wkDR_cons,wkDR_nil,wkD_str,wkM]
      refine weak_joinA (s:=7) J rfl ?_ ?_ (by (try simp only [zkp,zkk,KI_n0,zky,zkz]);omega) ?_ ?_
      · repeat' (first | exact hcl2 _ | refine closed_buf ?_ | refine closed_set ?_ ?_ | refine closed_cells ?_ ?_)
        all_goals first | exact ltL_flat fun _=>lt_table _ | (simp [lt_sliceL,zno,znp,zmz,znb,zna,znl,AV.cells,yal,yak,zky,zkz];try omega)
      · dsimp only
        refine ⟨by (try simp only [zky,zkz]);omega,by (try simp only [zky,zkz]);omega,?_,?_,?_⟩
        · repeat (first | exact But.self | refine But.push ?_ _ | refine But.set ?_ _ (by first | exact .inl rfl | exact .inr (by (try simp only [zky,zkz]);omega)))
        · simp only [go_sem,hne,hne2,hgc,cp]
        · simp only [go_sem]
      · simp [ltF,znh,znj,txtAV,gText0,gText1,gText2,gText3,znb,lt_sliceL,zno,znp,zky,zkz]
        try omega
      · simp [subW,wk2,wk1,wkM,Fr.get,txtAV]
  · rintro ⟨i,Hc⟩ ⟨q3,q1,q2,q4,q5,q6⟩
    dsimp only at q1 q2 q3 q4 q5 q6 ⊢
    have hii:i≠id:=by omega
    have gtx:∀ u x y z,([AV.str x,.str y,.str z]:List AV).getD (cv b u 3) .junk=.str ([x,y,z].getD (cv b u 3) []):=fun u x y z=>by
      have:=cv_lt (b:=b) (v:=u) (n:=3) (by decide)
      rcases (by omega:cv b u 3=0∨cv b u 3=1∨cv b u 3=2) with e | e | e<;>rw [e]<;>rfl
    have hic:id<Hc.nx:=AHeap.get_lt q5
    have hci:∀ C w,cellsOf? ((Hc.set i (.cells C)).set id (codV b w)) i=some C:=fun C w=>cells_some (by
      rw [AHeap.get_set_ne _ _ hii,AHeap.get_set_same _ _ q2])
    have hgd:∀ C w,((Hc.set i (.cells C)).set id (codV b w)).get id=some (codV b w):=fun C w=>AHeap.get_set_same _ _ (by rw [zkz];exact hic)
    have hsi:∀ C C' w,((Hc.set i (.cells C)).set id (codV b w)).set i (.cells C')=(Hc.set i (.cells C')).set id (codV b w):=fun C C' w=>by
      rw [← set_comm' hii,set_set',set_comm' hii]
    have hsd:∀ C w w',((Hc.set i (.cells C)).set id (codV b w)).set id (codV b w')=(Hc.set i (.cells C)).set id (codV b w'):=fun C w w'=>codV_setZ
    have hclo:∀ k w,((Hc.set i (.cells (tabC b v k))).set id (codV b w)).Closed:=fun k w=>closed_set (closed_set q3 (ltL_flat fun _=>lt_table _)) codV_lt
    simp only [bhq,Nat.reduceMod,Nat.reduceDiv,stepH,stepM,toMs1,toMs,toMs0,strK,pubK,pubF,pubV,yaq,yar,yao,yap,go_sem]
    refine loop_introW (A:=Nat) (fun k=>[(0,.ptr id 0),(7,.ms i 0 8 4),(8,txtAV),(80,.int .i64 4),(81,.int .i64 (k:Int))]) (fun k=>(Hc.set i (.cells (tabC b v k))).set id (codV b (cp v (8+k)))) (fun k=>k≤4) (fun k=>4 - k) 0 (by omega) ?_ fun k hk=>?_
    · refine ⟨by simp only [zkz,zkk,zkp];have:=q4.nx;omega,?_,hclo _ _,?_,?_⟩
      · exact ((le_set_sameZ (by rw [AHeap.get_set_ne _ _ (fun e=>hii e.symm)];exact q5)).trans (le_set_sameZ q6))
      · simp [ltF,znh,znj,zmz,txtAV,gText0,gText1,gText2,gText3,znb,lt_sliceL,zno,znp,zkz]
        omega
      · simp [subW,wk2,wk1,wkM,Fr.get,txtAV]
    simp only [go_sem]
    refine cond_split (fun hc=>?_) (fun hc=>?_)
    · have hk4:k<4:=by simp at hc;omega
      have c3':∀ u,(0≤((cv b u 3:Nat):Int)∧((cv b u 3:Nat):Int)<((3:Nat):Int)):=fun u=>of_eq_true (c3 u)
      have e4:IntKind.i64.wrap ((k:Int)+1)=((k+1:Nat):Int):=by rw [wrap_i64]<;>omega
      rcases (by omega:k=0∨k=1∨k=2∨k=3) with rfl | rfl | rfl | rfl
      · simp only [go_sem,txtAV,gText0,gText1,gText2,gText3,e_ZNext,hgd,hci,hsi,hsd,onC_cod hb,cv_min,codV_min,cp_add,e3,gtx,c3',e4,show IntKind.i64.wrap 1=1 from by decide,Int.toNat_natCast,zoe,tabC,tabK,gTables,List.flatMap_cons,List.flatMap_nil,tableAV,AV.cells,yal,yak]
        refine ⟨by decide,by decide,by decide,1,by decide,by decide,by simp only [zkz,zkk,zkp];have:=q4.nx;omega,AHeap.Le.refl _,hclo 1 _,?_,?_⟩
        · simp [ltF,znh,znj,zmz,znb,lt_sliceL,zno,znp,zkz]
          omega
        · simp [subW,wk2,wk1,wkM,Fr.get]
      · simp only [go_sem,txtAV,gText0,gText1,gText2,gText3,e_ZNext,hgd,hci,hsi,hsd,onC_cod hb,cv_min,codV_min,cp_add,e3,gtx,c3',e4,show IntKind.i64.wrap 1=1 from by decide,Int.toNat_natCast,zoe,tabC,tabK,gTables,List.flatMap_cons,List.flatMap_nil,tableAV,AV.cells,yal,yak]
        refine ⟨by decide,by decide,by decide,2,by decide,by decide,by simp only [zkz,zkk,zkp];have:=q4.nx;omega,AHeap.Le.refl _,hclo 2 _,?_,?_⟩
        · simp [ltF,znh,znj,zmz,znb,lt_sliceL,zno,znp,zkz]
          omega
        · simp [subW,wk2,wk1,wkM,Fr.get]
      · simp only [go_sem,txtAV,gText0,gText1,gText2,gText3,e_ZNext,hgd,hci,hsi,hsd,onC_cod hb,cv_min,codV_min,cp_add,e3,gtx,c3',e4,show IntKind.i64.wrap 1=1 from by decide,Int.toNat_natCast,zoe,tabC,tabK,gTables,List.flatMap_cons,List.flatMap_nil,tableAV,AV.cells,yal,yak]
        refine ⟨by decide,by decide,by decide,3,by decide,by decide,by simp only [zkz,zkk,zkp];have:=q4.nx;omega,AHeap.Le.refl _,hclo 3 _,?_,?_⟩
        · simp [ltF,znh,znj,zmz,znb,lt_sliceL,zno,znp,zkz]
          omega
        · simp [subW,wk2,wk1,wkM,Fr.get]
      · simp only [go_sem,txtAV,gText0,gText1,gText2,gText3,e_ZNext,hgd,hci,hsi,hsd,onC_cod hb,cv_min,codV_min,cp_add,e3,gtx,c3',e4,show IntKind.i64.wrap 1=1 from by decide,Int.toNat_natCast,zoe,tabC,tabK,gTables,List.flatMap_cons,List.flatMap_nil,tableAV,AV.cells,yal,yak]
        refine ⟨by decide,by decide,by decide,4,by decide,by decide,by simp only [zkz,zkk,zkp];have:=q4.nx;omega,AHeap.Le.refl _,hclo 4 _,?_,?_⟩
        · simp [ltF,znh,znj,zmz,znb,lt_sliceL,zno,znp,zkz]
          omega
        · simp [subW,wk2,wk1,wkM,Fr.get]
    · have hk4:k=4:=by simp at hc;omega
      subst hk4
      simp only [go_sem]
      have hr:rowsOf 8 4 (tabC b v 4)=(gTables b v).map tableAV:=rowsOf_flat (by decide) (fun t=>(tableAV t).cells) (fun _=>rfl) (gTables b v)
      refine ⟨?_,?_,hcl2 _,lt_map lt_table⟩
      · simp only [wk,wk2,wk1,hci,yap,hr,true_or,true_and]
        rw [zmp (by rw [zkz];exact q1)]
      · exact ((q4.set _ (.inr q1)).set _ (.inl rfl)).le (hgd _ _)
end Go.AL


open Go Go.AL Go.Proofs
namespace Go.AL
set_option linter.all false
set_option maxRecDepth 10000

def e_CActions:=eG fun b v=>(.slice .any 5 ((gActions b v).map actionAV),v+4)
/-- the actions; a restriction where it is set -/
def actC (b:List UInt8) (v:Nat) (r1 r2:Bool):List AV:=((gActions b v).map fun a=>(⟨a.id,a.name,a.params,a.body,if a.id=3∧r1=true then [112,111,114,116,32,33,61,32,48] else if a.id=5∧r2=true then [120,32,60,32,121,32,124,124,32,120,32,61,61,32,49,53] else []⟩:SAction)).flatMap fun a=>(actionAV a).cells
theorem actC_all {b:List UInt8} {v:Nat}:actC b v (decide (cv b (v+2) 2=1)) (decide (cv b (v+3) 2=1))=(gActions b v).flatMap fun a=>(actionAV a).cells:=by
  by_cases h1:cv b (v+2) 2=1<;>by_cases h2:cv b (v+3) 2=1<;>simp [actC,gActions,actionAV,AV.cells,h1,h2]
set_option maxHeartbeats 4000000 in
theorem ok_CActions:EntOk Tryz.prog 50 (Ent.effect e_CActions):=by
  unfold e_CActions
  refine EntOk.effect fun args H K h=>?_
  unfold eG at h
  split at h
  rotate_left
  · exact h.elim
  rename_i id
  obtain ⟨b,v,hg,hb,hv,hK⟩:=onC_out h
  refine ⟨_,_,hK,?_⟩
  clear hK
  dsimp only
  generalize hres:AV.slice .any 5 ((gActions b v).map actionAV)=res
  refine ACalls.of_aw (Ω:=[(48,Ent.effect e_ZNext),(53,Ent.effect e_CBoolD)]) (T:=assoc [(2,[[],[],[],[],[],[],[],[],[],[],[],[],[],[],[],[],[],[],[],[],[],[],[],[],[],[],[],[],[],[],[],[],[],[29],[29,33],[],[],[],[29,33],[],[6,12,22,29,33]]),(802,[[100002],[100005],[100008],[100011],[100016],[100020],[100026],[100044]]),(1202,[[40]]),(3,[[1]])]) mixed (TblOk.cons ok_ZNext (TblOk.cons ok_CBoolD TblOk.nil)) Tryz.func50 (by kernel_rfl) (by rfl) (rs:=[.tmp 2]) (by rfl) (by kernel_rfl) (by simp only [Tryz.ntmps50,yaz,yba];decide) (Nat.le_refl _) fun hcl hlt=>?_
  change aw _ _ _ (KI Tryz.prog [(48,Ent.effect e_ZNext),(53,Ent.effect e_CBoolD)] (aEnd Tryz.prog [.tmp 2] H.nx _ _ (assoc [(2,[[],[],[],[],[],[],[],[],[],[],[],[],[],[],[],[],[],[],[],[],[],[],[],[],[],[],[],[],[],[],[],[],[],[29],[29,33],[],[],[],[29,33],[],[6,12,22,29,33]]),(802,[[100002],[100005],[100008],[100011],[100016],[100020],[100026],[100044]]),(1202,[[40]]),(3,[[1]])])) []) _ _
  clear hlt
  have hid:=AHeap.get_lt hg
  have hne:=ne_nx hid
  have hne2:=ne_nx (show id<H.nx+1+1+1+1+1+1+1+1+1+1+1+1+1+1+1+1 by omega)
  have hgc:=get_codV (b:=b) hid
  have hcl2:∀ w,(H.set id (codV b w)).Closed:=fun w=>closed_set hcl codV_lt
  have e2:(2:Int).toNat=2:=rfl
  have e256:(256:Int).toNat=256:=rfl
  have a22:∀ u,IntKind.i64.wrap (2+((cv b u 2:Nat):Int))=2+((cv b u 2:Nat):Int):=fun u=>by
    have:=cv_lt (b:=b) (v:=u) (n:=2) (by decide)
    rw [wrap_i64 (by omega) (by omega)]
  have u256:∀ u,IntKind.u64.wrap ((cv b u 256:Nat):Int)=((cv b u 256:Nat):Int):=fun u=>by
    have:=cv_lt (b:=b) (v:=u) (n:=256) (by decide)
    rw [wrap_u64 (by omega) (by omega)]
  simp only [go_sem,e_ZNext,e_CBoolD,hg,hgc,onC_cod hb,cv_min,codV_min,cp_add,hne,hne2,e2,e256,a22,u256]
  (repeat with_reducible refine And.intro (by first | exact True.intro | decide | omega | (simp [zik,zgl,zgm,zgn,zgp,zgo,zgt];first | done | omega)) ?_)
  simp only [blkE,blkP,bhq,Nat.reduceMod,Nat.reduceDiv,stepH,stepM,toMs1,toMs,toMs0,strK,pubK,pubF,pubV,yaq,yar,yao,yap,go_sem,e_ZNext,e_CBoolD,hg,hgc,onC_cod hb,cv_min,codV_min,cp_add,hne,hne2,e2,e256,a22,u256]
  refine weak_objA (s:=4) (actC b v false false) rfl (by simp only [go_sem];rfl) ?_ ?_
  · simp [actC,gActions,actionAV,paramAV,primAV,vc,cp,AV.cells,wkD_agg,wkD_slice,wkDL_cons,wkDL_nil,wkDR_cons,wkDR_nil,wkD_int,wkD_str,wkD_bool,wkM]
    have:=cv_lt (b:=b) (v:=v+1) (n:=256) (by decide)
    omega
  simp only [blkE,blkP,bhq,Nat.reduceMod,Nat.reduceDiv,stepH,stepM,toMs1,toMs,toMs0,strK,pubK,pubF,pubV,yaq,yar,yao,yap,go_sem,e_ZNext,e_CBoolD,hg,hgc,onC_cod hb,cv_min,codV_min,cp_add,hne,hne2,e2,e256,a22,u256]
  refine cond_split (fun h1=>?_) (fun h1=>?_)
  all_goals
    simp only [blkE,blkP,bhq,Nat.reduceMod,Nat.reduceDiv,stepH,stepM,toMs1,toMs,toMs0,strK,pubK,pubF,pubV,yaq,yar,yao,yap,go_sem,e_ZNext,e_CBoolD,hg,hgc,onC_cod hb,cv_min,codV_min,cp_add,hne,hne2,e2,e256,a22,u256,actC,gActions,List.flatMap_cons,List.flatMap_nil,actionAV,AV.cells,yal,yak]
    (repeat with_reducible refine And.intro (by first | exact True.intro | decide | omega | (simp [zik,zgl,zgm,zgn,zgp,zgo,zgt];first | done | omega)) ?_)
    refine cond_split (fun h2=>?_) (fun h2=>?_)
  all_goals
    try simp only [blkE,blkP,bhq,Nat.reduceMod,Nat.reduceDiv,stepH,stepM,toMs1,toMs,toMs0,strK,pubK,pubF,pubV,yaq,yar,yao,yap,go_sem,e_ZNext,e_CBoolD,hg,hgc,onC_cod hb,cv_min,codV_min,cp_add,hne,hne2,e2,e256,a22,u256,actC,gActions,List.flatMap_cons,List.flatMap_nil,actionAV,AV.cells,yal,yak]
    (repeat with_reducible refine And.intro (by first | exact True.intro | decide | omega | (simp [zik,zgl,zgm,zgn,zgp,zgo,zgt];first | done | omega)) ?_)
    have hA:=actC_all (b:=b) (v:=v)
    rw [show decide (cv b (v+2) 2=1)=_ from h1,show decide (cv b (v+3) 2=1)=_ from h2] at hA
    have hr:=rowsOf_flat (sz:=5) (by decide) (fun t=>(actionAV t).cells) (fun _=>rfl) (gActions b v)
    rw [← hA] at hr
    subst hres
    refine ⟨?_,?_,hcl2 _,lt_map lt_action⟩
    · simp only [wk,wk2,wk1,go_sem,yap,true_or,true_and]
      refine ⟨?_,?_⟩
      · exact hr.symm
      · rw [zmp (by (try simp only [zkz]);omega)]
    · refine But.le (id:=id) ?_ ?_
      · repeat (first | exact But.self | refine But.push ?_ _ | refine But.set ?_ _ (by first | exact .inl rfl | exact .inr (by (try simp only [zky,zkz]);omega)))
      · simp only [go_sem,hne,hne2,hgc,cp]
end Go.AL

