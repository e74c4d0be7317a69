/- Contracts and plain laws, a part of the proof; no condition of its own. -/
import Derived.Test.YthpglnacipgolaaGreatW03j
open Go Go.AL Go.Proofs
namespace Go.AL
set_option linter.all false
set_option maxRecDepth 10000
theorem ti_schema:ti Tryz.prog 31=some ⟨.struct [(0,22,false),(1,23,false),(2,24,false),(3,25,false),(4,26,false),(5,27,false),(6,28,false),(7,29,false),(8,3,false),(9,3,false)],10,208,.agg [.slice .nil 1 [],.slice .nil 1 [],.slice .nil 1 [],.slice .nil 1 [],.slice .nil 1 [],.slice .nil 1 [],.slice .nil 1 [],.slice .nil 1 [],.int .i64 0,.int .i64 0]⟩:=by kernel_rfl
attribute [go_sem] ti_schema
theorem lt_sl0 {n sz:Nat}:AV.lt n (.slice .any sz []):=lt_sliceZ fun x hx=>absurd hx (by simp)
/-- what Encode returns -/
def encO (x:Sch):List UInt8 × Int :=
  if (eSch x).l=true then ([],3) else if (eSch x).f=true then ([],2) else if (eSch x).a=true then ([],4) else if 8000<(eSch x).b.length then ([],3) else ((eSch x).b,0)
def pEnc:List AV→AHeap→(AV→Prop)→Prop
  | [.agg l],_,K=>∃ x:Sch,(l=schC x∧OkSch x∧(eSch x).b.length≤encMax)∧K (.tup [.slice .any 1 (bys (encO x).1),.int .i64 (encO x).2])
  | _,_,_=>False
theorem SOn.leq {H HB:AHeap} {id q:Nat} {s0 s:Enc} (hW:SOn HB id q s0) (hle:H.Le HB) (h1:H.nx≤id) (h2:H.nx≤q):H.Le (swH HB id q s):=by
  refine ⟨hle.nx,fun j x hj=>?_⟩
  have hj2:=AHeap.get_lt hj
  unfold swH
  rw [AHeap.get_set_ne _ _ (by omega),AHeap.get_set_ne _ _ (by omega)]
  exact hle.get _ _ hj
theorem encO_cases {x:Sch} {RE:List UInt8 × Int} (h:encO x=RE) :
    ((eSch x).l=true∧RE=([],3))∨((eSch x).l=false∧(eSch x).f=true∧RE=([],2))∨((eSch x).l=false∧(eSch x).f=false∧(eSch x).a=true∧RE=([],4)) ∨
    ((eSch x).l=false∧(eSch x).f=false∧(eSch x).a=false∧8000<(eSch x).b.length∧RE=([],3))∨((eSch x).l=false∧(eSch x).f=false∧(eSch x).a=false∧(eSch x).b.length≤8000∧RE=((eSch x).b,0)):=by
  subst h
  unfold encO
  cases (eSch x).l<;>cases (eSch x).f<;>cases (eSch x).a<;>simp
  omega
/-- all that is written, in the order of the writing -/
theorem eSch_eq (x:Sch):enc0.add (eSch x)=(((((((((enc0.add (eNum x.maxBatch 2)).add (eNum x.budget 2)).add (eList eField 32 x.fields)).add (eList eHeader 8 x.headers)).add (eList eState 12 x.states)).add (eList eAction 12 x.actions)).add (eList eTable 8 x.tables)).add (eList eStage 12 x.stages)).add (eList eRole 6 x.roles)).add (eList eRef 8 x.refs):=by
  unfold eSch ePacket
  simp only [enc_assoc]
def p_zEnc:=pEnc
set_option maxHeartbeats 16000000 in
theorem ok_zEnc:EntOk Tryz.prog 17 (Ent.pure p_zEnc):=by
  unfold p_zEnc
  refine EntOk.pure fun args H K h=>?_
  unfold pEnc at h
  split at h
  rotate_left
  · exact h.elim
  rename_i l
  obtain ⟨x,⟨rfl,ha,hl⟩,hK⟩:=h
  refine ⟨_,hK,?_⟩
  clear hK
  refine ACalls.of_aw (Ω:=[(55,Ent.effect e_zNum),(57,Ent.pure p_cdFld),(56,Ent.effect e_putFld),(59,Ent.pure p_cdHdr),(58,Ent.effect e_putHdr),(61,Ent.pure p_cdSta),(60,Ent.effect e_putSta),(63,Ent.pure p_cdAct),(62,Ent.effect e_putAct),(65,Ent.pure p_cdTab),(64,Ent.effect e_putTab),(67,Ent.pure p_cdStg),(66,Ent.effect e_putStg),(69,Ent.pure p_cdRol),(68,Ent.effect e_putRol),(71,Ent.pure p_cdRef),(70,Ent.effect e_putRef)]) (T:=assoc [(4,[[],[],[],[0,2]]),(5,[[],[],[],[0,2]]),(6,[[],[],[],[0,2]]),(7,[[],[],[],[0,2]]),(8,[[],[],[],[0,2]]),(9,[[],[],[],[0,2]]),(10,[[],[],[],[0,2]]),(11,[[],[],[],[0,2]]),(2,[[1]])]) mixed (TblOk.cons ok_zNum (TblOk.cons ok_cdFld (TblOk.cons ok_putFld (TblOk.cons ok_cdHdr (TblOk.cons ok_putHdr (TblOk.cons ok_cdSta (TblOk.cons ok_putSta (TblOk.cons ok_cdAct (TblOk.cons ok_putAct (TblOk.cons ok_cdTab (TblOk.cons ok_putTab (TblOk.cons ok_cdStg (TblOk.cons ok_putStg (TblOk.cons ok_cdRol (TblOk.cons ok_putRol (TblOk.cons ok_cdRef (TblOk.cons ok_putRef TblOk.nil))))))))))))))))) Tryz.func17 (by kernel_rfl) (by rfl) (rs:=[.tmp 2,.tmp 3]) (by rfl) (by kernel_rfl) (by simp only [Tryz.ntmps17,List.length_cons,List.length_nil];decide) (Nat.le_refl _) fun hcl hlt=>?_
  change aw _ _ _ (KI Tryz.prog [(55,Ent.effect e_zNum),(57,Ent.pure p_cdFld),(56,Ent.effect e_putFld),(59,Ent.pure p_cdHdr),(58,Ent.effect e_putHdr),(61,Ent.pure p_cdSta),(60,Ent.effect e_putSta),(63,Ent.pure p_cdAct),(62,Ent.effect e_putAct),(65,Ent.pure p_cdTab),(64,Ent.effect e_putTab),(67,Ent.pure p_cdStg),(66,Ent.effect e_putStg),(69,Ent.pure p_cdRol),(68,Ent.effect e_putRol),(71,Ent.pure p_cdRef),(70,Ent.effect e_putRef)] (aEnd Tryz.prog [.tmp 2,.tmp 3] H.nx _ _ (assoc [(4,[[],[],[],[0,2]]),(5,[[],[],[],[0,2]]),(6,[[],[],[],[0,2]]),(7,[[],[],[],[0,2]]),(8,[[],[],[],[0,2]]),(9,[[],[],[],[0,2]]),(10,[[],[],[],[0,2]]),(11,[[],[],[],[0,2]]),(2,[[1]])])) []) _ _
  clear hlt
  simp only [go_sem,schC,schAV]
  refine weak_cell 4 0 1 (cs:=[AV.slice .nil 1 [],.bool false,.bool false,.bool false]) rfl (by simp only [go_sem]) rfl ?_
  obtain ⟨HB,hHB⟩:∃ HB,HB=(((H.push (.cells (schC x))).push (.buf 1 0)).push (.cells (swC (H.nx+1+1+1) [] false false false))).push (.buf 1 0):=⟨_,rfl⟩
  have hnB:HB.nx=H.nx+1+1+1+1:=by rw [hHB];rfl
  have hW:SOn HB (H.nx+1+1) (H.nx+1+1+1) enc0:=by
    rw [hHB]
    exact ⟨by simp [zlb,zky,zlf,swC,enc0],by simp [zlb,zky,enc0]⟩
  have hcB:HB.Closed:=by
    have h1:=closed_set (i:=H.nx+1+1) (cs:=swC (H.nx+1+1+1) [] false false false) (closed_buf (a:=1) (b:=0) (closed_cells (cs:=[]) (closed_buf (a:=1) (b:=0) (closed_cells (cs:=schC x) hcl (by have:=lt_sch (n:=H.nx+1) x;simp only [schAV,znl] at this;exact this))) trivial)) (by simp only [swC,zno,znp,zna,and_true,zky];rw [lt_sliceL];exact ⟨fun id h=>(by cases h;omega),trivial⟩)
    simp only [go_sem] at h1
    rw [hHB];exact h1
  have hcr:cellsOf? HB H.nx=some (schC x):=by rw [hHB];simp only [go_sem]
  have hle:H.Le HB:=by rw [hHB];repeat (first | exact AHeap.Le.refl _ | refine AHeap.Le.push ?_ _)
  have hcw:∀ s,cellsOf? (swH HB (H.nx+1+1) (H.nx+1+1+1) s) H.nx=some (schC x):=fun s=>by rw [swH_cells (by omega) (by omega),hcr]
  have hcI:∀ s,cellsOf? (swH HB (H.nx+1+1) (H.nx+1+1+1) s) (H.nx+1+1)=some (swC (H.nx+1+1+1) s.b s.l s.f s.a):=fun s=>cells_some (hW.next s).o
  have hlW:∀ s,H.Le (swH HB (H.nx+1+1) (H.nx+1+1+1) s):=fun s=>hW.leq hle (by omega) (by omega)
  have hcl1:=fun t=>hW.closed (t:=t) hcB
  have hF:=hW.facts
  simp only [bhq,Nat.reduceMod,Nat.reduceDiv,stepH,stepM,toMs1,toMs,toMs0,strK,pubK,pubF,pubV,List.take_succ_cons,List.take_zero,List.drop_succ_cons,List.drop_zero,go_sem,zlf,List.set_cons_zero]
  rw [show (((H.push (.cells [.slice .any 3 (x.fields.map fieldAV),.slice .any 3 (x.headers.map headerAV),.slice .any 5 (x.states.map stateAV),.slice .any 5 (x.actions.map actionAV),.slice .any 8 (x.tables.map tableAV),.slice .any 2 (x.stages.map stageAV),.slice .any 6 (x.roles.map roleAV),.slice .any 6 (x.refs.map refAV),.int .i64 x.maxBatch,.int .i64 x.budget])).push (.buf 1 0)).push (.cells [.slice (.own (H.nx+1+1+1)) 1 [],.bool false,.bool false,.bool false])).push (.buf 1 0)=HB from hHB.symm]
  clear hHB
  obtain ⟨RE,hRE⟩:∃ RE,encO x=RE:=⟨_,rfl⟩
  have hR:=encO_cases hRE
  rw [hRE]
  have hTot:=eSch_eq x
  rw [enc_0add] at hTot
  rw [hTot] at hl
  have hl10:=hl
  have hl9:=enc_pre hl10
  have hl8:=enc_pre hl9
  have hl7:=enc_pre hl8
  have hl6:=enc_pre hl7
  have hl5:=enc_pre hl6
  have hl4:=enc_pre hl5
  have hl3:=enc_pre hl4
  have hl2:=enc_pre hl3
  have hl1:=enc_pre hl2
  try simp only [go_sem,hcw,hcI,swC,schC,swH_nx,hnB,List.length_map,hcr,p_cdFld,p_cdHdr,p_cdSta,p_cdAct,p_cdTab,p_cdStg,p_cdRol,p_cdRef]
  refine w_num (.inr rfl) hW hl1 ?_
  simp only [go_sem,hcw,hcI,swC,schC,swH_nx,hnB,List.length_map,p_cdFld,p_cdHdr,p_cdSta,p_cdAct,p_cdTab,p_cdStg,p_cdRol,p_cdRef]
  refine w_num (.inr rfl) (hW.next _) hl2 ?_
  rw [hF.pp]
  simp only [go_sem,hcw,hcI,swC,schC,swH_nx,hnB,List.length_map,p_cdFld,p_cdHdr,p_cdSta,p_cdAct,p_cdTab,p_cdStg,p_cdRol,p_cdRef]
  refine w_put (c:=fieldAV) (ha.f) (hW.next _) hl3 ?_
  rw [hF.pp]
  simp only [go_sem,hcw,hcI,swC,schC,swH_nx,hnB,List.length_map,p_cdFld,p_cdHdr,p_cdSta,p_cdAct,p_cdTab,p_cdStg,p_cdRol,p_cdRef]
  refine w_put (c:=headerAV) (ha.h) (hW.next _) hl4 ?_
  rw [hF.pp]
  simp only [go_sem,hcw,hcI,swC,schC,swH_nx,hnB,List.length_map,p_cdFld,p_cdHdr,p_cdSta,p_cdAct,p_cdTab,p_cdStg,p_cdRol,p_cdRef]
  refine w_put (c:=stateAV) (ha.s) (hW.next _) hl5 ?_
  rw [hF.pp]
  simp only [go_sem,hcw,hcI,swC,schC,swH_nx,hnB,List.length_map,p_cdFld,p_cdHdr,p_cdSta,p_cdAct,p_cdTab,p_cdStg,p_cdRol,p_cdRef]
  refine w_put (c:=actionAV) (ha.a) (hW.next _) hl6 ?_
  rw [hF.pp]
  simp only [go_sem,hcw,hcI,swC,schC,swH_nx,hnB,List.length_map,p_cdFld,p_cdHdr,p_cdSta,p_cdAct,p_cdTab,p_cdStg,p_cdRol,p_cdRef]
  refine w_put (c:=tableAV) (ha.t) (hW.next _) hl7 ?_
  rw [hF.pp]
  simp only [go_sem,hcw,hcI,swC,schC,swH_nx,hnB,List.length_map,p_cdFld,p_cdHdr,p_cdSta,p_cdAct,p_cdTab,p_cdStg,p_cdRol,p_cdRef]
  refine w_put (c:=stageAV) (fun _ _=>trivial) (hW.next _) hl8 ?_
  rw [hF.pp]
  simp only [go_sem,hcw,hcI,swC,schC,swH_nx,hnB,List.length_map,p_cdFld,p_cdHdr,p_cdSta,p_cdAct,p_cdTab,p_cdStg,p_cdRol,p_cdRef]
  refine w_put (c:=roleAV) (ha.r) (hW.next _) hl9 ?_
  rw [hF.pp]
  simp only [go_sem,hcw,hcI,swC,schC,swH_nx,hnB,List.length_map,p_cdFld,p_cdHdr,p_cdSta,p_cdAct,p_cdTab,p_cdStg,p_cdRol,p_cdRef]
  refine w_put (c:=refAV) (fun _ _=>trivial) (hW.next _) hl10 ?_
  rw [hF.pp]
  rw [← hTot]
  rcases hR with ⟨h1,rfl⟩ | ⟨h1,h2,rfl⟩ | ⟨h1,h2,h3,rfl⟩ | ⟨h1,h2,h3,h4,rfl⟩ | ⟨h1,h2,h3,h4,rfl⟩
  · skip
    try simp only [go_sem,hcw,hcI,swC,schC,swH_nx,hnB,List.length_map,h1,zle]
    try (repeat with_reducible refine And.intro (by first | exact True.intro | decide | omega | (simp [zik,zgl,zgm,zgn,zgp,zgo,zgt];first | done | omega)) ?_)
    refine ⟨?_,by first | exact hlW _ | (repeat refine AHeap.Le.push ?_ _;exact hlW _),hcl,?_⟩
    · simp [wk,wk2,wk1,wkLL,wkM,zlf]
    · simp [znm,zno,znp,zmm,zmz,zlf,lt_sl0]
  · skip
    try simp only [go_sem,hcw,hcI,swC,schC,swH_nx,hnB,List.length_map,h1,h2,zle]
    try (repeat with_reducible refine And.intro (by first | exact True.intro | decide | omega | (simp [zik,zgl,zgm,zgn,zgp,zgo,zgt];first | done | omega)) ?_)
    refine ⟨?_,by first | exact hlW _ | (repeat refine AHeap.Le.push ?_ _;exact hlW _),hcl,?_⟩
    · simp [wk,wk2,wk1,wkLL,wkM,zlf]
    · simp [znm,zno,znp,zmm,zmz,zlf,lt_sl0]
  · skip
    try simp only [go_sem,hcw,hcI,swC,schC,swH_nx,hnB,List.length_map,h1,h2,h3,zle]
    try (repeat with_reducible refine And.intro (by first | exact True.intro | decide | omega | (simp [zik,zgl,zgm,zgn,zgp,zgo,zgt];first | done | omega)) ?_)
    refine ⟨?_,by first | exact hlW _ | (repeat refine AHeap.Le.push ?_ _;exact hlW _),hcl,?_⟩
    · simp [wk,wk2,wk1,wkLL,wkM,zlf]
    · simp [znm,zno,znp,zmm,zmz,zlf,lt_sl0]
  · skip
    have d4:decide (((eSch x).b.length:Int) > 8000)=true:=decide_eq_true (by omega)
    try simp only [go_sem,hcw,hcI,swC,schC,swH_nx,hnB,List.length_map,h1,h2,h3,d4,zle]
    try (repeat with_reducible refine And.intro (by first | exact True.intro | decide | omega | (simp [zik,zgl,zgm,zgn,zgp,zgo,zgt];first | done | omega)) ?_)
    refine ⟨?_,by first | exact hlW _ | (repeat refine AHeap.Le.push ?_ _;exact hlW _),hcl,?_⟩
    · simp [wk,wk2,wk1,wkLL,wkM,zlf]
    · simp [znm,zno,znp,zmm,zmz,zlf,lt_sl0]
  · skip
    have d4:decide (((eSch x).b.length:Int) > 8000)=false:=decide_eq_false (by omega)
    try simp only [go_sem,hcw,hcI,swC,schC,swH_nx,hnB,List.length_map,h1,h2,h3,d4,zle]
    try (repeat with_reducible refine And.intro (by first | exact True.intro | decide | omega | (simp [zik,zgl,zgm,zgn,zgp,zgo,zgt];first | done | omega)) ?_)
    refine ⟨?_,by first | exact hlW _ | (repeat refine AHeap.Le.push ?_ _;exact hlW _),hcl,?_⟩
    · simp [wk,wk2,wk1,wkLL,wkM,zlf]
    · simp [znm,zno,znp,zmm,zmz,zlf,lt_sl0]
end Go.AL


open Go Go.AL Go.Proofs
namespace Go.AL
set_option linter.all false
set_option maxRecDepth 10000

end Go.AL

