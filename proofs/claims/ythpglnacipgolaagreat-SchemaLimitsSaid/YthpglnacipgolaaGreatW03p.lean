/- Contracts and plain laws, a part of the proof; no condition of its own. -/
import Derived.Test.YthpglnacipgolaaGreatW03l
open Go Go.AL Go.Proofs
namespace Go.AL
set_option linter.all false
set_option maxRecDepth 10000
theorem ti_u8s:ti Tryz.prog 32=some ⟨.slice 5,1,24,.slice .nil 1 []⟩:=by kernel_rfl
attribute [go_sem] ti_u8s
def begS:Sch:=⟨[],[],[],[],[],[],[],[],1,2⟩
theorem begS_enc:encO begS=([0,1,0,2,0,0,0,0,0,0,0,0,0,0,0,0,0,0,0,0],0):=by decide +kernel
theorem begS_len:(eSch begS).b.length≤encMax:=by decide +kernel
theorem begS_ok:OkSch begS:=⟨by simp [begS],by simp [begS],by simp [begS],by simp [begS],by simp [begS],by simp [begS]⟩
def p_begun03:List AV→AHeap→(AV→Prop)→Prop
  | [],_,K=>K (.bool true)
  | _,_,_=>False
set_option maxHeartbeats 2000000 in
theorem ok_begun03:EntOk Tryz.prog 13 (Ent.pure p_begun03):=by
  refine EntOk.pure fun args H K h=>?_
  unfold p_begun03 at h
  split at h
  rotate_left
  · exact h.elim
  refine ⟨_,h,?_⟩
  clear h
  refine ACalls.of_aw (Ω:=[(17,Ent.pure p_zEnc)]) (T:=assoc [(802,[[100005]]),(1,[[4]])]) mixed (TblOk.cons ok_zEnc TblOk.nil) Tryz.func13 (by kernel_rfl) (by rfl) (rs:=[.tmp 0]) (by rfl) (by kernel_rfl) (by simp only [Tryz.ntmps13,List.length_cons,List.length_nil];decide) (Nat.le_refl _) fun hcl hlt=>?_
  change aw _ _ _ (KI Tryz.prog [(17,Ent.pure p_zEnc)] (aEnd Tryz.prog [.tmp 0] H.nx _ _ (assoc [(802,[[100005]]),(1,[[4]])])) []) _ _
  clear hlt
  simp only [bhq,Nat.reduceMod,Nat.reduceDiv,stepH,stepM,toMs1,toMs,toMs0,strK,pubK,pubF,pubV,List.take_succ_cons,List.take_zero,List.drop_succ_cons,List.drop_zero,go_sem,byq]
  refine weak_slot 4 (.agg (schC begS)) ?_ ?_
  · simp [Fr.get,schC,begS,wkD_agg,wkD_slice,wkDL_cons,wkDL_nil,wkDR_cons,wkDR_nil,wkD_int,wkM]
  simp only [bhq,Nat.reduceMod,Nat.reduceDiv,stepH,stepM,toMs1,toMs,toMs0,strK,pubK,pubF,pubV,List.take_succ_cons,List.take_zero,List.drop_succ_cons,List.drop_zero,go_sem,byq,p_zEnc,pEnc]
  refine ⟨begS,⟨rfl,begS_ok,begS_len⟩,?_⟩
  rw [begS_enc]
  simp only [go_sem,byq,Int.reduceBEq]
  rw [show rowsOf 1 16 (bys (List.replicate 16 0))=bys (List.replicate 16 0) from rfl]
  refine ⟨by decide,fun y hy=>?_,by decide,?_⟩
  · obtain ⟨c,_,rfl⟩:=List.mem_map.1 (show y∈(List.replicate 16 (0:UInt8)).map ofByte from hy)
    exact ⟨_,rfl⟩
  · refine ⟨?_,by repeat (first | exact AHeap.Le.refl _ | refine AHeap.Le.push ?_ _),hcl,?_⟩
    · simp only [wk,wk2,wk1];rfl
    · simp [zna]
end Go.AL


open Go Go.AL Go.Proofs
namespace Go.AL
set_option linter.all false
set_option maxRecDepth 10000
theorem ti_fsAct:ti Tryz.prog 25=some ⟨.slice 53,1,24,.slice .nil 1 []⟩:=by kernel_rfl
theorem ti_fsTab:ti Tryz.prog 26=some ⟨.slice 49,1,24,.slice .nil 1 []⟩:=by kernel_rfl
theorem ti_fsRol:ti Tryz.prog 28=some ⟨.slice 125,1,24,.slice .nil 1 []⟩:=by kernel_rfl
theorem ti_fsFld:ti Tryz.prog 22=some ⟨.slice 76,1,24,.slice .nil 1 []⟩:=by kernel_rfl
theorem ti_fsPar:ti Tryz.prog 50=some ⟨.slice 122,1,24,.slice .nil 1 []⟩:=by kernel_rfl
theorem ti_fsRef:ti Tryz.prog 29=some ⟨.slice 120,1,24,.slice .nil 1 []⟩:=by kernel_rfl
theorem ti_fsPrm:ti Tryz.prog 51=some ⟨.slice 129,1,24,.slice .nil 1 []⟩:=by kernel_rfl
theorem ti_fsStg:ti Tryz.prog 27=some ⟨.slice 78,1,24,.slice .nil 1 []⟩:=by kernel_rfl
theorem ti_fsInt:ti Tryz.prog 46=some ⟨.slice 3,1,24,.slice .nil 1 []⟩:=by kernel_rfl
theorem ti_xact:ti Tryz.prog 53=some ⟨.struct [(0,3,false),(1,9,false),(2,50,false),(3,51,false),(4,9,false)],5,88,.agg [.int .i64 0,.str [],.slice .nil 1 [],.slice .nil 1 [],.str []]⟩:=by kernel_rfl
theorem ti_xtab:ti Tryz.prog 49=some ⟨.struct [(0,3,false),(1,9,false),(2,45,false),(3,46,false),(4,3,false),(5,47,false),(6,3,false),(7,9,false)],8,128,.agg [.int .i64 0,.str [],.slice .nil 1 [],.slice .nil 1 [],.int .i64 0,.slice .nil 1 [],.int .i64 0,.str []]⟩:=by kernel_rfl
theorem ti_xrol:ti Tryz.prog 125=some ⟨.struct [(0,3,false),(1,9,false),(2,123,false),(3,46,false),(4,3,false),(5,4,false)],6,88,.agg [.int .i64 0,.str [],.slice .nil 1 [],.slice .nil 1 [],.int .i64 0,.bool false]⟩:=by kernel_rfl
theorem ti_xfld:ti Tryz.prog 76=some ⟨.struct [(0,3,false),(1,9,false),(2,3,false)],3,32,.agg [.int .i64 0,.str [],.int .i64 0]⟩:=by kernel_rfl
theorem ti_xpar:ti Tryz.prog 122=some ⟨.struct [(0,9,false),(1,3,false)],2,24,.agg [.str [],.int .i64 0]⟩:=by kernel_rfl
theorem ti_xprm:ti Tryz.prog 129=some ⟨.struct [(0,3,false),(1,3,false),(2,127,false)],6,48,.agg [.int .i64 0,.int .i64 0,.int .i64 0,.int .i64 0,.int .u64 0,.int .u64 0]⟩:=by kernel_rfl
theorem ti_xopd:ti Tryz.prog 127=some ⟨.struct [(0,3,false),(1,3,false),(2,83,false)],4,32,.agg [.int .i64 0,.int .i64 0,.int .u64 0,.int .u64 0]⟩:=by kernel_rfl
theorem ti_xref:ti Tryz.prog 120=some ⟨.struct [(0,3,false),(1,3,false),(2,3,false),(3,3,false),(4,3,false),(5,3,false)],6,48,.agg [.int .i64 0,.int .i64 0,.int .i64 0,.int .i64 0,.int .i64 0,.int .i64 0]⟩:=by kernel_rfl
theorem ti_xstg:ti Tryz.prog 78=some ⟨.struct [(0,3,false),(1,3,false)],2,16,.agg [.int .i64 0,.int .i64 0]⟩:=by kernel_rfl
attribute [go_sem] ti_fsAct ti_fsTab ti_fsRol ti_fsFld ti_fsPar ti_fsRef ti_fsPrm ti_fsStg ti_fsInt ti_xact ti_xtab ti_xrol ti_xfld ti_xpar ti_xprm ti_xopd ti_xref ti_xstg
end Go.AL


open Go Go.AL Go.Proofs
namespace Go.AL
set_option linter.all false
set_option maxRecDepth 10000

/-! ### How long an encoding can be -/
theorem wValue_len3 {v:Nat} (h:v<2^128):(wValue v).length≤17:=by
  unfold wValue
  rw [List.length_cons,vBytes_len]
  have:=vLen_le h
  omega
theorem lenNum (n w:Int):(eNum n w).b.length≤4:=wUint_len n w
theorem lenTxt (s:List UInt8) (m:Int):(eTxt s m).b.length≤65537:=wBytes_len s
theorem lenVal {v:Nat} (h:okVal v):(eVal v).b.length≤17:=wValue_len3 h
theorem lenTru (x:Bool):(eTru x).b.length≤1:=by simp [eTru]
theorem lenAll {α:Type} {g:α→Enc} {B:Nat}:∀ {l:List α},(∀ a∈l,(g a).b.length≤B)→(eAll g l).b.length≤l.length*B
  | [],_=>Nat.zero_le _
  | x::l,h=>by
    rw [eAll,enc_len,List.length_cons,Nat.succ_mul]
    have:=h x List.mem_cons_self
    have:=lenAll (l:=l) fun a ha=>h a (List.mem_cons_of_mem _ ha)
    omega
theorem lenList {α:Type} {g:α→Enc} {m:Int} {n B:Nat} {l:List α} (hl:l.length≤n) (h:∀ a∈l,(g a).b.length≤B):(eList g m l).b.length≤4+n*B:=by
  unfold eList eCnt
  rw [enc_len]
  have h1:=lenAll h
  have h2:=wUint_len (l.length:Int) 2
  have h3:l.length*B≤n*B:=Nat.mul_le_mul_right _ hl
  dsimp only
  omega
/-- a schema whose lists are not too long -/
structure SmP (N R:Nat) (x:Sch):Prop where
  f:x.fields.length≤N∧∀ a∈x.fields,okTx a.name
  h:x.headers.length≤N∧∀ a∈x.headers,okTx a.name∧a.fields.length≤R
  s:x.states.length≤N∧∀ a∈x.states,a.cases.length≤R∧∀ c∈a.cases,okCase c
  a:x.actions.length≤N∧∀ a∈x.actions,okAction a∧a.params.length≤R∧a.body.length≤R
  t:x.tables.length≤N∧∀ a∈x.tables,okTable a∧a.keys.length≤R∧a.actions.length≤R∧a.dargs.length≤R
  g:x.stages.length≤R
  r:x.roles.length≤N∧∀ a∈x.roles,okTx a.name∧a.grants.length≤R∧a.actions.length≤R∧∀ q∈a.grants,q.keys.length≤R
  x:x.refs.length≤R
theorem SmP.ok {N R:Nat} {x:Sch} (h:SmP N R x):OkSch x :=
  ⟨h.f.2,fun a ha=>(h.h.2 a ha).1,fun a ha=>(h.s.2 a ha).2,fun a ha=>(h.a.2 a ha).1,fun a ha=>(h.t.2 a ha).1,fun a ha=>(h.r.2 a ha).1⟩
theorem SmP.mono {N R N' R':Nat} {x:Sch} (h:SmP N R x) (hN:N≤N') (hR:R≤R'):SmP N' R' x where
  f:=⟨Nat.le_trans h.f.1 hN,h.f.2⟩
  h:=⟨Nat.le_trans h.h.1 hN,fun a ha=>⟨(h.h.2 a ha).1,Nat.le_trans (h.h.2 a ha).2 hR⟩⟩
  s:=⟨Nat.le_trans h.s.1 hN,fun a ha=>⟨Nat.le_trans (h.s.2 a ha).1 hR,(h.s.2 a ha).2⟩⟩
  a:=⟨Nat.le_trans h.a.1 hN,fun a ha=>⟨(h.a.2 a ha).1,Nat.le_trans (h.a.2 a ha).2.1 hR,Nat.le_trans (h.a.2 a ha).2.2 hR⟩⟩
  t:=⟨Nat.le_trans h.t.1 hN,fun a ha=>⟨(h.t.2 a ha).1,Nat.le_trans (h.t.2 a ha).2.1 hR,Nat.le_trans (h.t.2 a ha).2.2.1 hR,Nat.le_trans (h.t.2 a ha).2.2.2 hR⟩⟩
  g:=Nat.le_trans h.g hR
  r:=⟨Nat.le_trans h.r.1 hN,fun a ha=>⟨(h.r.2 a ha).1,Nat.le_trans (h.r.2 a ha).2.1 hR,Nat.le_trans (h.r.2 a ha).2.2.1 hR,fun q hq=>Nat.le_trans ((h.r.2 a ha).2.2.2 q hq) hR⟩⟩
  x:=Nat.le_trans h.x hR
theorem SmP.len {x:Sch} (h:SmP 50 1100000 x):(eSch x).b.length≤encMax:=by
  have e1:(eList eField 32 x.fields).b.length≤4+50*65545:=lenList h.f.1 fun a _=>by
    unfold eField;rw [enc_len,enc_len]
    have:=lenNum a.id 2;have:=lenTxt a.name 24;have:=lenNum a.bits 1;omega
  have e2:(eList eHeader 8 x.headers).b.length≤4+50*(65545+1100000*4):=lenList h.h.1 fun a ha=>by
    unfold eHeader;rw [enc_len,enc_len]
    have:=lenNum a.id 2;have:=lenTxt a.name 24
    have:=lenList (g:=eInt) (m:=32) (h.h.2 a ha).2 (B:=4) fun n _=>lenNum n 2
    omega
  have e3:(eList eState 12 x.states).b.length≤4+50*(20+1100000*38):=lenList h.s.1 fun a ha=>by
    unfold eState;rw [enc_len,enc_len,enc_len,enc_len]
    have:=lenNum a.id 2;have:=lenNum a.header 2;have:=lenNum a.select 2;have:=lenNum a.dflt 2
    have:=lenList (g:=eCase) (m:=6) (h.s.2 a ha).1 (B:=38) fun c hc=>by
      unfold eCase;rw [enc_len,enc_len]
      have:=lenVal ((h.s.2 a ha).2 c hc).1;have:=lenVal ((h.s.2 a ha).2 c hc).2;have:=lenNum c.next 2;omega
    omega
  have e4:(eList eAction 12 x.actions).b.length≤4+50*(131086+1100000*65541+1100000*33):=lenList h.a.1 fun a ha=>by
    unfold eAction;rw [enc_len,enc_len,enc_len,enc_len]
    obtain ⟨h1,h2,h3⟩:=h.a.2 a ha
    have:=lenNum a.id 2;have:=lenTxt a.name 24;have:=lenTxt a.restr 400
    have:=lenList (g:=eParam) (m:=4) h2 (B:=65541) fun c hc=>by
      unfold eParam;rw [enc_len]
      have:=lenTxt c.name 24;have:=lenNum c.bits 1;omega
    have:=lenList (g:=ePrim) (m:=12) h3 (B:=33) fun c hc=>by
      unfold ePrim;rw [enc_len,enc_len,enc_len,enc_len]
      have:=lenNum c.op 1;have:=lenNum c.dst 2;have:=lenNum c.kind 1;have:=lenNum c.n 2;have:=lenVal (h1.2.2.1 c hc);omega
    omega
  have e5:(eList eTable 8 x.tables).b.length≤4+50*(131098+1100000*65545+1100000*4+1100000*17):=lenList h.t.1 fun a ha=>by
    unfold eTable;simp only [enc_len]
    obtain ⟨h1,h2,h3,h4⟩:=h.t.2 a ha
    have:=lenNum a.id 2;have:=lenTxt a.name 24;have:=lenTxt a.restr 400;have:=lenNum a.dflt 2;have:=lenNum a.size 2
    have:=lenList (g:=eKey) (m:=4) h2 (B:=65545) fun c hc=>by
      unfold eKey;rw [enc_len,enc_len]
      have:=lenTxt c.name 24;have:=lenNum c.field 2;have:=lenNum c.kind 1;omega
    have:=lenList (g:=eInt) (m:=12) h3 (B:=4) fun n _=>lenNum n 2
    have:=lenList (g:=eVal) (m:=4) h4 (B:=17) fun v hv=>lenVal (h1.2.2.1 v hv)
    omega
  have e6:(eList eStage 12 x.stages).b.length≤4+1100000*8:=lenList h.g fun a _=>by
    unfold eStage;rw [enc_len]
    have:=lenNum a.table 2;have:=lenNum a.header 2;omega
  have e7:(eList eRole 6 x.roles).b.length≤4+50*(65560+1100000*(10+1100000*1)+1100000*4):=lenList h.r.1 fun a ha=>by
    unfold eRole;simp only [enc_len]
    obtain ⟨h1,h2,h3,h4⟩:=h.r.2 a ha
    have:=lenNum a.id 2;have:=lenTxt a.name 24;have:=lenNum a.quota 2;have:=lenTru a.audit
    have:=lenList (g:=eGrant) (m:=8) h2 (B:=10+1100000*1) fun c hc=>by
      unfold eGrant;simp only [enc_len]
      have:=lenNum c.table 2;have:=lenTru c.read;have:=lenTru c.write
      have:=lenList (g:=eTru) (m:=4) (h4 c hc) (B:=1) fun y _=>lenTru y
      omega
    have:=lenList (g:=eInt) (m:=12) h3 (B:=4) fun n _=>lenNum n 2
    omega
  have e8:(eList eRef 8 x.refs).b.length≤4+1100000*24:=lenList h.x fun a _=>by
    unfold eRef;simp only [enc_len]
    have:=lenNum a.table 2;have:=lenNum a.key 1;have:=lenNum a.action 2;have:=lenNum a.param 1;have:=lenNum a.toTable 2;have:=lenNum a.toKey 1;omega
  unfold eSch ePacket
  simp only [enc_len]
  rw [encMax_eq]
  have:=lenNum x.maxBatch 2;have:=lenNum x.budget 2
  omega
/-! ### What is generated, and what is bent -/
end Go.AL


open Go Go.AL Go.Proofs
namespace Go.AL
set_option linter.all false
set_option maxRecDepth 10000
theorem ti_schemas:ti Tryz.prog 39=some ⟨.slice 31,1,24,.slice .nil 1 []⟩:=by kernel_rfl
attribute [go_sem] ti_schemas
theorem okTx_of {s:List UInt8} (h:s.length≤1000):okTx s:=by unfold okTx;rw [encMax_eq];omega
def GrOk (n:Nat) (l:List SGrant):Prop:=l.length≤n∧∀ q∈l,q.keys.length≤1000
theorem GrOk.nil {n:Nat}:GrOk n []:=⟨Nat.zero_le _,fun q hq=>by cases hq⟩
theorem GrOk.cons {n:Nat} {l:List SGrant} {q:SGrant} (h:GrOk n l) (hq:q.keys.length≤1000):GrOk (n+1) (q::l) :=
  ⟨Nat.succ_le_succ h.1,fun x hx=>(List.mem_cons.1 hx).elim (fun e=>e ▸ hq) (h.2 x)⟩
theorem GrOk.up {n:Nat} {l:List SGrant} (h:GrOk n l):GrOk (n+1) l:=⟨Nat.le_succ_of_le h.1,h.2⟩
end Go.AL

