/- Contracts and plain laws, a part of the proof; no condition of its own. -/
import Derived.Test.YthpglnacipgolaaGreatLGen
import Derived.Test.YthpglnacipgolaaGreatLRd2
/- Schemas and entries as data, how they stand in memory, and the schema and the entries that a list of choices gives. No program. -/
namespace Go.AL
set_option linter.all false
/-- the two cells of a value -/
def vc (v:Nat):List AV:=[.int .u64 ((v/2^64:Nat):Int),.int .u64 ((v % 2^64:Nat):Int)]
def inL (l:List Int):List AV:=l.map (.int .i64)
def boL (l:List Bool):List AV:=l.map .bool
structure SField where
  id:Int
  name:List UInt8
  bits:Int
structure SHeader where
  id:Int
  name:List UInt8
  fields:List Int
structure SCase where
  value:Nat
  mask:Nat
  next:Int
structure SState where
  id:Int
  header:Int
  select:Int
  cases:List SCase
  dflt:Int
structure SPrim where
  op:Int
  dst:Int
  kind:Int
  n:Int
  value:Nat
structure SParam where
  name:List UInt8
  bits:Int
structure SAction where
  id:Int
  name:List UInt8
  params:List SParam
  body:List SPrim
  restr:List UInt8
structure SKey where
  name:List UInt8
  field:Int
  kind:Int
structure STable where
  id:Int
  name:List UInt8
  keys:List SKey
  actions:List Int
  dflt:Int
  dargs:List Nat
  size:Int
  restr:List UInt8
structure SStage where
  table:Int
  header:Int
structure SGrant where
  table:Int
  read:Bool
  write:Bool
  keys:List Bool
structure SRole where
  id:Int
  name:List UInt8
  grants:List SGrant
  actions:List Int
  quota:Int
  audit:Bool
structure SRef where
  table:Int
  key:Int
  action:Int
  param:Int
  toTable:Int
  toKey:Int
structure Sch where
  fields:List SField
  headers:List SHeader
  states:List SState
  actions:List SAction
  tables:List STable
  stages:List SStage
  roles:List SRole
  refs:List SRef
  maxBatch:Int
  budget:Int
def fieldAV (x:SField):AV:=.agg [.int .i64 x.id,.str x.name,.int .i64 x.bits]
def headerAV (x:SHeader):AV:=.agg [.int .i64 x.id,.str x.name,.slice .any 1 (inL x.fields)]
def caseAV (x:SCase):AV:=.agg (vc x.value++vc x.mask++[.int .i64 x.next])
def stateAV (x:SState):AV:=.agg [.int .i64 x.id,.int .i64 x.header,.int .i64 x.select,.slice .any 5 (x.cases.map caseAV),.int .i64 x.dflt]
def primAV (x:SPrim):AV:=.agg ([.int .i64 x.op,.int .i64 x.dst,.int .i64 x.kind,.int .i64 x.n]++vc x.value)
def paramAV (x:SParam):AV:=.agg [.str x.name,.int .i64 x.bits]
def actionAV (x:SAction):AV:=.agg [.int .i64 x.id,.str x.name,.slice .any 2 (x.params.map paramAV),.slice .any 6 (x.body.map primAV),.str x.restr]
def keyAV (x:SKey):AV:=.agg [.str x.name,.int .i64 x.field,.int .i64 x.kind]
def tableAV (x:STable):AV:=.agg [.int .i64 x.id,.str x.name,.slice .any 3 (x.keys.map keyAV),.slice .any 1 (inL x.actions),.int .i64 x.dflt,.slice .any 2 (x.dargs.map vv),.int .i64 x.size,.str x.restr]
def stageAV (x:SStage):AV:=.agg [.int .i64 x.table,.int .i64 x.header]
def grantAV (x:SGrant):AV:=.agg [.int .i64 x.table,.bool x.read,.bool x.write,.slice .any 1 (boL x.keys)]
def roleAV (x:SRole):AV:=.agg [.int .i64 x.id,.str x.name,.slice .any 4 (x.grants.map grantAV),.slice .any 1 (inL x.actions),.int .i64 x.quota,.bool x.audit]
def refAV (x:SRef):AV:=.agg [.int .i64 x.table,.int .i64 x.key,.int .i64 x.action,.int .i64 x.param,.int .i64 x.toTable,.int .i64 x.toKey]
def schC (x:Sch):List AV:=[.slice .any 3 (x.fields.map fieldAV),.slice .any 3 (x.headers.map headerAV),.slice .any 5 (x.states.map stateAV),.slice .any 5 (x.actions.map actionAV),.slice .any 8 (x.tables.map tableAV),
  .slice .any 2 (x.stages.map stageAV),.slice .any 6 (x.roles.map roleAV),.slice .any 6 (x.refs.map refAV),.int .i64 x.maxBatch,.int .i64 x.budget]
def schAV (x:Sch):AV:=.agg (schC x)

/-! the states -/
end Go.AL


/- The schema that a list of choices gives: actions, tables, roles, all. No program. -/
namespace Go.AL
set_option linter.all false
end Go.AL


/- Readers of schemas as functions: the one that stops at the first error and the one that goes on agree. No program. -/
namespace Go.AL
set_option linter.all false
theorem mkOk_tr {a b c:Mark} (h:mkOk a b) (k:mkOk b c):mkOk a c:=by
  rcases k with rfl | rfl
  · exact h
  · exact .inr rfl
/-- a reader as a function -/
abbrev RM (α:Type):=RS→α × RS
def rpure {α:Type} (f:α):RM α:=fun s=>(f,s)
def rap {α β:Type} (p:RM (α→β)) (q:RM α):RM β:=fun s=>((p s).1 (q (p s).2).1,(q (p s).2).2)
def rU (w:Int):RM Int:=fun s=>uintR s w
def rT (n:Int):RM (List UInt8):=fun s=>textR s n
def rV:RM Nat:=fun s=>valueR s
def rB:RM Bool:=fun s=>boolR s
/-- elements, up to the first error -/
def goP {α:Type} (rd:RM α):Nat→RS→Option (List α) × RS
  | 0,s=>(some [],s)
  | n+1,s=>if (rd s).2.2.2≠0 then (none,(rd s).2) else ((goP rd n (rd s).2).1.map ((rd s).1::·),(goP rd n (rd s).2).2)
/-- elements -/
def goX {α:Type} (rd:RM α):Nat→RS→List α × RS
  | 0,s=>([],s)
  | n+1,s=>((rd s).1::(goX rd n (rd s).2).1,(goX rd n (rd s).2).2)
def rlP {α:Type} (rd:RM α) (m:Int):RM (List α):=fun s=>((goP rd (countR s m).1.toNat (countR s m).2).1.getD [],(goP rd (countR s m).1.toNat (countR s m).2).2)
def rlX {α:Type} (rd:RM α) (m:Int):RM (List α):=fun s=>goX rd (countR s m).1.toNat (countR s m).2
/-- what every reader does -/
structure RGo {α:Type} (p:RM α):Prop where
  l:∀ s,(p s).2.2.1.length≤s.2.1.length
  m:∀ s,mkOk s.1 (p s).2.1
  e:∀ s,s.2.2≠0→(p s).2=s
theorem rpure_go {α:Type} (f:α):RGo (rpure f):=⟨fun _=>Nat.le_refl _,fun _=>.inl rfl,fun _ _=>rfl⟩
theorem rap_go {α β:Type} {p:RM (α→β)} {q:RM α} (hp:RGo p) (hq:RGo q):RGo (rap p q) where
  l s:=Nat.le_trans (hq.l _) (hp.l s)
  m s:=mkOk_tr (hp.m s) (hq.m _)
  e s h:=by
    show (q (p s).2).2=s
    rw [hp.e s h];exact hq.e s h
theorem rU_go (w:Int):RGo (rU w) where
  l s:=uintR_l s.1 s.2.1 s.2.2 w
  m s:=uintR_m s.1 s.2.1 s.2.2 w
  e s h:=by unfold rU uintR;rw [if_pos h]
theorem rT_go (n:Int):RGo (rT n) where
  l s:=textR_l s.1 s.2.1 s.2.2 n
  m s:=textR_m s.1 s.2.1 s.2.2 n
  e s h:=by
    unfold rT textR bytesR
    rw [if_pos h]
    rfl
theorem rV_go:RGo rV where
  l s:=valueR_l s.1 s.2.1 s.2.2
  m s:=valueR_m s.1 s.2.1 s.2.2
  e s h:=by unfold rV valueR;rw [if_pos h]
theorem rB_go:RGo rB where
  l s:=boolR_l s.1 s.2.1 s.2.2
  m s:=boolR_m s.1 s.2.1 s.2.2
  e s h:=by unfold rB boolR;rw [if_pos h]
theorem goP_go {α:Type} {rd:RM α} (h:RGo rd):∀ (n:Nat) (s:RS),(goP rd n s).2.2.1.length≤s.2.1.length∧mkOk s.1 (goP rd n s).2.1∧(s.2.2≠0→(goP rd n s).2=s)
  | 0,s=>⟨Nat.le_refl _,.inl rfl,fun _=>rfl⟩
  | n+1,s=>by
    obtain ⟨h1,h2,h3⟩:=goP_go h n (rd s).2
    unfold goP
    split
    · exact ⟨h.l s,h.m s,h.e s⟩
    · rename_i hz
      refine ⟨Nat.le_trans h1 (h.l s),mkOk_tr (h.m s) h2,fun he=>?_⟩
      exfalso;apply hz;rw [h.e s he];exact he
theorem goX_go {α:Type} {rd:RM α} (h:RGo rd):∀ (n:Nat) (s:RS),(goX rd n s).2.2.1.length≤s.2.1.length∧mkOk s.1 (goX rd n s).2.1∧(s.2.2≠0→(goX rd n s).2=s)
  | 0,s=>⟨Nat.le_refl _,.inl rfl,fun _=>rfl⟩
  | n+1,s=>by
    obtain ⟨h1,h2,h3⟩:=goX_go h n (rd s).2
    unfold goX
    refine ⟨Nat.le_trans h1 (h.l s),mkOk_tr (h.m s) h2,fun he=>?_⟩
    have:=h.e s he
    show (goX rd n (rd s).2).2=s
    rw [h3 (by rw [this];exact he),this]
theorem count_er {s:RS} {n:Int} (h:s.2.2≠0):countR s n=(0,s):=by unfold countR;rw [if_pos h]
theorem rlP_go {α:Type} {rd:RM α} (h:RGo rd) (m:Int):RGo (rlP rd m) where
  l s:=Nat.le_trans (goP_go h _ _).1 (countR_l s.1 s.2.1 s.2.2 m)
  m s:=mkOk_tr (countR_m s.1 s.2.1 s.2.2 m) (goP_go h _ _).2.1
  e s he:=by unfold rlP;rw [count_er he];rfl
theorem rlX_go {α:Type} {rd:RM α} (h:RGo rd) (m:Int):RGo (rlX rd m) where
  l s:=Nat.le_trans (goX_go h _ _).1 (countR_l s.1 s.2.1 s.2.2 m)
  m s:=mkOk_tr (countR_m s.1 s.2.1 s.2.2 m) (goX_go h _ _).2.1
  e s he:=by unfold rlX;rw [count_er he];rfl
/-- the two end in the same state, and read the same if there is no error then -/
def Agr {α:Type} (p x:RM α):Prop:=∀ s,(p s).2=(x s).2∧((x s).2.2.2=0→(p s).1=(x s).1)
theorem Agr.rfl' {α:Type} {p:RM α}:Agr p p:=fun _=>⟨rfl,fun _=>rfl⟩
theorem rap_agr {α β:Type} {p p':RM (α→β)} {q q':RM α} (hp:Agr p p') (hq:Agr q q') (hg:RGo q'):Agr (rap p q) (rap p' q'):=fun s=>by
  obtain ⟨h1,h2⟩:=hp s
  obtain ⟨h3,h4⟩:=hq (p' s).2
  unfold rap
  dsimp only
  rw [h1]
  refine ⟨h3,fun he=>?_⟩
  have h0:(p' s).2.2.2=0:=by
    by_cases hc:(p' s).2.2.2=0
    · exact hc
    · rw [hg.e _ hc] at he;exact absurd he hc
  rw [h2 h0,h4 he]
theorem go_agr {α:Type} {p x:RM α} (h:Agr p x) (hx:RGo x):∀ (n:Nat) (s:RS),(goP p n s).2=(goX x n s).2∧((goX x n s).2.2.2=0→(goP p n s).1=some (goX x n s).1)
  | 0,s=>⟨rfl,fun _=>rfl⟩
  | n+1,s=>by
    obtain ⟨h1,h2⟩:=h s
    obtain ⟨h3,h4⟩:=go_agr h hx n (x s).2
    unfold goP goX
    dsimp only
    rw [h1]
    by_cases hc:(x s).2.2.2=0
    · rw [if_neg (by rw [hc];decide)]
      refine ⟨h3,fun he=>?_⟩
      rw [h4 he,h2 hc];rfl
    · rw [if_pos hc,(goX_go hx n _).2.2 hc]
      exact ⟨rfl,fun he=>absurd he hc⟩
theorem rl_agr {α:Type} {p x:RM α} (h:Agr p x) (hx:RGo x) (m:Int):Agr (rlP p m) (rlX x m):=fun s=>by
  obtain ⟨h3,h4⟩:=go_agr h hx (countR s m).1.toNat (countR s m).2
  unfold rlP rlX
  dsimp only
  refine ⟨h3,fun he=>?_⟩
  rw [h4 he];rfl
/-! the parts of a schema; L is how lists are read -/
structure LC where
  l:{α:Type}→RM α→Int→RM (List α)
def LP:LC:=⟨rlP⟩
def LX:LC:=⟨rlX⟩
def rdFld:RM SField:=rap (rap (rap (rpure SField.mk) (rU 2)) (rT 24)) (rU 1)
def rdHdr (L:LC):RM SHeader:=rap (rap (rap (rpure SHeader.mk) (rU 2)) (rT 24)) (L.l (rU 2) 32)
def rdCas:RM SCase:=rap (rap (rap (rpure SCase.mk) rV) rV) (rU 2)
def rdSta (L:LC):RM SState:=rap (rap (rap (rap (rap (rpure SState.mk) (rU 2)) (rU 2)) (rU 2)) (L.l rdCas 6)) (rU 2)
def rdPar:RM SParam:=rap (rap (rpure SParam.mk) (rT 24)) (rU 1)
def rdPri:RM SPrim:=rap (rap (rap (rap (rap (rpure SPrim.mk) (rU 1)) (rU 2)) (rU 1)) (rU 2)) rV
def rdAct (L:LC):RM SAction:=rap (rap (rap (rap (rap (rpure SAction.mk) (rU 2)) (rT 24)) (L.l rdPar 4)) (L.l rdPri 12)) (rT 400)
def rdKey:RM SKey:=rap (rap (rap (rpure SKey.mk) (rT 24)) (rU 2)) (rU 1)
def rdTab (L:LC):RM STable:=rap (rap (rap (rap (rap (rap (rap (rap (rpure STable.mk) (rU 2)) (rT 24)) (L.l rdKey 4)) (L.l (rU 2) 12)) (rU 2)) (L.l rV 4)) (rU 2)) (rT 400)
def rdStg:RM SStage:=rap (rap (rpure SStage.mk) (rU 2)) (rU 2)
def rdGra (L:LC):RM SGrant:=rap (rap (rap (rap (rpure SGrant.mk) (rU 2)) rB) rB) (L.l rB 4)
def rdRol (L:LC):RM SRole:=rap (rap (rap (rap (rap (rap (rpure SRole.mk) (rU 2)) (rT 24)) (L.l (rdGra L) 8)) (L.l (rU 2) 12)) (rU 2)) rB
def rdRef:RM SRef:=rap (rap (rap (rap (rap (rap (rpure SRef.mk) (rU 2)) (rU 1)) (rU 2)) (rU 1)) (rU 2)) (rU 1)
def mkS (mb bu:Int) (f:List SField) (h:List SHeader) (st:List SState) (a:List SAction) (t:List STable) (g:List SStage) (r:List SRole) (x:List SRef):Sch:=⟨f,h,st,a,t,g,r,x,mb,bu⟩
def rdSch (L:LC):RM Sch:=rap (rap (rap (rap (rap (rap (rap (rap (rap (rap (rpure mkS) (rU 2)) (rU 2)) (L.l rdFld 32)) (L.l (rdHdr L) 8)) (L.l (rdSta L) 12)) (L.l (rdAct L) 12)) (L.l (rdTab L) 8)) (L.l rdStg 12)) (L.l (rdRol L) 6)) (L.l rdRef 8)
/-- what the two ways of reading lists have in common -/
structure LGo (L:LC):Prop where
  l:∀ {α:Type} {rd:RM α} (m:Int),RGo rd→RGo (L.l rd m)
theorem LP_go:LGo LP:=⟨fun m h=>rlP_go h m⟩
theorem LX_go:LGo LX:=⟨fun m h=>rlX_go h m⟩
theorem rdFld_go:RGo rdFld:=by
  unfold rdFld
  repeat (first | exact rpure_go _ | exact rU_go _ | exact rT_go _ | exact rV_go | exact rB_go | refine rap_go ?_ ?_)
theorem rdHdr_go {L:LC} (hL:LGo L):RGo (rdHdr L):=by
  unfold rdHdr
  repeat (first | exact rpure_go _ | exact rU_go _ | exact rT_go _ | exact rV_go | exact rB_go | exact rdFld_go | refine rap_go ?_ ?_ | refine hL.l _ ?_)
theorem rdCas_go:RGo rdCas:=by
  unfold rdCas
  repeat (first | exact rpure_go _ | exact rU_go _ | exact rT_go _ | exact rV_go | exact rB_go | refine rap_go ?_ ?_)
theorem rdSta_go {L:LC} (hL:LGo L):RGo (rdSta L):=by
  unfold rdSta
  repeat (first | exact rpure_go _ | exact rU_go _ | exact rT_go _ | exact rV_go | exact rB_go | exact rdFld_go | exact rdHdr_go hL | exact rdCas_go | refine rap_go ?_ ?_ | refine hL.l _ ?_)
theorem rdPar_go:RGo rdPar:=by
  unfold rdPar
  repeat (first | exact rpure_go _ | exact rU_go _ | exact rT_go _ | exact rV_go | exact rB_go | refine rap_go ?_ ?_)
theorem rdPri_go:RGo rdPri:=by
  unfold rdPri
  repeat (first | exact rpure_go _ | exact rU_go _ | exact rT_go _ | exact rV_go | exact rB_go | refine rap_go ?_ ?_)
theorem rdAct_go {L:LC} (hL:LGo L):RGo (rdAct L):=by
  unfold rdAct
  repeat (first | exact rpure_go _ | exact rU_go _ | exact rT_go _ | exact rV_go | exact rB_go | exact rdFld_go | exact rdHdr_go hL | exact rdCas_go | exact rdSta_go hL | exact rdPar_go | exact rdPri_go | refine rap_go ?_ ?_ | refine hL.l _ ?_)
theorem rdKey_go:RGo rdKey:=by
  unfold rdKey
  repeat (first | exact rpure_go _ | exact rU_go _ | exact rT_go _ | exact rV_go | exact rB_go | refine rap_go ?_ ?_)
theorem rdTab_go {L:LC} (hL:LGo L):RGo (rdTab L):=by
  unfold rdTab
  repeat (first | exact rpure_go _ | exact rU_go _ | exact rT_go _ | exact rV_go | exact rB_go | exact rdFld_go | exact rdHdr_go hL | exact rdCas_go | exact rdSta_go hL | exact rdPar_go | exact rdPri_go | exact rdAct_go hL | exact rdKey_go | refine rap_go ?_ ?_ | refine hL.l _ ?_)
theorem rdStg_go:RGo rdStg:=by
  unfold rdStg
  repeat (first | exact rpure_go _ | exact rU_go _ | exact rT_go _ | exact rV_go | exact rB_go | refine rap_go ?_ ?_)
theorem rdGra_go {L:LC} (hL:LGo L):RGo (rdGra L):=by
  unfold rdGra
  repeat (first | exact rpure_go _ | exact rU_go _ | exact rT_go _ | exact rV_go | exact rB_go | exact rdFld_go | exact rdHdr_go hL | exact rdCas_go | exact rdSta_go hL | exact rdPar_go | exact rdPri_go | exact rdAct_go hL | exact rdKey_go | exact rdTab_go hL | exact rdStg_go | refine rap_go ?_ ?_ | refine hL.l _ ?_)
theorem rdRol_go {L:LC} (hL:LGo L):RGo (rdRol L):=by
  unfold rdRol
  repeat (first | exact rpure_go _ | exact rU_go _ | exact rT_go _ | exact rV_go | exact rB_go | exact rdFld_go | exact rdHdr_go hL | exact rdCas_go | exact rdSta_go hL | exact rdPar_go | exact rdPri_go | exact rdAct_go hL | exact rdKey_go | exact rdTab_go hL | exact rdStg_go | exact rdGra_go hL | refine rap_go ?_ ?_ | refine hL.l _ ?_)
theorem rdRef_go:RGo rdRef:=by
  unfold rdRef
  repeat (first | exact rpure_go _ | exact rU_go _ | exact rT_go _ | exact rV_go | exact rB_go | refine rap_go ?_ ?_)
theorem rdSch_go {L:LC} (hL:LGo L):RGo (rdSch L):=by
  unfold rdSch
  repeat (first | exact rpure_go _ | exact rU_go _ | exact rT_go _ | exact rV_go | exact rB_go | exact rdFld_go | exact rdHdr_go hL | exact rdCas_go | exact rdSta_go hL | exact rdPar_go | exact rdPri_go | exact rdAct_go hL | exact rdKey_go | exact rdTab_go hL | exact rdStg_go | exact rdGra_go hL | exact rdRol_go hL | exact rdRef_go | refine rap_go ?_ ?_ | refine hL.l _ ?_)
theorem rdHdr_agr:Agr (rdHdr LP) (rdHdr LX):=by
  unfold rdHdr
  repeat (first | exact Agr.rfl' | exact rpure_go _ | exact rU_go _ | exact rT_go _ | exact rV_go | exact rB_go | exact rdFld_go | exact rdHdr_go LX_go | exact rdCas_go | exact rdSta_go LX_go | exact rdPar_go | exact rdPri_go | exact rdAct_go LX_go | exact rdKey_go | exact rdTab_go LX_go | exact rdStg_go | exact rdGra_go LX_go | exact rdRol_go LX_go | exact rdRef_go | exact rdSch_go LX_go | refine rap_agr ?_ ?_ ?_ | refine rl_agr ?_ ?_ _ | refine rlX_go ?_ _ | refine LX_go.l _ ?_)
theorem rdSta_agr:Agr (rdSta LP) (rdSta LX):=by
  unfold rdSta
  repeat (first | exact Agr.rfl' | exact rpure_go _ | exact rU_go _ | exact rT_go _ | exact rV_go | exact rB_go | exact rdFld_go | exact rdHdr_go LX_go | exact rdCas_go | exact rdSta_go LX_go | exact rdPar_go | exact rdPri_go | exact rdAct_go LX_go | exact rdKey_go | exact rdTab_go LX_go | exact rdStg_go | exact rdGra_go LX_go | exact rdRol_go LX_go | exact rdRef_go | exact rdSch_go LX_go | exact rdHdr_agr | refine rap_agr ?_ ?_ ?_ | refine rl_agr ?_ ?_ _ | refine rlX_go ?_ _ | refine LX_go.l _ ?_)
theorem rdAct_agr:Agr (rdAct LP) (rdAct LX):=by
  unfold rdAct
  repeat (first | exact Agr.rfl' | exact rpure_go _ | exact rU_go _ | exact rT_go _ | exact rV_go | exact rB_go | exact rdFld_go | exact rdHdr_go LX_go | exact rdCas_go | exact rdSta_go LX_go | exact rdPar_go | exact rdPri_go | exact rdAct_go LX_go | exact rdKey_go | exact rdTab_go LX_go | exact rdStg_go | exact rdGra_go LX_go | exact rdRol_go LX_go | exact rdRef_go | exact rdSch_go LX_go | exact rdHdr_agr | exact rdSta_agr | refine rap_agr ?_ ?_ ?_ | refine rl_agr ?_ ?_ _ | refine rlX_go ?_ _ | refine LX_go.l _ ?_)
theorem rdTab_agr:Agr (rdTab LP) (rdTab LX):=by
  unfold rdTab
  repeat (first | exact Agr.rfl' | exact rpure_go _ | exact rU_go _ | exact rT_go _ | exact rV_go | exact rB_go | exact rdFld_go | exact rdHdr_go LX_go | exact rdCas_go | exact rdSta_go LX_go | exact rdPar_go | exact rdPri_go | exact rdAct_go LX_go | exact rdKey_go | exact rdTab_go LX_go | exact rdStg_go | exact rdGra_go LX_go | exact rdRol_go LX_go | exact rdRef_go | exact rdSch_go LX_go | exact rdHdr_agr | exact rdSta_agr | exact rdAct_agr | refine rap_agr ?_ ?_ ?_ | refine rl_agr ?_ ?_ _ | refine rlX_go ?_ _ | refine LX_go.l _ ?_)
theorem rdGra_agr:Agr (rdGra LP) (rdGra LX):=by
  unfold rdGra
  repeat (first | exact Agr.rfl' | exact rpure_go _ | exact rU_go _ | exact rT_go _ | exact rV_go | exact rB_go | exact rdFld_go | exact rdHdr_go LX_go | exact rdCas_go | exact rdSta_go LX_go | exact rdPar_go | exact rdPri_go | exact rdAct_go LX_go | exact rdKey_go | exact rdTab_go LX_go | exact rdStg_go | exact rdGra_go LX_go | exact rdRol_go LX_go | exact rdRef_go | exact rdSch_go LX_go | exact rdHdr_agr | exact rdSta_agr | exact rdAct_agr | exact rdTab_agr | refine rap_agr ?_ ?_ ?_ | refine rl_agr ?_ ?_ _ | refine rlX_go ?_ _ | refine LX_go.l _ ?_)
theorem rdRol_agr:Agr (rdRol LP) (rdRol LX):=by
  unfold rdRol
  repeat (first | exact Agr.rfl' | exact rpure_go _ | exact rU_go _ | exact rT_go _ | exact rV_go | exact rB_go | exact rdFld_go | exact rdHdr_go LX_go | exact rdCas_go | exact rdSta_go LX_go | exact rdPar_go | exact rdPri_go | exact rdAct_go LX_go | exact rdKey_go | exact rdTab_go LX_go | exact rdStg_go | exact rdGra_go LX_go | exact rdRol_go LX_go | exact rdRef_go | exact rdSch_go LX_go | exact rdHdr_agr | exact rdSta_agr | exact rdAct_agr | exact rdTab_agr | exact rdGra_agr | refine rap_agr ?_ ?_ ?_ | refine rl_agr ?_ ?_ _ | refine rlX_go ?_ _ | refine LX_go.l _ ?_)
theorem rdSch_agr:Agr (rdSch LP) (rdSch LX):=rap_agr (rap_agr (rap_agr (rap_agr (rap_agr (rap_agr (rap_agr (rap_agr (Agr.rfl' (p:=rap (rap (rpure mkS) (rU 2)) (rU 2))) (rl_agr Agr.rfl' (rdFld_go) _) (rlX_go (rdFld_go) _)) (rl_agr rdHdr_agr (rdHdr_go LX_go) _) (rlX_go (rdHdr_go LX_go) _)) (rl_agr rdSta_agr (rdSta_go LX_go) _) (rlX_go (rdSta_go LX_go) _)) (rl_agr rdAct_agr (rdAct_go LX_go) _) (rlX_go (rdAct_go LX_go) _)) (rl_agr rdTab_agr (rdTab_go LX_go) _) (rlX_go (rdTab_go LX_go) _)) (rl_agr Agr.rfl' (rdStg_go) _) (rlX_go (rdStg_go) _)) (rl_agr rdRol_agr (rdRol_go LX_go) _) (rlX_go (rdRol_go LX_go) _)) (rl_agr Agr.rfl' (rdRef_go) _) (rlX_go (rdRef_go) _)
/-- a schema that is read, and the error -/
def zSch:Sch:=⟨[],[],[],[],[],[],[],[],0,0⟩
def decS (L:LC) (b:List UInt8):Sch × Int:=if finishR (rdSch L (.any,b,0)).2≠0 then (zSch,finishR (rdSch L (.any,b,0)).2) else ((rdSch L (.any,b,0)).1,0)
theorem fin_0 {s:RS} (h:finishR s=0):s.2.2=0:=by
  unfold finishR at h
  split at h
  · exact absurd h (by decide)
  · exact h
theorem decS_same (b:List UInt8):decS LP b=decS LX b:=by
  obtain ⟨h1,h2⟩:=rdSch_agr (.any,b,0)
  unfold decS
  rw [h1]
  by_cases hf:finishR (rdSch LX (.any,b,0)).2=0
  · rw [if_neg (by rw [hf];decide),if_neg (by rw [hf];decide),h2 (fin_0 hf)]
  · rw [if_pos hf,if_pos hf]
def decF (b:List UInt8):Sch × Int:=if 8000<b.length then (zSch,3) else decS LX b
end Go.AL

