/- Contracts and plain laws, a part of the proof; no condition of its own. -/
import Derived.Test.YtiiiljghmilepaaGreatLGen
import Derived.Test.YtiiiljghmilepaaGreatLRd2
/- Schemas and entries as data, how they stand in memory, and the schema and the entries that a list of choices gives. No program. -/
namespace Go.AL
set_option linter.all false
/-- the two cells of a value -/
def vc (v:Nat):List AV:=[.int .u64 ((v/2^64:Nat):Int),.int .u64 ((v % 2^64:Nat):Int)]
theorem mt {v:Nat} (h:v<2^64):vc v=[.int .u64 0,.int .u64 (v:Int)]:=by
 unfold vc
 rw [Nat.div_eq_of_lt h,Nat.mod_eq_of_lt h];rfl
def inL (l:List Int):List AV:=l.map (.int .i64)
def boL (l:List Bool):List AV:=l.map .bool
structure SField where
 id:Int
 name:List UInt8
 bits:Int
structure SHeader where
 id:Int
 name:List UInt8
 fields:List Int
structure SCase where
 value:Nat
 mask:Nat
 next:Int
structure SState where
 id:Int
 header:Int
 select:Int
 cases:List SCase
 dflt:Int
structure SPrim where
 op:Int
 dst:Int
 kind:Int
 n:Int
 value:Nat
structure SParam where
 name:List UInt8
 bits:Int
structure SAction where
 id:Int
 name:List UInt8
 params:List SParam
 body:List SPrim
 restr:List UInt8
structure SKey where
 name:List UInt8
 field:Int
 kind:Int
structure STable where
 id:Int
 name:List UInt8
 keys:List SKey
 actions:List Int
 dflt:Int
 dargs:List Nat
 size:Int
 restr:List UInt8
structure SStage where
 table:Int
 header:Int
structure SGrant where
 table:Int
 read:Bool
 write:Bool
 keys:List Bool
structure SRole where
 id:Int
 name:List UInt8
 grants:List SGrant
 actions:List Int
 quota:Int
 audit:Bool
structure SRef where
 table:Int
 key:Int
 action:Int
 param:Int
 toTable:Int
 toKey:Int
structure Sch where
 fields:List SField
 headers:List SHeader
 states:List SState
 actions:List SAction
 tables:List STable
 stages:List SStage
 roles:List SRole
 refs:List SRef
 maxBatch:Int
 budget:Int
def ar (x:SField):AV:=.agg [.int .i64 x.id,.str x.name,.int .i64 x.bits]
def aj (x:SHeader):AV:=.agg [.int .i64 x.id,.str x.name,.slice .any 1 (inL x.fields)]
def aK (x:SCase):AV:=.agg (vc x.value++vc x.mask++[.int .i64 x.next])
def ak (x:SState):AV:=.agg [.int .i64 x.id,.int .i64 x.header,.int .i64 x.select,.slice .any 5 (x.cases.map aK),.int .i64 x.dflt]
def aL (x:SPrim):AV:=.agg ([.int .i64 x.op,.int .i64 x.dst,.int .i64 x.kind,.int .i64 x.n]++vc x.value)
def aD (x:SParam):AV:=.agg [.str x.name,.int .i64 x.bits]
def ah (x:SAction):AV:=.agg [.int .i64 x.id,.str x.name,.slice .any 2 (x.params.map aD),.slice .any 6 (x.body.map aL),.str x.restr]
def aQ (x:SKey):AV:=.agg [.str x.name,.int .i64 x.field,.int .i64 x.kind]
def aq (x:STable):AV:=.agg [.int .i64 x.id,.str x.name,.slice .any 3 (x.keys.map aQ),.slice .any 1 (inL x.actions),.int .i64 x.dflt,.slice .any 2 (x.dargs.map vv),.int .i64 x.size,.str x.restr]
def az (x:SStage):AV:=.agg [.int .i64 x.table,.int .i64 x.header]
def ax (x:SGrant):AV:=.agg [.int .i64 x.table,.bool x.read,.bool x.write,.slice .any 1 (boL x.keys)]
def aJ (x:SRole):AV:=.agg [.int .i64 x.id,.str x.name,.slice .any 4 (x.grants.map ax),.slice .any 1 (inL x.actions),.int .i64 x.quota,.bool x.audit]
def aR (x:SRef):AV:=.agg [.int .i64 x.table,.int .i64 x.key,.int .i64 x.action,.int .i64 x.param,.int .i64 x.toTable,.int .i64 x.toKey]
def bL (x:Sch):List AV:=[.slice .any 3 (x.fields.map ar),.slice .any 3 (x.headers.map aj),.slice .any 5 (x.states.map ak),.slice .any 5 (x.actions.map ah),.slice .any 8 (x.tables.map aq),
 .slice .any 2 (x.stages.map az),.slice .any 6 (x.roles.map aJ),.slice .any 6 (x.refs.map aR),.int .i64 x.maxBatch,.int .i64 x.budget]
def cN (x:Sch):AV:=.agg (bL x)
/-! the states -/
def kz (c:Nat):Int:=if c=2 then 65535 else if c=3 then 3 else 0
def cq (b:List UInt8) (v:Nat):List SState × Nat :=
 if cv b (v+1) 2=1 then
  if cv b (v+5) 3=1 then ([⟨1,1,4,[⟨1,15,2⟩,⟨2,3,3⟩,⟨8*cv b (v+2) 2,8,kz (cv b (v+3) 4)⟩],kz (cv b v 4)⟩,⟨2,2,0,[],kz (cv b (v+4) 4)⟩,⟨3,3,9,[⟨5,15,1+cv b (v+6) 3⟩],0⟩],v+7)
  else ([⟨1,1,4,[⟨1,15,2⟩,⟨2,3,3⟩,⟨8*cv b (v+2) 2,8,kz (cv b (v+3) 4)⟩],kz (cv b v 4)⟩,⟨2,2,0,[],kz (cv b (v+4) 4)⟩,⟨3,3,9,[],0⟩],v+6)
 else
  if cv b (v+3) 3=1 then ([⟨1,1,4,[⟨1,15,2⟩,⟨2,3,3⟩],kz (cv b v 4)⟩,⟨2,2,0,[],kz (cv b (v+2) 4)⟩,⟨3,3,9,[⟨5,15,1+cv b (v+4) 3⟩],0⟩],v+5)
  else ([⟨1,1,4,[⟨1,15,2⟩,⟨2,3,3⟩],kz (cv b v 4)⟩,⟨2,2,0,[],kz (cv b (v+2) 4)⟩,⟨3,3,9,[],0⟩],v+4)
end Go.AL
/- The schema that a list of choices gives: actions, tables, roles, all. No program. -/
namespace Go.AL
set_option linter.all false
/-- the choice as an integer -/
abbrev ci (b:List UInt8) (v n:Nat):Int:=((cv b v n:Nat):Int)
/-- the six actions -/
def dW (b:List UInt8) (v:Nat):List SAction:=[
 ⟨1,[110,111,112],[],[],[]⟩,
 ⟨2,[100,114,111,112],[],[⟨6,0,0,0,0⟩],[]⟩,
 ⟨3,[102,111,114,119,97,114,100],[⟨[112,111,114,116],16⟩],[⟨7,0,3,0,0⟩],(if cv b (v+2) 2=1 then [112,111,114,116,32,33,61,32,48] else [])⟩,
 ⟨4,[116,97,103],[⟨[120],4⟩],[⟨1,5,3,0,0⟩,⟨2,3,2,5,0⟩],[]⟩,
 ⟨5,[119,114,97,112],[⟨[120],4⟩,⟨[121],12⟩],[⟨4,3,0,0,0⟩,⟨1,9,3,0,0⟩,⟨3,8,3,1,0⟩],(if cv b (v+3) 2=1 then [120,32,60,32,121,32,124,124,32,120,32,61,61,32,49,53] else [])⟩,
 ⟨6,[115,116,114,105,112],[],[⟨5,2+ci b v 2,0,0,0⟩,⟨2,6,1,0,cv b (v+1) 256⟩],[]⟩]
def gText0:List (List UInt8):=[[],[97,32,33,61,32,48],[97,32,60,32,49,52,32,38,38,32,97,32,33,61,32,51]]
def gText1:List (List UInt8):=[[],[100,58,58,112,114,101,102,105,120,95,108,101,110,103,116,104,32,62,61,32,56],[100,58,58,112,114,101,102,105,120,95,108,101,110,103,116,104,32,61,61,32,51,50,32,45,62,32,100,58,58,118,97,108,117,101,32,62,32,48,120,102,102]]
def gText2:List (List UInt8):=[[],[112,114,105,111,114,105,116,121,32,60,32,49,48,48,32,38,38,32,40,101,58,58,109,97,115,107,32,33,61,32,48,32,124,124,32,97,58,58,109,97,115,107,32,33,61,32,48,41],[101,58,58,109,97,115,107,32,61,61,32,48,32,45,62,32,112,114,105,111,114,105,116,121,32,62,32,53]]
def gText3:List (List UInt8):=[[],[102,58,58,104,105,103,104,32,45,32,102,58,58,108,111,119,32,60,61,32,48,120,49,48,48],[33,40,102,58,58,108,111,119,32,61,61,32,48,32,38,38,32,102,58,58,104,105,103,104,32,62,32,49,48,48,48,41]]
def fC (b:List UInt8) (v:Nat):STable:=⟨1,[112,111,114,116,115],([⟨[97],4,1⟩]),[1,2,4],1+ci b v 2,[],2+ci b (v+1) 5,gText0.getD (cv b (v+8) 3) []⟩
def fo (b:List UInt8) (v:Nat):STable:=⟨2,[114,111,117,116,101,115],([⟨[100],7,2⟩]++if cv b (v+3) 2=1 then [⟨[109],3,1⟩] else []),[1,2,3,4],2,[],3+ci b (v+2) 6,gText1.getD (cv b (v+9) 3) []⟩
def dj (b:List UInt8) (v:Nat):STable:=⟨3,[97,99,108],([⟨[101],6,3⟩,⟨[97],4,3⟩]++if cv b (v+5) 2=1 then [⟨[98],5,1⟩] else []),[1,2,3,5,6],1,[],4+ci b (v+4) 6,gText2.getD (cv b (v+10) 3) []⟩
def dk (b:List UInt8) (v:Nat):STable:=⟨4,[115,112,97,110,115],([⟨[102],8,4⟩]++if cv b (v+7) 2=1 then [⟨[103],9,1⟩,⟨[100],7,2⟩] else []),[1,3,5],3,[7],3+ci b (v+6) 5,gText3.getD (cv b (v+11) 3) []⟩
/-- the four tables -/
def cT (b:List UInt8) (v:Nat):List STable:=[fC b v,fo b v,dj b v,dk b v]
/-- part of a grant's keys -/
def jw (b:List UInt8) (v n:Nat):List Bool:=(List.range n).map fun i=>decide (0<ci b (v+i) 4)
/-- the grants of the three roles, from some tables on -/
def dv (b:List UInt8):List STable→Nat→(List SGrant × List SGrant × List SGrant) × Nat
 |[],v=>(([],[],[]),v)
 |t::ts,v =>
  let n:=t.keys.length
  let yes:=List.replicate n true
  let w:=v+n
  let (some',w1):List SGrant × Nat:=if 0<cv b w 4 then ([⟨t.id,decide (0<ci b (w+1) 4),decide (cv b (w+2) 2=1),jw b v n⟩],w+3) else ([],w+1)
  let (few',w2):List SGrant × Nat:=if cv b w1 2=1 then ([⟨t.id,decide (cv b (w1+1) 2=1),decide (cv b (w1+2) 2=1),yes⟩],w1+3) else ([],w1+1)
  let r:=dv b ts w2
  ((⟨t.id,true,true,yes⟩::r.1.1,some'++r.1.2.1,few'++r.1.2.2),r.2)
/-- the three roles -/
def iQ (b:List UInt8) (v:Nat) (ts:List STable):List SRole × Nat :=
 let g:=dv b ts (v+4)
 ([⟨1,[97,108,108],g.1.1,[1,2,3,4,5,6],40,true⟩,⟨2,[115,111,109,101],g.1.2.1,[1,2,3+ci b v 3],1+ci b (v+1) 6,false⟩,⟨7,[102,101,119],g.1.2.2,[1+ci b (v+2) 6],ci b (v+3) 4,false⟩],g.2)
def gFields:List SField:=[⟨1,[105,110,103,114,101,115,115],16⟩,⟨2,[101,103,114,101,115,115],16⟩,⟨3,[109,101,116,97],8⟩,⟨4,[97],4⟩,⟨5,[98],4⟩,⟨6,[101],8⟩,⟨7,[100],32⟩,⟨8,[102],12⟩,⟨9,[103],4⟩]
def gHeaders:List SHeader:=[⟨1,[111,110,101],[4,5,6]⟩,⟨2,[116,119,111],[7]⟩,⟨3,[116,104,114,101,101],[8,9]⟩]
/-- the schema, and the place behind it -/
def gT (b:List UInt8) (v:Nat):Sch × Nat :=
 let st:=cq b (cp v 2)
 let ac:=dW b st.2
 let ta:=cT b (cp st.2 4)
 let ro:=iQ b (cp st.2 16) ta
 let w:=ro.2
 (⟨gFields,gHeaders,st.1,ac,ta,
   [⟨1,1⟩,⟨2,2⟩,⟨3,0⟩,⟨4,3⟩]++(if cv b (cp w 0) 2=1 then [⟨1,0⟩] else []),ro.1,
   (if cv b (cp w 1) 2=1 then [⟨2,0,4,0,1,0⟩] else [])++(if cv b (cp w 2) 2=1∧cv b (cp st.2 9) 2=1 then [⟨3,2,0,0,1,0⟩] else []) ++
     (if cv b (cp w 3) 2=1∧cv b (cp st.2 11) 2=1 then [⟨4,1,0,0,1,0⟩,⟨4,0,5,0,1,0⟩] else []),
   2+ci b (cp v 0) 8,12+ci b (cp v 1) 30⟩,cp w 4)
end Go.AL
/- Readers of schemas as functions: the one that stops at the first error and the one that goes on agree. No program. -/
namespace Go.AL
set_option linter.all false
theorem aC {a b c:Mark} (h:cw a b) (k:cw b c):cw a c:=by
 rcases k with rfl|rfl
 ·exact h
 ·exact .inr rfl
/-- a reader as a function -/
abbrev RM (α:Type):=RS→α × RS
def cZ {α:Type} (f:α):RM α:=fun s=>(f,s)
def rap {α β:Type} (p:RM (α→β)) (q:RM α):RM β:=fun s=>((p s).1 (q (p s).2).1,(q (p s).2).2)
def rU (w:Int):RM Int:=fun s=>bB s w
def rT (n:Int):RM (List UInt8):=fun s=>dM s n
def rV:RM Nat:=fun s=>cO s
def rB:RM Bool:=fun s=>fu s
/-- elements, up to the first error -/
def goP {α:Type} (rd:RM α):Nat→RS→Option (List α) × RS
 |0,s=>(some [],s)
 |n+1,s=>if (rd s).2.2.2≠0 then (none,(rd s).2) else ((goP rd n (rd s).2).1.map ((rd s).1::·),(goP rd n (rd s).2).2)
/-- elements -/
def goX {α:Type} (rd:RM α):Nat→RS→List α × RS
 |0,s=>([],s)
 |n+1,s=>((rd s).1::(goX rd n (rd s).2).1,(goX rd n (rd s).2).2)
def rlP {α:Type} (rd:RM α) (m:Int):RM (List α):=fun s=>((goP rd (aX s m).1.toNat (aX s m).2).1.getD [],(goP rd (aX s m).1.toNat (aX s m).2).2)
def rlX {α:Type} (rd:RM α) (m:Int):RM (List α):=fun s=>goX rd (aX s m).1.toNat (aX s m).2
/-- what every reader does -/
structure RGo {α:Type} (p:RM α):Prop where
 l:∀ s,(p s).2.2.1.length≤s.2.1.length
 m:∀ s,cw s.1 (p s).2.1
 e:∀ s,s.2.2≠0→(p s).2=s
theorem ep {α:Type} (f:α):RGo (cZ f):=⟨fun _=>Nat.le_refl _,fun _=>.inl rfl,fun _ _=>rfl⟩
theorem jo {α β:Type} {p:RM (α→β)} {q:RM α} (hp:RGo p) (hq:RGo q):RGo (rap p q) where
 l s:=Nat.le_trans (hq.l _) (hp.l s)
 m s:=aC (hp.m s) (hq.m _)
 e s h:=by
  show (q (p s).2).2=s
  rw [hp.e s h];exact hq.e s h
theorem fe (w:Int):RGo (rU w) where
 l s:=bm s.1 s.2.1 s.2.2 w
 m s:=bn s.1 s.2.1 s.2.2 w
 e s h:=by unfold rU bB;rw [if_pos h]
theorem ja (n:Int):RGo (rT n) where
 l s:=fD s.1 s.2.1 s.2.2 n
 m s:=fB s.1 s.2.1 s.2.2 n
 e s h:=by
  unfold rT dM dq
  rw [if_pos h]
  rfl
theorem rV_go:RGo rV where
 l s:=jZ s.1 s.2.1 s.2.2
 m s:=jX s.1 s.2.1 s.2.2
 e s h:=by unfold rV cO;rw [if_pos h]
theorem rB_go:RGo rB where
 l s:=kU s.1 s.2.1 s.2.2
 m s:=kL s.1 s.2.1 s.2.2
 e s h:=by unfold rB fu;rw [if_pos h]
theorem gS {α:Type} {rd:RM α} (h:RGo rd):∀ (n:Nat) (s:RS),(goP rd n s).2.2.1.length≤s.2.1.length∧cw s.1 (goP rd n s).2.1∧(s.2.2≠0→(goP rd n s).2=s)
 |0,s=>⟨Nat.le_refl _,.inl rfl,fun _=>rfl⟩
 |n+1,s=>by
  obtain ⟨h1,h2,h3⟩:=gS h n (rd s).2
  unfold goP
  split
  ·exact ⟨h.l s,h.m s,h.e s⟩
  ·rename_i hz
   refine ⟨Nat.le_trans h1 (h.l s),aC (h.m s) h2,fun he=>?_⟩
   exfalso;apply hz;rw [h.e s he];exact he
theorem gz {α:Type} {rd:RM α} (h:RGo rd):∀ (n:Nat) (s:RS),(goX rd n s).2.2.1.length≤s.2.1.length∧cw s.1 (goX rd n s).2.1∧(s.2.2≠0→(goX rd n s).2=s)
 |0,s=>⟨Nat.le_refl _,.inl rfl,fun _=>rfl⟩
 |n+1,s=>by
  obtain ⟨h1,h2,h3⟩:=gz h n (rd s).2
  unfold goX
  refine ⟨Nat.le_trans h1 (h.l s),aC (h.m s) h2,fun he=>?_⟩
  have:=h.e s he
  show (goX rd n (rd s).2).2=s
  rw [h3 (by rw [this];exact he),this]
theorem vw {s:RS} {n:Int} (h:s.2.2≠0):aX s n=(0,s):=by unfold aX;rw [if_pos h]
theorem eH {α:Type} {rd:RM α} (h:RGo rd) (m:Int):RGo (rlP rd m) where
 l s:=Nat.le_trans (gS h _ _).1 (cu s.1 s.2.1 s.2.2 m)
 m s:=aC (ct s.1 s.2.1 s.2.2 m) (gS h _ _).2.1
 e s he:=by unfold rlP;rw [vw he];rfl
theorem eZ {α:Type} {rd:RM α} (h:RGo rd) (m:Int):RGo (rlX rd m) where
 l s:=Nat.le_trans (gz h _ _).1 (cu s.1 s.2.1 s.2.2 m)
 m s:=aC (ct s.1 s.2.1 s.2.2 m) (gz h _ _).2.1
 e s he:=by unfold rlX;rw [vw he];rfl
/-- the two end in the same state, and read the same if there is no error then -/
def Agr {α:Type} (p x:RM α):Prop:=∀ s,(p s).2=(x s).2∧((x s).2.2.2=0→(p s).1=(x s).1)
theorem Agr.rfl' {α:Type} {p:RM α}:Agr p p:=fun _=>⟨rfl,fun _=>rfl⟩
theorem hZ {α β:Type} {p p':RM (α→β)} {q q':RM α} (hp:Agr p p') (hq:Agr q q') (hg:RGo q'):Agr (rap p q) (rap p' q'):=fun s=>by
 obtain ⟨h1,h2⟩:=hp s
 obtain ⟨h3,h4⟩:=hq (p' s).2
 unfold rap
 dsimp only
 rw [h1]
 refine ⟨h3,fun he=>?_⟩
 have h0:(p' s).2.2.2=0:=by
  by_cases hc:(p' s).2.2.2=0
  ·exact hc
  ·rw [hg.e _ hc] at he;exact absurd he hc
 rw [h2 h0,h4 he]
theorem DG {α:Type} {p x:RM α} (h:Agr p x) (hx:RGo x):∀ (n:Nat) (s:RS),(goP p n s).2=(goX x n s).2∧((goX x n s).2.2.2=0→(goP p n s).1=some (goX x n s).1)
 |0,s=>⟨rfl,fun _=>rfl⟩
 |n+1,s=>by
  obtain ⟨h1,h2⟩:=h s
  obtain ⟨h3,h4⟩:=DG h hx n (x s).2
  unfold goP goX
  dsimp only
  rw [h1]
  by_cases hc:(x s).2.2.2=0
  ·rw [if_neg (by rw [hc];decide)]
   refine ⟨h3,fun he=>?_⟩
   rw [h4 he,h2 hc];rfl
  ·rw [if_pos hc,(gz hx n _).2.2 hc]
   exact ⟨rfl,fun he=>absurd he hc⟩
theorem ji {α:Type} {p x:RM α} (h:Agr p x) (hx:RGo x) (m:Int):Agr (rlP p m) (rlX x m):=fun s=>by
 obtain ⟨h3,h4⟩:=DG h hx (aX s m).1.toNat (aX s m).2
 unfold rlP rlX
 dsimp only
 refine ⟨h3,fun he=>?_⟩
 rw [h4 he];rfl
theorem zn {α:Type} {rd:RM α}:∀ (n:Nat) (s:RS),(goX rd n s).1.length=n
 |0,_=>rfl
 |n+1,s=>by unfold goX;rw [List.length_cons,zn n]
theorem yA {α:Type} {rd:RM α} {q:α→Prop} (h:∀ s,q (rd s).1):∀ (n:Nat) (s:RS),∀ a∈(goX rd n s).1,q a
 |0,_=>fun a ha=>absurd ha (by simp [goX])
 |n+1,s=>fun a ha=>by
  unfold goX at ha
  rcases List.mem_cons.1 ha with rfl|ha
  ·exact h s
  ·exact yA h n _ a ha
theorem DT (s:RS) (n:Int) (hn:0≤n):0≤(aX s n).1∧(aX s n).1≤n:=by
 unfold aX
 split
 ·exact ⟨Int.le_refl _,hn⟩
 ·split
  ·exact ⟨Int.le_refl _,hn⟩
  ·split
   ·exact ⟨Int.le_refl _,hn⟩
   ·rename_i h;exact ⟨Int.natCast_nonneg _,by omega⟩
theorem EJ {α:Type} {rd:RM α} {m:Int} (hm:0≤m) (s:RS):((rlX rd m s).1.length:Int)≤m:=by
 unfold rlX
 rw [zn]
 have:=DT s m hm
 omega
theorem mP {α:Type} {rd:RM α} {q:α→Prop} (h:∀ s,q (rd s).1) (m:Int) (s:RS):∀ a∈(rlX rd m s).1,q a:=yA h _ _
/-! the parts of a schema; L is how lists are read -/
structure LC where
 l:{α:Type}→RM α→Int→RM (List α)
def LP:LC:=⟨rlP⟩
def LX:LC:=⟨rlX⟩
def dB:RM SField:=rap (rap (rap (cZ SField.mk) (rU 2)) (rT 24)) (rU 1)
def dl (L:LC):RM SHeader:=rap (rap (rap (cZ SHeader.mk) (rU 2)) (rT 24)) (L.l (rU 2) 32)
def eT:RM SCase:=rap (rap (rap (cZ SCase.mk) rV) rV) (rU 2)
def dx (L:LC):RM SState:=rap (rap (rap (rap (rap (cZ SState.mk) (rU 2)) (rU 2)) (rU 2)) (L.l eT 6)) (rU 2)
def eY:RM SParam:=rap (rap (cZ SParam.mk) (rT 24)) (rU 1)
def eS:RM SPrim:=rap (rap (rap (rap (rap (cZ SPrim.mk) (rU 1)) (rU 2)) (rU 1)) (rU 2)) rV
def dJ (L:LC):RM SAction:=rap (rap (rap (rap (rap (cZ SAction.mk) (rU 2)) (rT 24)) (L.l eY 4)) (L.l eS 12)) (rT 400)
def eV:RM SKey:=rap (rap (rap (cZ SKey.mk) (rT 24)) (rU 2)) (rU 1)
def dH (L:LC):RM STable:=rap (rap (rap (rap (rap (rap (rap (rap (cZ STable.mk) (rU 2)) (rT 24)) (L.l eV 4)) (L.l (rU 2) 12)) (rU 2)) (L.l rV 4)) (rU 2)) (rT 400)
def eX:RM SStage:=rap (rap (cZ SStage.mk) (rU 2)) (rU 2)
def eg (L:LC):RM SGrant:=rap (rap (rap (rap (cZ SGrant.mk) (rU 2)) rB) rB) (L.l rB 4)
def dK (L:LC):RM SRole:=rap (rap (rap (rap (rap (rap (cZ SRole.mk) (rU 2)) (rT 24)) (L.l (eg L) 8)) (L.l (rU 2) 12)) (rU 2)) rB
def eR:RM SRef:=rap (rap (rap (rap (rap (rap (cZ SRef.mk) (rU 2)) (rU 1)) (rU 2)) (rU 1)) (rU 2)) (rU 1)
def mkS (mb bu:Int) (f:List SField) (h:List SHeader) (st:List SState) (a:List SAction) (t:List STable) (g:List SStage) (r:List SRole) (x:List SRef):Sch:=⟨f,h,st,a,t,g,r,x,mb,bu⟩
def kI (L:LC):RM Sch:=rap (rap (rap (rap (rap (rap (rap (rap (rap (rap (cZ mkS) (rU 2)) (rU 2)) (L.l dB 32)) (L.l (dl L) 8)) (L.l (dx L) 12)) (L.l (dJ L) 12)) (L.l (dH L) 8)) (L.l eX 12)) (L.l (dK L) 6)) (L.l eR 8)
/-- what the two ways of reading lists have in common -/
structure LGo (L:LC):Prop where
 l:∀ {α:Type} {rd:RM α} (m:Int),RGo rd→RGo (L.l rd m)
theorem gX:LGo LP:=⟨fun m h=>eH h m⟩
theorem LX_go:LGo LX:=⟨fun m h=>eZ h m⟩
theorem rdFld_go:RGo dB:=by
 unfold dB
 repeat (first|exact ep _|exact fe _|exact ja _|exact rV_go|exact rB_go|refine jo ?_ ?_)
theorem dV {L:LC} (hL:LGo L):RGo (dl L):=by
 unfold dl
 repeat (first|exact ep _|exact fe _|exact ja _|exact rV_go|exact rB_go|exact rdFld_go|refine jo ?_ ?_|refine hL.l _ ?_)
theorem rdCas_go:RGo eT:=by
 unfold eT
 repeat (first|exact ep _|exact fe _|exact ja _|exact rV_go|exact rB_go|refine jo ?_ ?_)
theorem eu {L:LC} (hL:LGo L):RGo (dx L):=by
 unfold dx
 repeat (first|exact ep _|exact fe _|exact ja _|exact rV_go|exact rB_go|exact rdFld_go|exact dV hL|exact rdCas_go|refine jo ?_ ?_|refine hL.l _ ?_)
theorem rdPar_go:RGo eY:=by
 unfold eY
 repeat (first|exact ep _|exact fe _|exact ja _|exact rV_go|exact rB_go|refine jo ?_ ?_)
theorem rdPri_go:RGo eS:=by
 unfold eS
 repeat (first|exact ep _|exact fe _|exact ja _|exact rV_go|exact rB_go|refine jo ?_ ?_)
theorem eC {L:LC} (hL:LGo L):RGo (dJ L):=by
 unfold dJ
 repeat (first|exact ep _|exact fe _|exact ja _|exact rV_go|exact rB_go|exact rdFld_go|exact dV hL|exact rdCas_go|exact eu hL|exact rdPar_go|exact rdPri_go|refine jo ?_ ?_|refine hL.l _ ?_)
theorem rdKey_go:RGo eV:=by
 unfold eV
 repeat (first|exact ep _|exact fe _|exact ja _|exact rV_go|exact rB_go|refine jo ?_ ?_)
theorem eU {L:LC} (hL:LGo L):RGo (dH L):=by
 unfold dH
 repeat (first|exact ep _|exact fe _|exact ja _|exact rV_go|exact rB_go|exact rdFld_go|exact dV hL|exact rdCas_go|exact eu hL|exact rdPar_go|exact rdPri_go|exact eC hL|exact rdKey_go|refine jo ?_ ?_|refine hL.l _ ?_)
theorem rdStg_go:RGo eX:=by
 unfold eX
 repeat (first|exact ep _|exact fe _|exact ja _|exact rV_go|exact rB_go|refine jo ?_ ?_)
theorem f5 {L:LC} (hL:LGo L):RGo (eg L):=by
 unfold eg
 repeat (first|exact ep _|exact fe _|exact ja _|exact rV_go|exact rB_go|exact rdFld_go|exact dV hL|exact rdCas_go|exact eu hL|exact rdPar_go|exact rdPri_go|exact eC hL|exact rdKey_go|exact eU hL|exact rdStg_go|refine jo ?_ ?_|refine hL.l _ ?_)
theorem fy {L:LC} (hL:LGo L):RGo (dK L):=by
 unfold dK
 repeat (first|exact ep _|exact fe _|exact ja _|exact rV_go|exact rB_go|exact rdFld_go|exact dV hL|exact rdCas_go|exact eu hL|exact rdPar_go|exact rdPri_go|exact eC hL|exact rdKey_go|exact eU hL|exact rdStg_go|exact f5 hL|refine jo ?_ ?_|refine hL.l _ ?_)
theorem rdRef_go:RGo eR:=by
 unfold eR
 repeat (first|exact ep _|exact fe _|exact ja _|exact rV_go|exact rB_go|refine jo ?_ ?_)
theorem lw {L:LC} (hL:LGo L):RGo (kI L):=by
 unfold kI
 repeat (first|exact ep _|exact fe _|exact ja _|exact rV_go|exact rB_go|exact rdFld_go|exact dV hL|exact rdCas_go|exact eu hL|exact rdPar_go|exact rdPri_go|exact eC hL|exact rdKey_go|exact eU hL|exact rdStg_go|exact f5 hL|exact fy hL|exact rdRef_go|refine jo ?_ ?_|refine hL.l _ ?_)
theorem ko:Agr (dl LP) (dl LX):=by
 unfold dl
 repeat (first|exact Agr.rfl'|exact ep _|exact fe _|exact ja _|exact rV_go|exact rB_go|exact rdFld_go|exact dV LX_go|exact rdCas_go|exact eu LX_go|exact rdPar_go|exact rdPri_go|exact eC LX_go|exact rdKey_go|exact eU LX_go|exact rdStg_go|exact f5 LX_go|exact fy LX_go|exact rdRef_go|exact lw LX_go|refine hZ ?_ ?_ ?_|refine ji ?_ ?_ _|refine eZ ?_ _|refine LX_go.l _ ?_)
theorem lg:Agr (dx LP) (dx LX):=by
 unfold dx
 repeat (first|exact Agr.rfl'|exact ep _|exact fe _|exact ja _|exact rV_go|exact rB_go|exact rdFld_go|exact dV LX_go|exact rdCas_go|exact eu LX_go|exact rdPar_go|exact rdPri_go|exact eC LX_go|exact rdKey_go|exact eU LX_go|exact rdStg_go|exact f5 LX_go|exact fy LX_go|exact rdRef_go|exact lw LX_go|exact ko|refine hZ ?_ ?_ ?_|refine ji ?_ ?_ _|refine eZ ?_ _|refine LX_go.l _ ?_)
theorem nh:Agr (dJ LP) (dJ LX):=by
 unfold dJ
 repeat (first|exact Agr.rfl'|exact ep _|exact fe _|exact ja _|exact rV_go|exact rB_go|exact rdFld_go|exact dV LX_go|exact rdCas_go|exact eu LX_go|exact rdPar_go|exact rdPri_go|exact eC LX_go|exact rdKey_go|exact eU LX_go|exact rdStg_go|exact f5 LX_go|exact fy LX_go|exact rdRef_go|exact lw LX_go|exact ko|exact lg|refine hZ ?_ ?_ ?_|refine ji ?_ ?_ _|refine eZ ?_ _|refine LX_go.l _ ?_)
theorem oZ:Agr (dH LP) (dH LX):=by
 unfold dH
 repeat (first|exact Agr.rfl'|exact ep _|exact fe _|exact ja _|exact rV_go|exact rB_go|exact rdFld_go|exact dV LX_go|exact rdCas_go|exact eu LX_go|exact rdPar_go|exact rdPri_go|exact eC LX_go|exact rdKey_go|exact eU LX_go|exact rdStg_go|exact f5 LX_go|exact fy LX_go|exact rdRef_go|exact lw LX_go|exact ko|exact lg|exact nh|refine hZ ?_ ?_ ?_|refine ji ?_ ?_ _|refine eZ ?_ _|refine LX_go.l _ ?_)
theorem AK:Agr (eg LP) (eg LX):=by
 unfold eg
 repeat (first|exact Agr.rfl'|exact ep _|exact fe _|exact ja _|exact rV_go|exact rB_go|exact rdFld_go|exact dV LX_go|exact rdCas_go|exact eu LX_go|exact rdPar_go|exact rdPri_go|exact eC LX_go|exact rdKey_go|exact eU LX_go|exact rdStg_go|exact f5 LX_go|exact fy LX_go|exact rdRef_go|exact lw LX_go|exact ko|exact lg|exact nh|exact oZ|refine hZ ?_ ?_ ?_|refine ji ?_ ?_ _|refine eZ ?_ _|refine LX_go.l _ ?_)
theorem Aw:Agr (dK LP) (dK LX):=by
 unfold dK
 repeat (first|exact Agr.rfl'|exact ep _|exact fe _|exact ja _|exact rV_go|exact rB_go|exact rdFld_go|exact dV LX_go|exact rdCas_go|exact eu LX_go|exact rdPar_go|exact rdPri_go|exact eC LX_go|exact rdKey_go|exact eU LX_go|exact rdStg_go|exact f5 LX_go|exact fy LX_go|exact rdRef_go|exact lw LX_go|exact ko|exact lg|exact nh|exact oZ|exact AK|refine hZ ?_ ?_ ?_|refine ji ?_ ?_ _|refine eZ ?_ _|refine LX_go.l _ ?_)
theorem Ae:Agr (kI LP) (kI LX):=hZ (hZ (hZ (hZ (hZ (hZ (hZ (hZ (Agr.rfl' (p:=rap (rap (cZ mkS) (rU 2)) (rU 2))) (ji Agr.rfl' (rdFld_go) _) (eZ (rdFld_go) _)) (ji ko (dV LX_go) _) (eZ (dV LX_go) _)) (ji lg (eu LX_go) _) (eZ (eu LX_go) _)) (ji nh (eC LX_go) _) (eZ (eC LX_go) _)) (ji oZ (eU LX_go) _) (eZ (eU LX_go) _)) (ji Agr.rfl' (rdStg_go) _) (eZ (rdStg_go) _)) (ji Aw (fy LX_go) _) (eZ (fy LX_go) _)) (ji Agr.rfl' (rdRef_go) _) (eZ (rdRef_go) _)
/-- a schema that is read, and the error -/
def wz:Sch:=⟨[],[],[],[],[],[],[],[],0,0⟩
def xB (L:LC) (b:List UInt8):Sch × Int:=if fj (kI L (.any,b,0)).2≠0 then (wz,fj (kI L (.any,b,0)).2) else ((kI L (.any,b,0)).1,0)
theorem HD {s:RS} (h:fj s=0):s.2.2=0:=by
 unfold fj at h
 split at h
 ·exact absurd h (by decide)
 ·exact h
theorem zL (b:List UInt8):xB LP b=xB LX b:=by
 obtain ⟨h1,h2⟩:=Ae (.any,b,0)
 unfold xB
 rw [h1]
 by_cases hf:fj (kI LX (.any,b,0)).2=0
 ·rw [if_neg (by rw [hf];decide),if_neg (by rw [hf];decide),h2 (HD hf)]
 ·rw [if_pos hf,if_pos hf]
def tS (b:List UInt8):Sch × Int:=if 8000<b.length then (wz,3) else xB LX b
end Go.AL
