/- Lemmas of the proof; no condition. -/
import Derived.Test.YtpbnggedofiinaaGreatLGen
import Derived.Test.YtpbnggedofiinaaGreatLBack
set_option linter.all false
namespace Go.AL
def vc (v:Nat):List AV:=[.int .u64 ((v/2^64:Nat):Int),.int .u64 ((v % 2^64:Nat):Int)]
theorem mr {v:Nat} (h:v<2^64):vc v=[.int .u64 0,.int .u64 (v:Int)]:=by
 unfold vc
 rw [Nat.div_eq_of_lt h,Nat.mod_eq_of_lt h];rfl
def inL (l:List Int):List AV:=l.map (.int .i64)
def boL (l:List Bool):List AV:=l.map .bool
structure SField where
 id:Int
 name:List UInt8
 bits:Int
structure SHeader where
 id:Int
 name:List UInt8
 fields:List Int
structure SCase where
 value:Nat
 mask:Nat
 next:Int
structure SState where
 id:Int
 header:Int
 select:Int
 cases:List SCase
 dflt:Int
structure SPrim where
 op:Int
 dst:Int
 kind:Int
 n:Int
 value:Nat
structure SParam where
 name:List UInt8
 bits:Int
structure SAction where
 id:Int
 name:List UInt8
 params:List SParam
 body:List SPrim
 restr:List UInt8
structure SKey where
 name:List UInt8
 field:Int
 kind:Int
structure STable where
 id:Int
 name:List UInt8
 keys:List SKey
 actions:List Int
 dflt:Int
 dargs:List Nat
 size:Int
 restr:List UInt8
structure SStage where
 table:Int
 header:Int
structure SGrant where
 table:Int
 read:Bool
 write:Bool
 keys:List Bool
structure SRole where
 id:Int
 name:List UInt8
 grants:List SGrant
 actions:List Int
 quota:Int
 audit:Bool
structure SRef where
 table:Int
 key:Int
 action:Int
 param:Int
 toTable:Int
 toKey:Int
structure Sch where
 fields:List SField
 headers:List SHeader
 states:List SState
 actions:List SAction
 tables:List STable
 stages:List SStage
 roles:List SRole
 refs:List SRef
 maxBatch:Int
 budget:Int
def br (x:SField):AV:=.agg [.int .i64 x.id,.str x.name,.int .i64 x.bits]
def bc (x:SHeader):AV:=.agg [.int .i64 x.id,.str x.name,.slice .any 1 (inL x.fields)]
def bW (x:SCase):AV:=.agg (vc x.value++vc x.mask++[.int .i64 x.next])
def a0 (x:SState):AV:=.agg [.int .i64 x.id,.int .i64 x.header,.int .i64 x.select,.slice .any 5 (x.cases.map bW),.int .i64 x.dflt]
def bY (x:SPrim):AV:=.agg ([.int .i64 x.op,.int .i64 x.dst,.int .i64 x.kind,.int .i64 x.n]++vc x.value)
def bE (x:SParam):AV:=.agg [.str x.name,.int .i64 x.bits]
def aI (x:SAction):AV:=.agg [.int .i64 x.id,.str x.name,.slice .any 2 (x.params.map bE),.slice .any 6 (x.body.map bY),.str x.restr]
def cH (x:SKey):AV:=.agg [.str x.name,.int .i64 x.field,.int .i64 x.kind]
def aH (x:STable):AV:=.agg [.int .i64 x.id,.str x.name,.slice .any 3 (x.keys.map cH),.slice .any 1 (inL x.actions),.int .i64 x.dflt,.slice .any 2 (x.dargs.map vv),.int .i64 x.size,.str x.restr]
def bx (x:SStage):AV:=.agg [.int .i64 x.table,.int .i64 x.header]
def aN (x:SGrant):AV:=.agg [.int .i64 x.table,.bool x.read,.bool x.write,.slice .any 1 (boL x.keys)]
def bH (x:SRole):AV:=.agg [.int .i64 x.id,.str x.name,.slice .any 4 (x.grants.map aN),.slice .any 1 (inL x.actions),.int .i64 x.quota,.bool x.audit]
def cP (x:SRef):AV:=.agg [.int .i64 x.table,.int .i64 x.key,.int .i64 x.action,.int .i64 x.param,.int .i64 x.toTable,.int .i64 x.toKey]
def a9 (x:Sch):List AV:=[.slice .any 3 (x.fields.map br),.slice .any 3 (x.headers.map bc),.slice .any 5 (x.states.map a0),.slice .any 5 (x.actions.map aI),.slice .any 8 (x.tables.map aH),
 .slice .any 2 (x.stages.map bx),.slice .any 6 (x.roles.map bH),.slice .any 6 (x.refs.map cP),.int .i64 x.maxBatch,.int .i64 x.budget]
def fL (x:Sch):AV:=.agg (a9 x)
def kw (c:Nat):Int:=if c=2 then 65535 else if c=3 then 3 else 0
def bz (b:List UInt8) (v:Nat):List SState × Nat :=
 if cv b (v+1) 2=1 then
  if cv b (v+5) 3=1 then ([⟨1,1,4,[⟨1,15,2⟩,⟨2,3,3⟩,⟨8*cv b (v+2) 2,8,kw (cv b (v+3) 4)⟩],kw (cv b v 4)⟩,⟨2,2,0,[],kw (cv b (v+4) 4)⟩,⟨3,3,9,[⟨5,15,1+cv b (v+6) 3⟩],0⟩],v+7)
  else ([⟨1,1,4,[⟨1,15,2⟩,⟨2,3,3⟩,⟨8*cv b (v+2) 2,8,kw (cv b (v+3) 4)⟩],kw (cv b v 4)⟩,⟨2,2,0,[],kw (cv b (v+4) 4)⟩,⟨3,3,9,[],0⟩],v+6)
 else
  if cv b (v+3) 3=1 then ([⟨1,1,4,[⟨1,15,2⟩,⟨2,3,3⟩],kw (cv b v 4)⟩,⟨2,2,0,[],kw (cv b (v+2) 4)⟩,⟨3,3,9,[⟨5,15,1+cv b (v+4) 3⟩],0⟩],v+5)
  else ([⟨1,1,4,[⟨1,15,2⟩,⟨2,3,3⟩],kw (cv b v 4)⟩,⟨2,2,0,[],kw (cv b (v+2) 4)⟩,⟨3,3,9,[],0⟩],v+4)
abbrev ci (b:List UInt8) (v n:Nat):Int:=((cv b v n:Nat):Int)
def cU (b:List UInt8) (v:Nat):List SAction:=[
 ⟨1,[110,111,112],[],[],[]⟩,
 ⟨2,[100,114,111,112],[],[⟨6,0,0,0,0⟩],[]⟩,
 ⟨3,[102,111,114,119,97,114,100],[⟨[112,111,114,116],16⟩],[⟨7,0,3,0,0⟩],(if cv b (v+2) 2=1 then [112,111,114,116,32,33,61,32,48] else [])⟩,
 ⟨4,[116,97,103],[⟨[120],4⟩],[⟨1,5,3,0,0⟩,⟨2,3,2,5,0⟩],[]⟩,
 ⟨5,[119,114,97,112],[⟨[120],4⟩,⟨[121],12⟩],[⟨4,3,0,0,0⟩,⟨1,9,3,0,0⟩,⟨3,8,3,1,0⟩],(if cv b (v+3) 2=1 then [120,32,60,32,121,32,124,124,32,120,32,61,61,32,49,53] else [])⟩,
 ⟨6,[115,116,114,105,112],[],[⟨5,2+ci b v 2,0,0,0⟩,⟨2,6,1,0,cv b (v+1) 256⟩],[]⟩]
def gText0:List (List UInt8):=[[],[97,32,33,61,32,48],[97,32,60,32,49,52,32,38,38,32,97,32,33,61,32,51]]
def gText1:List (List UInt8):=[[],[100,58,58,112,114,101,102,105,120,95,108,101,110,103,116,104,32,62,61,32,56],[100,58,58,112,114,101,102,105,120,95,108,101,110,103,116,104,32,61,61,32,51,50,32,45,62,32,100,58,58,118,97,108,117,101,32,62,32,48,120,102,102]]
def gText2:List (List UInt8):=[[],[112,114,105,111,114,105,116,121,32,60,32,49,48,48,32,38,38,32,40,101,58,58,109,97,115,107,32,33,61,32,48,32,124,124,32,97,58,58,109,97,115,107,32,33,61,32,48,41],[101,58,58,109,97,115,107,32,61,61,32,48,32,45,62,32,112,114,105,111,114,105,116,121,32,62,32,53]]
def gText3:List (List UInt8):=[[],[102,58,58,104,105,103,104,32,45,32,102,58,58,108,111,119,32,60,61,32,48,120,49,48,48],[33,40,102,58,58,108,111,119,32,61,61,32,48,32,38,38,32,102,58,58,104,105,103,104,32,62,32,49,48,48,48,41]]
def eK (b:List UInt8) (v:Nat):STable:=⟨1,[112,111,114,116,115],([⟨[97],4,1⟩]),[1,2,4],1+ci b v 2,[],2+ci b (v+1) 5,gText0.getD (cv b (v+8) 3) []⟩
def er (b:List UInt8) (v:Nat):STable:=⟨2,[114,111,117,116,101,115],([⟨[100],7,2⟩]++if cv b (v+3) 2=1 then [⟨[109],3,1⟩] else []),[1,2,3,4],2,[],3+ci b (v+2) 6,gText1.getD (cv b (v+9) 3) []⟩
def cC (b:List UInt8) (v:Nat):STable:=⟨3,[97,99,108],([⟨[101],6,3⟩,⟨[97],4,3⟩]++if cv b (v+5) 2=1 then [⟨[98],5,1⟩] else []),[1,2,3,5,6],1,[],4+ci b (v+4) 6,gText2.getD (cv b (v+10) 3) []⟩
def cB (b:List UInt8) (v:Nat):STable:=⟨4,[115,112,97,110,115],([⟨[102],8,4⟩]++if cv b (v+7) 2=1 then [⟨[103],9,1⟩,⟨[100],7,2⟩] else []),[1,3,5],3,[7],3+ci b (v+6) 5,gText3.getD (cv b (v+11) 3) []⟩
def bZ (b:List UInt8) (v:Nat):List STable:=[eK b v,er b v,cC b v,cB b v]
def jk (b:List UInt8) (v n:Nat):List Bool:=(List.range n).map fun i=>decide (0<ci b (v+i) 4)
def cL (b:List UInt8):List STable→Nat→(List SGrant × List SGrant × List SGrant) × Nat
 |[],v=>(([],[],[]),v)
 |t::ts,v =>
  let n:=t.keys.length
  let yes:=List.replicate n true
  let w:=v+n
  let (some',w1):List SGrant × Nat:=if 0<cv b w 4 then ([⟨t.id,decide (0<ci b (w+1) 4),decide (cv b (w+2) 2=1),jk b v n⟩],w+3) else ([],w+1)
  let (few',w2):List SGrant × Nat:=if cv b w1 2=1 then ([⟨t.id,decide (cv b (w1+1) 2=1),decide (cv b (w1+2) 2=1),yes⟩],w1+3) else ([],w1+1)
  let r:=cL b ts w2
  ((⟨t.id,true,true,yes⟩::r.1.1,some'++r.1.2.1,few'++r.1.2.2),r.2)
def il (b:List UInt8) (v:Nat) (ts:List STable):List SRole × Nat :=
 let g:=cL b ts (v+4)
 ([⟨1,[97,108,108],g.1.1,[1,2,3,4,5,6],40,true⟩,⟨2,[115,111,109,101],g.1.2.1,[1,2,3+ci b v 3],1+ci b (v+1) 6,false⟩,⟨7,[102,101,119],g.1.2.2,[1+ci b (v+2) 6],ci b (v+3) 4,false⟩],g.2)
def gFields:List SField:=[⟨1,[105,110,103,114,101,115,115],16⟩,⟨2,[101,103,114,101,115,115],16⟩,⟨3,[109,101,116,97],8⟩,⟨4,[97],4⟩,⟨5,[98],4⟩,⟨6,[101],8⟩,⟨7,[100],32⟩,⟨8,[102],12⟩,⟨9,[103],4⟩]
def gHeaders:List SHeader:=[⟨1,[111,110,101],[4,5,6]⟩,⟨2,[116,119,111],[7]⟩,⟨3,[116,104,114,101,101],[8,9]⟩]
def gU (b:List UInt8) (v:Nat):Sch × Nat :=
 let st:=bz b (cp v 2)
 let ac:=cU b st.2
 let ta:=bZ b (cp st.2 4)
 let ro:=il b (cp st.2 16) ta
 let w:=ro.2
 (⟨gFields,gHeaders,st.1,ac,ta,
   [⟨1,1⟩,⟨2,2⟩,⟨3,0⟩,⟨4,3⟩]++(if cv b (cp w 0) 2=1 then [⟨1,0⟩] else []),ro.1,
   (if cv b (cp w 1) 2=1 then [⟨2,0,4,0,1,0⟩] else [])++(if cv b (cp w 2) 2=1∧cv b (cp st.2 9) 2=1 then [⟨3,2,0,0,1,0⟩] else []) ++
     (if cv b (cp w 3) 2=1∧cv b (cp st.2 11) 2=1 then [⟨4,1,0,0,1,0⟩,⟨4,0,5,0,1,0⟩] else []),
   2+ci b (cp v 0) 8,12+ci b (cp v 1) 30⟩,cp w 4)
theorem aJ {a b c:Mark} (h:cW a b) (k:cW b c):cW a c:=by
 rcases k with rfl|rfl
 ·exact h
 ·exact .inr rfl
abbrev RM (α:Type):=RS→α × RS
def dD {α:Type} (f:α):RM α:=fun s=>(f,s)
def rap {α β:Type} (p:RM (α→β)) (q:RM α):RM β:=fun s=>((p s).1 (q (p s).2).1,(q (p s).2).2)
def rU (w:Int):RM Int:=fun s=>cm s w
def rT (n:Int):RM (List UInt8):=fun s=>eD s n
def rV:RM Nat:=fun s=>dx s
def rB:RM Bool:=fun s=>ic s
def goP {α:Type} (rd:RM α):Nat→RS→Option (List α) × RS
 |0,s=>(some [],s)
 |n+1,s=>if (rd s).2.2.2≠0 then (none,(rd s).2) else ((goP rd n (rd s).2).1.map ((rd s).1::·),(goP rd n (rd s).2).2)
def goX {α:Type} (rd:RM α):Nat→RS→List α × RS
 |0,s=>([],s)
 |n+1,s=>((rd s).1::(goX rd n (rd s).2).1,(goX rd n (rd s).2).2)
def rlP {α:Type} (rd:RM α) (m:Int):RM (List α):=fun s=>((goP rd (bq s m).1.toNat (bq s m).2).1.getD [],(goP rd (bq s m).1.toNat (bq s m).2).2)
def rlX {α:Type} (rd:RM α) (m:Int):RM (List α):=fun s=>goX rd (bq s m).1.toNat (bq s m).2
structure RGo {α:Type} (p:RM α):Prop where
 l:∀ s,(p s).2.2.1.length≤s.2.1.length
 m:∀ s,cW s.1 (p s).2.1
 e:∀ s,s.2.2≠0→(p s).2=s
theorem cT {α:Type} (f:α):RGo (dD f):=⟨fun _=>Nat.le_refl _,fun _=>.inl rfl,fun _ _=>rfl⟩
theorem iG {α β:Type} {p:RM (α→β)} {q:RM α} (hp:RGo p) (hq:RGo q):RGo (rap p q) where
 l s:=Nat.le_trans (hq.l _) (hp.l s)
 m s:=aJ (hp.m s) (hq.m _)
 e s h:=by
  show (q (p s).2).2=s
  rw [hp.e s h];exact hq.e s h
theorem ff (w:Int):RGo (rU w) where
 l s:=ca s.1 s.2.1 s.2.2 w
 m s:=co s.1 s.2.1 s.2.2 w
 e s h:=by unfold rU cm;rw [if_pos h]
theorem iC (n:Int):RGo (rT n) where
 l s:=jE s.1 s.2.1 s.2.2 n
 m s:=jC s.1 s.2.1 s.2.2 n
 e s h:=by
  unfold rT eD ig
  rw [if_pos h]
  rfl
theorem rV_go:RGo rV where
 l s:=oP s.1 s.2.1 s.2.2
 m s:=oN s.1 s.2.1 s.2.2
 e s h:=by unfold rV dx;rw [if_pos h]
theorem rB_go:RGo rB where
 l s:=qj s.1 s.2.1 s.2.2
 m s:=ql s.1 s.2.1 s.2.2
 e s h:=by unfold rB ic;rw [if_pos h]
theorem gb {α:Type} {rd:RM α} (h:RGo rd):∀ (n:Nat) (s:RS),(goP rd n s).2.2.1.length≤s.2.1.length∧cW s.1 (goP rd n s).2.1∧(s.2.2≠0→(goP rd n s).2=s)
 |0,s=>⟨Nat.le_refl _,.inl rfl,fun _=>rfl⟩
 |n+1,s=>by
  obtain ⟨h1,h2,h3⟩:=gb h n (rd s).2
  unfold goP
  split
  ·exact ⟨h.l s,h.m s,h.e s⟩
  ·rename_i hz
   refine ⟨Nat.le_trans h1 (h.l s),aJ (h.m s) h2,fun he=>?_⟩
   exfalso;apply hz;rw [h.e s he];exact he
theorem pl {α:Type} {rd:RM α} (h:RGo rd):∀ (n:Nat) (s:RS),(goX rd n s).2.2.1.length≤s.2.1.length∧cW s.1 (goX rd n s).2.1∧(s.2.2≠0→(goX rd n s).2=s)
 |0,s=>⟨Nat.le_refl _,.inl rfl,fun _=>rfl⟩
 |n+1,s=>by
  obtain ⟨h1,h2,h3⟩:=pl h n (rd s).2
  unfold goX
  refine ⟨Nat.le_trans h1 (h.l s),aJ (h.m s) h2,fun he=>?_⟩
  have:=h.e s he
  show (goX rd n (rd s).2).2=s
  rw [h3 (by rw [this];exact he),this]
theorem vG {s:RS} {n:Int} (h:s.2.2≠0):bq s n=(0,s):=by unfold bq;rw [if_pos h]
theorem dw {α:Type} {rd:RM α} (h:RGo rd) (m:Int):RGo (rlP rd m) where
 l s:=Nat.le_trans (gb h _ _).1 (dO s.1 s.2.1 s.2.2 m)
 m s:=aJ (dT s.1 s.2.1 s.2.2 m) (gb h _ _).2.1
 e s he:=by unfold rlP;rw [vG he];rfl
theorem ip {α:Type} {rd:RM α} (h:RGo rd) (m:Int):RGo (rlX rd m) where
 l s:=Nat.le_trans (pl h _ _).1 (dO s.1 s.2.1 s.2.2 m)
 m s:=aJ (dT s.1 s.2.1 s.2.2 m) (pl h _ _).2.1
 e s he:=by unfold rlX;rw [vG he];rfl
def Agr {α:Type} (p x:RM α):Prop:=∀ s,(p s).2=(x s).2∧((x s).2.2.2=0→(p s).1=(x s).1)
theorem Agr.rfl' {α:Type} {p:RM α}:Agr p p:=fun _=>⟨rfl,fun _=>rfl⟩
theorem gx {α β:Type} {p p':RM (α→β)} {q q':RM α} (hp:Agr p p') (hq:Agr q q') (hg:RGo q'):Agr (rap p q) (rap p' q'):=fun s=>by
 obtain ⟨h1,h2⟩:=hp s
 obtain ⟨h3,h4⟩:=hq (p' s).2
 unfold rap
 dsimp only
 rw [h1]
 refine ⟨h3,fun he=>?_⟩
 have h0:(p' s).2.2.2=0:=by
  by_cases hc:(p' s).2.2.2=0
  ·exact hc
  ·rw [hg.e _ hc] at he;exact absurd he hc
 rw [h2 h0,h4 he]
theorem BH {α:Type} {p x:RM α} (h:Agr p x) (hx:RGo x):∀ (n:Nat) (s:RS),(goP p n s).2=(goX x n s).2∧((goX x n s).2.2.2=0→(goP p n s).1=some (goX x n s).1)
 |0,s=>⟨rfl,fun _=>rfl⟩
 |n+1,s=>by
  obtain ⟨h1,h2⟩:=h s
  obtain ⟨h3,h4⟩:=BH h hx n (x s).2
  unfold goP goX
  dsimp only
  rw [h1]
  by_cases hc:(x s).2.2.2=0
  ·rw [if_neg (by rw [hc];decide)]
   refine ⟨h3,fun he=>?_⟩
   rw [h4 he,h2 hc];rfl
  ·rw [if_pos hc,(pl hx n _).2.2 hc]
   exact ⟨rfl,fun he=>absurd he hc⟩
theorem i8 {α:Type} {p x:RM α} (h:Agr p x) (hx:RGo x) (m:Int):Agr (rlP p m) (rlX x m):=fun s=>by
 obtain ⟨h3,h4⟩:=BH h hx (bq s m).1.toNat (bq s m).2
 unfold rlP rlX
 dsimp only
 refine ⟨h3,fun he=>?_⟩
 rw [h4 he];rfl
theorem uP {α:Type} {rd:RM α}:∀ (n:Nat) (s:RS),(goX rd n s).1.length=n
 |0,_=>rfl
 |n+1,s=>by unfold goX;rw [List.length_cons,uP n]
theorem zj {α:Type} {rd:RM α} {q:α→Prop} (h:∀ s,q (rd s).1):∀ (n:Nat) (s:RS),∀ a∈(goX rd n s).1,q a
 |0,_=>fun a ha=>absurd ha (by simp [goX])
 |n+1,s=>fun a ha=>by
  unfold goX at ha
  rcases List.mem_cons.1 ha with rfl|ha
  ·exact h s
  ·exact zj h n _ a ha
theorem BT (s:RS) (n:Int) (hn:0≤n):0≤(bq s n).1∧(bq s n).1≤n:=by
 unfold bq
 split
 ·exact ⟨Int.le_refl _,hn⟩
 ·split
  ·exact ⟨Int.le_refl _,hn⟩
  ·split
   ·exact ⟨Int.le_refl _,hn⟩
   ·rename_i h;exact ⟨Int.natCast_nonneg _,by omega⟩
theorem F2 {α:Type} {rd:RM α} {m:Int} (hm:0≤m) (s:RS):((rlX rd m s).1.length:Int)≤m:=by
 unfold rlX
 rw [uP]
 have:=BT s m hm
 omega
theorem mK {α:Type} {rd:RM α} {q:α→Prop} (h:∀ s,q (rd s).1) (m:Int) (s:RS):∀ a∈(rlX rd m s).1,q a:=zj h _ _
structure LC where
 l:{α:Type}→RM α→Int→RM (List α)
def LP:LC:=⟨rlP⟩
def LX:LC:=⟨rlX⟩
def gp:RM SField:=rap (rap (rap (dD SField.mk) (rU 2)) (rT 24)) (rU 1)
def fe (L:LC):RM SHeader:=rap (rap (rap (dD SHeader.mk) (rU 2)) (rT 24)) (L.l (rU 2) 32)
def gg:RM SCase:=rap (rap (rap (dD SCase.mk) rV) rV) (rU 2)
def fb (L:LC):RM SState:=rap (rap (rap (rap (rap (dD SState.mk) (rU 2)) (rU 2)) (rU 2)) (L.l gg 6)) (rU 2)
def gt:RM SParam:=rap (rap (dD SParam.mk) (rT 24)) (rU 1)
def gq:RM SPrim:=rap (rap (rap (rap (rap (dD SPrim.mk) (rU 1)) (rU 2)) (rU 1)) (rU 2)) rV
def fg (L:LC):RM SAction:=rap (rap (rap (rap (rap (dD SAction.mk) (rU 2)) (rT 24)) (L.l gt 4)) (L.l gq 12)) (rT 400)
def gr:RM SKey:=rap (rap (rap (dD SKey.mk) (rT 24)) (rU 2)) (rU 1)
def fc (L:LC):RM STable:=rap (rap (rap (rap (rap (rap (rap (rap (dD STable.mk) (rU 2)) (rT 24)) (L.l gr 4)) (L.l (rU 2) 12)) (rU 2)) (L.l rV 4)) (rU 2)) (rT 400)
def gh:RM SStage:=rap (rap (dD SStage.mk) (rU 2)) (rU 2)
def eY (L:LC):RM SGrant:=rap (rap (rap (rap (dD SGrant.mk) (rU 2)) rB) rB) (L.l rB 4)
def eZ (L:LC):RM SRole:=rap (rap (rap (rap (rap (rap (dD SRole.mk) (rU 2)) (rT 24)) (L.l (eY L) 8)) (L.l (rU 2) 12)) (rU 2)) rB
def gk:RM SRef:=rap (rap (rap (rap (rap (rap (dD SRef.mk) (rU 2)) (rU 1)) (rU 2)) (rU 1)) (rU 2)) (rU 1)
def mkS (mb bu:Int) (f:List SField) (h:List SHeader) (st:List SState) (a:List SAction) (t:List STable) (g:List SStage) (r:List SRole) (x:List SRef):Sch:=⟨f,h,st,a,t,g,r,x,mb,bu⟩
def kN (L:LC):RM Sch:=rap (rap (rap (rap (rap (rap (rap (rap (rap (rap (dD mkS) (rU 2)) (rU 2)) (L.l gp 32)) (L.l (fe L) 8)) (L.l (fb L) 12)) (L.l (fg L) 12)) (L.l (fc L) 8)) (L.l gh 12)) (L.l (eZ L) 6)) (L.l gk 8)
structure LGo (L:LC):Prop where
 l:∀ {α:Type} {rd:RM α} (m:Int),RGo rd→RGo (L.l rd m)
theorem gn:LGo LP:=⟨fun m h=>dw h m⟩
theorem LX_go:LGo LX:=⟨fun m h=>ip h m⟩
theorem rdFld_go:RGo gp:=by
 unfold gp
 repeat (first|exact cT _|exact ff _|exact iC _|exact rV_go|exact rB_go|refine iG ?_ ?_)
theorem dN {L:LC} (hL:LGo L):RGo (fe L):=by
 unfold fe
 repeat (first|exact cT _|exact ff _|exact iC _|exact rV_go|exact rB_go|exact rdFld_go|refine iG ?_ ?_|refine hL.l _ ?_)
theorem rdCas_go:RGo gg:=by
 unfold gg
 repeat (first|exact cT _|exact ff _|exact iC _|exact rV_go|exact rB_go|refine iG ?_ ?_)
theorem ep {L:LC} (hL:LGo L):RGo (fb L):=by
 unfold fb
 repeat (first|exact cT _|exact ff _|exact iC _|exact rV_go|exact rB_go|exact rdFld_go|exact dN hL|exact rdCas_go|refine iG ?_ ?_|refine hL.l _ ?_)
theorem rdPar_go:RGo gt:=by
 unfold gt
 repeat (first|exact cT _|exact ff _|exact iC _|exact rV_go|exact rB_go|refine iG ?_ ?_)
theorem rdPri_go:RGo gq:=by
 unfold gq
 repeat (first|exact cT _|exact ff _|exact iC _|exact rV_go|exact rB_go|refine iG ?_ ?_)
theorem eE {L:LC} (hL:LGo L):RGo (fg L):=by
 unfold fg
 repeat (first|exact cT _|exact ff _|exact iC _|exact rV_go|exact rB_go|exact rdFld_go|exact dN hL|exact rdCas_go|exact ep hL|exact rdPar_go|exact rdPri_go|refine iG ?_ ?_|refine hL.l _ ?_)
theorem rdKey_go:RGo gr:=by
 unfold gr
 repeat (first|exact cT _|exact ff _|exact iC _|exact rV_go|exact rB_go|refine iG ?_ ?_)
theorem eR {L:LC} (hL:LGo L):RGo (fc L):=by
 unfold fc
 repeat (first|exact cT _|exact ff _|exact iC _|exact rV_go|exact rB_go|exact rdFld_go|exact dN hL|exact rdCas_go|exact ep hL|exact rdPar_go|exact rdPri_go|exact eE hL|exact rdKey_go|refine iG ?_ ?_|refine hL.l _ ?_)
theorem rdStg_go:RGo gh:=by
 unfold gh
 repeat (first|exact cT _|exact ff _|exact iC _|exact rV_go|exact rB_go|refine iG ?_ ?_)
theorem fQ {L:LC} (hL:LGo L):RGo (eY L):=by
 unfold eY
 repeat (first|exact cT _|exact ff _|exact iC _|exact rV_go|exact rB_go|exact rdFld_go|exact dN hL|exact rdCas_go|exact ep hL|exact rdPar_go|exact rdPri_go|exact eE hL|exact rdKey_go|exact eR hL|exact rdStg_go|refine iG ?_ ?_|refine hL.l _ ?_)
theorem fM {L:LC} (hL:LGo L):RGo (eZ L):=by
 unfold eZ
 repeat (first|exact cT _|exact ff _|exact iC _|exact rV_go|exact rB_go|exact rdFld_go|exact dN hL|exact rdCas_go|exact ep hL|exact rdPar_go|exact rdPri_go|exact eE hL|exact rdKey_go|exact eR hL|exact rdStg_go|exact fQ hL|refine iG ?_ ?_|refine hL.l _ ?_)
theorem rdRef_go:RGo gk:=by
 unfold gk
 repeat (first|exact cT _|exact ff _|exact iC _|exact rV_go|exact rB_go|refine iG ?_ ?_)
theorem lv {L:LC} (hL:LGo L):RGo (kN L):=by
 unfold kN
 repeat (first|exact cT _|exact ff _|exact iC _|exact rV_go|exact rB_go|exact rdFld_go|exact dN hL|exact rdCas_go|exact ep hL|exact rdPar_go|exact rdPri_go|exact eE hL|exact rdKey_go|exact eR hL|exact rdStg_go|exact fQ hL|exact fM hL|exact rdRef_go|refine iG ?_ ?_|refine hL.l _ ?_)
theorem ke:Agr (fe LP) (fe LX):=by
 unfold fe
 repeat (first|exact Agr.rfl'|exact cT _|exact ff _|exact iC _|exact rV_go|exact rB_go|exact rdFld_go|exact dN LX_go|exact rdCas_go|exact ep LX_go|exact rdPar_go|exact rdPri_go|exact eE LX_go|exact rdKey_go|exact eR LX_go|exact rdStg_go|exact fQ LX_go|exact fM LX_go|exact rdRef_go|exact lv LX_go|refine gx ?_ ?_ ?_|refine i8 ?_ ?_ _|refine ip ?_ _|refine LX_go.l _ ?_)
theorem lA:Agr (fb LP) (fb LX):=by
 unfold fb
 repeat (first|exact Agr.rfl'|exact cT _|exact ff _|exact iC _|exact rV_go|exact rB_go|exact rdFld_go|exact dN LX_go|exact rdCas_go|exact ep LX_go|exact rdPar_go|exact rdPri_go|exact eE LX_go|exact rdKey_go|exact eR LX_go|exact rdStg_go|exact fQ LX_go|exact fM LX_go|exact rdRef_go|exact lv LX_go|exact ke|refine gx ?_ ?_ ?_|refine i8 ?_ ?_ _|refine ip ?_ _|refine LX_go.l _ ?_)
theorem nf:Agr (fg LP) (fg LX):=by
 unfold fg
 repeat (first|exact Agr.rfl'|exact cT _|exact ff _|exact iC _|exact rV_go|exact rB_go|exact rdFld_go|exact dN LX_go|exact rdCas_go|exact ep LX_go|exact rdPar_go|exact rdPri_go|exact eE LX_go|exact rdKey_go|exact eR LX_go|exact rdStg_go|exact fQ LX_go|exact fM LX_go|exact rdRef_go|exact lv LX_go|exact ke|exact lA|refine gx ?_ ?_ ?_|refine i8 ?_ ?_ _|refine ip ?_ _|refine LX_go.l _ ?_)
theorem pd:Agr (fc LP) (fc LX):=by
 unfold fc
 repeat (first|exact Agr.rfl'|exact cT _|exact ff _|exact iC _|exact rV_go|exact rB_go|exact rdFld_go|exact dN LX_go|exact rdCas_go|exact ep LX_go|exact rdPar_go|exact rdPri_go|exact eE LX_go|exact rdKey_go|exact eR LX_go|exact rdStg_go|exact fQ LX_go|exact fM LX_go|exact rdRef_go|exact lv LX_go|exact ke|exact lA|exact nf|refine gx ?_ ?_ ?_|refine i8 ?_ ?_ _|refine ip ?_ _|refine LX_go.l _ ?_)
theorem Ay:Agr (eY LP) (eY LX):=by
 unfold eY
 repeat (first|exact Agr.rfl'|exact cT _|exact ff _|exact iC _|exact rV_go|exact rB_go|exact rdFld_go|exact dN LX_go|exact rdCas_go|exact ep LX_go|exact rdPar_go|exact rdPri_go|exact eE LX_go|exact rdKey_go|exact eR LX_go|exact rdStg_go|exact fQ LX_go|exact fM LX_go|exact rdRef_go|exact lv LX_go|exact ke|exact lA|exact nf|exact pd|refine gx ?_ ?_ ?_|refine i8 ?_ ?_ _|refine ip ?_ _|refine LX_go.l _ ?_)
theorem Ak:Agr (eZ LP) (eZ LX):=by
 unfold eZ
 repeat (first|exact Agr.rfl'|exact cT _|exact ff _|exact iC _|exact rV_go|exact rB_go|exact rdFld_go|exact dN LX_go|exact rdCas_go|exact ep LX_go|exact rdPar_go|exact rdPri_go|exact eE LX_go|exact rdKey_go|exact eR LX_go|exact rdStg_go|exact fQ LX_go|exact fM LX_go|exact rdRef_go|exact lv LX_go|exact ke|exact lA|exact nf|exact pd|exact Ay|refine gx ?_ ?_ ?_|refine i8 ?_ ?_ _|refine ip ?_ _|refine LX_go.l _ ?_)
theorem AK:Agr (kN LP) (kN LX):=gx (gx (gx (gx (gx (gx (gx (gx (Agr.rfl' (p:=rap (rap (dD mkS) (rU 2)) (rU 2))) (i8 Agr.rfl' (rdFld_go) _) (ip (rdFld_go) _)) (i8 ke (dN LX_go) _) (ip (dN LX_go) _)) (i8 lA (ep LX_go) _) (ip (ep LX_go) _)) (i8 nf (eE LX_go) _) (ip (eE LX_go) _)) (i8 pd (eR LX_go) _) (ip (eR LX_go) _)) (i8 Agr.rfl' (rdStg_go) _) (ip (rdStg_go) _)) (i8 Ak (fM LX_go) _) (ip (fM LX_go) _)) (i8 Agr.rfl' (rdRef_go) _) (ip (rdRef_go) _)
def pC:Sch:=⟨[],[],[],[],[],[],[],[],0,0⟩
def ut (L:LC) (b:List UInt8):Sch × Int:=if gy (kN L (.any,b,0)).2≠0 then (pC,gy (kN L (.any,b,0)).2) else ((kN L (.any,b,0)).1,0)
theorem GA {s:RS} (h:gy s=0):s.2.2=0:=by
 unfold gy at h
 split at h
 ·exact absurd h (by decide)
 ·exact h
theorem Aq (b:List UInt8):ut LP b=ut LX b:=by
 obtain ⟨h1,h2⟩:=AK (.any,b,0)
 unfold ut
 rw [h1]
 by_cases hf:gy (kN LX (.any,b,0)).2=0
 ·rw [if_neg (by rw [hf];decide),if_neg (by rw [hf];decide),h2 (GA hf)]
 ·rw [if_pos hf,if_pos hf]
def nO (b:List UInt8):Sch × Int:=if 8000<b.length then (pC,3) else ut LX b
end Go.AL
