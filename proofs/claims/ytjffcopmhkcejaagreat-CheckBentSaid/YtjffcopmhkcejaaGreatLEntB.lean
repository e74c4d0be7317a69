/- Lemmas of the proof; no condition. -/
import Derived.Test.YtjffcopmhkcejaaGreatLSyn
import Derived.Test.YtjffcopmhkcejaaGreatLVal
set_option linter.all false
namespace Go.AL
def cv(b:By)(v n:Nat):Nat:=(b.getD v 0).toNat%n
def cp(v k:Nat):Nat:=v+k
def il(b:By)(v:Nat):AObj:=.cells [.slice .any 1 (bys b),.int .i64 ((min v b.length:Nat):Int)]
theorem cp0(v:Nat):cp v 0=v:=rfl
def fw{v k n:Nat}:cp v k+n=cp v (k+n):=by unfold cp;omega
def sw{b:By}{v n:Nat}(h:b.length≤v):cv b v n=0:=by
 unfold cv
 rw[gEq,gNq h]
 simp
def eQ{b:By}{v n:Nat}:cv b (min v b.length) n=cv b v n:=by
 rcases Nat.le_total v b.length with h|h
 ·rw[Nat.min_eq_left h]
 ·rw[Nat.min_eq_right h,sw h,sw (nrq _)]
def lP{b:By}{v k n:Nat}:cv b (min v b.length+k) n=cv b (v+k) n:=by
 rcases Nat.le_total v b.length with h|h
 ·rw[Nat.min_eq_left h]
 ·rw[Nat.min_eq_right h,sw Xa,sw (Xa)]
def jO{b:By}{v n:Nat}(h:0<n):cv b v n<n:=Nat.mod_lt _ h
def cU{b:By}{v n:Nat}:il b (min v b.length+n)=il b (v+n):=by
 unfold il
 rw[show min (min v b.length+n) b.length=min (v+n) b.length by omega]
def ma{b:By}{v n:Nat}:ltL n [.slice .any 1 (bys b),.int .i64 ((min v b.length:Nat):Int)]:=by
 simp[zns,znt,znd,zmq]
def onC(o:Option AObj)(K:By→Nat→Prop):Prop :=
 match o with
 |some (.cells [.slice .any 1 l,.int .i64 a])=>(isB l∧l.length≤1000000∧0≤a∧a≤(l.length:Int))∧K (unb l) a.toNat
 |_=>False
@[congr] theorem Tq{o o':Option AObj}{K:By→Nat→Prop}(h:o=o'):onC o K=onC o' K:=by rw[h]
def dm{b:By}{v:Nat}{K:By→Nat→Prop}(hb:b.length≤1000000):onC (some (il b v)) K=K b (min v b.length):=by
 unfold il onC
 simp only[zlz,zli,zlx,true_and,iNq]
 refine propext ⟨fun h=>h.2,fun h=>⟨⟨hb,Xa,Xa⟩,h⟩⟩
def pm{o:Option AObj}{K:By→Nat→Prop}(h:onC o K):∃ b v,o=some (il b (cp v 0))∧b.length≤1000000∧v≤b.length∧K b v:=by
 unfold onC at h
 split at h
 ·rename_i l a
  obtain⟨⟨h1,h2,h3,h4⟩,h5⟩:=h
  obtain⟨xs,rfl⟩:=iW h1
  rw[zlx]at h5
  rw[zli]at h2 h4
  refine⟨xs,a.toNat,?_,h2,Xa,h5⟩
  unfold il cp
  rw[show((min (a.toNat+0) xs.length:Nat):Int)=a by omega]
 ·exact h.elim
def vc(v:Nat):Wz:=[.int .u64 ((v/2^64:Nat):Int),.int .u64 ((v%2^64:Nat):Int)]
def qy{v:Nat}(h:v<2^64):vc v=[.int .u64 0,.int .u64 (v:Int)]:=by
 unfold vc
 rw[Nat.div_eq_of_lt h,Nat.mod_eq_of_lt h];rfl
def inL(l:List Int):Wz:=l.map (.int .i64)
def boL(l:List Bool):Wz:=l.map .bool
structure SField where
 id:Int
 name:By
 bits:Int
structure SHeader where
 id:Int
 name:By
 fields:List Int
structure SCase where
 value:Nat
 mask:Nat
 next:Int
structure SState where
 id:Int
 header:Int
 select:Int
 cases:List SCase
 dflt:Int
structure SPrim where
 op:Int
 dst:Int
 kind:Int
 n:Int
 value:Nat
structure SParam where
 name:By
 bits:Int
structure SAction where
 id:Int
 name:By
 params:List SParam
 body:List SPrim
 restr:By
structure SKey where
 name:By
 field:Int
 kind:Int
structure STable where
 id:Int
 name:By
 keys:List SKey
 actions:List Int
 dflt:Int
 dargs:List Nat
 size:Int
 restr:By
structure SStage where
 table:Int
 header:Int
structure SGrant where
 table:Int
 read:Bool
 write:Bool
 keys:List Bool
structure SRole where
 id:Int
 name:By
 grants:List SGrant
 actions:List Int
 quota:Int
 audit:Bool
structure SRef where
 table:Int
 key:Int
 action:Int
 param:Int
 toTable:Int
 toKey:Int
structure Sch where
 fields:List SField
 headers:List SHeader
 states:List SState
 actions:List SAction
 tables:List STable
 stages:List SStage
 roles:List SRole
 refs:List SRef
 maxBatch:Int
 budget:Int
def aJ(x:SField):AV:=.agg [.int .i64 x.id,.str x.name,.int .i64 x.bits]
def az(x:SHeader):AV:=.agg [.int .i64 x.id,.str x.name,.slice .any 1 (inL x.fields)]
def ba(x:SCase):AV:=.agg (vc x.value++vc x.mask++[.int .i64 x.next])
def aE(x:SState):AV:=.agg [.int .i64 x.id,.int .i64 x.header,.int .i64 x.select,.slice .any 5 (x.cases.map ba),.int .i64 x.dflt]
def aU(x:SPrim):AV:=.agg ([.int .i64 x.op,.int .i64 x.dst,.int .i64 x.kind,.int .i64 x.n]++vc x.value)
def aL(x:SParam):AV:=.agg [.str x.name,.int .i64 x.bits]
def ap(x:SAction):AV:=.agg [.int .i64 x.id,.str x.name,.slice .any 2 (x.params.map aL),.slice .any 6 (x.body.map aU),.str x.restr]
def aZ(x:SKey):AV:=.agg [.str x.name,.int .i64 x.field,.int .i64 x.kind]
def au(x:STable):AV:=.agg [.int .i64 x.id,.str x.name,.slice .any 3 (x.keys.map aZ),.slice .any 1 (inL x.actions),.int .i64 x.dflt,.slice .any 2 (x.dargs.map vv),.int .i64 x.size,.str x.restr]
def aQ(x:SStage):AV:=.agg [.int .i64 x.table,.int .i64 x.header]
def aK(x:SGrant):AV:=.agg [.int .i64 x.table,.bool x.read,.bool x.write,.slice .any 1 (boL x.keys)]
def aP(x:SRole):AV:=.agg [.int .i64 x.id,.str x.name,.slice .any 4 (x.grants.map aK),.slice .any 1 (inL x.actions),.int .i64 x.quota,.bool x.audit]
def bc(x:SRef):AV:=.agg [.int .i64 x.table,.int .i64 x.key,.int .i64 x.action,.int .i64 x.param,.int .i64 x.toTable,.int .i64 x.toKey]
def aR(x:Sch):Wz:=[.slice .any 3 (x.fields.map aJ),.slice .any 3 (x.headers.map az),.slice .any 5 (x.states.map aE),.slice .any 5 (x.actions.map ap),.slice .any 8 (x.tables.map au),
 .slice .any 2 (x.stages.map aQ),.slice .any 6 (x.roles.map aP),.slice .any 6 (x.refs.map bc),.int .i64 x.maxBatch,.int .i64 x.budget]
def cW(x:Sch):AV:=.agg (aR x)
def nQ(c:Nat):Int:=if c=2 then 65535 else if c=3 then 3 else 0
def bE(b:By)(v:Nat):List SState × Nat :=
 if cv b (v+1) 2=1 then
  if cv b (v+5) 3=1 then([⟨1,1,4,[⟨1,15,2⟩,⟨2,3,3⟩,⟨8*cv b (v+2) 2,8,nQ (cv b (v+3) 4)⟩],nQ (cv b v 4)⟩,⟨2,2,0,[],nQ (cv b (v+4) 4)⟩,⟨3,3,9,[⟨5,15,1+cv b (v+6) 3⟩],0⟩],v+7)
  else([⟨1,1,4,[⟨1,15,2⟩,⟨2,3,3⟩,⟨8*cv b (v+2) 2,8,nQ (cv b (v+3) 4)⟩],nQ (cv b v 4)⟩,⟨2,2,0,[],nQ (cv b (v+4) 4)⟩,⟨3,3,9,[],0⟩],v+6)
 else
  if cv b (v+3) 3=1 then([⟨1,1,4,[⟨1,15,2⟩,⟨2,3,3⟩],nQ (cv b v 4)⟩,⟨2,2,0,[],nQ (cv b (v+2) 4)⟩,⟨3,3,9,[⟨5,15,1+cv b (v+4) 3⟩],0⟩],v+5)
  else([⟨1,1,4,[⟨1,15,2⟩,⟨2,3,3⟩],nQ (cv b v 4)⟩,⟨2,2,0,[],nQ (cv b (v+2) 4)⟩,⟨3,3,9,[],0⟩],v+4)
abbrev ci(b:By)(v n:Nat):Int:=((cv b v n:Nat):Int)
def dZ(b:By)(v:Nat):List SAction:=[
 ⟨1,[110,111,112],[],[],[]⟩,
 ⟨2,[100,114,111,112],[],[⟨6,0,0,0,0⟩],[]⟩,
 ⟨3,[102,111,114,119,97,114,100],[⟨[112,111,114,116],16⟩],[⟨7,0,3,0,0⟩],(if cv b (v+2) 2=1 then [112,111,114,116,32,33,61,32,48]else [])⟩,
 ⟨4,[116,97,103],[⟨[120],4⟩],[⟨1,5,3,0,0⟩,⟨2,3,2,5,0⟩],[]⟩,
 ⟨5,[119,114,97,112],[⟨[120],4⟩,⟨[121],12⟩],[⟨4,3,0,0,0⟩,⟨1,9,3,0,0⟩,⟨3,8,3,1,0⟩],(if cv b (v+3) 2=1 then [120,32,60,32,121,32,124,124,32,120,32,61,61,32,49,53]else [])⟩,
 ⟨6,[115,116,114,105,112],[],[⟨5,2+ci b v 2,0,0,0⟩,⟨2,6,1,0,cv b (v+1) 256⟩],[]⟩]
def gText0:List (By):=[[],[97,32,33,61,32,48],[97,32,60,32,49,52,32,38,38,32,97,32,33,61,32,51]]
def gText1:List (By):=[[],[100,58,58,112,114,101,102,105,120,95,108,101,110,103,116,104,32,62,61,32,56],[100,58,58,112,114,101,102,105,120,95,108,101,110,103,116,104,32,61,61,32,51,50,32,45,62,32,100,58,58,118,97,108,117,101,32,62,32,48,120,102,102]]
def gText2:List (By):=[[],[112,114,105,111,114,105,116,121,32,60,32,49,48,48,32,38,38,32,40,101,58,58,109,97,115,107,32,33,61,32,48,32,124,124,32,97,58,58,109,97,115,107,32,33,61,32,48,41],[101,58,58,109,97,115,107,32,61,61,32,48,32,45,62,32,112,114,105,111,114,105,116,121,32,62,32,53]]
def gText3:List (By):=[[],[102,58,58,104,105,103,104,32,45,32,102,58,58,108,111,119,32,60,61,32,48,120,49,48,48],[33,40,102,58,58,108,111,119,32,61,61,32,48,32,38,38,32,102,58,58,104,105,103,104,32,62,32,49,48,48,48,41]]
def iJ(b:By)(v:Nat):STable:=⟨1,[112,111,114,116,115],([⟨[97],4,1⟩]),[1,2,4],1+ci b v 2,[],2+ci b (v+1) 5,gText0.getD (cv b (v+8) 3) []⟩
def hG(b:By)(v:Nat):STable:=⟨2,[114,111,117,116,101,115],([⟨[100],7,2⟩]++if cv b (v+3) 2=1 then [⟨[109],3,1⟩]else []),[1,2,3,4],2,[],3+ci b (v+2) 6,gText1.getD (cv b (v+9) 3) []⟩
def fg(b:By)(v:Nat):STable:=⟨3,[97,99,108],([⟨[101],6,3⟩,⟨[97],4,3⟩]++if cv b (v+5) 2=1 then [⟨[98],5,1⟩]else []),[1,2,3,5,6],1,[],4+ci b (v+4) 6,gText2.getD (cv b (v+10) 3) []⟩
def fe(b:By)(v:Nat):STable:=⟨4,[115,112,97,110,115],([⟨[102],8,4⟩]++if cv b (v+7) 2=1 then [⟨[103],9,1⟩,⟨[100],7,2⟩]else []),[1,3,5],3,[7],3+ci b (v+6) 5,gText3.getD (cv b (v+11) 3) []⟩
def cD(b:By)(v:Nat):List STable:=[iJ b v,hG b v,fg b v,fe b v]
def kT(b:By)(v n:Nat):List Bool:=(List.range n).map fun i=>decide (0<ci b (v+i) 4)
def eJ(b:By):List STable→Nat→(List SGrant × List SGrant × List SGrant) × Nat
 |[],v=>(([],[],[]),v)
 |t::ts,v =>
  let n:=t.keys.length
  let yes:=List.replicate n true
  let w:=v+n
  let (some',w1):List SGrant × Nat:=if 0<cv b w 4 then([⟨t.id,decide (0<ci b (w+1) 4),decide (cv b (w+2) 2=1),kT b v n⟩],w+3)else([],w+1)
  let (few',w2):List SGrant × Nat:=if cv b w1 2=1 then([⟨t.id,decide (cv b (w1+1) 2=1),decide (cv b (w1+2) 2=1),yes⟩],w1+3)else([],w1+1)
  let r:=eJ b ts w2
  ((⟨t.id,true,true,yes⟩::r.1.1,some'++r.1.2.1,few'++r.1.2.2),r.2)
def jV(b:By)(v:Nat)(ts:List STable):List SRole × Nat :=
 let g:=eJ b ts (v+4)
 ([⟨1,[97,108,108],g.1.1,[1,2,3,4,5,6],40,true⟩,⟨2,[115,111,109,101],g.1.2.1,[1,2,3+ci b v 3],1+ci b (v+1) 6,false⟩,⟨7,[102,101,119],g.1.2.2,[1+ci b (v+2) 6],ci b (v+3) 4,false⟩],g.2)
def gFields:List SField:=[⟨1,[105,110,103,114,101,115,115],16⟩,⟨2,[101,103,114,101,115,115],16⟩,⟨3,[109,101,116,97],8⟩,⟨4,[97],4⟩,⟨5,[98],4⟩,⟨6,[101],8⟩,⟨7,[100],32⟩,⟨8,[102],12⟩,⟨9,[103],4⟩]
def gHeaders:List SHeader:=[⟨1,[111,110,101],[4,5,6]⟩,⟨2,[116,119,111],[7]⟩,⟨3,[116,104,114,101,101],[8,9]⟩]
def d7(b:By)(v:Nat):Sch × Nat :=
 let st:=bE b (cp v 2)
 let ac:=dZ b st.2
 let ta:=cD b (cp st.2 4)
 let ro:=jV b (cp st.2 16) ta
 let w:=ro.2
 (⟨gFields,gHeaders,st.1,ac,ta,
   [⟨1,1⟩,⟨2,2⟩,⟨3,0⟩,⟨4,3⟩]++(if cv b (cp w 0) 2=1 then [⟨1,0⟩]else []),ro.1,
   (if cv b (cp w 1) 2=1 then [⟨2,0,4,0,1,0⟩]else [])++(if cv b (cp w 2) 2=1∧cv b (cp st.2 9) 2=1 then [⟨3,2,0,0,1,0⟩]else []) ++
     (if cv b (cp w 3) 2=1∧cv b (cp st.2 11) 2=1 then [⟨4,1,0,0,1,0⟩,⟨4,0,5,0,1,0⟩]else []),
   2+ci b (cp v 0) 8,12+ci b (cp v 1) 30⟩,cp w 4)
structure SMatch where
 present:Bool
 value:Nat
 mask:Nat
 pfx:Int
 high:Nat
 deriving DecidableEq
structure SEntry where
 table:Int
 ms:List SMatch
 prio:Int
 act:Int
 args:List Nat
def D9:List SField→Int→Int
 |[],_=>0
 |f::fs,id=>if f.id=id then f.bits else D9 fs id
def A4(s:Sch)(id:Int):Int:=D9 s.fields id
def zf:List SAction→Int→SAction
 |[],_=>⟨0,[],[],[],[]⟩
 |a::ar,id=>if a.id=id then a else zf ar id
def bfn(f:Nat→Bool):Wz:=(List.range 128).map fun j=>.bool (f j)
theorem Ly(v:Nat):bits v=bfn v.testBit:=rfl
def PO(f:Nat→Bool):(bfn f).length=128:=by simp[bfn]
def xS{f g:Nat→Bool}(h:∀ j,j<128→f j=g j):bfn f=bfn g:=by
 unfold bfn
 refine List.map_congr_left fun j hj=>?_
 rw[h j (List.mem_range.1 hj)]
def PT{f g:Nat→Bool}{i:Nat}{b:Bool}(h:∀ j,j<128→g j=if j=i then b else f j):(bfn f).set i (.bool b)=bfn g:=by
 apply List.ext_getElem
 ·simp[bfn]
 ·intro j h1 h2
  have hj:j<128:=by simpa[bfn]using h2
  rw[List.getElem_set]
  simp only[bfn,List.getElem_map,List.getElem_range,h j hj]
  by_cases e:i=j
  ·subst e;simp
  ·rw[if_neg e,if_neg (fun x=>e x.symm)]
def Pu(f:Nat→Bool)(i:Nat)(h:i<128):(bfn f).getD i .junk=.bool (f i):=by
 simp[bfn,gEq,h]
def NZ(a b c d:Nat)(h:b<2^64)(k:d<2^64):vOf a b&&&vOf c d=vOf (a&&&c) (b&&&d):=by
 refine Nat.eq_of_testBit_eq fun j=>?_
 rw[Nat.testBit_and,rh h,rh k,rh (Nat.and_lt_two_pow _ k)]
 split<;>rw[Nat.testBit_and]
def Xp{p:Prop}(h:p:=by simp[inL]):p:=h
end Go.AL
