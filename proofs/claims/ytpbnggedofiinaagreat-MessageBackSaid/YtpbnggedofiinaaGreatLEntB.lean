/- Lemmas of the proof; no condition. -/
import Derived.Test.YtpbnggedofiinaaGreatLGen
import Derived.Test.YtpbnggedofiinaaGreatLBack
set_option linter.all false
namespace Go.AL
def vc (v:Nat):List AV:=[.int .u64 ((v/2^64:Nat):Int),.int .u64 ((v % 2^64:Nat):Int)]
theorem gY {v:Nat} (h:v<2^64):vc v=[.int .u64 0,.int .u64 (v:Int)]:=by
 unfold vc
 rw [Nat.div_eq_of_lt h,Nat.mod_eq_of_lt h];rfl
def inL (l:List Int):List AV:=l.map (.int .i64)
def boL (l:List Bool):List AV:=l.map .bool
structure SField where
 id:Int
 name:List UInt8
 bits:Int
structure SHeader where
 id:Int
 name:List UInt8
 fields:List Int
structure SCase where
 value:Nat
 mask:Nat
 next:Int
structure SState where
 id:Int
 header:Int
 select:Int
 cases:List SCase
 dflt:Int
structure SPrim where
 op:Int
 dst:Int
 kind:Int
 n:Int
 value:Nat
structure SParam where
 name:List UInt8
 bits:Int
structure SAction where
 id:Int
 name:List UInt8
 params:List SParam
 body:List SPrim
 restr:List UInt8
structure SKey where
 name:List UInt8
 field:Int
 kind:Int
structure STable where
 id:Int
 name:List UInt8
 keys:List SKey
 actions:List Int
 dflt:Int
 dargs:List Nat
 size:Int
 restr:List UInt8
structure SStage where
 table:Int
 header:Int
structure SGrant where
 table:Int
 read:Bool
 write:Bool
 keys:List Bool
structure SRole where
 id:Int
 name:List UInt8
 grants:List SGrant
 actions:List Int
 quota:Int
 audit:Bool
structure SRef where
 table:Int
 key:Int
 action:Int
 param:Int
 toTable:Int
 toKey:Int
structure Sch where
 fields:List SField
 headers:List SHeader
 states:List SState
 actions:List SAction
 tables:List STable
 stages:List SStage
 roles:List SRole
 refs:List SRef
 maxBatch:Int
 budget:Int
def lf (x:SField):AV:=.agg [.int .i64 x.id,.str x.name,.int .i64 x.bits]
def p5 (x:SHeader):AV:=.agg [.int .i64 x.id,.str x.name,.slice .any 1 (inL x.fields)]
def pt (x:SCase):AV:=.agg (vc x.value++vc x.mask++[.int .i64 x.next])
def gy (x:SState):AV:=.agg [.int .i64 x.id,.int .i64 x.header,.int .i64 x.select,.slice .any 5 (x.cases.map pt),.int .i64 x.dflt]
def wd (x:SPrim):AV:=.agg ([.int .i64 x.op,.int .i64 x.dst,.int .i64 x.kind,.int .i64 x.n]++vc x.value)
def mm (x:SParam):AV:=.agg [.str x.name,.int .i64 x.bits]
def cy (x:SAction):AV:=.agg [.int .i64 x.id,.str x.name,.slice .any 2 (x.params.map mm),.slice .any 6 (x.body.map wd),.str x.restr]
def gW (x:SKey):AV:=.agg [.str x.name,.int .i64 x.field,.int .i64 x.kind]
def c8 (x:STable):AV:=.agg [.int .i64 x.id,.str x.name,.slice .any 3 (x.keys.map gW),.slice .any 1 (inL x.actions),.int .i64 x.dflt,.slice .any 2 (x.dargs.map vv),.int .i64 x.size,.str x.restr]
def sl (x:SStage):AV:=.agg [.int .i64 x.table,.int .i64 x.header]
def dX (x:SGrant):AV:=.agg [.int .i64 x.table,.bool x.read,.bool x.write,.slice .any 1 (boL x.keys)]
def nv (x:SRole):AV:=.agg [.int .i64 x.id,.str x.name,.slice .any 4 (x.grants.map dX),.slice .any 1 (inL x.actions),.int .i64 x.quota,.bool x.audit]
def Bl (x:SRef):AV:=.agg [.int .i64 x.table,.int .i64 x.key,.int .i64 x.action,.int .i64 x.param,.int .i64 x.toTable,.int .i64 x.toKey]
def cQ (x:Sch):List AV:=[.slice .any 3 (x.fields.map lf),.slice .any 3 (x.headers.map p5),.slice .any 5 (x.states.map gy),.slice .any 5 (x.actions.map cy),.slice .any 8 (x.tables.map c8),
 .slice .any 2 (x.stages.map sl),.slice .any 6 (x.roles.map nv),.slice .any 6 (x.refs.map Bl),.int .i64 x.maxBatch,.int .i64 x.budget]
def vj (x:Sch):AV:=.agg (cQ x)
def mK (c:Nat):Int:=if c=2 then 65535 else if c=3 then 3 else 0
def cE (b:List UInt8) (v:Nat):List SState × Nat :=
 if cv b (v+1) 2=1 then
  if cv b (v+5) 3=1 then ([⟨1,1,4,[⟨1,15,2⟩,⟨2,3,3⟩,⟨8*cv b (v+2) 2,8,mK (cv b (v+3) 4)⟩],mK (cv b v 4)⟩,⟨2,2,0,[],mK (cv b (v+4) 4)⟩,⟨3,3,9,[⟨5,15,1+cv b (v+6) 3⟩],0⟩],v+7)
  else ([⟨1,1,4,[⟨1,15,2⟩,⟨2,3,3⟩,⟨8*cv b (v+2) 2,8,mK (cv b (v+3) 4)⟩],mK (cv b v 4)⟩,⟨2,2,0,[],mK (cv b (v+4) 4)⟩,⟨3,3,9,[],0⟩],v+6)
 else
  if cv b (v+3) 3=1 then ([⟨1,1,4,[⟨1,15,2⟩,⟨2,3,3⟩],mK (cv b v 4)⟩,⟨2,2,0,[],mK (cv b (v+2) 4)⟩,⟨3,3,9,[⟨5,15,1+cv b (v+4) 3⟩],0⟩],v+5)
  else ([⟨1,1,4,[⟨1,15,2⟩,⟨2,3,3⟩],mK (cv b v 4)⟩,⟨2,2,0,[],mK (cv b (v+2) 4)⟩,⟨3,3,9,[],0⟩],v+4)
abbrev ci (b:List UInt8) (v n:Nat):Int:=((cv b v n:Nat):Int)
def du (b:List UInt8) (v:Nat):List SAction:=[
 ⟨1,[110,111,112],[],[],[]⟩,
 ⟨2,[100,114,111,112],[],[⟨6,0,0,0,0⟩],[]⟩,
 ⟨3,[102,111,114,119,97,114,100],[⟨[112,111,114,116],16⟩],[⟨7,0,3,0,0⟩],(if cv b (v+2) 2=1 then [112,111,114,116,32,33,61,32,48] else [])⟩,
 ⟨4,[116,97,103],[⟨[120],4⟩],[⟨1,5,3,0,0⟩,⟨2,3,2,5,0⟩],[]⟩,
 ⟨5,[119,114,97,112],[⟨[120],4⟩,⟨[121],12⟩],[⟨4,3,0,0,0⟩,⟨1,9,3,0,0⟩,⟨3,8,3,1,0⟩],(if cv b (v+3) 2=1 then [120,32,60,32,121,32,124,124,32,120,32,61,61,32,49,53] else [])⟩,
 ⟨6,[115,116,114,105,112],[],[⟨5,2+ci b v 2,0,0,0⟩,⟨2,6,1,0,cv b (v+1) 256⟩],[]⟩]
def gText0:List (List UInt8):=[[],[97,32,33,61,32,48],[97,32,60,32,49,52,32,38,38,32,97,32,33,61,32,51]]
def gText1:List (List UInt8):=[[],[100,58,58,112,114,101,102,105,120,95,108,101,110,103,116,104,32,62,61,32,56],[100,58,58,112,114,101,102,105,120,95,108,101,110,103,116,104,32,61,61,32,51,50,32,45,62,32,100,58,58,118,97,108,117,101,32,62,32,48,120,102,102]]
def gText2:List (List UInt8):=[[],[112,114,105,111,114,105,116,121,32,60,32,49,48,48,32,38,38,32,40,101,58,58,109,97,115,107,32,33,61,32,48,32,124,124,32,97,58,58,109,97,115,107,32,33,61,32,48,41],[101,58,58,109,97,115,107,32,61,61,32,48,32,45,62,32,112,114,105,111,114,105,116,121,32,62,32,53]]
def gText3:List (List UInt8):=[[],[102,58,58,104,105,103,104,32,45,32,102,58,58,108,111,119,32,60,61,32,48,120,49,48,48],[33,40,102,58,58,108,111,119,32,61,61,32,48,32,38,38,32,102,58,58,104,105,103,104,32,62,32,49,48,48,48,41]]
def i9 (b:List UInt8) (v:Nat):STable:=⟨1,[112,111,114,116,115],([⟨[97],4,1⟩]),[1,2,4],1+ci b v 2,[],2+ci b (v+1) 5,gText0.getD (cv b (v+8) 3) []⟩
def jd (b:List UInt8) (v:Nat):STable:=⟨2,[114,111,117,116,101,115],([⟨[100],7,2⟩]++if cv b (v+3) 2=1 then [⟨[109],3,1⟩] else []),[1,2,3,4],2,[],3+ci b (v+2) 6,gText1.getD (cv b (v+9) 3) []⟩
def dW (b:List UInt8) (v:Nat):STable:=⟨3,[97,99,108],([⟨[101],6,3⟩,⟨[97],4,3⟩]++if cv b (v+5) 2=1 then [⟨[98],5,1⟩] else []),[1,2,3,5,6],1,[],4+ci b (v+4) 6,gText2.getD (cv b (v+10) 3) []⟩
def dU (b:List UInt8) (v:Nat):STable:=⟨4,[115,112,97,110,115],([⟨[102],8,4⟩]++if cv b (v+7) 2=1 then [⟨[103],9,1⟩,⟨[100],7,2⟩] else []),[1,3,5],3,[7],3+ci b (v+6) 5,gText3.getD (cv b (v+11) 3) []⟩
def cF (b:List UInt8) (v:Nat):List STable:=[i9 b v,jd b v,dW b v,dU b v]
def lh (b:List UInt8) (v n:Nat):List Bool:=(List.range n).map fun i=>decide (0<ci b (v+i) 4)
def ea (b:List UInt8):List STable→Nat→(List SGrant × List SGrant × List SGrant) × Nat
 |[],v=>(([],[],[]),v)
 |t::ts,v =>
  let n:=t.keys.length
  let yes:=List.replicate n true
  let w:=v+n
  let (some',w1):List SGrant × Nat:=if 0<cv b w 4 then ([⟨t.id,decide (0<ci b (w+1) 4),decide (cv b (w+2) 2=1),lh b v n⟩],w+3) else ([],w+1)
  let (few',w2):List SGrant × Nat:=if cv b w1 2=1 then ([⟨t.id,decide (cv b (w1+1) 2=1),decide (cv b (w1+2) 2=1),yes⟩],w1+3) else ([],w1+1)
  let r:=ea b ts w2
  ((⟨t.id,true,true,yes⟩::r.1.1,some'++r.1.2.1,few'++r.1.2.2),r.2)
def ki (b:List UInt8) (v:Nat) (ts:List STable):List SRole × Nat :=
 let g:=ea b ts (v+4)
 ([⟨1,[97,108,108],g.1.1,[1,2,3,4,5,6],40,true⟩,⟨2,[115,111,109,101],g.1.2.1,[1,2,3+ci b v 3],1+ci b (v+1) 6,false⟩,⟨7,[102,101,119],g.1.2.2,[1+ci b (v+2) 6],ci b (v+3) 4,false⟩],g.2)
def gFields:List SField:=[⟨1,[105,110,103,114,101,115,115],16⟩,⟨2,[101,103,114,101,115,115],16⟩,⟨3,[109,101,116,97],8⟩,⟨4,[97],4⟩,⟨5,[98],4⟩,⟨6,[101],8⟩,⟨7,[100],32⟩,⟨8,[102],12⟩,⟨9,[103],4⟩]
def yb:List SHeader:=[⟨1,[111,110,101],[4,5,6]⟩,⟨2,[116,119,111],[7]⟩,⟨3,[116,104,114,101,101],[8,9]⟩]
def eL (b:List UInt8) (v:Nat):Sch × Nat :=
 let st:=cE b (cp v 2)
 let ac:=du b st.2
 let ta:=cF b (cp st.2 4)
 let ro:=ki b (cp st.2 16) ta
 let w:=ro.2
 (⟨gFields,yb,st.1,ac,ta,
   [⟨1,1⟩,⟨2,2⟩,⟨3,0⟩,⟨4,3⟩]++(if cv b (cp w 0) 2=1 then [⟨1,0⟩] else []),ro.1,
   (if cv b (cp w 1) 2=1 then [⟨2,0,4,0,1,0⟩] else [])++(if cv b (cp w 2) 2=1∧cv b (cp st.2 9) 2=1 then [⟨3,2,0,0,1,0⟩] else []) ++
     (if cv b (cp w 3) 2=1∧cv b (cp st.2 11) 2=1 then [⟨4,1,0,0,1,0⟩,⟨4,0,5,0,1,0⟩] else []),
   2+ci b (cp v 0) 8,12+ci b (cp v 1) 30⟩,cp w 4)
structure SMatch where
 present:Bool
 value:Nat
 mask:Nat
 pfx:Int
 high:Nat
 deriving DecidableEq
structure SEntry where
 table:Int
 ms:List SMatch
 prio:Int
 act:Int
 args:List Nat
def cR (x:SMatch):List AV:=.bool x.present::(vc x.value++vc x.mask++[.int .i64 x.pfx]++vc x.high)
def aR (x:SMatch):AV:=.agg (cR x)
def aN (x:SEntry):List AV:=[.int .i64 x.table,.slice .any 8 (x.ms.map aR),.int .i64 x.prio,.int .i64 x.act,.slice .any 2 (x.args.map vv)]
def bc (x:SEntry):AV:=.agg (aN x)
def rZ:List SField→Int→Int
 |[],_=>0
 |f::fs,id=>if f.id=id then f.bits else rZ fs id
def eW (s:Sch) (id:Int):Int:=rZ s.fields id
def low (v:Nat) (w:Int):Nat:=if 128≤w then v else v % 2^w.toNat
def dV:SMatch:=⟨false,0,0,0,0⟩
def qy (b:List UInt8) (v:Nat):Nat:=cv b v 256 <<< 24 ||| cv b (v+1) 16 <<< 8 ||| cv b (v+2) 16
def ra (b:List UInt8) (v:Nat) (w:Int):Int:=[w,8,16,1,1+ci b v w.toNat].getD (cv b (v+1) 5) 0
def mJ (b:List UInt8) (v:Nat):Nat:=[255,15,1,12,cv b v 256].getD (cv b (v+1) 5) 0
def oR (x y:Nat) (w:Int):Nat:=min (x+y) (2^w.toNat - 1)
def oJ (w n:Int):Nat:=2^w.toNat - 2^(w - n).toNat
def cq (b:List UInt8) (v:Nat) (w kind:Int):SMatch × Nat :=
 let x:=low (qy b v) w
 if kind=2 then (if 0<cv b (v+3) 5 then (⟨true,x &&& oJ w (ra b (v+4) w),0,ra b (v+4) w,0⟩,v+6) else (dV,v+4))
 else if kind=3 then (if low (mJ b (v+3)) w≠0 then (⟨true,x &&& low (mJ b (v+3)) w,low (mJ b (v+3)) w,0,0⟩,v+5) else (dV,v+5))
 else if kind=4 then (if 0<cv b (v+4) 5∧¬ (x=0∧oR x (cv b (v+3) 256) w=2^w.toNat - 1) then (⟨true,x,0,0,oR x (cv b (v+3) 256) w⟩,v+5) else (dV,v+5))
 else (⟨true,x,0,0,0⟩,v+3)
def ct (s:Sch) (b:List UInt8):List SKey→Nat→Int→(List SMatch × Int) × Nat
 |[],v,p=>(([],p),v)
 |k::ks,v,p =>
  let m:=cq b v (eW s k.field) k.kind
  let q:Int × Nat:=if k.kind=3∨k.kind=4 then (1+ci b m.2 5,m.2+1) else (p,m.2)
  let r:=ct s b ks q.2 q.1
  ((m.1::r.1.1,r.1.2),r.2)
def jz (b:List UInt8):List SParam→Nat→List Nat × Nat
 |[],v=>([],v)
 |p::ps,v=>(low (cv b v 256) p.bits::(jz b ps (v+1)).1,(jz b ps (v+1)).2)
def fx:List SAction→Int→SAction
 |[],_=>⟨0,[],[],[],[]⟩
 |a::ar,id=>if a.id=id then a else fx ar id
def Fc:STable:=⟨0,[],[],[],0,[],0,[]⟩
def fH (s:Sch) (n:Int):STable:=s.tables.getD (n % (s.tables.length:Int)).toNat Fc
def er (s:Sch) (b:List UInt8) (v:Nat) (n:Int):SEntry × Nat :=
 let t:=fH s n
 let r:=ct s b t.keys v 0
 let act:=t.actions.getD (cv b r.2 t.actions.length) 0
 let g:=jz b (fx s.actions act).params (r.2+1)
 (⟨t.id,r.1.1,r.1.2,act,g.1⟩,g.2)
def ir (x y:Nat):Int:=if x=y then 0 else if x<y then -1 else 1
theorem DJ {x y i:Nat} (hx:x.testBit i=false) (hy:y.testBit i=true) (h:∀ j,i<j→x.testBit j=y.testBit j):x<y:=by
 have e:x/2^(i+1)=y/2^(i+1):=by
  refine Nat.eq_of_testBit_eq fun j=>?_
  rw [Nat.testBit_div_two_pow,Nat.testBit_div_two_pow]
  exact h _ (by omega)
 have px:=Nat.two_pow_pos i
 have mx:x % 2^(i+1)<2^i:=by
  refine Nat.lt_pow_two_of_testBit _ fun j hj=>?_
  rw [Nat.testBit_mod_two_pow]
  by_cases hji:j=i
  ·subst hji;simp [hx]
  ·simp [show ¬ j<i+1 by omega]
 have my:2^i≤y % 2^(i+1):=Nat.ge_two_pow_of_testBit (by rw [Nat.testBit_mod_two_pow];simp [hy])
 have dx:=Nat.div_add_mod x (2^(i+1))
 have dy:=Nat.div_add_mod y (2^(i+1))
 rw [e] at dx
 omega
end Go.AL
