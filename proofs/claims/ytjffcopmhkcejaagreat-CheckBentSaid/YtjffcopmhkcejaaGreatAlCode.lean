/- Lemmas of the proof; no condition. -/
import Derived.Test.YtjffcopmhkcejaaGreatAlState
set_option linter.all false
namespace Go.AL
inductive TD where
 |int (k:IntKind)
 |bool
 |string
 |ptr (e:TypeId)
 |slice (e:TypeId)
 |struct (fs:List (Nat × TypeId × Bool))
 |array (n:Nat) (e:TypeId)
 |map (k e:TypeId)
 |func
 |iface (ms:Nat)
 |other
 deriving DecidableEq
structure TI where
 desc:TD
 size:Nat
 bytes:Nat
 zero:AV
def gv:TypeDesc→TD
 |.int k=>.int k
 |.bool=>.bool
 |.string=>.string
 |.pointer e=>.ptr e
 |.slice e=>.slice e
 |.struct fs => .struct (fs.toList.map fun f => (f.offset, f.type, f.name == "_"))
 |.array n e=>.array n e
 |.map k e=>.map k e
 |.func _ _ _=>.func
 |.interface ms=>.iface ms.size
 |_=>.other
def i0:Value→AV
 |.int k n=>.int k n
 |.bool b=>.bool b
 |.string s=>.str s.data.toList
 |.pointer none=>.nilp
 |.slice none 0 0=>.slice .nil 1 []
 |.map none=>.nilm
 |.nilFunc=>.nilf
 |.nilIface=>.nili
 |_=>.junk
def ofValue:Value→AV
 |.agg cs=>.agg (cs.toList.map i0)
 |v=>i0 v
def ti(P:Program)(t:TypeId):Option TI :=
 match P.underlying t,P.info? t with
 |some d,some i=>match i.zero with
  |some z=>some ⟨gv d,i.size,i.bytes,ofValue z⟩
  |none=>none
 |_,_=>none
def TD.agg:TD→Bool
 |.struct _|.array _ _=>true
 |_=>false
abbrev Fr:=List (Nat × AV)
def Fr.get:Fr→Nat→AV
 |[],_=>.junk
 |(j,v)::fr,i=>if j=i then v else Fr.get fr i
def ev(fr:Fr):Operand→AV
 |.tmp t=>Fr.get fr t
 |.const v=>ofValue v
 |.global _=>.junk
 |.func f=>.func (.func f) [] []
def evF(f:Nat→AV):Operand→AV
 |.tmp t=>f t
 |.const v=>ofValue v
 |.global _=>.junk
 |.func f=>.func (.func f) [] []
def je(fr:Fr):ev fr=evF (Fr.get fr):=by funext x;cases x<;>rfl
def Fr.put(fr:Fr):Option Nat→AV→Fr
 |some d,v=>(d,v)::fr
 |none,_=>fr
structure R where
 c:Prop
 v:AV
 H:AHeap
def splice:Wz→Nat→Wz→Wz
 |[],_,_=>[]
 |c::cs,0,[]=>c::cs
 |_::cs,0,v::vs=>v::splice cs 0 vs
 |c::cs,n+1,vs=>c::splice cs n vs
def dp(cs:Wz):Bool:=cs.all AV.one
def cP(k:IntKind)(a b:Int):Int:=k.wrap (BitVec.ofInt k.bits a&&&BitVec.ofInt k.bits b).toNat
def ior(k:IntKind)(a b:Int):Int:=k.wrap (BitVec.ofInt k.bits a ||| BitVec.ofInt k.bits b).toNat
def OO(k:IntKind)(a b:Int):Int:=k.wrap (BitVec.ofInt k.bits a ^^^ BitVec.ofInt k.bits b).toNat
def El(k:IntKind)(a b:Int):Int:=k.wrap (BitVec.ofInt k.bits a &&& ~~~(BitVec.ofInt k.bits b)).toNat
def uc(k:IntKind)(a b:Int):Int:=k.wrap (a*2^(min b.toNat k.bits))
def fI(k:IntKind)(a b:Int):Int:=a.fdiv (2^(min b.toNat k.bits))
def FK(op:BinOp)(k:IntKind)(a b:Int)(H:AHeap):Option R :=
 match op with
 |.add=>some ⟨True,.int k (k.wrap (a+b)),H⟩
 |.sub=>some ⟨True,.int k (k.wrap (a-b)),H⟩
 |.mul=>some ⟨True,.int k (k.wrap (a*b)),H⟩
 |.quo=>some ⟨b≠0,.int k (k.wrap (a.tdiv b)),H⟩
 |.rem=>some ⟨b≠0,.int k (a.tmod b),H⟩
 |.and=>some ⟨True,.int k (cP k a b),H⟩
 |.or=>some ⟨True,.int k (ior k a b),H⟩
 |.xor=>some ⟨True,.int k (OO k a b),H⟩
 |.andNot=>some ⟨True,.int k (El k a b),H⟩
 |.eql=>some ⟨True,.bool (a==b),H⟩
 |.neq=>some ⟨True,.bool (a !=b),H⟩
 |.lss=>some ⟨True,.bool (decide (a<b)),H⟩
 |.leq=>some ⟨True,.bool (decide (a≤b)),H⟩
 |.gtr=>some ⟨True,.bool (decide (a>b)),H⟩
 |.geq=>some ⟨True,.bool (decide (a ≥ b)),H⟩
 |_=>none
def ceq:TD→AV→AV→Option Bool
 |.int _,.int k a,.int k' b=>if k=k' then some (a==b)else none
 |.bool,.bool a,.bool b=>some (a==b)
 |.string,.str a,.str b=>some (a==b)
 |_,_,_=>none
def teq(P:Program):Nat→TypeId→AV→AV→Option Bool
 |0,_,_,_=>none
 |d+1,t,x,y =>
  match ti P t with
  |none=>none
  |some i =>
   match i.desc with
   |.int _|.bool|.string=>ceq i.desc x y
   |.struct fs =>
    match x,y with
    |.agg xs,.agg ys=>if P.stoodInHeld t then none else go (fun e a b=>teq P d e a b) (part P) fs xs ys
    |_,_=>none
   |.array n e =>
    match x,y with
    |.agg xs,.agg ys=>match ti P e with
     |some ie=>arr (fun a b=>teq P d e a b) (part P e) ie.size n 0 xs ys
     |none=>none
    |_,_=>none
   |_=>none
where
 part (P:Program) (t:TypeId) (cs:Wz) (off:Nat):Option AV :=
  match ti P t with
  |none=>none
  |some i=>if i.desc.agg then(if off+i.size≤cs.length then some (.agg ((cs.drop off).take i.size))else none)else(if off<cs.length then some (cs.getD off .junk)else none)
 go (eq:TypeId→AV→AV→Option Bool) (part:TypeId→Wz→Nat→Option AV):List (Nat × TypeId × Bool)→Wz→Wz→Option Bool
  |[],_,_=>some true
  |(off,t,blank)::fs,xs,ys =>
   if blank then go eq part fs xs ys else
   match part t xs off,part t ys off with
   |some a,some b=>match eq t a b,go eq part fs xs ys with
    |some p,some q=>some (p&&q)
    |_,_=>none
   |_,_=>none
 arr (eq:AV→AV→Option Bool) (part:Wz→Nat→Option AV) (sz:Nat):Nat→Nat→Wz→Wz→Option Bool
  |0,_,_,_=>some true
  |n+1,i,xs,ys =>
   match part xs (i*sz),part ys (i*sz)with
   |some a,some b=>match eq a b,arr eq part sz n (i+1) xs ys with
    |some p,some q=>some (p&&q)
    |_,_=>none
   |_,_=>none
def rEq(P:Program)(neg:Bool)(t:TypeId)(x y:AV)(H:AHeap):Option R :=
 match(ti P t).map TI.desc,x,y with
 |some .bool,.bool a,.bool b=>some ⟨True,.bool ((a==b) !=neg),H⟩
 |some (.ptr _),.nilp,.nilp=>some ⟨True,.bool (!neg),H⟩
 |some (.ptr _),.ptr _ _,.nilp=>some ⟨True,.bool neg,H⟩
 |some (.ptr _),.cptr _,.nilp=>some ⟨True,.bool neg,H⟩
 |some (.iface _),.iface _ _,.nili=>some ⟨True,.bool neg,H⟩
 |some (.iface 0),.nili,.nili=>some ⟨True,.bool (!neg),H⟩
 |some _,.agg xs,.agg ys=>match teq P 9 t (.agg xs) (.agg ys)with
  |some b=>if P.eqGuardType P.depth t then none else some ⟨True,.bool (b !=neg),H⟩
  |none=>none
 |_,_,_=>none
def wj:Nat:=9223372036854775807
def Fs(op:BinOp)(a b:By)(H:AHeap):Option R :=
 match op with
 |.add=>some ⟨a.length+b.length≤wj,.str (a++b),H⟩
 |.eql=>some ⟨True,.bool (a==b),H⟩
 |.neq=>some ⟨True,.bool (!(a==b)),H⟩
 |.lss=>some ⟨True,.bool (Op.bytesLess a b),H⟩
 |_=>none
def rC(P:Program)(op:BinOp)(t:TypeId)(x y:AV)(H:AHeap):Option R :=
 match x,y with
 |.int k a,.int k' b =>
  match op with
  |.shl=>some ⟨0≤b,.int k (uc k a b),H⟩
  |.shr=>some ⟨0≤b,.int k (fI k a b),H⟩
  |op=>if k=k' then FK op k a b H else none
 |.str a,.str b=>Fs op a b H
 |x,y=>match op with
  |.eql=>rEq P false t x y H
  |.neq=>rEq P true t x y H
  |_=>none
def rUn(op:UnOp)(x:AV)(H:AHeap):Option R :=
 match op,x with
 |.neg,.int k n=>some ⟨True,.int k (k.wrap (0-n)),H⟩
 |.xor,.int k n=>some ⟨True,.int k (OO k (if k.signed then -1 else k.max) n),H⟩
 |.not,.bool b=>some ⟨True,.bool (!b),H⟩
 |_,_=>none
def byteOf(x:AV):UInt8:=match x with|.int _ n=>UInt8.ofNat n.toNat|_=>0
def BW(x:AV):Prop:=∃ n,x=.int .u8 n
def bC(b:UInt8):AV:=.int .u8 b.toNat
def zjo(P:Program)(src dst:TypeId)(x:AV)(H:AHeap):Option R :=
 match(ti P src).map TI.desc,(ti P dst).map TI.desc,x with
 |some _,some (.int k),.int _ n=>some ⟨True,.int k (k.wrap n),H⟩
 |some _,some .string,.str s=>some ⟨True,.str s,H⟩
 |some .string,some (.slice e),.str s =>
  match ti P e with
  |some ⟨.int .u8,1,_,.int .u8 0⟩=>some ⟨s.length≤140737488355328,.slice (.own H.nx) 1 (s.map bC),H.push (.buf 1 s.length)⟩
  |_=>none
 |some (.slice e),some .string,.slice _ _ xs =>
  match(ti P e).map TI.desc with
  |some (.int .u8)=>some ⟨∀ x∈xs,BW x,.str (xs.map byteOf),H⟩
  |_=>none
 |_,_,_=>none
def a8(H:AHeap)(id:Nat):Option (Wz):=match H.get id with|some (.cells cs)=>some cs|_=>none
def zjh(i:TI)(cs:Wz)(off:Nat)(H:AHeap):Option R :=
 if i.desc.agg then some ⟨off+i.size≤cs.length,.agg ((cs.drop off).take i.size),H⟩else some ⟨off<cs.length,cs.getD off .junk,H⟩
def zjg(P:Program)(t:TypeId)(a:AV)(H:AHeap):Option R :=
 match ti P t,a with
 |some i,.ptr id off=>match a8 H id with
  |some cs=>zjh i cs off H
  |none=>none
 |some i,.cptr cs=>zjh i cs 0 H
 |_,_=>none
def zji(P:Program)(t:TypeId)(a v:AV)(H:AHeap):Option R :=
 match ti P t,a with
 |some i,.ptr id off=>match a8 H id with
  |some cs=>if v.cells.length=i.size∧dp v.cells=true then some ⟨off+i.size≤cs.length,.junk,H.set id (.cells (splice cs off v.cells))⟩else none
  |none=>none
 |_,_=>none
def zjk(P:Program)(t:TypeId)(x:AV)(f:Nat)(H:AHeap):Option R :=
 match(ti P t).map TI.desc with
 |some (.struct fs)=>match fs[f]? with
  |some (off,ft,_)=>match ti P ft with
   |some i=>if i.size=0 then none else match x with
    |.ptr id o=>some ⟨True,.ptr id (o+off),H⟩
    |.cptr cs=>some ⟨off≤cs.length,.cptr (cs.drop off),H⟩
    |_=>none
   |none=>none
  |none=>none
 |_=>none
def zjl(P:Program)(t:TypeId)(x:AV)(f:Nat)(H:AHeap):Option R :=
 match(ti P t).map TI.desc,x with
 |some (.struct fs),.agg cs=>match fs[f]? with
  |some (off,ft,_)=>match ti P ft with
   |some i=>zjh i cs off H
   |none=>none
  |none=>none
 |_,_=>none
def zjm(P:Program)(t:TypeId)(x ix:AV)(H:AHeap):Option R :=
 match(ti P t).map TI.desc,ix with
 |some (.slice e),.int _ i=>match ti P e with
  |some te=>match x with
   |.slice _ sz xs=>if te.size=sz then some ⟨0≤i∧i<xs.length,.cptr (xs.getD i.toNat .junk).cells,H⟩else none
   |.ms id off sz len=>if te.size=sz then some ⟨0≤i∧i<len,.ptr id (off+i.toNat*sz),H⟩else none
   |_=>none
  |none=>none
 |some (.array n e),.int _ i=>match ti P e with
  |some te=>match x with
   |.ptr id off=>some ⟨0≤i∧i<n,.ptr id (off+i.toNat*te.size),H⟩
   |.cptr cs=>some ⟨0≤i∧i<n∧n*te.size≤cs.length,.cptr (cs.drop (i.toNat*te.size)),H⟩
   |_=>none
  |none=>none
 |_,_=>none
def zjn(P:Program)(t:TypeId)(x ix:AV)(H:AHeap):Option R :=
 match(ti P t).map TI.desc,x,ix with
 |some .string,.str s,.int _ i=>some ⟨0≤i∧i<s.length,.int .u8 (s.getD i.toNat 0).toNat,H⟩
 |some (.array n e),.agg cs,.int _ i=>match ti P e with
  |some te=>if te.desc.agg then some ⟨0≤i∧i<n∧n*te.size≤cs.length,.agg ((cs.drop (i.toNat*te.size)).take te.size),H⟩
   else some ⟨0≤i∧i<n∧n*te.size≤cs.length∧te.size=1,cs.getD (i.toNat*te.size) .junk,H⟩
  |none=>none
 |_,_,_=>none
def pM(x:Option AV)(d:Nat):Option Int :=
 match x with
 |none=>some d
 |some (.int _ n)=>some n
 |_=>none
def zja(P:Program)(t:TypeId)(x:AV)(lo hi mx:Option AV)(H:AHeap):Option R :=
 match(ti P t).map TI.desc,x with
 |some (.slice e),.slice m sz xs=>match ti P e with
  |some te=>if te.size=sz∨xs=[]then match pM lo 0,pM hi xs.length,mx with
   |some l,some h,none=>some ⟨0≤l∧l≤h∧h≤xs.length,.slice .any sz ((xs.take h.toNat).drop l.toNat),H⟩
   |_,_,_=>none else none
  |none=>none
 |some (.slice e),.ms id off sz len=>match ti P e with
  |some te=>if te.size=sz then match pM lo 0,pM hi len,mx with
   |some l,some h,none=>some ⟨0≤l∧l≤h∧h≤len,.ms id (off+l.toNat*sz) sz (h-l).toNat,H⟩
   |_,_,_=>none else none
  |none=>none
 |some (.array n e),.ptr id off=>match ti P e with
  |some te=>match a8 H id with
   |some cs=>match pM lo 0,pM hi n,mx with
    |some l,some h,none=>some ⟨0≤l∧l≤h∧h≤n∧off+n*te.size≤cs.length,.ms id (off+l.toNat*te.size) te.size (h-l).toNat,H⟩
    |_,_,_=>none
   |none=>none
  |none=>none
 |_,_=>none
def zir(places:Nat→Option (Nat × Nat)):Wz→List (Nat × AV)→Option (Wz)
 |cells,[]=>some cells
 |cells,(i,v)::rest=>match places i with
  |none=>none
  |some (off,size)=>if v.cells.length=size∧off+size≤cells.length∧dp v.cells=true then zir places (splice cells off v.cells) rest else none
def zjv(P:Program)(t:TypeId):Nat:=(ti P t).elim 0 TI.size
def zis(P:Program):List (Nat × TypeId × Bool)→Bool
 |[]=>true
 |(_,t,_)::fs=>(ti P t).isSome&&zis P fs
def zjd(P:Program)(t:TypeId)(parts:List (Nat × AV))(H:AHeap):Option R :=
 match ti P t with
 |some i=>match i.desc with
  |.struct fs=>if zis P fs then(zir (fun j=>(fs[j]?).map fun f=>(f.1,zjv P f.2.1)) i.zero.cells parts).map fun cs=>⟨True,.agg cs,H⟩else none
  |.array n e=>if(ti P e).isSome then(zir (fun j=>some (j*zjv P e,zjv P e)) i.zero.cells parts).map fun cs=>⟨True,.agg cs,H⟩else none
  |_=>none
 |none=>none
def zjf(sz:Nat):Nat→List (Nat × AV)→Option (Wz)
 |_,[]=>some []
 |k,(i,v)::rest=>if i=k∧v.cells.length=sz∧dp v.cells=true then(zjf sz (k+1) rest).map (v::·)else none
def zje(P:Program)(t:TypeId)(len:Nat)(parts:List (Nat × AV))(H:AHeap):Option R :=
 match(ti P t).map TI.desc with
 |some (.slice e)=>match ti P e with
  |some te=>if parts.length=len∧len*te.size≤16777216 then(zjf te.size 0 parts).map fun xs=>⟨True,.slice (.own H.nx) te.size xs,H.push (.buf te.size len)⟩else none
  |none=>none
 |_=>none
def ziv(P:Program)(t:TypeId)(l c:AV)(H:AHeap):Option R :=
 match(ti P t).map TI.desc,l,c with
 |some (.slice e),.int .i64 n,.int .i64 m=>match ti P e with
  |some te=>if te.zero.cells.length=te.size then some ⟨n=m∧0≤n∧n*te.bytes≤140737488355328∧n≤140737488355328,.ms H.nx 0 te.size n.toNat,H.push (.cells (List.replicate n.toNat te.zero.cells).flatten)⟩else none
  |none=>none
 |_,_,_=>none
def zjq(x:AV)(i:Nat)(H:AHeap):Option R :=
 match x with
 |.tup vs=>some ⟨i<vs.length,vs.getD i .junk,H⟩
 |_=>none
def nX(P:Program)(x:AV)(asserted:TypeId)(ok:Bool)(H:AHeap):Option R :=
 match ti P asserted with
 |some i=>match i.desc,x with
  |.iface _,_=>none
  |_,.iface t v=>if t=asserted then some ⟨True,if ok then .tup [v,.bool true]else v,H⟩else if ok then some ⟨True,.tup [i.zero,.bool false],H⟩else none
  |_,.nili=>if ok then some ⟨True,.tup [i.zero,.bool false],H⟩else none
  |_,_=>none
 |none=>none
def E4(P:Program)(t:TypeId)(x:AV)(H:AHeap):Option R :=
 match(ti P t).map TI.desc,x with
 |some .string,.str s=>some ⟨True,.int .i64 s.length,H⟩
 |some (.slice _),.slice _ _ xs=>some ⟨True,.int .i64 xs.length,H⟩
 |some (.slice _),.ms _ _ _ len=>some ⟨True,.int .i64 len,H⟩
 |some (.array n _),_=>some ⟨True,.int .i64 n,H⟩
 |_,_=>none
def pK:AV→AV
 |.agg _=>.junk
 |v=>v
def dh(sz:Nat):Nat→Wz→Wz
 |0,_=>[]
 |n+1,cs=>(if sz=1 then pK (cs.getD 0 .junk)else .agg ((List.range sz).map fun j=>cs.getD j .junk))::dh sz n (cs.drop sz)
def zc(te:TI)(x:AV)(H:AHeap):Option (Wz) :=
 match x with
 |.ms id off sz len=>if sz=te.size then match a8 H id with
  |some cs=>some (dh sz len (cs.drop off))
  |none=>none else none
 |.slice _ sz xs=>if sz=te.size∨xs=[]then some xs else none
 |.str s=>if te.size=1 then some (s.map bC)else none
 |_=>none
def yU(m:Mark)(H:AHeap)(sz n:Nat):Option (Mark × AHeap) :=
 match m with
 |.nil|.full=>some (.own H.nx,H.push (.buf sz n))
 |.own id=>some (.own id,H.set id (.buf sz n))
 |.any=>none
def room(m:Mark)(H:AHeap)(sz:Nat)(ys zs:Wz):Prop :=
 match m with
 |.nil=>ys=[]
 |.full=>zs≠[]
 |.own id=>H.get id=some (.buf sz ys.length)
 |.any=>False
def F1:Option TD→Bool
 |some (.slice _)|some .string=>true
 |_=>false
def zjs(P:Program)(t t2:TypeId)(s x:AV)(H:AHeap):Option R :=
 if F1 ((ti P t2).map TI.desc)then
 match(ti P t).map TI.desc with
 |some (.slice e)=>match ti P e,s with
  |some te,.slice m sz ys=>if 0<te.size∧te.zero.cells.length=te.size∧(sz=te.size∨m=.nil)then match zc te x H,yU m H te.size (ys.length+(zc te x H).elim 0 List.length)with
   |some zs,some (m',H')=>some ⟨room m H te.size ys zs∧(ys.length+zs.length)*te.bytes≤140737488355328∧ys.length+zs.length≤140737488355328∧∀ z∈zs,dp z.cells=true,.slice m' te.size (ys++zs),H'⟩
   |_,_=>none else none
  |_,_=>none
 |_=>none
 else none
def zjt(P:Program)(t t2:TypeId)(sz:Nat)(ys:Wz)(x:AV)(H:AHeap):Option R :=
 if F1 ((ti P t2).map TI.desc)then
 match(ti P t).map TI.desc with
 |some (.slice e)=>match ti P e with
  |some te=>if 0<te.size∧te.zero.cells.length=te.size∧sz=te.size then match zc te x H with
   |some zs=>some ⟨(ys.length+zs.length)*te.bytes≤140737488355328∧ys.length+zs.length≤140737488355328∧∀ z∈zs,dp z.cells=true,
     .slice (if zs.isEmpty=true then .full else .own H.nx) te.size (ys++zs),H.push (.buf te.size (ys.length+zs.length))⟩
   |none=>none
   else none
  |none=>none
 |_=>none
 else none
def zjr(P:Program)(t t2:TypeId)(s x:AV)(H:AHeap):Option R :=
 match s with
 |.slice .full sz ys=>zjt P t t2 sz ys x H
 |s=>zjs P t t2 s x H
def ziz(P:Program)(t:TypeId)(d x:AV)(H:AHeap):Option R :=
 match(ti P t).map TI.desc with
 |some (.slice e)=>match ti P e with
  |some te=>match d,zc te x H with
   |.ms id off sz len,some zs=>match a8 H id with
    |some cs=>if sz=te.size then some ⟨off+len*sz≤cs.length∧∀ z∈zs,dp z.cells=true,.int .i64 (min zs.length len:Nat),H.set id (.cells (splice cs off ((zs.take len).flatMap AV.cells)))⟩else none
    |none=>none
   |_,_=>none
  |none=>none
 |_=>none
def zju(mx:Bool)(l:Wz)(H:AHeap):Option R :=
 match l with
 |[.int k a,.int k' b]=>if k=k' then some ⟨True,.int k (if mx then max a b else min a b),H⟩else none
 |_=>none
def ziu(P:Program)(b:Builtin)(ts:List TypeId)(args:Wz)(H:AHeap):Option R :=
 match b,ts,args with
 |.len,t::_,[x]=>E4 P t x H
 |.append,t::t2::_,[s,x]=>zjr P t t2 s x H
 |.copy,t::_::_,[d,x]=>ziz P t d x H
 |.min,_,l=>zju false l H
 |.max,_,l=>zju true l H
 |_,_,_=>none
def zit(P:Program)(t:TypeId)(x:Operand)(v:AV)(H:AHeap):Option R :=
 match x with
 |.const (.slice none 0 0)=>match(ti P t).map TI.desc with
  |some (.slice e)=>some ⟨True,.slice (.own H.nx) (zjv P e) [],H.push (.buf (zjv P e) 0)⟩
  |_=>some ⟨True,v,H⟩
 |_=>some ⟨True,v,H⟩
def zjb(c a b:AV)(H:AHeap):Option R :=
 match c with
 |.bool t=>some ⟨True,if t then a else b,H⟩
 |_=>none
def zjc(P:Program)(t:TypeId)(H:AHeap):Option R :=
 match ti P t with
 |some i=>some ⟨True,.ptr H.nx 0,H.push (.cells i.zero.cells)⟩
 |none=>none
def FD(x:AV)(H:AHeap):Option R :=
 match x with
 |.junk|.tup _=>none
 |x=>some ⟨True,.ptr H.nx 0,H.push (.cells x.cells)⟩
def zjj(x:AV)(H:AHeap):Option R :=
 match x with
 |.ptr id off=>some ⟨True,.ptr id off,H⟩
 |.cptr cs=>some ⟨True,.cptr cs,H⟩
 |.func (.func f) a b=>some ⟨True,.func (.func f) a b,H⟩
 |_=>none
def zjp(P:Program)(t:TypeId)(x:AV)(H:AHeap):Option R :=
 match(ti P t).map TI.desc with
 |some (.iface _)=>none
 |some _=>some ⟨True,.iface t x,H⟩
 |none=>none
def iZ(P:Program)(t:TypeId)(k:AV):Prop:=∃ l,keyOf P t (dY k)=some l
def ziw(P:Program)(t:TypeId)(n:Option AV)(H:AHeap):Option R :=
 match(ti P t).map TI.desc,n with
 |some (.map _ _),none=>some ⟨True,.mapv H.nx,H.push (.mapo [])⟩
 |some (.map _ _),some (.int _ _)=>some ⟨True,.mapv H.nx,H.push (.mapo [])⟩
 |_,_=>none
def sH(es:List (AV × AV))(k z:AV)(ok:Bool):AV :=
 match ki es k with
 |some x=>if ok then .tup [x,.bool true]else x
 |none=>if ok then .tup [z,.bool false]else z
def zix(P:Program)(t:TypeId)(m k:AV)(ok:Bool)(H:AHeap):Option R :=
 match(ti P t).map TI.desc,m with
 |some (.map kt et),.mapv id=>match H.get id,ti P et with
  |some (.mapo es),some ie=>some ⟨Maps.Keyed P kt∧(∀ p∈es,iZ P kt p.1)∧iZ P kt k∧k.flat=true,sH es k ie.zero ok,H⟩
  |_,_=>none
 |_,_=>none
def ziy(P:Program)(t:TypeId)(m k x:AV)(H:AHeap):Option R :=
 match(ti P t).map TI.desc,m with
 |some (.map kt _),.mapv id=>match H.get id with
  |some (.mapo es)=>some ⟨Maps.Keyed P kt∧(∀ p∈es,iZ P kt p.1)∧iZ P kt k∧k.flat=true∧x.flat=true,.junk,H.set id (.mapo ((k,x)::es))⟩
  |_=>none
 |_,_=>none
def r7:List (AV × AV)→AV→Nat
 |[],_=>0
 |_::es,k=>if(ki es k).isSome then r7 es k else(iQ es).length
def mY(P:Program)(t:TypeId)(m k:AV)(H:AHeap):Option R :=
 match(ti P t).map TI.desc,m with
 |some (.map kt et),.mapv id=>match H.get id,ti P et with
  |some (.mapo es),some ie=>some ⟨Maps.Keyed P kt∧(∀ p∈es,iZ P kt p.1)∧iZ P kt k∧k.flat=true∧ie.zero.flat=true,.tup [sH es k ie.zero false,.int .i64 (r7 ((k,ie.zero)::es) k:Nat)],H.set id (.mapo ((k,sH es k ie.zero false)::es))⟩
  |_,_=>none
 |_,_=>none
def kP(m s x:AV)(H:AHeap):Option R :=
 match m,s with
 |.mapv id,.int .i64 n=>match H.get id with
  |some (.mapo es)=>match(iQ es)[n.toNat]? with
   |some k=>some ⟨0≤n∧x.flat=true,.junk,H.set id (.mapo ((k,x)::es))⟩
   |none=>none
  |_=>none
 |_,_=>none
def jn(P:Program)(o:Oper)(e:Operand→AV)(H:AHeap):Option R :=
 match o.op with
 |.move x=>some ⟨True,e x,H⟩
 |.assign x=>zit P o.type x (e x) H
 |.pick c a b=>zjb (e c) (e a) (e b) H
 |.alloc t=>zjc P t H
 |.box _ x=>FD (e x) H
 |.build t ps=>zjd P t (ps.toList.map fun p=>(p.1,e p.2)) H
 |.buildSlice t n ps=>zje P t n (ps.toList.map fun p=>(p.1,e p.2)) H
 |.load t a=>zjg P t (e a) H
 |.store t a v=>zji P t (e a) (e v) H
 |.nilCheck x=>zjj (e x) H
 |.binOp op t x y _=>rC P op t (e x) (e y) H
 |.unOp op _ x=>rUn op (e x) H
 |.convert s d x=>zjo P s d (e x) H
 |.makeInterface t x=>zjp P t (e x) H
 |.makeFunc f a b=>some ⟨True,.func f (a.toList.map e) (b.toList.map e),H⟩
 |.makeSlice t l c=>ziv P t (e l) (e c) H
 |.slice t x lo hi mx=>zja P t (e x) (lo.map e) (hi.map e) (mx.map e) H
 |.fieldAddr t x f=>zjk P t (e x) f H
 |.field t x f=>zjl P t (e x) f H
 |.indexAddr t x i=>zjm P t (e x) (e i) H
 |.index t x i=>zjn P t (e x) (e i) H
 |.typeAssert x _ a ok=>nX P (e x) a ok H
 |.extract x i=>zjq (e x) i H
 |.makeMap t n=>ziw P t (n.map e) H
 |.lookup t m k ok=>zix P t (e m) (e k) ok H
 |.mapUpdate t m k x=>ziy P t (e m) (e k) (e x) H
 |.mapEntry t m k=>mY P t (e m) (e k) H
 |.entryStore _ m s x=>kP (e m) (e s) (e x) H
 |.call {callee:=.builtin b,args,argTypes}=>ziu P b argTypes.toList (args.toList.map e) H
 |_=>none
def sB(P:Program)(o:Oper)(fr:Fr)(H:AHeap):Option R:=jn P o (ev fr) H
inductive AEnd where
 |ret (v:AV)
 |panic (v:AV)
structure Ent where
 eff:Bool
 p:Wz→AHeap→(AV→Prop)→Prop
 e:Wz→AHeap→(AEnd→AHeap→Prop)→Prop
 s:Option (Wz→AHeap→(By1)→Prop):=none
def Ent.some(q:Wz→AHeap→(By1)→Prop):Ent:=⟨true,fun _ _ _=>False,fun _ _ _=>False,Option.some q⟩
def Ent.pure(p:Wz→AHeap→(AV→Prop)→Prop):Ent:=⟨false,p,fun _ _ _=>False,none⟩
def Ent.effect(e:Wz→AHeap→(AEnd→AHeap→Prop)→Prop):Ent:=⟨true,fun _ _ _=>False,e,none⟩
abbrev Tbl:=List (FuncId × Ent)
def qD:Tbl→FuncId→Option Ent
 |[],_=>none
 |(g,e)::l,f=>if g=f then some e else qD l f
structure Conts where
 n0:Nat
 n:Fr→AHeap→Prop
 r:Fr→AHeap→Prop
 x:Nat→Fr→AHeap→Prop
 p:Fr→AV→AHeap→Prop
 T:Nat→List (List Nat)
def ut(Ω:Tbl)(f:FuncId)(args:Wz)(H:AHeap)(K:By1)(Kp:By1):Prop :=
 match qD Ω f with
 |none=>False
 |some e=>match e.s with
  |some q=>q args H K
  |none=>if e.eff then e.e args H (fun x H'=>match x with|.ret v=>K v H'|.panic v=>Kp v H')else e.p args H (fun v=>K v H)
def uA(ops:Array Oper)(fr:Fr)(j:Nat):AV :=
 match(ops[j]?).bind (·.dst)with
 |some d=>Fr.get fr d
 |none=>.junk
def kU(ops:Array Oper)(j:Nat):Option Nat:=(ops[j]?).bind (·.dst)
def lu:Op→Bool
 |.call {callee:=.builtin .panic,.. }=>true
 |.call {callee:=.builtin _,.. }=>false
 |.call _=>true
 |.panic _=>true
 |_=>false
def vW(P:Program)(Ω:Tbl)(o:Oper)(fr:Fr)(H:AHeap)(K:By1)(Kp:By1):Prop :=
 match o.op with
 |.call {callee:=.value f,args,.. } =>
  match ev fr f with
  |.func (.func k) first cap=>ut Ω k (first++args.toList.map (ev fr)++cap) H K Kp
  |_=>False
 |.panic x =>
  match ev fr x with
  |.iface t v=>Kp (.iface t v) H
  |_=>False
 |_=>False
def zv:Operand→Bool
 |.const (.slice none 0 0)=>true
 |_=>false
def xz(td:Option TD)(op:BinOp)(x:AV)(K:Bool→Prop):Prop :=
 match td,op,x with
 |some (.slice _),.eql,.slice _ _ xs=>∀ b,(xs≠[]→b=false)→K b
 |some (.slice _),.neq,.slice _ _ xs=>∀ b,(xs≠[]→b=true)→K b
 |some (.slice _),.eql,.ms _ _ _ _=>∀ b,K b
 |some (.slice _),.neq,.ms _ _ _ _=>∀ b,K b
 |_,_,_=>False
def pD:Op→Bool
 |.binOp _ _ _ y _=>zv y
 |_=>false
def zG(P:Program)(o:Oper)(fr:Fr)(H:AHeap)(K:Fr→AHeap→Prop):Prop :=
 match o.op with
 |.binOp op t x _ _=>xz ((ti P t).map TI.desc) op (ev fr x) fun b=>K (fr.put o.dst (.bool b)) H
 |_=>False
def sO(P:Program)(Ω:Tbl)(o:Oper)(fr:Fr)(H:AHeap)(K:Fr→AHeap→Prop)(Kp:Fr→AV→AHeap→Prop):Prop :=
 if lu o.op then vW P Ω o fr H (fun v H'=>K (fr.put o.dst v) H') (Kp fr)
 else if pD o.op then zG P o fr H K
 else match sB P o fr H with
  |some r=>r.c∧K (fr.put o.dst r.v) r.H
  |none=>False
def cC(P:Program)(Ω:Tbl)(ops:Array Oper):List Oper→(Fr→AHeap→Prop)→(Fr→AV→AHeap→Prop)→Fr→AHeap→Prop
 |[],K,_,fr,H=>K fr H
 |o::rest,K,Kp,fr,H =>
  match o.guard with
  |none=>sO P Ω o fr H (cC P Ω ops rest K Kp) Kp
  |some (j,want) =>
   match uA ops fr j with
   |.bool b=>(b=want→sO P Ω o (fr.put (kU ops j) (.bool want)) H (cC P Ω ops rest K Kp) Kp) ∧
     (b=(!want)→cC P Ω ops rest K Kp ((fr.put (kU ops j) (.bool (!want))).put o.dst (.tup [])) H)
   |.tup []=>cC P Ω ops rest K Kp (fr.put o.dst (.tup [])) H
   |_=>False
def wkM(m m':Mark):Prop:=m'=.any∨m=m'
def wk1(H' H1:AHeap):AV→AV→Prop
 |.slice m sz xs,.slice m' sz' ys=>(wkM m m'∧sz=sz'∧xs=ys)∨(m=.nil∧m'=.any∧xs=[]∧ys=[])
 |.ms id off sz len,.slice m' sz' ys=>match a8 H' id with
  |some cs=>(m'=.any∨(m'=.full∧0<sz∧off+len*sz=cs.length))∧sz'=sz∧ys=dh sz len (cs.drop off)∧H1.get id=none
  |none=>False
 |v,x=>v=x
def wkL(H' H1:AHeap):Wz→Wz→Prop
 |[],[]=>True
 |v::vs,x::xs=>wk1 H' H1 v x∧wkL H' H1 vs xs
 |_,_=>False
def wk2(H' H1:AHeap):AV→AV→Prop
 |.agg vs,.agg xs=>wkL H' H1 vs xs
 |v,x=>wk1 H' H1 v x
def ay(H' H1:AHeap):Wz→Wz→Prop
 |[],[]=>True
 |v::vs,x::xs=>wk2 H' H1 v x∧ay H' H1 vs xs
 |_,_=>False
def wk(H' H1:AHeap):AV→AV→Prop
 |.tup vs,.tup xs=>ay H' H1 vs xs
 |v,x=>wk2 H' H1 v x
def my:Fr→Fr→Prop
 |[],_=>True
 |(i,v)::l,fr=>Fr.get fr i=v∧my l fr
def ltF(n:Nat):Fr→Prop
 |[]=>True
 |(_,v)::l=>v.lt n∧ltF n l
def enter(n0:Nat)(fr:Fr)(H:AHeap)(fr':Fr)(H':AHeap):Prop :=
 my fr' fr∧(H'=H∨(n0≤H'.nx∧H'.Le H∧H'.Closed∧ltF H'.nx fr'))
def bg(H H':AHeap):Fr→Fr→Prop
 |[],_=>True
 |(i,v)::l,fr=>wk2 H H' (Fr.get fr i) v∧bg H H' l fr
def enterW(n0:Nat)(fr:Fr)(H:AHeap)(fr':Fr)(H':AHeap):Prop :=
 n0≤H'.nx∧H'.Le H∧H'.Closed∧ltF H'.nx fr'∧bg H H' fr' fr
def enterB:Option Bool→Nat→Fr→AHeap→Fr→AHeap→Prop
 |some false=>enter
 |some true=>enterW
 |none=>fun _ fr H fr' H'=>fr'=fr∧H'=H
def wkD:AV→AV→Prop
 |.agg xs,.agg ys=>xs.length=ys.length∧∀ j (hj:j<xs.length) (hj':j<ys.length),wkD xs[j] ys[j]
 |.slice m sz xs,.slice m' sz' ys=>(wkM m m'∧sz=sz'∧xs.length=ys.length∧∀ i (hi:i<xs.length) (hi':i<ys.length),xs[i].cells.length=ys[i].cells.length ∧
   ∀ j (hj:j<xs[i].cells.length) (hj':j<ys[i].cells.length),wkD xs[i].cells[j] ys[i].cells[j])∨(m=.nil∧m'=.any∧xs=[]∧ys=[])
 |x,y=>x=y
termination_by x=>SizeOf.sizeOf x
decreasing_by
 all_goals simp_wf
 all_goals first
  |(have h1:=AV.sizeOf_cells (List.getElem_mem hj);have h2:=List.sizeOf_lt_of_mem (List.getElem_mem hi);omega)
  |(have:=List.sizeOf_lt_of_mem (List.getElem_mem hj);omega)
def nB:Wz→Wz→Prop
 |[],[]=>True
 |x::xs,y::ys=>wkD x y∧nB xs ys
 |_,_=>False
def uH:Wz→Wz→Prop
 |[],[]=>True
 |x::xs,y::ys=>nB x.cells y.cells∧uH xs ys
 |_,_=>False
theorem wkDL_iff:∀{xs ys:Wz},nB xs ys↔xs.length=ys.length∧∀ j (hj:j<xs.length) (hj':j<ys.length),wkD xs[j] ys[j]
 |[],[]=>by simp[nB]
 |[],_::_=>by simp[nB]
 |_::_,[]=>by simp[nB]
 |x::xs,y::ys=>by
  rw[nB,wkDL_iff]
  exact W6
def AHeap.del(H:AHeap)(i:Nat):AHeap:=⟨H.nx,fun j=>if j=i then none else H.f j⟩
abbrev Vz:=Fr→AHeap→Prop
def mr(n0:Nat)(K:Vz)(fr:Fr)(H:AHeap):Prop :=
 (∃ fr' H',enterW n0 fr H fr' H'∧K fr' H') ∨
 -- a slice that is nil,in an aggregate: it may be appended to
 (∃ s j sz cs,Fr.get fr s=.agg cs∧cs[j]?=some (.slice .nil 1 [])∧K ((s,.agg (cs.set j (.slice (.own H.nx) sz [])))::fr) (H.push (.buf sz 0))) ∨
 -- less is ig of a slot,of an object
 (∃ s y,wkD (Fr.get fr s) y∧K ((s,y)::fr) H) ∨
 (∃ id cs cs',a8 H id=some cs∧nB cs cs'∧K fr (H.set id (.cells cs'))) ∨
 -- a new row's room,whatever it is
 (∃ id cs,H.get id=some (.part cs)∧∀ k,K fr (H.set id (.cells (cs++List.replicate k .junk)))) ∨
 -- a slice that is nil,in an object: it may be appended to
 (∃ s id off j sz cs,Fr.get fr s=.ptr id off∧a8 H id=some cs∧cs[j]?=some (.slice .nil 1 [])∧K fr ((H.push (.buf sz 0)).set id (.cells (cs.set j (.slice (.own H.nx) sz []))))) ∨
 -- a slice in an object whose row may be stored into: the row is given up
 (∃ id j mid off sz len cs rs,a8 H id=some cs∧cs[j]?=some (AV.ms mid off sz len)∧id≠mid∧a8 H mid=some rs∧(AV.slice .any sz (dh sz len (rs.drop off))).lt H.nx∧K fr ((H.del mid).set id (.cells (cs.set j (AV.slice .any sz (dh sz len (rs.drop off)))))))
def wq(l:List (List Nat))(n0:Nat)(K:Vz)(fr:Fr)(H:AHeap):Prop :=
 match l with
 |[]=>K fr H
 |_=>mr n0 K fr H
def aN(P:Program)(o:Oper)(fr:Fr)(H:AHeap)(K:Vz):Prop :=
 match o.op with
 |.buildSlice t n ps=>match zje P t n (ps.toList.map fun p=>(p.1,ev fr p.2)) H with
  |some r=>match r.v with
   |.slice _ sz xs=>K (fr.put o.dst (.slice .full sz xs)) H
   |_=>False
  |none=>False
 |_=>False
def aO(P:Program)(o:Oper)(fr:Fr)(H:AHeap)(K:Vz):Prop :=
 match o.op with
 |.buildSlice t n ps=>match zje P t n (ps.toList.map fun p=>(p.1,ev fr p.2)) H with
  |some r=>match r.v with
   |.slice _ sz xs=>K (fr.put o.dst (.ms H.nx 0 sz xs.length)) (H.push (.cells (xs.flatMap AV.cells)))
   |_=>False
  |none=>False
 |_=>False
def kh(P:Program)(Ω:Tbl)(n0:Nat)(ops:Array Oper):List Nat→List Oper→(Vz)→(Fr→AV→AHeap→Prop)→Fr→AHeap→Prop
 |[],l,K,Kp,fr,H=>cC P Ω ops l K Kp fr H
 |i::is,l,K,Kp,fr,H =>
  if i%3=0 then cC P Ω ops (l.take (i/3)) (fun fr H=>match l.drop (i/3)with
   |o::rest=>o.guard=none∧aN P o fr H (kh P Ω n0 ops is rest K Kp)
   |[]=>False) Kp fr H
  else if i%3=1 then cC P Ω ops (l.take (i/3)) (mr n0 (kh P Ω n0 ops is (l.drop (i/3)) K Kp)) Kp fr H
  else cC P Ω ops (l.take (i/3)) (fun fr H=>match l.drop (i/3)with
   |o::rest=>o.guard=none∧aO P o fr H (kh P Ω n0 ops is rest K Kp)
   |[]=>False) Kp fr H
inductive Kd where
 |inert
 |read
 |eff
 deriving DecidableEq
def kind(P:Program):Op→Kd
 |.assign (.const _)|.alloc _|.box _ _|.store _ _ _|.buildSlice _ _ _|.makeSlice _ _ _|.makeMap _ _|.mapUpdate _ _ _ _|.mapEntry _ _ _|.entryStore _ _ _ _=>.eff
 |.convert _ d _=>match(ti P d).map TI.desc with
  |some (.slice _)=>.eff
  |_=>.inert
 |.slice t _ _ _ _=>match(ti P t).map TI.desc with
  |some (.array _ _)=>.read
  |_=>.inert
 |.load _ _=>.read
 |.lookup _ _ _ _=>.read
 |.call {callee:=.builtin .append,.. }=>.eff
 |.call {callee:=.builtin .copy,.. }=>.eff
 |.call {callee:=.builtin _,.. }=>.inert
 |.call _=>.eff
 |.panic _=>.eff
 |_=>.inert
def pI(P:Program)(Ω:Tbl):Op→Kd
 |.call {callee:=.value (.func k),.. }=>match qD Ω k with
  |some e=>if e.eff then .eff else .read
  |none=>.eff
 |o=>kind P o
structure HS where
 ms:List (List Nat)
 i:Nat
 hs:List (Nat × AHeap)
 pre:List (Nat × Nat):=[]
 lit:List Nat:=[]
def HS.nx(h:HS):HS:=⟨h.ms.tail,h.i+1,h.hs,h.pre,h.lit⟩
def HS.push(h:HS)(H:AHeap):HS:=⟨h.ms.tail,h.i+1,(h.i,H)::h.hs,h.pre,h.lit⟩
def iM:List Nat→Nat→Bool
 |[],_=>false
 |j::l,i=>if j=i then true else iM l i
def uG(lit:List Nat)(i:Nat):Op→Bool
 |.buildSlice _ _ _=>iM lit i
 |_=>false
def I5(b:Bool):Mark:=if b then .full else .any
def yn(lit:List Nat)(i:Nat):Op→Bool
 |.call {callee:=.builtin .append,.. }=>iM lit (i+200000)
 |_=>false
def ii:List (Nat × Nat)→Nat→Option Nat
 |[],_=>none
 |(j,r)::l,i=>if j=i then some r else ii l i
def oK(pre:List (Nat × Nat))(i:Nat):Op→Option (TypeId × Nat)
 |.alloc t=>if i<100000 then(ii pre i).map fun r=>(t,r)else none
 |_=>none
def pY(pre:List (Nat × Nat))(i:Nat):Op→Bool
 |.buildSlice _ _ _=>(ii pre (i+100000)).isSome
 |.makeSlice _ _ _=>(ii pre (i+100000)).isSome
 |_=>false
def gC(P:Program)(Ω:Tbl)(pre:List Nat)(i:Nat):Op→Kd
 |.alloc t=>if i<100000∧i∈pre then .read else .eff
 |.buildSlice t n ps=>if i+100000∈pre then .read else .eff
 |.makeSlice t l c=>if i+100000∈pre then .read else .eff
 |o=>pI P Ω o
def oB(P:Program)(t:TypeId):Wz:=(ti P t).elim [] fun i=>i.zero.cells
def lZ(P:Program)(t:TypeId)(r:Nat)(h:AHeap):Prop:=a8 h r=some (oB P t)
def tA(P:Program):List (List Nat)→List (Nat × Nat)→AHeap→(List (Nat × Nat)→AHeap→Prop)→Prop
 |[],pre,H,K=>K pre H
 |[i,t]::l,pre,H,K=>(ti P t).isSome=true∧ii pre i=none∧tA P l ((i,H.nx)::pre) (H.push (.cells (oB P t))) K
 |[i]::l,pre,H,K=>100000≤i∧ii pre i=none∧tA P l ((i,0)::pre) H K
 |_::_,_,_,_=>False
def skip(m:List Nat)(j:Nat)(c:Prop):Prop:=j∈m∨c
def x8(m:List Nat)(c:AHeap→Prop):List (Nat × AHeap)→Prop
 |[]=>True
 |h::hs=>skip m h.1 (c h.2)∧x8 m c hs
def yB(m:List Nat)(H:AHeap):List (Nat × (AHeap→Prop))→Prop
 |[]=>True
 |c::cs=>skip m c.1 (c.2 H)∧yB m H cs
def v8(hs:HS)(c:AHeap→Prop):Prop:=x8 (hs.ms.headD []) c hs.hs
def pe(hs:HS)(H:AHeap)(ps:List (Nat × (AHeap→Prop))):Prop:=yB (hs.ms.headD []) H ps
def oF(P:Program)(o:Oper)(fr:Fr)(x:AV)(h:AHeap):Prop :=
 match sB P o fr h with
 |some r=>r.c∧r.v=x
 |none=>False
def SK:Operand→Bool
 |.func _=>true
 |_=>false
def rB(Ω:Tbl):Op→Bool
 |.call {callee:=.value (.func k),.. }=>match qD Ω k with
  |some e=>e.s.isSome&&e.eff
  |none=>false
 |_=>false
def qF(b:Bool)(Ω:Tbl)(f:FuncId)(args:Wz)(hs:HS)(ps:List (Nat × (AHeap→Prop)))(N:AV→HS→List (Nat × (AHeap→Prop))→AHeap→Prop)(H:AHeap):Prop :=
 match qD Ω f with
 |none=>False
 |some e=>match e.s with
  |some q=>(b=true∧e.eff=true)∧q args H (fun v H'=>pe hs H' ps∧N v (hs.push H) ps H')
  |none =>
   if e.eff then e.e args H (fun x H'=>match x with|.ret v=>pe hs H' ps∧N v (hs.push H) ps H'|.panic _=>False)
   else e.p args H (fun v=>v8 hs (fun h=>e.p args h (fun v'=>v'=v))∧N v hs.nx ((hs.i,fun h=>h=H∨e.p args h (fun v'=>v'=v))::ps) H)
def Kl(H:AHeap)(v:AV)(K:By1):Prop :=
 match v with
 |.slice (.own _) sz xs=>xs≠[]∧(∀ x∈xs.flatMap AV.cells,x.lt 0)∧K (.ms H.nx 0 sz xs.length) (H.push (.part (xs.flatMap AV.cells)))
 |_=>False
def Ck(P:Program)(ts:List TypeId)(vs:Wz)(H:AHeap)(K:By1):Prop :=
 match ts,vs with
 |t::t2::_,[.slice .full sz [],x]=>match zjt P t t2 sz [] x H with
  |some r=>r.c∧Kl H r.v K
  |none=>False
 |_,_=>False
def M9(P:Program)(o:Oper)(fr:Fr)(H:AHeap)(K:By1):Prop :=
 match o.op with
 |.call {callee:=.builtin .append,args,argTypes}=>Ck P argTypes.toList (args.toList.map (ev fr)) H K
 |_=>False
def pJ(P:Program)(Ω:Tbl)(o:Oper)(hs:HS)(ps:List (Nat × (AHeap→Prop)))(N:HS→List (Nat × (AHeap→Prop))→Fr→AHeap→Prop)(fr:Fr)(H:AHeap):Prop :=
 match oK hs.pre hs.i o.op with
 |some (t,r)=>(lZ P t r H∧(ti P t).isSome=true)∧v8 hs (lZ P t r)∧N hs.nx ((hs.i,lZ P t r)::ps) (fr.put o.dst (.ptr r 0)) H
 |none =>
 if pY hs.pre hs.i o.op then
  match sB P o fr H with
  |some ⟨c,.slice _ sz xs,_⟩=>c∧N hs.nx ps (fr.put o.dst (.slice (I5 (iM hs.lit (hs.i+300000))) sz xs)) H
  |some ⟨c,.ms _ 0 sz n,G⟩=>match a8 G H.nx with
   |some cs=>c∧N hs.nx ps (fr.put o.dst (.slice .any sz (dh sz n cs))) H
   |none=>False
  |_=>False
 else
 if uG hs.lit hs.i o.op then
  match sB P o fr H with
  |some ⟨c,.slice _ sz xs,_⟩=>c∧pe hs (H.push (.cells (xs.flatMap AV.cells))) ps∧N (hs.push H) ps (fr.put o.dst (.ms H.nx 0 sz xs.length)) (H.push (.cells (xs.flatMap AV.cells)))
  |_=>False
 else if yn hs.lit hs.i o.op then M9 P o fr H fun v H'=>pe hs H' ps∧N (hs.push H) ps (fr.put o.dst v) H'
 else if lu o.op then
  match o.op with
  |.call {callee:=.value f,args,.. } =>
   match ev fr f with
   |.func (.func k) first cap=>qF (SK f) Ω k (first++args.toList.map (ev fr)++cap) hs ps (fun v hs' ps' H'=>N hs' ps' (fr.put o.dst v) H') H
   |_=>False
  |_=>False
 else match sB P o fr H with
  |none=>False
  |some r=>r.c∧match kind P o.op with
   |.inert=>N hs.nx ps (fr.put o.dst r.v) H
   |.read=>v8 hs (oF P o fr r.v)∧N hs.nx ((hs.i,oF P o fr r.v)::ps) (fr.put o.dst r.v) H
   |.eff=>pe hs r.H ps∧N (hs.push H) ps (fr.put o.dst r.v) r.H
def awD(P:Program)(Ω:Tbl)(ops:Array Oper):List Oper→HS→List (Nat × (AHeap→Prop))→(Vz)→Fr→AHeap→Prop
 |[],_,_,K,fr,H=>K fr H
 |o::rest,hs,ps,K,fr,H =>
  match o.guard with
  |none=>pJ P Ω o hs ps (fun hs' ps' fr' H'=>awD P Ω ops rest hs' ps' K fr' H') fr H
  |some (j,want) =>
   match uA ops fr j with
   |.bool b=>(b=want→pJ P Ω o hs ps (fun hs' ps' fr' H'=>awD P Ω ops rest hs' ps' K fr' H') (fr.put (kU ops j) (.bool want)) H) ∧
     (b=(!want)→awD P Ω ops rest hs.nx ps K ((fr.put (kU ops j) (.bool (!want))).put o.dst (.tup [])) H)
   |.tup []=>awD P Ω ops rest hs.nx ps K (fr.put o.dst (.tup [])) H
   |_=>False
def TZ(body:Conts→Fr→AHeap→Prop)(K:Conts)(fr:Fr)(H:AHeap):Prop :=
 ∃ (W:Option Bool) (A:Type) (F:A→Fr) (G:A→AHeap) (I:A→Prop) (μ:A→Nat),(∃ a,I a∧enterB W K.n0 fr H (F a) (G a)) ∧
  ∀ a,I a→body {K with n:=fun fr' H'=>∃ a',I a'∧μ a'<μ a∧enterB W K.n0 fr' H' (F a') (G a')} (F a) (G a)
def aw(P:Program)(Ω:Tbl):Code→Conts→Fr→AHeap→Prop
 |.skip,K,fr,H=>K.n fr H
 |.region id ops false,K,fr,H=>kh P Ω K.n0 ops ((K.T id).headD []) ops.toList K.n K.p fr H
 |.region id ops true,K,fr,H=>wq (K.T (id+400)) K.n0 (fun fr H=>tA P (K.T (id+800)) [] H fun pre H=>awD P Ω ops ops.toList ⟨K.T id,0,[],pre,(K.T (id+1200)).headD []⟩ [] K.n fr H) fr H
 |.seq a b,K,fr,H=>aw P Ω a {K with n:=aw P Ω b K} fr H
 |.cond c a b,K,fr,H =>
  match ev fr c with
  |.bool t=>(t=true→aw P Ω a K fr H)∧(t=false→aw P Ω b K fr H)
  |_=>False
 |.block id c,K,fr,H=>aw P Ω c {K with x:=fun i fr H=>if i=id then K.n fr H else K.x i fr H} fr H
 |.loop c,K,fr,H=>TZ (fun K fr H=>aw P Ω c K fr H) K fr H
 |.exit id,K,fr,H=>K.x id fr H
 |.ret,K,fr,H=>K.r fr H
 |.scope c,K,fr,H=>aw P Ω c K fr H
 |.label _,K,fr,H=>K.n fr H
 |_,_,_,_=>False
inductive KItem where
 |code (c:Code)
 |blk (id:Nat)
 |back (R:Vz)
def KI(P:Program)(Ω:Tbl)(B:Conts):List KItem→Conts
 |[]=>B
 |.code c::k=>{KI P Ω B k with n:=aw P Ω c (KI P Ω B k)}
 |.blk id::k=>{KI P Ω B k with x:=fun i fr H=>if i=id then(KI P Ω B k).n fr H else(KI P Ω B k).x i fr H}
 |.back R::k=>{KI P Ω B k with n:=R}
def rP(P:Program)(fr:Fr)(H:AHeap):ResultVar→Option (Prop × AV)
 |.tmp t=>some (True,Fr.get fr t)
 |.cell a t=>(zjg P t (Fr.get fr a) H).map fun r=>(r.c,r.v)
def n8(P:Program)(fr:Fr)(H:AHeap):List ResultVar→Option (Prop × Wz)
 |[]=>some (True,[])
 |r::rs=>match rP P fr H r,n8 P fr H rs with
  |some (c,v),some (d,vs)=>some (c∧d,v::vs)
  |_,_=>none
def one:Wz→AV
 |[v]=>v
 |vs=>.tup vs
def s5:Nat→Wz→Fr
 |_,[]=>[]
 |k,a::as=>(k,a)::s5 (k+1) as
def ag(H':AHeap)(v:AV)(H:AHeap)(x:AV):Prop :=
 wk H' H v x∧H.Le H'∧H.Closed∧x.lt H.nx
def iF(P:Program)(rs:List ResultVar)(e:AEnd)(H1:AHeap)(fr:Fr)(H:AHeap):Prop :=
 match e,n8 P fr H rs with
 |.ret x,some (c,vs)=>c∧ag H (one vs) H1 x
 |_,_=>False
def aC:List (Nat × List (List Nat))→Nat→List (List Nat)
 |[],_=>[]
 |(j,m)::l,i=>if i=j then m else aC l i
def kc(P:Program)(rs:List ResultVar)(n0:Nat)(Q:By1)(fr:Fr)(H:AHeap):Prop :=
 match n8 P fr H rs with
 |some (c,vs)=>c∧∃ x H1,Q x H1∧n0≤H1.nx∧ag H (one vs) H1 x
 |none=>False
def wI(P:Program)(rs:List ResultVar)(n0:Nat)(Q:By1)(T:Nat→List (List Nat):=aC []):Conts where
 T:=T
 n0:=n0
 n:=fun fr H=>kc P rs n0 Q fr H
 r:=fun fr H=>kc P rs n0 Q fr H
 x:=fun _ _ _=>False
 p:=fun _ _ _=>False
def sQ(P:Program)(rs:List ResultVar)(n0:Nat)(e:AEnd)(H1:AHeap)(T:Nat→List (List Nat):=aC []):Conts where
 T:=T
 n0:=n0
 n:=fun fr H=>iF P rs e H1 fr H
 r:=fun fr H=>iF P rs e H1 fr H
 x:=fun _ _ _=>False
 p:=fun _ v H=>match e with|.panic x=>ag H v H1 x|.ret _=>False
def Xx{p:Prop}(h:p:=by simp[bg,wk2,wk1,wkM,Fr.get]):p:=h
end Go.AL
