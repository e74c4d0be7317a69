/- Lemmas of the proof; no condition. -/
import Derived.Test.YtjffcopmhkcejaaGreatE06
import Derived.Test.YtjffcopmhkcejaaGreatLSyn
set_option linter.all false
set_option maxRecDepth 10000
open Go Go.AL Go.Proofs
namespace Go.AL
def UN(n:Nd):AV:=.agg [.int .i64 (n.op:Int),.int .i64 (n.a:Int),.int .i64 (n.b:Int),.str n.name,.str n.attr,.int .u64 ((n.v/2^64:Nat):Int),.int .u64 ((n.v%2^64:Nat):Int)]
def nds(t:List Nd):Wz:=t.map UN
def zZ(v:AV)(Kp:By1)(H:AHeap):Prop:=match v with
 |.iface t v=>Kp (.iface t v) H
 |_=>False
@[congr] theorem PB{v v':AV}{Kp:By1}{H:AHeap}(h:v=v'):zZ v Kp H=zZ v' Kp H:=by rw[h]
theorem zi{t:TypeId}{v:AV}{Kp:By1}{H:AHeap}:zZ (.iface t v) Kp H=Kp (.iface t v) H:=rfl
theorem Iy{P:Program}{Ω:Tbl}{ops:Array Oper}{rest:List Oper}{K:Vz}{Kp:Fr→AV→AHeap→Prop}{fr:Fr}{H:AHeap}{d:Option Tmp}{x:Operand}{t:TypeId}{pos:String}{aft:Array Edge} :
 cC P Ω ops (Oper.mk d (.panic x) t pos aft none::rest) K Kp fr H=zZ (ev fr x) (Kp fr) H:=(rfl)
def pst(m:Mark)(l:List Tok)(p tb:Nat)(t:List Nd):AObj:=.cells [.slice m 3 (T3 l),.int .i64 (p:Int),.slice (.own tb) 7 (nds t)]
def onP(o:Option AObj)(K:Mark→List Tok→Nat→Nat→List Nd→Prop):Prop:=∃ m l p tb t,o=some (pst m l p tb t)∧K m l p tb t
@[congr] theorem Tv{o o':Option AObj}{K:Mark→List Tok→Nat→Nat→List Nd→Prop}(h:o=o'):onP o K=onP o' K:=by rw[h]
def onW(o:Option (By))(K1:By→Prop)(K2:Prop):Prop:=match o with
 |some x=>K1 x
 |none=>K2
@[congr] theorem Tr{o o':Option (By)}{K1:By→Prop}{K2:Prop}(h:o=o'):onW o K1 K2=onW o' K1 K2:=by rw[h]
def onN(o:Option Nat)(K1:Nat→Prop)(K2:Prop):Prop:=match o with
 |some x=>K1 x
 |none=>K2
@[congr] theorem Tu{o o':Option Nat}{K1:Nat→Prop}{K2:Prop}(h:o=o'):onN o K1 K2=onN o' K1 K2:=by rw[h]
end Go.AL
