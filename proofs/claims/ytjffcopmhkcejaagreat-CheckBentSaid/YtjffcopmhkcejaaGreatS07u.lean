/- Lemmas of the proof; no condition. -/
import Derived.Test.YtjffcopmhkcejaaGreatS07v
import Derived.Test.YtjffcopmhkcejaaGreatS07c
set_option linter.all false
set_option maxRecDepth 10000
open Go Go.AL Go.Proofs
namespace Go.AL
def rst(m:Mark)(l:List Tok)(p:Nat)(b:Bool)(tb:Nat)(t:List Nd):AObj:=.cells [.slice m 3 (T3 l),.int .i64 (p:Int),.bool b,.slice (.own tb) 7 (nds t)]
def onQ(o:Option AObj)(K:Mark→List Tok→Nat→Bool→Nat→List Nd→Prop):Prop:=∃ m l p b tb t,o=some (rst m l p b tb t)∧K m l p b tb t
@[congr] theorem Tp{o o':Option AObj}{K:Mark→List Tok→Nat→Bool→Nat→List Nd→Prop}(h:o=o'):onQ o K=onQ o' K:=by rw[h]
def Ui(m:Mark)(l:List Tok)(tb id:Nat)(H:AHeap)(K:By1)(p0:Nat)(t0:List Nd)(o:Option PR):Prop:=match o with
 |none=>False
 |some (.ok a p t)=>K (.int .i64 (a:Int)) ((H.set id (rst m l p false tb t)).set tb (.buf 7 t.length))
 |some (.bad p)=>∀(a:Nat)(t:List Nd),t.length+p0≤t0.length+p→K (.int .i64 (a:Int)) ((H.set id (rst m l p true tb t)).set tb (.buf 7 t.length))
section
variable {m:Mark} {l:List Tok} {tb id p0:Nat} {H:AHeap} {K:By1} {t0:List Nd}
@[congr] theorem SP{o o':Option PR}(h:o=o'):Ui m l tb id H K p0 t0 o=Ui m l tb id H K p0 t0 o':=by rw[h]
end
end Go.AL
