/- Lemmas of the proof; no condition. -/
import Derived.Test.YtjnhidpnfdbmaaaGreatS07v
import Derived.Test.YtjnhidpnfdbmaaaGreatS07c
set_option linter.all false
set_option maxRecDepth 10000
open Go Go.AL Go.Proofs
namespace Go.AL
theorem Hw:ti Tryz.prog 239=some ⟨.struct [(0,3,false),(1,3,false),(2,3,false),(3,9,false),(4,9,false),(5,29,false)],7,72,.agg [.int .i64 0,.int .i64 0,.int .i64 0,.str [],.str [],.int .u64 0,.int .u64 0]⟩:=by kernel_rfl
theorem DI:ti Tryz.prog 204=some ⟨.slice 239,1,24,.slice .nil 1 []⟩:=by kernel_rfl
theorem zI:ti Tryz.prog 275=some ⟨.struct [(0,240,false),(1,3,false),(2,4,false),(3,204,false)],4,64,.agg [.slice .nil 1 [],.int .i64 0,.bool false,.slice .nil 1 []]⟩:=by kernel_rfl
attribute [go_sem] Hw DI zI
def rst (m:Mark) (l:List Tok) (p:Nat) (b:Bool) (tb:Nat) (t:List Nd):AObj:=.cells [.slice m 3 (dV l),.int .i64 (p:Int),.bool b,.slice (.own tb) 7 (nds t)]
def onQ (o:Option AObj) (K:Mark→List Tok→Nat→Bool→Nat→List Nd→Prop):Prop:=∃ m l p b tb t,o=some (rst m l p b tb t)∧K m l p b tb t
@[congr] theorem L0 {o o':Option AObj} {K:Mark→List Tok→Nat→Bool→Nat→List Nd→Prop} (h:o=o'):onQ o K=onQ o' K:=by rw [h]
def Nc (m:Mark) (l:List Tok) (tb id:Nat) (H:AHeap) (K:AV→AHeap→Prop) (p0:Nat) (t0:List Nd) (o:Option PR):Prop:=match o with
 |none=>False
 |some (.ok a p t)=>K (.int .i64 (a:Int)) ((H.set id (rst m l p false tb t)).set tb (.buf 7 t.length))
 |some (.bad p)=>∀ (a:Nat) (t:List Nd),t.length+p0≤t0.length+p→K (.int .i64 (a:Int)) ((H.set id (rst m l p true tb t)).set tb (.buf 7 t.length))
section
variable {m:Mark} {l:List Tok} {tb id p0:Nat} {H:AHeap} {K:AV→AHeap→Prop} {t0:List Nd}
@[congr] theorem Lm {o o':Option PR} (h:o=o'):Nc m l tb id H K p0 t0 o=Nc m l tb id H K p0 t0 o':=by rw [h]
end
end Go.AL
