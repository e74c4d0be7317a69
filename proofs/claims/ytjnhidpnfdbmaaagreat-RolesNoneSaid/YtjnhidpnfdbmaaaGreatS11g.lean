/- Lemmas of the proof; no condition. -/
import Derived.Test.YtjnhidpnfdbmaaaGreatS10r
import Derived.Test.YtjnhidpnfdbmaaaGreatS10p
set_option linter.all false
set_option maxRecDepth 10000
open Go Go.AL Go.Proofs
namespace Go.AL
def Li (S:Sch) (n:Int):Prop:=0≤ixP (fun f:SField=>f.id==n) S.fields 0
def fM:List Int→Int
 |[]=>0
 |x::xs=>if (x != 0)=true then x else fM xs
theorem xP:ti Tryz.prog 23=some ⟨.slice 47,1,24,.slice .nil 1 []⟩:=by kernel_rfl
theorem Ar:ti Tryz.prog 24=some ⟨.slice 29,1,24,.slice .nil 1 []⟩:=by kernel_rfl
theorem Cl:ti Tryz.prog 47=some ⟨.struct [(0,4,false),(1,29,false),(3,29,false),(5,3,false),(6,29,false)],8,64,.agg [.bool false,.int .u64 0,.int .u64 0,.int .u64 0,.int .u64 0,.int .i64 0,.int .u64 0,.int .u64 0]⟩:=by kernel_rfl
attribute [go_sem] xP Ar Cl
structure TPre {α:Type} (f:α→α→Int):Prop where
 anti:∀ x y,f y x = - f x y
 trans:∀ x y z,f x y≤0→f y z≤0→f x z≤0
theorem TPre.zero {α:Type}:TPre fun _ _:α=>0:=⟨fun _ _=>rfl,fun _ _ _ _ _=>by decide⟩
theorem za:ti Tryz.prog 56=some ⟨.slice 26,1,24,.slice .nil 1 []⟩:=by kernel_rfl
theorem DO:ti Tryz.prog 26=some ⟨.struct [(0,3,false),(1,23,false),(2,3,false),(3,3,false),(4,24,false)],5,72,.agg [.int .i64 0,.slice .nil 1 [],.int .i64 0,.int .i64 0,.slice .nil 1 []]⟩:=by kernel_rfl
attribute [go_sem] za DO
end Go.AL
