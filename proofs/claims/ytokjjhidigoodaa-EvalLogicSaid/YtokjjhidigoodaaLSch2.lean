/- Contracts and plain laws, a part of the proof; no condition of its own. -/
import Derived.Test.YtokjjhidigoodaaLSyn
import Derived.Test.YtokjjhidigoodaaLVal
/- Plain laws of a list of choices: what is taken from it, and where it stands behind that. No program. -/
namespace Go.AL
set_option linter.all false
/-- a list of choices in memory; behind its end the place does not move -/
def CQ (b:List UInt8) (v:Nat):AObj:=.cells [.slice .any 1 (bys b),.int .i64 ((min v b.length:Nat):Int)]
def onC (o:Option AObj) (K:List UInt8→Nat→Prop):Prop :=
 match o with
 |some (.cells [.slice .any 1 l,.int .i64 a])=>(isB l∧l.length≤1000000∧0≤a∧a≤(l.length:Int))∧K (unb l) a.toNat
 |_=>False
@[congr] theorem BJ {o o':Option AObj} {K:List UInt8→Nat→Prop} (h:o=o'):onC o K=onC o' K:=by rw [h]
end Go.AL
/- Schemas and entries as data, how they stand in memory, and the schema and the entries that a list of choices gives. No program. -/
namespace Go.AL
set_option linter.all false
/-- the two cells of a value -/
def vc (v:Nat):List AV:=[.int .u64 ((v/2^64:Nat):Int),.int .u64 ((v % 2^64:Nat):Int)]
structure SField where
 id:Int
 name:List UInt8
 bits:Int
structure SKey where
 name:List UInt8
 field:Int
 kind:Int
def cW (x:SField):AV:=.agg [.int .i64 x.id,.str x.name,.int .i64 x.bits]
def eg (x:SKey):AV:=.agg [.str x.name,.int .i64 x.field,.int .i64 x.kind]
/-! the states -/
end Go.AL
/- The schema that a list of choices gives: actions, tables, roles, all. No program. -/
namespace Go.AL
set_option linter.all false
end Go.AL
