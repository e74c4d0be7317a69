/- Contracts and plain laws, a part of the proof; no condition of its own. -/
import Derived.Test.YthpglnacipgolaaGreatLGen
/- Schemas and entries as data, how they stand in memory, and the schema and the entries that a list of choices gives. No program. -/
namespace Go.AL
set_option linter.all false
/-- the two cells of a value -/
def vc (v : Nat) : List AV := [.int .u64 ((v / 2 ^ 64 : Nat) : Int), .int .u64 ((v % 2 ^ 64 : Nat) : Int)]
def inL (l : List Int) : List AV := l.map (.int .i64)
def boL (l : List Bool) : List AV := l.map .bool
structure SField where
  id : Int
  name : List UInt8
  bits : Int
structure SHeader where
  id : Int
  name : List UInt8
  fields : List Int
structure SCase where
  value : Nat
  mask : Nat
  next : Int
structure SState where
  id : Int
  header : Int
  select : Int
  cases : List SCase
  dflt : Int
structure SPrim where
  op : Int
  dst : Int
  kind : Int
  n : Int
  value : Nat
structure SParam where
  name : List UInt8
  bits : Int
structure SAction where
  id : Int
  name : List UInt8
  params : List SParam
  body : List SPrim
  restr : List UInt8
structure SKey where
  name : List UInt8
  field : Int
  kind : Int
structure STable where
  id : Int
  name : List UInt8
  keys : List SKey
  actions : List Int
  dflt : Int
  dargs : List Nat
  size : Int
  restr : List UInt8
structure SStage where
  table : Int
  header : Int
structure SGrant where
  table : Int
  read : Bool
  write : Bool
  keys : List Bool
structure SRole where
  id : Int
  name : List UInt8
  grants : List SGrant
  actions : List Int
  quota : Int
  audit : Bool
structure SRef where
  table : Int
  key : Int
  action : Int
  param : Int
  toTable : Int
  toKey : Int
structure Sch where
  fields : List SField
  headers : List SHeader
  states : List SState
  actions : List SAction
  tables : List STable
  stages : List SStage
  roles : List SRole
  refs : List SRef
  maxBatch : Int
  budget : Int
def fieldAV (x : SField) : AV := .agg [.int .i64 x.id, .str x.name, .int .i64 x.bits]
def headerAV (x : SHeader) : AV := .agg [.int .i64 x.id, .str x.name, .slice .any 1 (inL x.fields)]
def caseAV (x : SCase) : AV := .agg (vc x.value ++ vc x.mask ++ [.int .i64 x.next])
def stateAV (x : SState) : AV := .agg [.int .i64 x.id, .int .i64 x.header, .int .i64 x.select, .slice .any 5 (x.cases.map caseAV), .int .i64 x.dflt]
def primAV (x : SPrim) : AV := .agg ([.int .i64 x.op, .int .i64 x.dst, .int .i64 x.kind, .int .i64 x.n] ++ vc x.value)
def paramAV (x : SParam) : AV := .agg [.str x.name, .int .i64 x.bits]
def actionAV (x : SAction) : AV := .agg [.int .i64 x.id, .str x.name, .slice .any 2 (x.params.map paramAV), .slice .any 6 (x.body.map primAV), .str x.restr]
def keyAV (x : SKey) : AV := .agg [.str x.name, .int .i64 x.field, .int .i64 x.kind]
def tableAV (x : STable) : AV := .agg [.int .i64 x.id, .str x.name, .slice .any 3 (x.keys.map keyAV), .slice .any 1 (inL x.actions), .int .i64 x.dflt, .slice .any 2 (x.dargs.map vv), .int .i64 x.size, .str x.restr]
def stageAV (x : SStage) : AV := .agg [.int .i64 x.table, .int .i64 x.header]
def grantAV (x : SGrant) : AV := .agg [.int .i64 x.table, .bool x.read, .bool x.write, .slice .any 1 (boL x.keys)]
def roleAV (x : SRole) : AV := .agg [.int .i64 x.id, .str x.name, .slice .any 4 (x.grants.map grantAV), .slice .any 1 (inL x.actions), .int .i64 x.quota, .bool x.audit]
def refAV (x : SRef) : AV := .agg [.int .i64 x.table, .int .i64 x.key, .int .i64 x.action, .int .i64 x.param, .int .i64 x.toTable, .int .i64 x.toKey]
def schC (x : Sch) : List AV := [.slice .any 3 (x.fields.map fieldAV), .slice .any 3 (x.headers.map headerAV), .slice .any 5 (x.states.map stateAV), .slice .any 5 (x.actions.map actionAV), .slice .any 8 (x.tables.map tableAV),
  .slice .any 2 (x.stages.map stageAV), .slice .any 6 (x.roles.map roleAV), .slice .any 6 (x.refs.map refAV), .int .i64 x.maxBatch, .int .i64 x.budget]
def schAV (x : Sch) : AV := .agg (schC x)

/-! the states -/
end Go.AL


/- The schema that a list of choices gives: actions, tables, roles, all. No program. -/
namespace Go.AL
set_option linter.all false
end Go.AL

