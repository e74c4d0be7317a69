/- Contracts and plain laws, a part of the proof; no condition of its own. -/
import Derived.Test.YtepgdamgklfnmaaGreatLGen
/- Schemas and entries as data, how they stand in memory, and the schema and the entries that a list of choices gives. No program. -/
namespace Go.AL
set_option linter.all false
/-- the two cells of a value -/
def vc (v : Nat) : List AV := [.int .u64 ((v / 2 ^ 64 : Nat) : Int), .int .u64 ((v % 2 ^ 64 : Nat) : Int)]
def inL (l : List Int) : List AV := l.map (.int .i64)
structure SField where
  id : Int
  name : List UInt8
  bits : Int
structure SHeader where
  id : Int
  name : List UInt8
  fields : List Int
structure SCase where
  value : Nat
  mask : Nat
  next : Int
structure SState where
  id : Int
  header : Int
  select : Int
  cases : List SCase
  dflt : Int
structure SPrim where
  op : Int
  dst : Int
  kind : Int
  n : Int
  value : Nat
structure SParam where
  name : List UInt8
  bits : Int
structure SAction where
  id : Int
  name : List UInt8
  params : List SParam
  body : List SPrim
  restr : List UInt8
structure SKey where
  name : List UInt8
  field : Int
  kind : Int
structure STable where
  id : Int
  name : List UInt8
  keys : List SKey
  actions : List Int
  dflt : Int
  dargs : List Nat
  size : Int
  restr : List UInt8
structure SStage where
  table : Int
  header : Int
structure SGrant where
  table : Int
  read : Bool
  write : Bool
  keys : List Bool
structure SRole where
  id : Int
  name : List UInt8
  grants : List SGrant
  actions : List Int
  quota : Int
  audit : Bool
structure SRef where
  table : Int
  key : Int
  action : Int
  param : Int
  toTable : Int
  toKey : Int
structure Sch where
  fields : List SField
  headers : List SHeader
  states : List SState
  actions : List SAction
  tables : List STable
  stages : List SStage
  roles : List SRole
  refs : List SRef
  maxBatch : Int
  budget : Int
/-! the states -/
end Go.AL


/- The schema that a list of choices gives: actions, tables, roles, all. No program. -/
namespace Go.AL
set_option linter.all false
end Go.AL

