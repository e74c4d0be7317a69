/- Contracts and plain laws, a part of the proof; no condition of its own. -/
import Derived.Test.YtepgdamgklfnmaaGreatAlState
/- The abstract layer, third part: what an operation does to abstract values. -/
namespace Go.AL
set_option linter.all false

/-! ### Types -/
inductive TD where
  | int (k : IntKind)
  | bool
  | string
  | ptr (e : TypeId)
  | slice (e : TypeId)
  | struct (fs : List (Nat × TypeId × Bool))
  | array (n : Nat) (e : TypeId)
  | map (k e : TypeId)
  | func
  | iface (ms : Nat)
  | other
  deriving DecidableEq

structure TI where
  desc : TD
  size : Nat
  bytes : Nat
  zero : AV

def tdOf : TypeDesc → TD
  | .int k => .int k
  | .bool => .bool
  | .string => .string
  | .pointer e => .ptr e
  | .slice e => .slice e
  | .struct fs => .struct (fs.toList.map fun f => (f.offset, f.type, f.name == "_"))
  | .array n e => .array n e
  | .map k e => .map k e
  | .func _ _ _ => .func
  | .interface ms => .iface ms.size
  | _ => .other

def scalarOf : Value → AV
  | .int k n => .int k n
  | .bool b => .bool b
  | .string s => .str s.data.toList
  | .pointer none => .nilp
  | .slice none 0 0 => .slice .nil 1 []
  | .map none => .nilm
  | .nilFunc => .nilf
  | .nilIface => .nili
  | _ => .junk

def ofValue : Value → AV
  | .agg cs => .agg (cs.toList.map scalarOf)
  | v => scalarOf v

def ti (P : Program) (t : TypeId) : Option TI :=
  match P.underlying t, P.info? t with
  | some d, some i => match i.zero with
    | some z => some ⟨tdOf d, i.size, i.bytes, ofValue z⟩
    | none => none
  | _, _ => none

def TD.agg : TD → Bool
  | .struct _ | .array _ _ => true
  | _ => false

/-! ### Frames -/
abbrev Fr := List (Nat × AV)
def Fr.get : Fr → Nat → AV
  | [], _ => .junk
  | (j, v) :: fr, i => if j = i then v else Fr.get fr i
def ev (fr : Fr) : Operand → AV
  | .tmp t => Fr.get fr t
  | .const v => ofValue v
  | .global _ => .junk
  | .func f => .func (.func f) [] []
/-- an operand over slots -/
def evF (f : Nat → AV) : Operand → AV
  | .tmp t => f t
  | .const v => ofValue v
  | .global _ => .junk
  | .func f => .func (.func f) [] []
theorem ev_evF (fr : Fr) : ev fr = evF (Fr.get fr) := by funext x; cases x <;> rfl
def Fr.put (fr : Fr) : Option Nat → AV → Fr
  | some d, v => (d, v) :: fr
  | none, _ => fr

/-! ### Results -/
structure R where
  c : Prop
  v : AV
  H : AHeap

def splice : List AV → Nat → List AV → List AV
  | [], _, _ => []
  | c :: cs, 0, [] => c :: cs
  | _ :: cs, 0, v :: vs => v :: splice cs 0 vs
  | c :: cs, n + 1, vs => c :: splice cs n vs

def allOne (cs : List AV) : Bool := cs.all AV.one

def iand (k : IntKind) (a b : Int) : Int := k.wrap (BitVec.ofInt k.bits a &&& BitVec.ofInt k.bits b).toNat
def ior (k : IntKind) (a b : Int) : Int := k.wrap (BitVec.ofInt k.bits a ||| BitVec.ofInt k.bits b).toNat
def ixor (k : IntKind) (a b : Int) : Int := k.wrap (BitVec.ofInt k.bits a ^^^ BitVec.ofInt k.bits b).toNat
def iandnot (k : IntKind) (a b : Int) : Int := k.wrap (BitVec.ofInt k.bits a &&& ~~~(BitVec.ofInt k.bits b)).toNat
def ishl (k : IntKind) (a b : Int) : Int := k.wrap (a * 2 ^ (min b.toNat k.bits))
def ishr (k : IntKind) (a b : Int) : Int := a.fdiv (2 ^ (min b.toNat k.bits))

def rInt (op : BinOp) (k : IntKind) (a b : Int) (H : AHeap) : Option R :=
  match op with
  | .add => some ⟨True, .int k (k.wrap (a + b)), H⟩
  | .sub => some ⟨True, .int k (k.wrap (a - b)), H⟩
  | .mul => some ⟨True, .int k (k.wrap (a * b)), H⟩
  | .quo => some ⟨b ≠ 0, .int k (k.wrap (a.tdiv b)), H⟩
  | .rem => some ⟨b ≠ 0, .int k (a.tmod b), H⟩
  | .and => some ⟨True, .int k (iand k a b), H⟩
  | .or => some ⟨True, .int k (ior k a b), H⟩
  | .xor => some ⟨True, .int k (ixor k a b), H⟩
  | .andNot => some ⟨True, .int k (iandnot k a b), H⟩
  | .eql => some ⟨True, .bool (a == b), H⟩
  | .neq => some ⟨True, .bool (a != b), H⟩
  | .lss => some ⟨True, .bool (decide (a < b)), H⟩
  | .leq => some ⟨True, .bool (decide (a ≤ b)), H⟩
  | .gtr => some ⟨True, .bool (decide (a > b)), H⟩
  | .geq => some ⟨True, .bool (decide (a ≥ b)), H⟩
  | _ => none

/-- equality of two cells -/
def ceq : TD → AV → AV → Option Bool
  | .int _, .int k a, .int k' b => if k = k' then some (a == b) else none
  | .bool, .bool a, .bool b => some (a == b)
  | .string, .str a, .str b => some (a == b)
  | _, _, _ => none

/-- equality of two values of a type, laid out in cells -/
def teq (P : Program) : Nat → TypeId → AV → AV → Option Bool
  | 0, _, _, _ => none
  | d + 1, t, x, y =>
    match ti P t with
    | none => none
    | some i =>
      match i.desc with
      | .int _ | .bool | .string => ceq i.desc x y
      | .struct fs =>
        match x, y with
        | .agg xs, .agg ys => if P.stoodInHeld t then none else go (fun e a b => teq P d e a b) (part P) fs xs ys
        | _, _ => none
      | .array n e =>
        match x, y with
        | .agg xs, .agg ys => match ti P e with
          | some ie => arr (fun a b => teq P d e a b) (part P e) ie.size n 0 xs ys
          | none => none
        | _, _ => none
      | _ => none
where
  part (P : Program) (t : TypeId) (cs : List AV) (off : Nat) : Option AV :=
    match ti P t with
    | none => none
    | some i => if i.desc.agg then (if off + i.size ≤ cs.length then some (.agg ((cs.drop off).take i.size)) else none) else (if off < cs.length then some (cs.getD off .junk) else none)
  go (eq : TypeId → AV → AV → Option Bool) (part : TypeId → List AV → Nat → Option AV) : List (Nat × TypeId × Bool) → List AV → List AV → Option Bool
    | [], _, _ => some true
    | (off, t, blank) :: fs, xs, ys =>
      if blank then go eq part fs xs ys else
      match part t xs off, part t ys off with
      | some a, some b => match eq t a b, go eq part fs xs ys with
        | some p, some q => some (p && q)
        | _, _ => none
      | _, _ => none
  arr (eq : AV → AV → Option Bool) (part : List AV → Nat → Option AV) (sz : Nat) : Nat → Nat → List AV → List AV → Option Bool
    | 0, _, _, _ => some true
    | n + 1, i, xs, ys =>
      match part xs (i * sz), part ys (i * sz) with
      | some a, some b => match eq a b, arr eq part sz n (i + 1) xs ys with
        | some p, some q => some (p && q)
        | _, _ => none
      | _, _ => none

def rEq (P : Program) (neg : Bool) (t : TypeId) (x y : AV) (H : AHeap) : Option R :=
  match (ti P t).map TI.desc, x, y with
  | some .bool, .bool a, .bool b => some ⟨True, .bool ((a == b) != neg), H⟩
  | some (.ptr _), .nilp, .nilp => some ⟨True, .bool (!neg), H⟩
  | some (.ptr _), .ptr _ _, .nilp => some ⟨True, .bool neg, H⟩
  | some (.ptr _), .cptr _, .nilp => some ⟨True, .bool neg, H⟩
  | some (.iface _), .iface _ _, .nili => some ⟨True, .bool neg, H⟩
  | some (.iface 0), .nili, .nili => some ⟨True, .bool (!neg), H⟩
  | some _, .agg xs, .agg ys => match teq P 9 t (.agg xs) (.agg ys) with
    | some b => if P.eqGuardType P.depth t then none else some ⟨True, .bool (b != neg), H⟩
    | none => none
  | _, _, _ => none

def maxStr : Nat := 9223372036854775807

def rStr (op : BinOp) (a b : List UInt8) (H : AHeap) : Option R :=
  match op with
  | .add => some ⟨a.length + b.length ≤ maxStr, .str (a ++ b), H⟩
  | .eql => some ⟨True, .bool (a == b), H⟩
  | .neq => some ⟨True, .bool (!(a == b)), H⟩
  | .lss => some ⟨True, .bool (Op.bytesLess a b), H⟩
  | _ => none

def rBin (P : Program) (op : BinOp) (t : TypeId) (x y : AV) (H : AHeap) : Option R :=
  match x, y with
  | .int k a, .int k' b =>
    match op with
    | .shl => some ⟨0 ≤ b, .int k (ishl k a b), H⟩
    | .shr => some ⟨0 ≤ b, .int k (ishr k a b), H⟩
    | op => if k = k' then rInt op k a b H else none
  | .str a, .str b => rStr op a b H
  | x, y => match op with
    | .eql => rEq P false t x y H
    | .neq => rEq P true t x y H
    | _ => none

def rUn (op : UnOp) (x : AV) (H : AHeap) : Option R :=
  match op, x with
  | .neg, .int k n => some ⟨True, .int k (k.wrap (0 - n)), H⟩
  | .xor, .int k n => some ⟨True, .int k (ixor k (if k.signed then -1 else k.max) n), H⟩
  | .not, .bool b => some ⟨True, .bool (!b), H⟩
  | _, _ => none

def byteOf (x : AV) : UInt8 := match x with | .int _ n => UInt8.ofNat n.toNat | _ => 0
def isByte (x : AV) : Prop := ∃ n, x = .int .u8 n
def ofByte (b : UInt8) : AV := .int .u8 b.toNat

def ziw (P : Program) (src dst : TypeId) (x : AV) (H : AHeap) : Option R :=
  match (ti P src).map TI.desc, (ti P dst).map TI.desc, x with
  | some _, some (.int k), .int _ n => some ⟨True, .int k (k.wrap n), H⟩
  | some _, some .string, .str s => some ⟨True, .str s, H⟩
  | some .string, some (.slice e), .str s =>
    match ti P e with
    | some ⟨.int .u8, 1, _, .int .u8 0⟩ => some ⟨s.length ≤ 140737488355328, .slice (.own H.nx) 1 (s.map ofByte), H.push (.buf 1 s.length)⟩
    | _ => none
  | some (.slice e), some .string, .slice _ _ xs =>
    match (ti P e).map TI.desc with
    | some (.int .u8) => some ⟨∀ x ∈ xs, isByte x, .str (xs.map byteOf), H⟩
    | _ => none
  | _, _, _ => none

def cellsOf? (H : AHeap) (id : Nat) : Option (List AV) := match H.get id with | some (.cells cs) => some cs | _ => none

def zip (i : TI) (cs : List AV) (off : Nat) (H : AHeap) : Option R :=
  if i.desc.agg then some ⟨off + i.size ≤ cs.length, .agg ((cs.drop off).take i.size), H⟩ else some ⟨off < cs.length, cs.getD off .junk, H⟩

def zio (P : Program) (t : TypeId) (a : AV) (H : AHeap) : Option R :=
  match ti P t, a with
  | some i, .ptr id off => match cellsOf? H id with
    | some cs => zip i cs off H
    | none => none
  | some i, .cptr cs => zip i cs 0 H
  | _, _ => none

def ziq (P : Program) (t : TypeId) (a v : AV) (H : AHeap) : Option R :=
  match ti P t, a with
  | some i, .ptr id off => match cellsOf? H id with
    | some cs => if v.cells.length = i.size ∧ allOne v.cells = true then some ⟨off + i.size ≤ cs.length, .junk, H.set id (.cells (splice cs off v.cells))⟩ else none
    | none => none
  | _, _ => none

def zis (P : Program) (t : TypeId) (x : AV) (f : Nat) (H : AHeap) : Option R :=
  match (ti P t).map TI.desc with
  | some (.struct fs) => match fs[f]? with
    | some (off, ft, _) => match ti P ft with
      | some i => if i.size = 0 then none else match x with
        | .ptr id o => some ⟨True, .ptr id (o + off), H⟩
        | .cptr cs => some ⟨off ≤ cs.length, .cptr (cs.drop off), H⟩
        | _ => none
      | none => none
    | none => none
  | _ => none

def zit (P : Program) (t : TypeId) (x : AV) (f : Nat) (H : AHeap) : Option R :=
  match (ti P t).map TI.desc, x with
  | some (.struct fs), .agg cs => match fs[f]? with
    | some (off, ft, _) => match ti P ft with
      | some i => zip i cs off H
      | none => none
    | none => none
  | _, _ => none

def ziu (P : Program) (t : TypeId) (x ix : AV) (H : AHeap) : Option R :=
  match (ti P t).map TI.desc, ix with
  | some (.slice e), .int _ i => match ti P e with
    | some te => match x with
      | .slice _ sz xs => if te.size = sz then some ⟨0 ≤ i ∧ i < xs.length, .cptr (xs.getD i.toNat .junk).cells, H⟩ else none
      | .ms id off sz len => if te.size = sz then some ⟨0 ≤ i ∧ i < len, .ptr id (off + i.toNat * sz), H⟩ else none
      | _ => none
    | none => none
  | some (.array n e), .int _ i => match ti P e with
    | some te => match x with
      | .ptr id off => some ⟨0 ≤ i ∧ i < n, .ptr id (off + i.toNat * te.size), H⟩
      | .cptr cs => some ⟨0 ≤ i ∧ i < n ∧ n * te.size ≤ cs.length, .cptr (cs.drop (i.toNat * te.size)), H⟩
      | _ => none
    | none => none
  | _, _ => none

def ziv (P : Program) (t : TypeId) (x ix : AV) (H : AHeap) : Option R :=
  match (ti P t).map TI.desc, x, ix with
  | some .string, .str s, .int _ i => some ⟨0 ≤ i ∧ i < s.length, .int .u8 (s.getD i.toNat 0).toNat, H⟩
  | some (.array n e), .agg cs, .int _ i => match ti P e with
    | some te => if te.desc.agg then some ⟨0 ≤ i ∧ i < n ∧ n * te.size ≤ cs.length, .agg ((cs.drop (i.toNat * te.size)).take te.size), H⟩
      else some ⟨0 ≤ i ∧ i < n ∧ n * te.size ≤ cs.length ∧ te.size = 1, cs.getD (i.toNat * te.size) .junk, H⟩
    | none => none
  | _, _, _ => none

def bound (x : Option AV) (d : Nat) : Option Int :=
  match x with
  | none => some d
  | some (.int _ n) => some n
  | _ => none

def zii (P : Program) (t : TypeId) (x : AV) (lo hi mx : Option AV) (H : AHeap) : Option R :=
  match (ti P t).map TI.desc, x with
  | some .string, .str s => match bound lo 0, bound hi s.length, mx with
    | some l, some h, none => some ⟨0 ≤ l ∧ l ≤ h ∧ h ≤ s.length, .str ((s.take h.toNat).drop l.toNat), H⟩
    | _, _, _ => none
  | some (.slice e), .slice m sz xs => match ti P e with
    | some te => if te.size = sz ∨ xs = [] then match bound lo 0, bound hi xs.length, mx with
      | some l, some h, none => some ⟨0 ≤ l ∧ l ≤ h ∧ h ≤ xs.length, .slice .any sz ((xs.take h.toNat).drop l.toNat), H⟩
      | some l, some h, some (.int _ c) => if hi.isSome then some ⟨0 ≤ l ∧ l ≤ h ∧ h ≤ c ∧ c ≤ xs.length, .slice (if h = c then (if l = h then .nil else .full) else .any) sz ((xs.take h.toNat).drop l.toNat), H⟩ else none
      | _, _, _ => none else none
    | none => none
  | some (.slice e), .ms id off sz len => match ti P e with
    | some te => if te.size = sz then match bound lo 0, bound hi len, mx with
      | some l, some h, none => some ⟨0 ≤ l ∧ l ≤ h ∧ h ≤ len, .ms id (off + l.toNat * sz) sz (h - l).toNat, H⟩
      | _, _, _ => none else none
    | none => none
  | some (.array n e), .ptr id off => match ti P e with
    | some te => match cellsOf? H id with
      | some cs => match bound lo 0, bound hi n, mx with
        | some l, some h, none => some ⟨0 ≤ l ∧ l ≤ h ∧ h ≤ n ∧ off + n * te.size ≤ cs.length, .ms id (off + l.toNat * te.size) te.size (h - l).toNat, H⟩
        | _, _, _ => none
      | none => none
    | none => none
  | _, _ => none

def zic (places : Nat → Option (Nat × Nat)) : List AV → List (Nat × AV) → Option (List AV)
  | cells, [] => some cells
  | cells, (i, v) :: rest => match places i with
    | none => none
    | some (off, size) => if v.cells.length = size ∧ off + size ≤ cells.length ∧ allOne v.cells = true then zic places (splice cells off v.cells) rest else none

def zjf (P : Program) (t : TypeId) : Nat := (ti P t).elim 0 TI.size

def zid (P : Program) : List (Nat × TypeId × Bool) → Bool
  | [] => true
  | (_, t, _) :: fs => (ti P t).isSome && zid P fs

def zil (P : Program) (t : TypeId) (parts : List (Nat × AV)) (H : AHeap) : Option R :=
  match ti P t with
  | some i => match i.desc with
    | .struct fs => if zid P fs then (zic (fun j => (fs[j]?).map fun f => (f.1, zjf P f.2.1)) i.zero.cells parts).map fun cs => ⟨True, .agg cs, H⟩ else none
    | .array n e => if (ti P e).isSome then (zic (fun j => some (j * zjf P e, zjf P e)) i.zero.cells parts).map fun cs => ⟨True, .agg cs, H⟩ else none
    | _ => none
  | none => none

/-- the elements of a literal: part i is element i -/
def zin (sz : Nat) : Nat → List (Nat × AV) → Option (List AV)
  | _, [] => some []
  | k, (i, v) :: rest => if i = k ∧ v.cells.length = sz ∧ allOne v.cells = true then (zin sz (k + 1) rest).map (v :: ·) else none

def zim (P : Program) (t : TypeId) (len : Nat) (parts : List (Nat × AV)) (H : AHeap) : Option R :=
  match (ti P t).map TI.desc with
  | some (.slice e) => match ti P e with
    | some te => if parts.length = len ∧ len * te.size ≤ 16777216 then (zin te.size 0 parts).map fun xs => ⟨True, .slice (.own H.nx) te.size xs, H.push (.buf te.size len)⟩ else none
    | none => none
  | _ => none

def zig (P : Program) (t : TypeId) (l c : AV) (H : AHeap) : Option R :=
  match (ti P t).map TI.desc, l, c with
  | some (.slice e), .int .i64 n, .int .i64 m => match ti P e with
    | some te => if te.zero.cells.length = te.size then some ⟨n = m ∧ 0 ≤ n ∧ n * te.bytes ≤ 140737488355328 ∧ n ≤ 140737488355328, .ms H.nx 0 te.size n.toNat, H.push (.cells (List.replicate n.toNat te.zero.cells).flatten)⟩ else none
    | none => none
  | _, _, _ => none

def ziy (x : AV) (i : Nat) (H : AHeap) : Option R :=
  match x with
  | .tup vs => some ⟨i < vs.length, vs.getD i .junk, H⟩
  | _ => none

def rAssert (P : Program) (x : AV) (asserted : TypeId) (ok : Bool) (H : AHeap) : Option R :=
  match ti P asserted with
  | some i => match i.desc, x with
    | .iface _, _ => none
    | _, .iface t v => if t = asserted then some ⟨True, if ok then .tup [v, .bool true] else v, H⟩ else if ok then some ⟨True, .tup [i.zero, .bool false], H⟩ else none
    | _, .nili => if ok then some ⟨True, .tup [i.zero, .bool false], H⟩ else none
    | _, _ => none
  | none => none

/-! ### Builtins -/
def rLen (P : Program) (t : TypeId) (x : AV) (H : AHeap) : Option R :=
  match (ti P t).map TI.desc, x with
  | some .string, .str s => some ⟨True, .int .i64 s.length, H⟩
  | some (.slice _), .slice _ _ xs => some ⟨True, .int .i64 xs.length, H⟩
  | some (.slice _), .ms _ _ _ len => some ⟨True, .int .i64 len, H⟩
  | some (.array n _), _ => some ⟨True, .int .i64 n, H⟩
  | _, _ => none

/-- one cell -/
def cell1 : AV → AV
  | .agg _ => .junk
  | v => v
/-- elements of a row -/
def rowsOf (sz : Nat) : Nat → List AV → List AV
  | 0, _ => []
  | n + 1, cs => (if sz = 1 then cell1 (cs.getD 0 .junk) else .agg ((List.range sz).map fun j => cs.getD j .junk)) :: rowsOf sz n (cs.drop sz)

/-- what is appended -/
def addL (te : TI) (x : AV) (H : AHeap) : Option (List AV) :=
  match x with
  | .ms id off sz len => if sz = te.size then match cellsOf? H id with
    | some cs => some (rowsOf sz len (cs.drop off))
    | none => none else none
  | .slice _ sz xs => if sz = te.size ∨ xs = [] then some xs else none
  | .str s => if te.size = 1 then some (s.map ofByte) else none
  | _ => none

/-- the mark and the heap behind an append that leaves n elements -/
def grow (m : Mark) (H : AHeap) (sz n : Nat) : Option (Mark × AHeap) :=
  match m with
  | .nil | .full => some (.own H.nx, H.push (.buf sz n))
  | .own id => some (.own id, H.set id (.buf sz n))
  | .any => none

/-- an append is allowed here: the value ends where its row's known cells end -/
def room (m : Mark) (H : AHeap) (sz : Nat) (ys zs : List AV) : Prop :=
  match m with
  | .nil => ys = []
  | .full => zs ≠ []
  | .own id => H.get id = some (.buf sz ys.length)
  | .any => False

/-- the second operand of an append is no number (that form of the model is for make) -/
def addT : Option TD → Bool
  | some (.slice _) | some .string => true
  | _ => false

def zjc (P : Program) (t t2 : TypeId) (s x : AV) (H : AHeap) : Option R :=
  if addT ((ti P t2).map TI.desc) then
  match (ti P t).map TI.desc with
  | some (.slice e) => match ti P e, s with
    | some te, .slice m sz ys => if 0 < te.size ∧ te.zero.cells.length = te.size ∧ (sz = te.size ∨ m = .nil) then match addL te x H, grow m H te.size (ys.length + (addL te x H).elim 0 List.length) with
      | some zs, some (m', H') => some ⟨room m H te.size ys zs ∧ (ys.length + zs.length) * te.bytes ≤ 140737488355328 ∧ ys.length + zs.length ≤ 140737488355328 ∧ ∀ z ∈ zs, allOne z.cells = true, .slice m' te.size (ys ++ zs), H'⟩
      | _, _ => none else none
    | _, _ => none
  | _ => none
  else none

/-- an append to a slice whose room is full: a new row, unless nothing is appended -/
def zjd (P : Program) (t t2 : TypeId) (sz : Nat) (ys : List AV) (x : AV) (H : AHeap) : Option R :=
  if addT ((ti P t2).map TI.desc) then
  match (ti P t).map TI.desc with
  | some (.slice e) => match ti P e with
    | some te => if 0 < te.size ∧ te.zero.cells.length = te.size ∧ sz = te.size then match addL te x H with
      | some zs => some ⟨(ys.length + zs.length) * te.bytes ≤ 140737488355328 ∧ ys.length + zs.length ≤ 140737488355328 ∧ ∀ z ∈ zs, allOne z.cells = true,
          .slice (if zs.isEmpty = true then .full else .own H.nx) te.size (ys ++ zs), H.push (.buf te.size (ys.length + zs.length))⟩
      | none => none
      else none
    | none => none
  | _ => none
  else none

/-- an append of n zeros to an empty slice whose room is full: a new row -/
def zjb (P : Program) (t t2 : TypeId) (k : IntKind) (n : Int) (H : AHeap) : Option R :=
  match (ti P t2).map TI.desc, (ti P t).map TI.desc with
  | some (.int _), some (.slice e) => match ti P e with
    | some te => if 0 < te.size ∧ te.zero.cells.length = te.size then some ⟨k = .i64 ∧ 0 < n ∧ n ≤ 1000000 ∧ te.bytes ≤ 1000000,
        .slice (.own H.nx) te.size (List.replicate n.toNat te.zero), H.push (.buf te.size n.toNat)⟩ else none
    | none => none
  | _, _ => none

def zja (P : Program) (t t2 : TypeId) (sz : Nat) (ys : List AV) (x : AV) (H : AHeap) : Option R :=
  match x with
  | .int k n => match ys with
    | [] => zjb P t t2 k n H
    | _ => none
  | x => zjd P t t2 sz ys x H
def ziz (P : Program) (t t2 : TypeId) (s x : AV) (H : AHeap) : Option R :=
  match s with
  | .slice .full sz ys => zja P t t2 sz ys x H
  | s => zjc P t t2 s x H
theorem rAppend_full {P : Program} {t t2 : TypeId} {sz : Nat} {x : AV} {H : AHeap} {r : R} (h : zjd P t t2 sz [] x H = some r) : ziz P t t2 (.slice .full sz []) x H = some r := by
  show zja P t t2 sz [] x H = some r
  cases x with
  | int k n =>
    exfalso
    unfold zjd at h
    simp only [addL] at h
    (repeat' split at h) <;> contradiction
  | _ => exact h

def zih (P : Program) (t : TypeId) (d x : AV) (H : AHeap) : Option R :=
  match (ti P t).map TI.desc with
  | some (.slice e) => match ti P e with
    | some te => match d, addL te x H with
      | .ms id off sz len, some zs => match cellsOf? H id with
        | some cs => if sz = te.size then some ⟨off + len * sz ≤ cs.length ∧ ∀ z ∈ zs, allOne z.cells = true, .int .i64 (min zs.length len : Nat), H.set id (.cells (splice cs off ((zs.take len).flatMap AV.cells)))⟩ else none
        | none => none
      | _, _ => none
    | none => none
  | _ => none

def zje (mx : Bool) (l : List AV) (H : AHeap) : Option R :=
  match l with
  | [.int k a, .int k' b] => if k = k' then some ⟨True, .int k (if mx then max a b else min a b), H⟩ else none
  | _ => none

def zif (P : Program) (b : Builtin) (ts : List TypeId) (args : List AV) (H : AHeap) : Option R :=
  match b, ts, args with
  | .len, t :: _, [x] => rLen P t x H
  | .append, t :: t2 :: _, [s, x] => ziz P t t2 s x H
  | .copy, t :: _ :: _, [d, x] => zih P t d x H
  | .min, _, l => zje false l H
  | .max, _, l => zje true l H
  | _, _, _ => none

/-- a slice variable that starts as nil may be appended to -/
def zie (P : Program) (t : TypeId) (x : Operand) (v : AV) (H : AHeap) : Option R :=
  match x with
  | .const (.slice none 0 0) => match (ti P t).map TI.desc with
    | some (.slice e) => some ⟨True, .slice (.own H.nx) (zjf P e) [], H.push (.buf (zjf P e) 0)⟩
    | _ => some ⟨True, v, H⟩
  | _ => some ⟨True, v, H⟩

def zij (c a b : AV) (H : AHeap) : Option R :=
  match c with
  | .bool t => some ⟨True, if t then a else b, H⟩
  | _ => none

def zik (P : Program) (t : TypeId) (H : AHeap) : Option R :=
  match ti P t with
  | some i => some ⟨True, .ptr H.nx 0, H.push (.cells i.zero.cells)⟩
  | none => none

def rBox (x : AV) (H : AHeap) : Option R :=
  match x with
  | .junk | .tup _ => none
  | x => some ⟨True, .ptr H.nx 0, H.push (.cells x.cells)⟩

def zir (x : AV) (H : AHeap) : Option R :=
  match x with
  | .ptr id off => some ⟨True, .ptr id off, H⟩
  | .cptr cs => some ⟨True, .cptr cs, H⟩
  | .func (.func f) a b => some ⟨True, .func (.func f) a b, H⟩
  | _ => none

def zix (P : Program) (t : TypeId) (x : AV) (H : AHeap) : Option R :=
  match (ti P t).map TI.desc with
  | some (.iface _) => none
  | some _ => some ⟨True, .iface t x, H⟩
  | none => none

/-- what an operation that is no call of a function yields -/
def aresE (P : Program) (o : Oper) (e : Operand → AV) (H : AHeap) : Option R :=
  match o.op with
  | .move x => some ⟨True, e x, H⟩
  | .assign x => zie P o.type x (e x) H
  | .pick c a b => zij (e c) (e a) (e b) H
  | .alloc t => zik P t H
  | .box _ x => rBox (e x) H
  | .build t ps => zil P t (ps.toList.map fun p => (p.1, e p.2)) H
  | .buildSlice t n ps => zim P t n (ps.toList.map fun p => (p.1, e p.2)) H
  | .load t a => zio P t (e a) H
  | .store t a v => ziq P t (e a) (e v) H
  | .nilCheck x => zir (e x) H
  | .binOp op t x y _ => rBin P op t (e x) (e y) H
  | .unOp op _ x => rUn op (e x) H
  | .convert s d x => ziw P s d (e x) H
  | .makeInterface t x => zix P t (e x) H
  | .makeFunc f a b => some ⟨True, .func f (a.toList.map e) (b.toList.map e), H⟩
  | .makeSlice t l c => zig P t (e l) (e c) H
  | .slice t x lo hi mx => zii P t (e x) (lo.map e) (hi.map e) (mx.map e) H
  | .fieldAddr t x f => zis P t (e x) f H
  | .field t x f => zit P t (e x) f H
  | .indexAddr t x i => ziu P t (e x) (e i) H
  | .index t x i => ziv P t (e x) (e i) H
  | .typeAssert x _ a ok => rAssert P (e x) a ok H
  | .extract x i => ziy (e x) i H
  | .call { callee := .builtin b, args, argTypes } => zif P b argTypes.toList (args.toList.map e) H
  | _ => none

def ares (P : Program) (o : Oper) (fr : Fr) (H : AHeap) : Option R := aresE P o (ev fr) H

end Go.AL

