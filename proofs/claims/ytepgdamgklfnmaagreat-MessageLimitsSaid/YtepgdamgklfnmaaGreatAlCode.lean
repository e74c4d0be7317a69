/- Contracts and plain laws, a part of the proof; no condition of its own. -/
import Derived.Test.YtepgdamgklfnmaaGreatAlDefs
/- The abstract layer, fourth part: code over abstract values. -/
namespace Go.AL
set_option linter.all false

inductive AEnd where
  | ret (v : AV)
  | panic (v : AV)

/-- What is known of a function: a value (nothing else changes), or an ending and a heap. -/
structure Ent where
  eff : Bool
  p : List AV → AHeap → (AV → Prop) → Prop
  e : List AV → AHeap → (AEnd → AHeap → Prop) → Prop
  /-- an ending of which something is known -/
  s : Option (List AV → AHeap → (AV → AHeap → Prop) → Prop) := none

def Ent.some (q : List AV → AHeap → (AV → AHeap → Prop) → Prop) : Ent := ⟨true, fun _ _ _ => False, fun _ _ _ => False, Option.some q⟩
def Ent.pure (p : List AV → AHeap → (AV → Prop) → Prop) : Ent := ⟨false, p, fun _ _ _ => False, none⟩
def Ent.effect (e : List AV → AHeap → (AEnd → AHeap → Prop) → Prop) : Ent := ⟨true, fun _ _ _ => False, e, none⟩

abbrev Tbl := List (FuncId × Ent)
def look : Tbl → FuncId → Option Ent
  | [], _ => none
  | (g, e) :: l, f => if g = f then some e else look l f

structure Conts where
  n0 : Nat
  n : Fr → AHeap → Prop
  r : Fr → AHeap → Prop
  x : Nat → Fr → AHeap → Prop
  p : Fr → AV → AHeap → Prop
  /-- the operations that each operation of a region comes after, by number -/
  T : Nat → List (List Nat)

/-- a call of a known function -/
def callK (Ω : Tbl) (f : FuncId) (args : List AV) (H : AHeap) (K : AV → AHeap → Prop) (Kp : AV → AHeap → Prop) : Prop :=
  match look Ω f with
  | none => False
  | some e => match e.s with
    | some q => q args H K
    | none => if e.eff then e.e args H (fun x H' => match x with | .ret v => K v H' | .panic v => Kp v H') else e.p args H (fun v => K v H)

def yslot (ops : Array Oper) (fr : Fr) (j : Nat) : AV :=
  match (ops[j]?).bind (·.dst) with
  | some d => Fr.get fr d
  | none => .junk

def ydst (ops : Array Oper) (j : Nat) : Option Nat := (ops[j]?).bind (·.dst)

/-- the operations that are no reckoning -/
def isCall : Op → Bool
  | .call { callee := .builtin .panic, .. } => true
  | .call { callee := .builtin _, .. } => false
  | .call _ => true
  | .panic _ => true
  | _ => false

def stepCall (P : Program) (Ω : Tbl) (o : Oper) (fr : Fr) (H : AHeap) (K : AV → AHeap → Prop) (Kp : AV → AHeap → Prop) : Prop :=
  match o.op with
  | .call { callee := .value f, args, .. } =>
    match ev fr f with
    | .func (.func k) first cap => callK Ω k (first ++ args.toList.map (ev fr) ++ cap) H K Kp
    | _ => False
  | .panic x =>
    match ev fr x with
    | .iface t v => Kp (.iface t v) H
    | _ => False
  | _ => False

/-- is it the nil slice, written out -/
def isNilC : Operand → Bool
  | .const (.slice none 0 0) => true
  | _ => false

/-- a slice held against nil: either answer is possible where it is empty -/
def nilK (td : Option TD) (op : BinOp) (x : AV) (K : Bool → Prop) : Prop :=
  match td, op, x with
  | some (.slice _), .eql, .slice _ _ xs => ∀ b, (xs ≠ [] → b = false) → K b
  | some (.slice _), .neq, .slice _ _ xs => ∀ b, (xs ≠ [] → b = true) → K b
  | some (.slice _), .eql, .ms _ _ _ _ => ∀ b, K b
  | some (.slice _), .neq, .ms _ _ _ _ => ∀ b, K b
  | _, _, _ => False

def nilTest : Op → Bool
  | .binOp _ _ _ y _ => isNilC y
  | _ => false

def stepNil (P : Program) (o : Oper) (fr : Fr) (H : AHeap) (K : Fr → AHeap → Prop) : Prop :=
  match o.op with
  | .binOp op t x _ _ => nilK ((ti P t).map TI.desc) op (ev fr x) fun b => K (fr.put o.dst (.bool b)) H
  | _ => False

def step1 (P : Program) (Ω : Tbl) (o : Oper) (fr : Fr) (H : AHeap) (K : Fr → AHeap → Prop) (Kp : Fr → AV → AHeap → Prop) : Prop :=
  if isCall o.op then stepCall P Ω o fr H (fun v H' => K (fr.put o.dst v) H') (Kp fr)
  else if nilTest o.op then stepNil P o fr H K
  else match ares P o fr H with
    | some r => r.c ∧ K (fr.put o.dst r.v) r.H
    | none => False

def awOps (P : Program) (Ω : Tbl) (ops : Array Oper) : List Oper → (Fr → AHeap → Prop) → (Fr → AV → AHeap → Prop) → Fr → AHeap → Prop
  | [], K, _, fr, H => K fr H
  | o :: rest, K, Kp, fr, H =>
    match o.guard with
    | none => step1 P Ω o fr H (awOps P Ω ops rest K Kp) Kp
    | some (j, want) =>
      match yslot ops fr j with
      | .bool b => (b = want → step1 P Ω o (fr.put (ydst ops j) (.bool want)) H (awOps P Ω ops rest K Kp) Kp) ∧
          (b = (!want) → awOps P Ω ops rest K Kp ((fr.put (ydst ops j) (.bool (!want))).put o.dst (.tup [])) H)
      | .tup [] => awOps P Ω ops rest K Kp (fr.put o.dst (.tup [])) H
      | _ => False

/-! How a value looks behind the call: v in H' may be taken for x in H1 -/
def wkM (m m' : Mark) : Prop := m' = .any ∨ m = m'
def wk1 (H' H1 : AHeap) : AV → AV → Prop
  | .slice m sz xs, .slice m' sz' ys => (wkM m m' ∧ sz = sz' ∧ xs = ys) ∨ (m = .nil ∧ m' = .any ∧ xs = [] ∧ ys = [])
  | .ms id off sz len, .slice m' sz' ys => match cellsOf? H' id with
    | some cs => (m' = .any ∨ (m' = .full ∧ 0 < sz ∧ off + len * sz = cs.length)) ∧ sz' = sz ∧ ys = rowsOf sz len (cs.drop off) ∧ H1.get id = none
    | none => False
  | v, x => v = x
def wkL (H' H1 : AHeap) : List AV → List AV → Prop
  | [], [] => True
  | v :: vs, x :: xs => wk1 H' H1 v x ∧ wkL H' H1 vs xs
  | _, _ => False
def wk2 (H' H1 : AHeap) : AV → AV → Prop
  | .agg vs, .agg xs => wkL H' H1 vs xs
  | v, x => wk1 H' H1 v x
def wkLL (H' H1 : AHeap) : List AV → List AV → Prop
  | [], [] => True
  | v :: vs, x :: xs => wk2 H' H1 v x ∧ wkLL H' H1 vs xs
  | _, _ => False
def wk (H' H1 : AHeap) : AV → AV → Prop
  | .tup vs, .tup xs => wkLL H' H1 vs xs
  | v, x => wk2 H' H1 v x

def subF : Fr → Fr → Prop
  | [], _ => True
  | (i, v) :: l, fr => Fr.get fr i = v ∧ subF l fr
def ltF (n : Nat) : Fr → Prop
  | [] => True
  | (_, v) :: l => v.lt n ∧ ltF n l

/-- a state may be taken for one of which less is known -/
def enter (n0 : Nat) (fr : Fr) (H : AHeap) (fr' : Fr) (H' : AHeap) : Prop :=
  subF fr' fr ∧ (H' = H ∨ (n0 ≤ H'.nx ∧ H'.Le H ∧ H'.Closed ∧ ltF H'.nx fr'))

/-- a state may be taken for one of which less is known, objects that are done with may be frozen -/
def subW (H H' : AHeap) : Fr → Fr → Prop
  | [], _ => True
  | (i, v) :: l, fr => wk2 H H' (Fr.get fr i) v ∧ subW H H' l fr
def enterW (n0 : Nat) (fr : Fr) (H : AHeap) (fr' : Fr) (H' : AHeap) : Prop :=
  n0 ≤ H'.nx ∧ H'.Le H ∧ H'.Closed ∧ ltF H'.nx fr' ∧ subW H H' fr' fr
def enterB : Option Bool → Nat → Fr → AHeap → Fr → AHeap → Prop
  | some false => enter
  | some true => enterW
  | none => fun _ fr H fr' H' => fr' = fr ∧ H' = H

/-- a value taken for one of which less is known, at every depth -/
def wkD : AV → AV → Prop
  | .agg xs, .agg ys => xs.length = ys.length ∧ ∀ j (hj : j < xs.length) (hj' : j < ys.length), wkD xs[j] ys[j]
  | .slice m sz xs, .slice m' sz' ys => (wkM m m' ∧ sz = sz' ∧ xs.length = ys.length ∧ ∀ i (hi : i < xs.length) (hi' : i < ys.length), xs[i].cells.length = ys[i].cells.length ∧
      ∀ j (hj : j < xs[i].cells.length) (hj' : j < ys[i].cells.length), wkD xs[i].cells[j] ys[i].cells[j]) ∨ (m = .nil ∧ m' = .any ∧ xs = [] ∧ ys = [])
  | x, y => x = y
termination_by x => SizeOf.sizeOf x
decreasing_by
  all_goals simp_wf
  all_goals first
    | (have h1 := AV.sizeOf_cells (List.getElem_mem hj); have h2 := List.sizeOf_lt_of_mem (List.getElem_mem hi); omega)
    | (have := List.sizeOf_lt_of_mem (List.getElem_mem hj); omega)
def wkDL : List AV → List AV → Prop
  | [], [] => True
  | x :: xs, y :: ys => wkD x y ∧ wkDL xs ys
  | _, _ => False
def wkDR : List AV → List AV → Prop
  | [], [] => True
  | x :: xs, y :: ys => wkDL x.cells y.cells ∧ wkDR xs ys
  | _, _ => False

theorem wkDL_iff : ∀ {xs ys : List AV}, wkDL xs ys ↔ xs.length = ys.length ∧ ∀ j (hj : j < xs.length) (hj' : j < ys.length), wkD xs[j] ys[j]
  | [], [] => by simp [wkDL]
  | [], _ :: _ => by simp [wkDL]
  | _ :: _, [] => by simp [wkDL]
  | x :: xs, y :: ys => by
    rw [wkDL, wkDL_iff]
    constructor
    · rintro ⟨h1, h2, h3⟩
      refine ⟨by simp [h2], fun j hj hj' => ?_⟩
      cases j with
      | zero => exact h1
      | succ j => exact h3 j (by simpa using hj) (by simpa using hj')
    · rintro ⟨h1, h2⟩
      exact ⟨h2 0 (by simp) (by simp), by simpa using h1, fun j hj hj' => h2 (j + 1) (by simpa using hj) (by simpa using hj')⟩

/-- at a point of the code a state may be taken for one of which less is known -/
def weakK (n0 : Nat) (K : Fr → AHeap → Prop) (fr : Fr) (H : AHeap) : Prop :=
  (∃ fr' H', enterW n0 fr H fr' H' ∧ K fr' H') ∨
  -- a slice that is nil, in an aggregate: it may be appended to
  (∃ s j sz cs, Fr.get fr s = .agg cs ∧ cs[j]? = some (.slice .nil 1 []) ∧ K ((s, .agg (cs.set j (.slice (.own H.nx) sz []))) :: fr) (H.push (.buf sz 0))) ∨
  -- less is known of a slot, of an object
  (∃ s y, wkD (Fr.get fr s) y ∧ K ((s, y) :: fr) H) ∨
  (∃ id cs cs', cellsOf? H id = some cs ∧ wkDL cs cs' ∧ K fr (H.set id (.cells cs'))) ∨
  -- a new row's room, whatever it is
  (∃ id cs, H.get id = some (.part cs) ∧ ∀ k, K fr (H.set id (.cells (cs ++ List.replicate k .junk)))) ∨
  -- a slice that is nil, in an object: it may be appended to
  ∃ s id off j sz cs, Fr.get fr s = .ptr id off ∧ cellsOf? H id = some cs ∧ cs[j]? = some (.slice .nil 1 []) ∧ K fr ((H.push (.buf sz 0)).set id (.cells (cs.set j (.slice (.own H.nx) sz []))))
def weakB (l : List (List Nat)) (n0 : Nat) (K : Fr → AHeap → Prop) (fr : Fr) (H : AHeap) : Prop :=
  match l with
  | [] => K fr H
  | _ => weakK n0 K fr H

/-! ### Regions in the order of the text with hints: a slice that may be stored into, and its end -/
def AHeap.del (H : AHeap) (i : Nat) : AHeap := ⟨H.nx, fun j => if j = i then none else H.f j⟩
/-- a new row, as an object that may be written -/
def toMs (H : AHeap) (v : AV) (K : AV → AHeap → Prop) : Prop :=
  match v with
  | .slice (.own _) sz xs => xs ≠ [] ∧ ∀ k, K (.ms H.nx 0 sz xs.length) (H.push (.cells (xs.flatMap AV.cells ++ List.replicate k .junk)))
  | _ => False
/-- the same behind an append to an empty full slice: where nothing is appended the slice stays -/
def toMs1 (H H1 : AHeap) (v : AV) (K : AV → AHeap → Prop) : Prop :=
  match v with
  | .slice (.own _) sz xs => xs ≠ [] ∧ ∀ k, K (.ms H.nx 0 sz xs.length) (H.push (.cells (xs.flatMap AV.cells ++ List.replicate k .junk)))
  | .slice .full sz xs => K (.slice .full sz xs) H1
  | _ => False
/-- the same; an empty row stays what it was -/
def toMs0 (H H1 : AHeap) (v : AV) (K : AV → AHeap → Prop) : Prop :=
  match v with
  | .slice (.own i) sz xs => (xs = [] → K (.slice (.own i) sz xs) H1) ∧ (xs ≠ [] → ∀ k, K (.ms H.nx 0 sz xs.length) (H.push (.cells (xs.flatMap AV.cells ++ List.replicate k .junk))))
  | _ => False
/-- values of a written object, when it is written no more -/
def pubV (id nid sz n : Nat) (cs : List AV) : AV → AV
  | .ms i off s len => if i = id ∧ off = 0 ∧ s = sz ∧ len ≤ n then .slice (.own nid) sz (rowsOf sz len cs) else .ms i off s len
  | v => v
def pubF (id nid sz n : Nat) (cs : List AV) : Fr → Fr
  | [] => []
  | (t, v) :: l => (t, pubV id nid sz n cs v) :: pubF id nid sz n cs l
def pubK (id sz n : Nat) (fr : Fr) (H : AHeap) (K : Fr → AHeap → Prop) : Prop :=
  match cellsOf? H id with
  | some cs => K (pubF id H.nx sz n cs fr) ((H.del id).push (.buf sz n))
  | none => False
/-- a slice that may be written, read as a text -/
def strK (P : Program) (s d : TypeId) (sz len off : Nat) (H : AHeap) (cs : List AV) (K : AV → AHeap → Prop) : Prop :=
  match (ti P s).map TI.desc, (ti P d).map TI.desc with
  | some (.slice e), some .string => (ti P e).map TI.desc = some (.int .u8) ∧ sz = 1 ∧ (∀ x ∈ rowsOf sz len (cs.drop off), isByte x) ∧ K (.str ((rowsOf sz len (cs.drop off)).map byteOf)) H
  | _, _ => False
def stepH (P : Program) (o : Oper) (fr : Fr) (H : AHeap) (K : Fr → AHeap → Prop) : Prop :=
  match o.op with
  | .buildSlice t n ps => match zim P t n (ps.toList.map fun p => (p.1, ev fr p.2)) H with
    | some r => match r.v with
      | .slice _ sz xs => K (fr.put o.dst (.slice .full sz xs)) H
      | _ => False
    | none => False
  | .convert s d x => match ev fr x with
    | .ms id off sz len => match cellsOf? H id with
      | some cs => strK P s d sz len off H cs fun v H' => K (fr.put o.dst v) H'
      | none => False
    | x => match ziw P s d x H with
      | some r => r.c ∧ toMs0 H r.H r.v fun v H' => K (fr.put o.dst v) H'
      | none => False
  | .call { callee := .builtin .append, args, argTypes } => match argTypes.toList, args.toList.map (ev fr) with
    | t :: t2 :: _, [.slice .full sz [], x] => match zjd P t t2 sz [] x H with
      | some r => r.c ∧ toMs1 H r.H r.v fun v H' => K (fr.put o.dst v) H'
      | none => False
    | _, _ => False
  | .store t (.tmp a) v => match ziq P t (Fr.get fr a) (ev fr v) H, Fr.get fr a with
    | some r, .ptr id _ => o.dst = none ∧ r.c ∧ ∃ sz n, pubK id sz n fr r.H K
    | _, _ => False
  | _ => False
/-- a literal whose row may be stored into -/
def stepM (P : Program) (o : Oper) (fr : Fr) (H : AHeap) (K : Fr → AHeap → Prop) : Prop :=
  match o.op with
  | .buildSlice t n ps => match zim P t n (ps.toList.map fun p => (p.1, ev fr p.2)) H with
    | some r => match r.v with
      | .slice _ sz xs => K (fr.put o.dst (.ms H.nx 0 sz xs.length)) (H.push (.cells (xs.flatMap AV.cells)))
      | _ => False
    | none => False
  | _ => False
/-- the operations before a hint, the hint, those behind; 3 i + 1: a weaker state behind i operations; 3 i + 2: a literal that may be stored into -/
def awOpsH (P : Program) (Ω : Tbl) (n0 : Nat) (ops : Array Oper) : List Nat → List Oper → (Fr → AHeap → Prop) → (Fr → AV → AHeap → Prop) → Fr → AHeap → Prop
  | [], l, K, Kp, fr, H => awOps P Ω ops l K Kp fr H
  | i :: is, l, K, Kp, fr, H =>
    if i % 3 = 0 then awOps P Ω ops (l.take (i / 3)) (fun fr H => match l.drop (i / 3) with
      | o :: rest => o.guard = none ∧ stepH P o fr H (awOpsH P Ω n0 ops is rest K Kp)
      | [] => False) Kp fr H
    else if i % 3 = 1 then awOps P Ω ops (l.take (i / 3)) (weakK n0 (awOpsH P Ω n0 ops is (l.drop (i / 3)) K Kp)) Kp fr H
    else awOps P Ω ops (l.take (i / 3)) (fun fr H => match l.drop (i / 3) with
      | o :: rest => o.guard = none ∧ stepM P o fr H (awOpsH P Ω n0 ops is rest K Kp)
      | [] => False) Kp fr H

/-! ### Regions that draw their order -/
inductive Kd where
  | inert
  | read
  | eff
  deriving DecidableEq

/-- what an operation does to the heap: nothing; it reads; it may write -/
def kind (P : Program) : Op → Kd
  | .assign (.const _) | .alloc _ | .box _ _ | .store _ _ _ | .buildSlice _ _ _ | .makeSlice _ _ _ => .eff
  | .convert _ d _ => match (ti P d).map TI.desc with
    | some (.slice _) => .eff
    | _ => .inert
  | .slice t _ _ _ _ => match (ti P t).map TI.desc with
    | some (.array _ _) => .read
    | _ => .inert
  | .load _ _ => .read
  | .call { callee := .builtin .append, .. } => .eff
  | .call { callee := .builtin .copy, .. } => .eff
  | .call { callee := .builtin _, .. } => .inert
  | .call _ => .eff
  | .panic _ => .eff
  | _ => .inert

def kindS (P : Program) (Ω : Tbl) : Op → Kd
  | .call { callee := .value (.func k), .. } => match look Ω k with
    | some e => if e.eff then .eff else .read
    | none => .eff
  | o => kind P o

/-- where a region's run stands: what comes before the operations to come, the number of the next one, the heaps that effects have left -/
structure HS where
  ms : List (List Nat)
  i : Nat
  hs : List (Nat × AHeap)
  /-- the operations whose objects were thought of before, with the objects -/
  pre : List (Nat × Nat) := []
  /-- the literals that are objects of their own -/
  lit : List Nat := []
def HS.nx (h : HS) : HS := ⟨h.ms.tail, h.i + 1, h.hs, h.pre, h.lit⟩
def HS.push (h : HS) (H : AHeap) : HS := ⟨h.ms.tail, h.i + 1, (h.i, H) :: h.hs, h.pre, h.lit⟩
def litMkAt : List Nat → Nat → Bool
  | [], _ => false
  | j :: l, i => if j = i then true else litMkAt l i
def litMk (lit : List Nat) (i : Nat) : Op → Bool
  | .buildSlice _ _ _ => litMkAt lit i
  | _ => false

/-- the mark of a literal of which no object is kept -/
def frzM (b : Bool) : Mark := if b then .full else .any
/-- an append whose new row is an object of its own -/
def appMk (lit : List Nat) (i : Nat) : Op → Bool
  | .call { callee := .builtin .append, .. } => litMkAt lit (i + 200000)
  | _ => false
def preAt : List (Nat × Nat) → Nat → Option Nat
  | [], _ => none
  | (j, r) :: l, i => if j = i then some r else preAt l i
/-- the object of an operation, where it was thought of before -/
def preOf (pre : List (Nat × Nat)) (i : Nat) : Op → Option (TypeId × Nat)
  | .alloc t => if i < 100000 then (preAt pre i).map fun r => (t, r) else none
  | _ => none
/-- a literal of which no object is kept: it may come in any order -/
def frzMk (pre : List (Nat × Nat)) (i : Nat) : Op → Bool
  | .buildSlice _ _ _ => (preAt pre (i + 100000)).isSome
  | _ => false
def kindR (P : Program) (Ω : Tbl) (pre : List Nat) (i : Nat) : Op → Kd
  | .alloc t => if i < 100000 ∧ i ∈ pre then .read else .eff
  | .buildSlice t n ps => if i + 100000 ∈ pre then .read else .eff
  | o => kindS P Ω o
def zeroOf (P : Program) (t : TypeId) : List AV := (ti P t).elim [] fun i => i.zero.cells
def chkPre (P : Program) (t : TypeId) (r : Nat) (h : AHeap) : Prop := cellsOf? h r = some (zeroOf P t)
/-- objects thought of before a region begins: the numbers of the operations that make them, and their types -/
def preD (P : Program) : List (List Nat) → List (Nat × Nat) → AHeap → (List (Nat × Nat) → AHeap → Prop) → Prop
  | [], pre, H, K => K pre H
  | [i, t] :: l, pre, H, K => (ti P t).isSome = true ∧ preAt pre i = none ∧ preD P l ((i, H.nx) :: pre) (H.push (.cells (zeroOf P t))) K
  | [i] :: l, pre, H, K => 100000 ≤ i ∧ preAt pre i = none ∧ preD P l ((i, 0) :: pre) H K
  | _ :: _, _, _, _ => False

/-- what need not be shown where operation j comes before -/
def skip (m : List Nat) (j : Nat) (c : Prop) : Prop := j ∈ m ∨ c
def allH' (m : List Nat) (c : AHeap → Prop) : List (Nat × AHeap) → Prop
  | [] => True
  | h :: hs => skip m h.1 (c h.2) ∧ allH' m c hs
def allP' (m : List Nat) (H : AHeap) : List (Nat × (AHeap → Prop)) → Prop
  | [] => True
  | c :: cs => skip m c.1 (c.2 H) ∧ allP' m H cs
def allH (hs : HS) (c : AHeap → Prop) : Prop := allH' (hs.ms.headD []) c hs.hs
def allP (hs : HS) (H : AHeap) (ps : List (Nat × (AHeap → Prop))) : Prop := allP' (hs.ms.headD []) H ps

def chkOp (P : Program) (o : Oper) (fr : Fr) (x : AV) (h : AHeap) : Prop :=
  match ares P o fr h with
  | some r => r.c ∧ r.v = x
  | none => False

def callDr (Ω : Tbl) (f : FuncId) (args : List AV) (hs : HS) (ps : List (Nat × (AHeap → Prop))) (N : AV → HS → List (Nat × (AHeap → Prop)) → AHeap → Prop) (H : AHeap) : Prop :=
  match look Ω f with
  | none => False
  | some e =>
    if e.eff then e.e args H (fun x H' => match x with | .ret v => allP hs H' ps ∧ N v (hs.push H) ps H' | .panic _ => False)
    else e.p args H (fun v => allH hs (fun h => e.p args h (fun v' => v' = v)) ∧ N v hs.nx ((hs.i, fun h => h = H ∨ e.p args h (fun v' => v' = v)) :: ps) H)

/-- a new row of which the first cells are known -/
def partV (H : AHeap) (v : AV) (K : AV → AHeap → Prop) : Prop :=
  match v with
  | .slice (.own _) sz xs => xs ≠ [] ∧ (∀ x ∈ xs.flatMap AV.cells, x.lt 0) ∧ K (.ms H.nx 0 sz xs.length) (H.push (.part (xs.flatMap AV.cells)))
  | _ => False
def stepPL (P : Program) (ts : List TypeId) (vs : List AV) (H : AHeap) (K : AV → AHeap → Prop) : Prop :=
  match ts, vs with
  | t :: t2 :: _, [.slice .full sz [], x] => match zjd P t t2 sz [] x H with
    | some r => r.c ∧ partV H r.v K
    | none => False
  | _, _ => False
def stepP (P : Program) (o : Oper) (fr : Fr) (H : AHeap) (K : AV → AHeap → Prop) : Prop :=
  match o.op with
  | .call { callee := .builtin .append, args, argTypes } => stepPL P argTypes.toList (args.toList.map (ev fr)) H K
  | _ => False

def stepD (P : Program) (Ω : Tbl) (o : Oper) (hs : HS) (ps : List (Nat × (AHeap → Prop))) (N : HS → List (Nat × (AHeap → Prop)) → Fr → AHeap → Prop) (fr : Fr) (H : AHeap) : Prop :=
  match preOf hs.pre hs.i o.op with
  | some (t, r) => (chkPre P t r H ∧ (ti P t).isSome = true) ∧ allH hs (chkPre P t r) ∧ N hs.nx ((hs.i, chkPre P t r) :: ps) (fr.put o.dst (.ptr r 0)) H
  | none =>
  if frzMk hs.pre hs.i o.op then
    match ares P o fr H with
    | some ⟨c, .slice _ sz xs, _⟩ => c ∧ N hs.nx ps (fr.put o.dst (.slice (frzM (litMkAt hs.lit (hs.i + 300000))) sz xs)) H
    | _ => False
  else
  if litMk hs.lit hs.i o.op then
    match ares P o fr H with
    | some ⟨c, .slice _ sz xs, _⟩ => c ∧ allP hs (H.push (.cells (xs.flatMap AV.cells))) ps ∧ N (hs.push H) ps (fr.put o.dst (.ms H.nx 0 sz xs.length)) (H.push (.cells (xs.flatMap AV.cells)))
    | _ => False
  else if appMk hs.lit hs.i o.op then stepP P o fr H fun v H' => allP hs H' ps ∧ N (hs.push H) ps (fr.put o.dst v) H'
  else if isCall o.op then
    match o.op with
    | .call { callee := .value f, args, .. } =>
      match ev fr f with
      | .func (.func k) first cap => callDr Ω k (first ++ args.toList.map (ev fr) ++ cap) hs ps (fun v hs' ps' H' => N hs' ps' (fr.put o.dst v) H') H
      | _ => False
    | _ => False
  else match ares P o fr H with
    | none => False
    | some r => r.c ∧ match kind P o.op with
      | .inert => N hs.nx ps (fr.put o.dst r.v) H
      | .read => allH hs (chkOp P o fr r.v) ∧ N hs.nx ((hs.i, chkOp P o fr r.v) :: ps) (fr.put o.dst r.v) H
      | .eff => allP hs r.H ps ∧ N (hs.push H) ps (fr.put o.dst r.v) r.H

def awD (P : Program) (Ω : Tbl) (ops : Array Oper) : List Oper → HS → List (Nat × (AHeap → Prop)) → (Fr → AHeap → Prop) → Fr → AHeap → Prop
  | [], _, _, K, fr, H => K fr H
  | o :: rest, hs, ps, K, fr, H =>
    match o.guard with
    | none => stepD P Ω o hs ps (fun hs' ps' fr' H' => awD P Ω ops rest hs' ps' K fr' H') fr H
    | some (j, want) =>
      match yslot ops fr j with
      | .bool b => (b = want → stepD P Ω o hs ps (fun hs' ps' fr' H' => awD P Ω ops rest hs' ps' K fr' H') (fr.put (ydst ops j) (.bool want)) H) ∧
          (b = (!want) → awD P Ω ops rest hs.nx ps K ((fr.put (ydst ops j) (.bool (!want))).put o.dst (.tup [])) H)
      | .tup [] => awD P Ω ops rest hs.nx ps K (fr.put o.dst (.tup [])) H
      | _ => False

def ALoop (body : Conts → Fr → AHeap → Prop) (K : Conts) (fr : Fr) (H : AHeap) : Prop :=
  ∃ (W : Option Bool) (A : Type) (F : A → Fr) (G : A → AHeap) (I : A → Prop) (μ : A → Nat), (∃ a, I a ∧ enterB W K.n0 fr H (F a) (G a)) ∧
    ∀ a, I a → body { K with n := fun fr' H' => ∃ a', I a' ∧ μ a' < μ a ∧ enterB W K.n0 fr' H' (F a') (G a') } (F a) (G a)

def aw (P : Program) (Ω : Tbl) : Code → Conts → Fr → AHeap → Prop
  | .skip, K, fr, H => K.n fr H
  | .region id ops false, K, fr, H => awOpsH P Ω K.n0 ops ((K.T id).headD []) ops.toList K.n K.p fr H
  | .region id ops true, K, fr, H => weakB (K.T (id + 400)) K.n0 (fun fr H => preD P (K.T (id + 800)) [] H fun pre H => awD P Ω ops ops.toList ⟨K.T id, 0, [], pre, (K.T (id + 1200)).headD []⟩ [] K.n fr H) fr H
  | .seq a b, K, fr, H => aw P Ω a { K with n := aw P Ω b K } fr H
  | .cond c a b, K, fr, H =>
    match ev fr c with
    | .bool t => (t = true → aw P Ω a K fr H) ∧ (t = false → aw P Ω b K fr H)
    | _ => False
  | .block id c, K, fr, H => aw P Ω c { K with x := fun i fr H => if i = id then K.n fr H else K.x i fr H } fr H
  | .loop c, K, fr, H => ALoop (fun K fr H => aw P Ω c K fr H) K fr H
  | .exit id, K, fr, H => K.x id fr H
  | .ret, K, fr, H => K.r fr H
  | .scope c, K, fr, H => aw P Ω c K fr H
  | .label _, K, fr, H => K.n fr H
  | _, _, _, _ => False

/-! ### Continuations as data -/
inductive KItem where
  | code (c : Code)
  | blk (id : Nat)
  | back (R : Fr → AHeap → Prop)

def KI (P : Program) (Ω : Tbl) (B : Conts) : List KItem → Conts
  | [] => B
  | .code c :: k => { KI P Ω B k with n := aw P Ω c (KI P Ω B k) }
  | .blk id :: k => { KI P Ω B k with x := fun i fr H => if i = id then (KI P Ω B k).n fr H else (KI P Ω B k).x i fr H }
  | .back R :: k => { KI P Ω B k with n := R }

/-! ### The end of a function -/
def resA (P : Program) (fr : Fr) (H : AHeap) : ResultVar → Option (Prop × AV)
  | .tmp t => some (True, Fr.get fr t)
  | .cell a t => (zio P t (Fr.get fr a) H).map fun r => (r.c, r.v)
def resL (P : Program) (fr : Fr) (H : AHeap) : List ResultVar → Option (Prop × List AV)
  | [] => some (True, [])
  | r :: rs => match resA P fr H r, resL P fr H rs with
    | some (c, v), some (d, vs) => some (c ∧ d, v :: vs)
    | _, _ => none
def one : List AV → AV
  | [v] => v
  | vs => .tup vs

def frOf : Nat → List AV → Fr
  | _, [] => []
  | k, a :: as => (k, a) :: frOf (k + 1) as

def endOk (H' : AHeap) (v : AV) (H : AHeap) (x : AV) : Prop :=
  wk H' H v x ∧ H.Le H' ∧ H.Closed ∧ x.lt H.nx

def finish (P : Program) (rs : List ResultVar) (e : AEnd) (H1 : AHeap) (fr : Fr) (H : AHeap) : Prop :=
  match e, resL P fr H rs with
  | .ret x, some (c, vs) => c ∧ endOk H (one vs) H1 x
  | _, _ => False

/-- what comes before what in some regions, by their numbers -/
def assoc : List (Nat × List (List Nat)) → Nat → List (List Nat)
  | [], _ => []
  | (j, m) :: l, i => if i = j then m else assoc l i

def finishP (P : Program) (rs : List ResultVar) (n0 : Nat) (Q : AV → AHeap → Prop) (fr : Fr) (H : AHeap) : Prop :=
  match resL P fr H rs with
  | some (c, vs) => c ∧ ∃ x H1, Q x H1 ∧ n0 ≤ H1.nx ∧ endOk H (one vs) H1 x
  | none => False
def aEndP (P : Program) (rs : List ResultVar) (n0 : Nat) (Q : AV → AHeap → Prop) (T : Nat → List (List Nat) := assoc []) : Conts where
  T := T
  n0 := n0
  n := fun fr H => finishP P rs n0 Q fr H
  r := fun fr H => finishP P rs n0 Q fr H
  x := fun _ _ _ => False
  p := fun _ _ _ => False

def aEnd (P : Program) (rs : List ResultVar) (n0 : Nat) (e : AEnd) (H1 : AHeap) (T : Nat → List (List Nat) := assoc []) : Conts where
  T := T
  n0 := n0
  n := fun fr H => finish P rs e H1 fr H
  r := fun fr H => finish P rs e H1 fr H
  x := fun _ _ _ => False
  p := fun _ v H => match e with | .panic x => endOk H v H1 x | .ret _ => False

end Go.AL

