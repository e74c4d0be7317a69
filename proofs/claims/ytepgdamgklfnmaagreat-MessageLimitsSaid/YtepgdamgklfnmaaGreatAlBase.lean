/- Contracts and plain laws, a part of the proof; no condition of its own. -/
import Derived.WalkKit
/- The abstract layer, first part: abstract values, the abstract heap, how they stand for the model's values and worlds. -/
namespace Go.AL
set_option linter.all false
set_option linter.unusedSectionVars false

/-- What is known of the room behind a slice. -/
inductive Mark where
  | any
  | nil
  | full
  | own (id : Nat)
  deriving DecidableEq, Inhabited

inductive AV where
  | int (k : IntKind) (n : Int)
  | bool (b : Bool)
  | str (s : List UInt8)
  | ptr (id off : Nat)
  | cptr (cs : List AV)
  | nilp
  | slice (m : Mark) (sz : Nat) (xs : List AV)
  | ms (id off sz len : Nat)
  | mapv (id : Nat)
  | nilm
  | func (fn : Fn) (first cap : List AV)
  | nilf
  | iface (t : TypeId) (v : AV)
  | nili
  | agg (cs : List AV)
  | tup (vs : List AV)
  | junk
  deriving Inhabited

inductive AObj where
  | cells (cs : List AV)
  | buf (sz n : Nat)
  /-- the first cells of a new row: its room is not known yet -/
  | part (cs : List AV)

structure AHeap where
  nx : Nat
  f : Nat → Option AObj

def AHeap.get (H : AHeap) (i : Nat) : Option AObj := if i < H.nx then H.f i else none
def AHeap.push (H : AHeap) (o : AObj) : AHeap := ⟨H.nx + 1, fun i => if i = H.nx then some o else H.f i⟩
def AHeap.set (H : AHeap) (i : Nat) (o : AObj) : AHeap := ⟨H.nx, fun j => if j = i then some o else H.f j⟩

/-- the cells of a value -/
def AV.cells : AV → List AV
  | .agg cs => cs
  | v => [v]

/-- may stand in one cell -/
def AV.one : AV → Bool
  | .agg _ | .tup _ | .junk => false
  | _ => true

theorem AV.sizeOf_cells {x y : AV} (h : y ∈ x.cells) : SizeOf.sizeOf y ≤ SizeOf.sizeOf x := by
  cases x <;> simp only [AV.cells, List.mem_singleton] at h
  case agg cs =>
    have := List.sizeOf_lt_of_mem h
    simp only [AV.agg.sizeOf_spec]; omega
  all_goals (subst h; exact Nat.le_refl _)

/-- every id that a value names lies below n -/
def AV.lt (n : Nat) : AV → Prop
  | .ptr id _ => id < n
  | .cptr cs => ∀ (j : Nat) (hj : j < cs.length), AV.lt n cs[j]
  | .slice m _ xs => (∀ id, m = .own id → id < n) ∧ ∀ (j : Nat) (hj : j < xs.length), AV.lt n xs[j]
  | .ms id _ _ _ => id < n
  | .mapv id => id < n
  | .func _ first cap => (∀ (j : Nat) (hj : j < first.length), AV.lt n first[j]) ∧ ∀ (j : Nat) (hj : j < cap.length), AV.lt n cap[j]
  | .iface _ v => AV.lt n v
  | .agg cs => ∀ (j : Nat) (hj : j < cs.length), AV.lt n cs[j]
  | .tup cs => ∀ (j : Nat) (hj : j < cs.length), AV.lt n cs[j]
  | _ => True
termination_by x => SizeOf.sizeOf x
decreasing_by
  all_goals simp_wf
  all_goals first
    | (have := List.sizeOf_lt_of_mem (List.getElem_mem hj); omega)
    | omega

abbrev Conc := Nat → Option Nat

/-- the first e cells of a block never change any more -/
def Imm (γ : Conc) (H : AHeap) (blk e : Nat) : Prop :=
  ∀ id o, H.get id = some o → γ id = some blk → ∃ sz n, o = .buf sz n ∧ e ≤ n * sz

def notBuf (H : AHeap) (id : Nat) : Prop := ∀ sz n, H.get id ≠ some (.buf sz n)

def thawed (fr : Nat × Nat) (lo hi : Nat) : Prop := ∀ p, lo ≤ p → p < hi → ¬ (fr.1 ≤ p ∧ p < fr.2)

/-- what a mark says -/
def markOk (γ : Conc) (H : AHeap) (m : Mark) (sz len blk off cap : Nat) (fr : Nat × Nat) : Prop :=
  match m with
  | .any => True
  | .nil => False
  | .full => cap = len
  | .own id => id < H.nx ∧ notBufOr γ H id sz len blk off cap fr
where
  notBufOr (γ : Conc) (H : AHeap) (id sz len blk off cap : Nat) (fr : Nat × Nat) : Prop :=
    ∀ sz' n, H.get id = some (.buf sz' n) → sz' = sz ∧ len ≤ n ∧ (len = n → γ id = some blk ∧ off = 0 ∧ thawed fr (len * sz) (cap * sz))

/-- what a mark says of a slice that is nil -/
def markNil (H : AHeap) (m : Mark) (sz : Nat) : Prop :=
  match m with
  | .own id => id < H.nx ∧ ∀ sz' n, H.get id = some (.buf sz' n) → sz' = sz
  | _ => True

def Rel (w : World) (γ : Conc) (H : AHeap) : AV → Value → Prop
  | .int k n, v => v = .int k n
  | .bool b, v => v = .bool b
  | .str s, v => v = .string ⟨s.toArray⟩
  | .ptr id off, v => id < H.nx ∧ notBuf H id ∧ ∃ blk, γ id = some blk ∧ v = .pointer (some ⟨blk, off, none⟩)
  | .cptr cs, v => ∃ blk off C ty fr, v = .pointer (some ⟨blk, off, none⟩) ∧ w.heap[blk]? = some (.cells C ty fr) ∧
      Imm γ H blk (off + cs.length) ∧ ∀ j (hj : j < cs.length), ∃ u, C[off + j]? = some u ∧ Rel w γ H cs[j] u
  | .nilp, v => v = .pointer none
  | .slice m sz xs, v => ((∃ a, v = .slice a 0 0) ∧ xs = [] ∧ markNil H m sz) ∨
      ∃ blk off cap C ty fr, v = .slice (some ⟨blk, off, none⟩) xs.length cap ∧ xs.length ≤ cap ∧ w.heap[blk]? = some (.cells C ty fr) ∧
        off + cap * sz ≤ C.size ∧ Imm γ H blk (off + xs.length * sz) ∧ markOk γ H m sz xs.length blk off cap fr ∧
        ∀ i (hi : i < xs.length), xs[i].cells.length = sz ∧
          ∀ j (hj : j < xs[i].cells.length), ∃ u, C[off + i * sz + j]? = some u ∧ Rel w γ H xs[i].cells[j] u
  | .ms id off sz len, v => id < H.nx ∧ notBuf H id ∧ ((len = 0 ∧ ∃ a, v = .slice a 0 0) ∨ ∃ blk cap C ty fr, γ id = some blk ∧ v = .slice (some ⟨blk, off, none⟩) len cap ∧ len ≤ cap ∧
      w.heap[blk]? = some (.cells C ty fr) ∧ off + cap * sz ≤ C.size ∧ thawed fr off (off + cap * sz))
  | .mapv id, v => id < H.nx ∧ notBuf H id ∧ ∃ blk, γ id = some blk ∧ v = .map (some blk)
  | .nilm, v => v = .map none
  | .func fn first cap, v => ∃ F C : Array Value, v = .func fn F C ∧ F.size = first.length ∧ C.size = cap.length ∧
      (∀ j (hj : j < first.length), ∃ u, F[j]? = some u ∧ Rel w γ H first[j] u) ∧
      (∀ j (hj : j < cap.length), ∃ u, C[j]? = some u ∧ Rel w γ H cap[j] u)
  | .nilf, v => v = .nilFunc
  | .iface t x, v => ∃ u, v = .iface t u ∧ Rel w γ H x u
  | .nili, v => v = .nilIface
  | .agg cs, v => ∃ C : Array Value, v = .agg C ∧ C.size = cs.length ∧ ∀ j (hj : j < cs.length), ∃ u, C[j]? = some u ∧ Rel w γ H cs[j] u
  | .tup vs, v => ∃ C : Array Value, v = .tuple C ∧ C.size = vs.length ∧ ∀ j (hj : j < vs.length), ∃ u, C[j]? = some u ∧ Rel w γ H vs[j] u
  | .junk, _ => True
termination_by x => SizeOf.sizeOf x
decreasing_by
  all_goals simp_wf
  all_goals first
    | (have := List.sizeOf_lt_of_mem (List.getElem_mem hj); omega)
    | (have h1 := AV.sizeOf_cells (List.getElem_mem hj); have h2 := List.sizeOf_lt_of_mem (List.getElem_mem hi); omega)
    | omega

/-- cells at a place of a block -/
def AtR (R : AV → Value → Prop) (cs : List AV) (C : Array Value) (off : Nat) : Prop :=
  ∀ (j : Nat) (hj : j < cs.length), ∃ u, C[off + j]? = some u ∧ R cs[j] u

/-- cells that stand for values wherever they are -/
def Zero (cs : List AV) : Prop := ∀ x ∈ cs, ∃ v, ∀ w γ H, Rel w γ H x v

/-- a block's first cells: how the abstract object stands in memory; an object may be still to come -/
def ObjOk (w : World) (γ : Conc) (H : AHeap) (id : Nat) : AObj → Prop
  | .cells cs => (γ id = none ∧ Zero cs) ∨ ∃ blk C ty fr, γ id = some blk ∧ w.heap[blk]? = some (.cells C ty fr) ∧ cs.length = C.size ∧ AtR (Rel w γ H) cs C 0 ∧ thawed fr 0 cs.length
  | .buf sz n => ∀ blk, γ id = some blk → blk < w.heap.size
  | .part cs => ∃ blk C ty fr, γ id = some blk ∧ w.heap[blk]? = some (.cells C ty fr) ∧ cs.length ≤ C.size ∧ AtR (Rel w γ H) cs C 0 ∧ thawed fr 0 C.size ∧ ∀ x ∈ cs, x.lt 0

structure State (w : World) (γ : Conc) (H : AHeap) : Prop where
  inj : ∀ i j oi oj b, H.get i = some oi → H.get j = some oj → γ i = some b → γ j = some b → i = j
  obj : ∀ id o, H.get id = some o → ObjOk w γ H id o

/-- a step: what was fixed stays -/
structure Ext (w : World) (γ : Conc) (H : AHeap) (w' : World) (γ' : Conc) (H' : AHeap) : Prop where
  os : w'.os = w.os
  tape : w'.tape = w.tape
  output : w'.output = w.output
  size : w.heap.size ≤ w'.heap.size
  nx : H.nx ≤ H'.nx
  block : ∀ (b : Nat) (C : Array Value) ty fr, w.heap[b]? = some (.cells C ty fr) → ∃ C' : Array Value, w'.heap[b]? = some (.cells C' ty fr) ∧ C'.size = C.size ∧
    ∀ e, Imm γ H b e → ∀ i, i < e → C'[i]? = C[i]?
  imm : ∀ b e, b < w.heap.size → Imm γ H b e → Imm γ' H' b e
  un : ∀ b, b < w.heap.size → (∀ id o, H.get id = some o → γ id ≠ some b) → w'.heap[b]? = w.heap[b]?
  none : ∀ id, id < H.nx → H.get id = none → H'.get id = none ∧ γ' id = γ id
  keep : ∀ id o, H.get id = some o → (∀ sz n, o ≠ .buf sz n) → γ' id = γ id ∧ notBuf H' id
  bufs : ∀ id sz n, H.get id = some (.buf sz n) → ∀ sz' n', H'.get id = some (.buf sz' n') → sz' = sz ∧ n ≤ n' ∧ (n' = n → γ' id = γ id)
  bufk : ∀ id sz n, H.get id = some (.buf sz n) → ∀ o, H'.get id = some o → ∃ sz' n', o = .buf sz' n'

theorem AHeap.get_lt {H : AHeap} {id : Nat} {o : AObj} (h : H.get id = some o) : id < H.nx := by
  unfold AHeap.get at h
  split at h
  · assumption
  · cases h

theorem Ext.refl (w : World) (γ : Conc) (H : AHeap) : Ext w γ H w γ H where
  os := rfl
  tape := rfl
  output := rfl
  size := Nat.le_refl _
  nx := Nat.le_refl _
  block := fun b C ty fr h => ⟨C, h, rfl, fun _ _ _ _ => rfl⟩
  imm := fun _ _ _ h => h
  un := fun _ _ _ => rfl
  none := fun id _ h => ⟨h, rfl⟩
  keep := fun id o h hb => ⟨rfl, fun sz n h' => hb sz n (by rw [h] at h'; exact Option.some.inj h')⟩
  bufs := fun id sz n h sz' n' h' => by rw [h] at h'; cases h'; exact ⟨rfl, Nat.le_refl _, fun _ => rfl⟩
  bufk := fun id sz n h o h' => by rw [h] at h'; cases h'; exact ⟨_, _, rfl⟩

theorem lt_of_block {w : World} {b : Nat} {o : Obj} (h : w.heap[b]? = some o) : b < w.heap.size := by
  rcases Nat.lt_or_ge b w.heap.size with h' | h'
  · exact h'
  · rw [Array.getElem?_eq_none h'] at h; cases h

theorem Ext.notBuf {w w' : World} {γ γ' : Conc} {H H' : AHeap} (h : Ext w γ H w' γ' H') {id : Nat} (hid : id < H.nx) (hb : AL.notBuf H id) :
    AL.notBuf H' id ∧ γ' id = γ id := by
  cases ho : H.get id with
  | none => exact ⟨fun sz n hx => (by rw [(h.none id hid ho).1] at hx; cases hx), (h.none id hid ho).2⟩
  | some o => exact ⟨(h.keep id o ho fun sz n e => hb sz n (by rw [ho, e])).2, (h.keep id o ho fun sz n e => hb sz n (by rw [ho, e])).1⟩

/-- a buffer of H' that was known in H was a buffer there -/
theorem Ext.buf_back {w w' : World} {γ γ' : Conc} {H H' : AHeap} (h : Ext w γ H w' γ' H') {id sz n : Nat} (hid : id < H.nx) (h' : H'.get id = some (.buf sz n)) :
    ∃ n0, H.get id = some (.buf sz n0) ∧ n0 ≤ n ∧ (n = n0 → γ' id = γ id) := by
  cases ho : H.get id with
  | none => rw [(h.none id hid ho).1] at h'; cases h'
  | some o =>
    cases o with
    | buf sz0 n0 => obtain ⟨rfl, h2, h3⟩ := h.bufs id sz0 n0 ho sz n h'; exact ⟨n0, rfl, h2, h3⟩
    | cells cs => exact absurd h' ((h.keep id _ ho (by intros; simp)).2 _ _)
    | part es => exact absurd h' ((h.keep id _ ho (by intros; simp)).2 _ _)

theorem Ext.trans {w w1 w2 : World} {γ γ1 γ2 : Conc} {H H1 H2 : AHeap} (h : Ext w γ H w1 γ1 H1) (k : Ext w1 γ1 H1 w2 γ2 H2) : Ext w γ H w2 γ2 H2 where
  os := k.os.trans h.os
  tape := k.tape.trans h.tape
  output := k.output.trans h.output
  size := Nat.le_trans h.size k.size
  nx := Nat.le_trans h.nx k.nx
  block := fun b C ty fr hb => by
    obtain ⟨C1, h1, s1, e1⟩ := h.block b C ty fr hb
    obtain ⟨C2, h2, s2, e2⟩ := k.block b C1 ty fr h1
    exact ⟨C2, h2, s2.trans s1, fun e he i hi => (e2 e (h.imm b e (lt_of_block hb) he) i hi).trans (e1 e he i hi)⟩
  imm := fun b e hb he => k.imm b e (Nat.lt_of_lt_of_le hb h.size) (h.imm b e hb he)
  un := fun b hb hu => by
    have hu1 : ∀ id o, H1.get id = some o → γ1 id ≠ some b := fun id o ho hg => by
      have h1 : ∀ e, Imm γ1 H1 b e := fun e => h.imm b e hb fun id o ho hg => absurd hg (hu id o ho)
      obtain ⟨sz, n, rfl, hle⟩ := h1 0 id o ho hg
      obtain ⟨sz', n', he, hle'⟩ := h1 (n * sz + 1) id _ ho hg
      cases he
      omega
    exact (k.un b (Nat.lt_of_lt_of_le hb h.size) hu1).trans (h.un b hb hu)
  none := fun id hid hn => by
    obtain ⟨h1, g1⟩ := h.none id hid hn
    obtain ⟨h2, g2⟩ := k.none id (Nat.lt_of_lt_of_le hid h.nx) h1
    exact ⟨h2, g2.trans g1⟩
  keep := fun id o ho hb => by
    obtain ⟨g1, n1⟩ := h.keep id o ho hb
    obtain ⟨n2, g2⟩ := k.notBuf (Nat.lt_of_lt_of_le (AHeap.get_lt ho) h.nx) n1
    exact ⟨g2.trans g1, n2⟩
  bufs := fun id sz n ho sz2 n2 h2 => by
    obtain ⟨n1, h1, l1, e1⟩ := k.buf_back (Nat.lt_of_lt_of_le (AHeap.get_lt ho) h.nx) h2
    obtain ⟨rfl, l0, e0⟩ := h.bufs id sz n ho _ _ h1
    exact ⟨rfl, Nat.le_trans l0 l1, fun e => (e1 (by omega)).trans (e0 (by omega))⟩
  bufk := fun id sz n ho o h2 => by
    cases h1 : H1.get id with
    | none => rw [(k.none id (Nat.lt_of_lt_of_le (AHeap.get_lt ho) h.nx) h1).1] at h2; cases h2
    | some o1 =>
      obtain ⟨sz1, n1, rfl⟩ := h.bufk id sz n ho o1 h1
      exact k.bufk id _ _ h1 o h2

theorem Rel.ext {w w' : World} {γ γ' : Conc} {H H' : AHeap} (h : Ext w γ H w' γ' H') : ∀ (x : AV) (v : Value), Rel w γ H x v → Rel w' γ' H' x v
  | .int k n, v, hr => by rw [Rel] at hr ⊢; exact hr
  | .bool b, v, hr => by rw [Rel] at hr ⊢; exact hr
  | .str s, v, hr => by rw [Rel] at hr ⊢; exact hr
  | .nilp, v, hr => by rw [Rel] at hr ⊢; exact hr
  | .nilm, v, hr => by rw [Rel] at hr ⊢; exact hr
  | .nilf, v, hr => by rw [Rel] at hr ⊢; exact hr
  | .nili, v, hr => by rw [Rel] at hr ⊢; exact hr
  | .junk, v, hr => by rw [Rel]; trivial
  | .ptr id off, v, hr => by
    rw [Rel] at hr ⊢
    obtain ⟨hid, hb, blk, hg, hv⟩ := hr
    obtain ⟨n', g'⟩ := h.notBuf hid hb
    exact ⟨Nat.lt_of_lt_of_le hid h.nx, n', blk, g'.trans hg, hv⟩
  | .mapv id, v, hr => by
    rw [Rel] at hr ⊢
    obtain ⟨hid, hb, blk, hg, hv⟩ := hr
    obtain ⟨n', g'⟩ := h.notBuf hid hb
    exact ⟨Nat.lt_of_lt_of_le hid h.nx, n', blk, g'.trans hg, hv⟩
  | .ms id off sz len, v, hr => by
    rw [Rel] at hr ⊢
    obtain ⟨hid, hb, hr⟩ := hr
    obtain ⟨n', g'⟩ := h.notBuf hid hb
    refine ⟨Nat.lt_of_lt_of_le hid h.nx, n', ?_⟩
    rcases hr with hr | ⟨blk, cap, C, ty, fr, hg, hv, hle, hh, hs, ht⟩
    · exact .inl hr
    · obtain ⟨C', h', s', e'⟩ := h.block blk C ty fr hh
      exact .inr ⟨blk, cap, C', ty, fr, g'.trans hg, hv, hle, h', by omega, ht⟩
  | .cptr cs, v, hr => by
    rw [Rel] at hr ⊢
    obtain ⟨blk, off, C, ty, fr, hv, hh, hi, hc⟩ := hr
    obtain ⟨C', h', s', e'⟩ := h.block blk C ty fr hh
    refine ⟨blk, off, C', ty, fr, hv, h', h.imm _ _ (lt_of_block hh) hi, fun j hj => ?_⟩
    obtain ⟨u, hu, hr⟩ := hc j hj
    exact ⟨u, (e' _ hi _ (by omega)).trans hu, Rel.ext h _ _ hr⟩
  | .slice m sz xs, v, hr => by
    rw [Rel] at hr ⊢
    rcases hr with ⟨hv, hx, hm⟩ | ⟨blk, off, cap, C, ty, fr, hv, hle, hh, hs, hi, hm, hc⟩
    · refine .inl ⟨hv, hx, ?_⟩
      cases m with
      | own id =>
        refine ⟨Nat.lt_of_lt_of_le hm.1 h.nx, fun sz' n hb => ?_⟩
        obtain ⟨n0, h0, _⟩ := h.buf_back hm.1 hb
        exact hm.2 _ _ h0
      | _ => trivial
    · obtain ⟨C', h', s', e'⟩ := h.block blk C ty fr hh
      refine .inr ⟨blk, off, cap, C', ty, fr, hv, hle, h', by omega, h.imm _ _ (lt_of_block hh) hi, ?_, fun i hi' => ?_⟩
      · cases m with
        | any => trivial
        | nil => exact hm
        | full => exact hm
        | own id =>
          obtain ⟨hid, hm⟩ := hm
          refine ⟨Nat.lt_of_lt_of_le hid h.nx, fun sz' n hb => ?_⟩
          obtain ⟨n0, h0, l0, e0⟩ := h.buf_back hid hb
          obtain ⟨h1, h2, h3⟩ := hm _ _ h0
          refine ⟨h1, Nat.le_trans h2 l0, fun e => ?_⟩
          obtain ⟨h4, h5, h6⟩ := h3 (by omega)
          exact ⟨(e0 (by omega)).trans h4, h5, h6⟩
      · obtain ⟨h1, h2⟩ := hc i hi'
        refine ⟨h1, fun j hj => ?_⟩
        obtain ⟨u, hu, hr⟩ := h2 j hj
        refine ⟨u, (e' _ hi _ ?_).trans hu, Rel.ext h _ _ hr⟩
        have : (i + 1) * sz ≤ xs.length * sz := Nat.mul_le_mul_right _ hi'
        rw [Nat.add_mul] at this
        omega
  | .func fn first cap, v, hr => by
    rw [Rel] at hr ⊢
    obtain ⟨F, C, hv, s1, s2, h1, h2⟩ := hr
    refine ⟨F, C, hv, s1, s2, fun j hj => ?_, fun j hj => ?_⟩
    · obtain ⟨u, hu, hr⟩ := h1 j hj
      exact ⟨u, hu, Rel.ext h _ _ hr⟩
    · obtain ⟨u, hu, hr⟩ := h2 j hj
      exact ⟨u, hu, Rel.ext h _ _ hr⟩
  | .iface t x, v, hr => by
    rw [Rel] at hr ⊢
    obtain ⟨u, hv, hr⟩ := hr
    exact ⟨u, hv, Rel.ext h _ _ hr⟩
  | .agg cs, v, hr => by
    rw [Rel] at hr ⊢
    obtain ⟨C, hv, s, hc⟩ := hr
    refine ⟨C, hv, s, fun j hj => ?_⟩
    obtain ⟨u, hu, hr⟩ := hc j hj
    exact ⟨u, hu, Rel.ext h _ _ hr⟩
  | .tup cs, v, hr => by
    rw [Rel] at hr ⊢
    obtain ⟨C, hv, s, hc⟩ := hr
    refine ⟨C, hv, s, fun j hj => ?_⟩
    obtain ⟨u, hu, hr⟩ := hc j hj
    exact ⟨u, hu, Rel.ext h _ _ hr⟩
termination_by x => SizeOf.sizeOf x
decreasing_by
  all_goals simp_wf
  all_goals first
    | (have := List.sizeOf_lt_of_mem (List.getElem_mem hj); omega)
    | (have h1 := AV.sizeOf_cells (List.getElem_mem hj); have h2 := List.sizeOf_lt_of_mem (List.getElem_mem hi'); omega)
    | omega

theorem AtR.mono {R R' : AV → Value → Prop} (h : ∀ x v, R x v → R' x v) {cs : List AV} {C : Array Value} {off : Nat} (ha : AtR R cs C off) : AtR R' cs C off :=
  fun j hj => let ⟨u, hu, hr⟩ := ha j hj; ⟨u, hu, h _ _ hr⟩

end Go.AL

