/- Contracts and plain laws, a part of the proof; no condition of its own. -/
import Derived.Test.YtepgdamgklfnmaaAlEnd
/- The abstract layer: rows of bytes. -/
namespace Go.AL
set_option linter.all false

/-- a row of bytes -/
def bys (l : List UInt8) : List AV := l.map ofByte

theorem zkq {l : List UInt8} : (bys l).length = l.length := by simp [bys]
/-- the bytes of a row -/
def unb (l : List AV) : List UInt8 := l.map byteOf
/-- a row is one of bytes -/
def isB (l : List AV) : Prop := l = bys (unb l)
theorem zkr : bys [] = [] := rfl
theorem zks {l : List UInt8} {n : Nat} : (bys l).take n = bys (l.take n) := by simp [bys]
theorem zkt {l : List UInt8} {n : Nat} : (bys l).drop n = bys (l.drop n) := by simp [bys]
theorem zku {l m : List UInt8} : bys l ++ bys m = bys (l ++ m) := by simp [bys]
theorem zkv {b : UInt8} {l : List UInt8} : ofByte b :: bys l = bys (b :: l) := rfl
theorem zkw {b : UInt8} : [ofByte b] = bys [b] := rfl
theorem zky {l : List UInt8} : (bys l).isEmpty = l.isEmpty := by cases l <;> rfl
theorem zlz {l : List UInt8} : (bys l = []) = (l = []) := by cases l <;> simp [bys]
theorem zma {l m : List UInt8} : (bys l = bys m) = (l = m) := by
  refine propext ⟨fun h => ?_, fun h => by rw [h]⟩
  have h2 := congrArg (List.map byteOf) h
  simp only [bys, List.map_map] at h2
  have : byteOf ∘ ofByte = id := funext fun b => by simp [byteOf, ofByte]
  rwa [this, List.map_id, List.map_id] at h2
theorem zkz {l : List UInt8} : (bys l).flatMap AV.cells = bys l := by
  unfold bys
  induction l with
  | nil => rfl
  | cons a l ih => simp only [List.map_cons, List.flatMap_cons, ih]; rfl
theorem zla {n : Nat} : (List.replicate n [AV.int .u8 0]).flatten = bys (List.replicate n (0 : UInt8)) := by
  unfold bys
  induction n with
  | zero => rfl
  | succ n ih => simp only [List.replicate_succ, List.flatten_cons, ih]; rfl
theorem zlb {l : List UInt8} : (∀ z ∈ bys l, allOne z.cells = true) = True := eq_true fun z hz => by
  obtain ⟨b, _, rfl⟩ := List.mem_map.1 hz
  rfl
theorem zkx {l : List UInt8} : allOne (bys l) = true := by
  unfold bys allOne
  rw [List.all_map]
  exact List.all_eq_true.2 fun x _ => rfl
theorem zlc {l : List UInt8} : (∀ z ∈ bys l, isByte z) = True := eq_true fun z hz => by
  obtain ⟨b, _, rfl⟩ := List.mem_map.1 hz
  exact ⟨_, rfl⟩
theorem byteOf_ofByte {b : UInt8} : byteOf (ofByte b) = b := by simp [byteOf, ofByte]
theorem zld {l : List UInt8} : (bys l).map byteOf = l := by
  unfold bys
  rw [List.map_map]
  have : byteOf ∘ ofByte = id := funext fun b => byteOf_ofByte
  rw [this, List.map_id]
theorem zlf {l : List UInt8} : unb (bys l) = l := zld
theorem zlg : unb [] = [] := rfl
theorem zlh {l : List UInt8} : isB (bys l) = True := eq_true (by show bys l = bys (unb (bys l)); rw [zlf])
theorem zli : isB [] = True := eq_true rfl
theorem isB_out {l : List AV} (h : isB l) : ∃ xs, l = bys xs := ⟨_, h⟩
theorem zle {l : List UInt8} : l.map ofByte = bys l := rfl
theorem bys_get {l : List UInt8} {i : Nat} (h : i < l.length) : (bys l).getD i .junk = ofByte (l.getD i 0) := by
  simp [bys, List.getD_eq_getElem?_getD, h]
theorem zly {n : Nat} {m : Mark} {l : List UInt8} : (AV.slice m 1 (bys l)).lt n = ∀ id, m = .own id → id < n := by
  rw [AV.lt]
  refine propext ⟨fun h => h.1, fun h => ⟨h, fun j hj => ?_⟩⟩
  simp only [bys, List.getElem_map, ofByte]
  rw [AV.lt] <;> simp
theorem zlk {b : UInt8} : (ofByte b).one = true := rfl
theorem zlj {b : UInt8} : (ofByte b).cells = [ofByte b] := rfl
theorem splice_append (xs vs : List AV) : ∀ (n : Nat), n + vs.length ≤ xs.length → splice xs n vs = xs.take n ++ vs ++ xs.drop (n + vs.length) := by
  induction xs generalizing vs with
  | nil =>
    intro n h
    simp only [List.length_nil, Nat.le_zero, Nat.add_eq_zero_iff, List.length_eq_zero_iff] at h
    obtain ⟨rfl, rfl⟩ := h; rfl
  | cons a xs ih =>
    intro n h
    cases n with
    | zero =>
      cases vs with
      | nil => simp [splice]
      | cons v vs =>
        simp only [splice]
        rw [ih vs 0 (by simp at h ⊢; omega)]
        simp
    | succ n =>
      simp only [splice]
      rw [ih vs n (by simp at h ⊢; omega)]
      simp [Nat.add_right_comm]
theorem zlw {xs ys : List UInt8} {n : Nat} (h : n + ys.length ≤ xs.length) : splice (bys xs) n (bys ys) = bys (xs.take n ++ ys ++ xs.drop (n + ys.length)) := by
  rw [splice_append _ _ _ (by simpa [bys] using h)]; simp [bys]
theorem zlx {n : Nat} {l : List UInt8} (h : n ≤ l.length) : rowsOf 1 n (bys l) = bys (l.take n) := by
  unfold bys
  induction n generalizing l with
  | zero => simp [rowsOf]
  | succ n ih =>
    cases l with
    | nil => simp at h
    | cons a l =>
      simp only [rowsOf, if_true, List.map_cons, List.drop_succ_cons, List.drop_zero, List.take_succ_cons]
      rw [ih (by simpa using h)]
      rfl
theorem wrap_i64 {n : Int} (h : -9223372036854775808 ≤ n) (h2 : n < 9223372036854775808) : IntKind.wrap .i64 n = n := wrap64_id h (by omega)
theorem wrap_u64 {n : Int} (h : 0 ≤ n) (h2 : n < 18446744073709551616) : IntKind.wrap .u64 n = n := by
  have : IntKind.wrap .u64 n = n % 18446744073709551616 := by simp [IntKind.wrap, IntKind.signed, IntKind.bits]
  rw [this]; omega
theorem EntOk.pure {P : Program} {f : FuncId} {p : List AV → AHeap → (AV → Prop) → Prop} (h : ∀ args H K, p args H K → ∃ x, K x ∧ ACalls P f args H (.ret x) H) : EntOk P f (Ent.pure p) :=
  ⟨fun _ => h, fun h => (by cases h), fun q h => (by cases h)⟩
theorem EntOk.effect {P : Program} {f : FuncId} {e : List AV → AHeap → (AEnd → AHeap → Prop) → Prop} (h : ∀ args H K, e args H K → ∃ x H1, K x H1 ∧ ACalls P f args H x H1) : EntOk P f (Ent.effect e) :=
  ⟨fun h => (by cases h), fun _ => h, fun q h => (by cases h)⟩
theorem EntOk.some {P : Program} {f : FuncId} {q : List AV → AHeap → (AV → AHeap → Prop) → Prop} (h : ∀ args H K, q args H K → ACallsP P f args H K) : EntOk P f (Ent.some q) :=
  ⟨fun h => (by cases h), fun _ _ _ _ h => h.elim, fun q' h' => by cases h'; exact h⟩
theorem TblOk.nil {P : Program} : TblOk P [] := fun f e h => by cases h
theorem TblOk.cons {P : Program} {Ω : Tbl} {f : FuncId} {e : Ent} (h : EntOk P f e) (k : TblOk P Ω) : TblOk P ((f, e) :: Ω) := fun g x hg => by
  unfold look at hg
  split at hg
  · rename_i he; cases hg; subst he; exact h
  · exact k g x hg

/-! a new object is none of those behind it -/
theorem nn_2 {a : Nat} : (a = a + 1 + 1) = False := eq_false (by omega)
theorem nm_2 {a : Nat} : (a + 1 + 1 = a) = False := eq_false (by omega)
theorem nn_3 {a : Nat} : (a = a + 1 + 1 + 1) = False := eq_false (by omega)
theorem nm_3 {a : Nat} : (a + 1 + 1 + 1 = a) = False := eq_false (by omega)
theorem nn_4 {a : Nat} : (a = a + 1 + 1 + 1 + 1) = False := eq_false (by omega)
theorem nm_4 {a : Nat} : (a + 1 + 1 + 1 + 1 = a) = False := eq_false (by omega)
theorem nn_5 {a : Nat} : (a = a + 1 + 1 + 1 + 1 + 1) = False := eq_false (by omega)
theorem nm_5 {a : Nat} : (a + 1 + 1 + 1 + 1 + 1 = a) = False := eq_false (by omega)
theorem nn_6 {a : Nat} : (a = a + 1 + 1 + 1 + 1 + 1 + 1) = False := eq_false (by omega)
theorem nm_6 {a : Nat} : (a + 1 + 1 + 1 + 1 + 1 + 1 = a) = False := eq_false (by omega)
theorem nn_7 {a : Nat} : (a = a + 1 + 1 + 1 + 1 + 1 + 1 + 1) = False := eq_false (by omega)
theorem nm_7 {a : Nat} : (a + 1 + 1 + 1 + 1 + 1 + 1 + 1 = a) = False := eq_false (by omega)
theorem nn_8 {a : Nat} : (a = a + 1 + 1 + 1 + 1 + 1 + 1 + 1 + 1) = False := eq_false (by omega)
theorem nm_8 {a : Nat} : (a + 1 + 1 + 1 + 1 + 1 + 1 + 1 + 1 = a) = False := eq_false (by omega)
theorem nn_9 {a : Nat} : (a = a + 1 + 1 + 1 + 1 + 1 + 1 + 1 + 1 + 1) = False := eq_false (by omega)
theorem nm_9 {a : Nat} : (a + 1 + 1 + 1 + 1 + 1 + 1 + 1 + 1 + 1 = a) = False := eq_false (by omega)
theorem zhv {a : Nat} : (a = a + 1 + 1 + 1 + 1 + 1 + 1 + 1 + 1 + 1 + 1) = False := eq_false (by omega)
theorem zhw {a : Nat} : (a + 1 + 1 + 1 + 1 + 1 + 1 + 1 + 1 + 1 + 1 = a) = False := eq_false (by omega)
theorem zhx {a : Nat} : (a = a + 1 + 1 + 1 + 1 + 1 + 1 + 1 + 1 + 1 + 1 + 1) = False := eq_false (by omega)
theorem zhy {a : Nat} : (a + 1 + 1 + 1 + 1 + 1 + 1 + 1 + 1 + 1 + 1 + 1 = a) = False := eq_false (by omega)
theorem zhz {a : Nat} : (a = a + 1 + 1 + 1 + 1 + 1 + 1 + 1 + 1 + 1 + 1 + 1 + 1) = False := eq_false (by omega)
theorem zia {a : Nat} : (a + 1 + 1 + 1 + 1 + 1 + 1 + 1 + 1 + 1 + 1 + 1 + 1 = a) = False := eq_false (by omega)

theorem wk1_refl {H' H1 : AHeap} (v : AV) : wk1 H' H1 v v := by
  cases v <;> first | rfl | skip
  exact .inl ⟨.inr rfl, rfl, rfl⟩
theorem wkL_refl {H' H1 : AHeap} : ∀ (vs : List AV), wkL H' H1 vs vs
  | [] => trivial
  | v :: vs => ⟨wk1_refl v, wkL_refl vs⟩
theorem wk2_refl {H' H1 : AHeap} (v : AV) : wk2 H' H1 v v := by
  cases v <;> first | exact wkL_refl _ | (simp only [wk2]; exact wk1_refl _)
theorem wkLL_refl {H' H1 : AHeap} : ∀ (vs : List AV), wkLL H' H1 vs vs
  | [] => trivial
  | v :: vs => ⟨wk2_refl v, wkLL_refl vs⟩
theorem zlu {H' H1 : AHeap} {v : AV} : wk H' H1 v v = True := eq_true (by cases v <;> first | exact wkLL_refl _ | (simp only [wk]; exact wk2_refl _))
theorem zlv {n : Nat} {l : List UInt8} : ltL n (bys l) = True := eq_true (ltL_iff.2 fun j hj => by
  simp only [bys, List.getElem_map, ofByte]
  rw [AV.lt] <;> simp)

theorem znq : ((0 : Nat) : Int) = 0 := rfl
theorem zlt {m : Mark} {sz n : Nat} : (AV.slice m sz []).lt n = ∀ id, m = .own id → id < n := by
  rw [AV.lt]; exact propext ⟨fun h => h.1, fun h => ⟨h, fun j hj => absurd hj (by simp)⟩⟩
theorem zkj {P : Program} {H1 H : AHeap} {fr : Fr} {x : AV} {t s : Nat} {ty : TypeId} : finish P [.cell t ty, .tmp s] (.ret x) H1 fr H = match zio P ty (Fr.get fr t) H with | some r => r.c ∧ endOk H (.tup [r.v, Fr.get fr s]) H1 x | none => False := by
  simp only [finish, resL, resA]
  cases zio P ty (Fr.get fr t) H with
  | none => rfl
  | some r => simp [one]
end Go.AL

