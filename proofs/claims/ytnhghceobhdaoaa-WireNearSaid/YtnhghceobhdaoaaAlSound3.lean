/- The abstract layer: the rules are sound, 3: memory. -/
import Derived.Test.YtnhghceobhdaoaaAlSound2
namespace Go.AL
set_option linter.all false
set_option linter.unusedSectionVars false

/-! ### Rows -/
def flat (xs : List AV) : List AV := xs.flatMap AV.cells

theorem AtR.append {R : AV → Value → Prop} {a b : List AV} {C : Array Value} {off : Nat} : AtR R (a ++ b) C off ↔ AtR R a C off ∧ AtR R b C (off + a.length) := by
  constructor
  · intro h
    refine ⟨fun j hj => ?_, fun j hj => ?_⟩
    · obtain ⟨u, hu, hr⟩ := h j (by simp; omega)
      exact ⟨u, hu, by simpa [List.getElem_append_left hj] using hr⟩
    · obtain ⟨u, hu, hr⟩ := h (a.length + j) (by simp; omega)
      exact ⟨u, by rw [← hu]; congr 1; omega, by simpa using hr⟩
  · rintro ⟨h1, h2⟩ j hj
    by_cases hlt : j < a.length
    · obtain ⟨u, hu, hr⟩ := h1 j hlt
      exact ⟨u, hu, by simpa [List.getElem_append_left hlt] using hr⟩
    · simp at hj
      obtain ⟨u, hu, hr⟩ := h2 (j - a.length) (by omega)
      refine ⟨u, by rw [← hu]; congr 1; omega, ?_⟩
      rw [List.getElem_append_right (by omega)]; exact hr

theorem AtR.nil {R : AV → Value → Prop} {C : Array Value} {off : Nat} : AtR R [] C off := fun j hj => absurd hj (by simp)

theorem rows_iff {R : AV → Value → Prop} {C : Array Value} {sz : Nat} : ∀ (xs : List AV) (off : Nat),
    (∀ i (hi : i < xs.length), xs[i].cells.length = sz ∧ ∀ j (hj : j < xs[i].cells.length), ∃ u, C[off + i * sz + j]? = some u ∧ R xs[i].cells[j] u) ↔
    ((∀ x ∈ xs, x.cells.length = sz) ∧ AtR R (flat xs) C off)
  | [], off => by simp [flat, AtR.nil]
  | x :: xs, off => by
    have ih := rows_iff (R := R) (C := C) (sz := sz) xs (off + sz)
    constructor
    · intro h
      obtain ⟨h1, h2⟩ := h 0 (by simp)
      simp only [List.getElem_cons_zero] at h1 h2
      have h3 := ih.1 fun i hi => by
        obtain ⟨h4, h5⟩ := h (i + 1) (by simp; omega)
        simp only [List.getElem_cons_succ] at h4 h5
        refine ⟨h4, fun j hj => ?_⟩
        obtain ⟨u, hu, hr⟩ := h5 j hj
        exact ⟨u, by rw [← hu]; congr 1; rw [Nat.add_mul]; omega, hr⟩
      refine ⟨fun y hy => ?_, ?_⟩
      · rcases List.mem_cons.1 hy with rfl | hy
        · exact h1
        · exact h3.1 y hy
      · show AtR R (x.cells ++ flat xs) C off
        rw [AtR.append]
        refine ⟨fun j hj => ?_, by rw [h1]; exact h3.2⟩
        obtain ⟨u, hu, hr⟩ := h2 j hj
        exact ⟨u, by rw [← hu]; congr 1; omega, hr⟩
    · rintro ⟨h1, h2⟩
      change AtR R (x.cells ++ flat xs) C off at h2
      rw [AtR.append] at h2
      have hx := h1 x (by simp)
      have h3 := ih.2 ⟨fun y hy => h1 y (by simp [hy]), by have := h2.2; rwa [hx] at this⟩
      intro i hi
      cases i with
      | zero =>
        simp only [List.getElem_cons_zero]
        refine ⟨hx, fun j hj => ?_⟩
        obtain ⟨u, hu, hr⟩ := h2.1 j hj
        exact ⟨u, by rw [← hu]; congr 1; omega, hr⟩
      | succ i =>
        simp only [List.getElem_cons_succ]
        obtain ⟨h4, h5⟩ := h3 i (by simpa using hi)
        refine ⟨h4, fun j hj => ?_⟩
        obtain ⟨u, hu, hr⟩ := h5 j hj
        exact ⟨u, by rw [← hu]; congr 1; rw [Nat.add_mul]; omega, hr⟩

theorem flat_length {sz : Nat} : ∀ {xs : List AV}, (∀ x ∈ xs, x.cells.length = sz) → (flat xs).length = xs.length * sz
  | [], _ => by simp [flat]
  | x :: xs, h => by
    have := flat_length (xs := xs) fun y hy => h y (by simp [hy])
    have hx := h x (by simp)
    simp only [flat, List.flatMap_cons, List.length_append, List.length_cons, Nat.add_mul, Nat.one_mul] at this ⊢
    rw [hx, this]; omega

section
variable {P : Program} {w : World} {γ : Conc} {H : AHeap}

/-- where a slice lies -/
def Lies (w : World) (γ : Conc) (H : AHeap) (m : Mark) (sz : Nat) (xs : List AV) (blk off cap : Nat) (C : Array Value) (ty : TypeId) (fr : Nat × Nat) : Prop :=
  xs.length ≤ cap ∧ w.heap[blk]? = some (.cells C ty fr) ∧ off + cap * sz ≤ C.size ∧ Imm γ H blk (off + xs.length * sz) ∧ markOk γ H m sz xs.length blk off cap fr ∧
  (∀ x ∈ xs, x.cells.length = sz) ∧ AtR (Rel w γ H) (flat xs) C off

theorem rel_slice {m : Mark} {sz : Nat} {xs : List AV} {v : Value} :
    Rel w γ H (.slice m sz xs) v ↔ ((∃ a, v = .slice a 0 0) ∧ xs = [] ∧ markNil H m sz) ∨
      ∃ blk off cap C ty fr, v = .slice (some ⟨blk, off, none⟩) xs.length cap ∧ Lies w γ H m sz xs blk off cap C ty fr := by
  rw [Rel]
  constructor
  · rintro (h | ⟨blk, off, cap, C, ty, fr, hv, hle, hh, hs, hi, hm, hc⟩)
    · exact .inl h
    · exact .inr ⟨blk, off, cap, C, ty, fr, hv, hle, hh, hs, hi, hm, (rows_iff xs off).1 hc⟩
  · rintro (h | ⟨blk, off, cap, C, ty, fr, hv, hle, hh, hs, hi, hm, hc⟩)
    · exact .inl h
    · exact .inr ⟨blk, off, cap, C, ty, fr, hv, hle, hh, hs, hi, hm, (rows_iff xs off).2 hc⟩

theorem rel_cptr {cs : List AV} {v : Value} :
    Rel w γ H (.cptr cs) v ↔ ∃ blk off C ty fr, v = .pointer (some ⟨blk, off, none⟩) ∧ w.heap[blk]? = some (.cells C ty fr) ∧ Imm γ H blk (off + cs.length) ∧ AtR (Rel w γ H) cs C off := by
  rw [Rel]; rfl

theorem rel_ptr {id off : Nat} {v : Value} :
    Rel w γ H (.ptr id off) v ↔ id < H.nx ∧ notBuf H id ∧ ∃ blk, γ id = some blk ∧ v = .pointer (some ⟨blk, off, none⟩) := by rw [Rel]

theorem rel_ms {id off sz len : Nat} {v : Value} :
    Rel w γ H (.ms id off sz len) v ↔ id < H.nx ∧ notBuf H id ∧ ((len = 0 ∧ ∃ a, v = .slice a 0 0) ∨ ∃ blk cap C ty fr, γ id = some blk ∧ v = .slice (some ⟨blk, off, none⟩) len cap ∧ len ≤ cap ∧
      w.heap[blk]? = some (.cells C ty fr) ∧ off + cap * sz ≤ C.size ∧ thawed fr off (off + cap * sz)) := by rw [Rel]

/-! ### Reading and writing cells -/
theorem addr_add (b o n : Nat) : (⟨b, o, none⟩ : Addr).add n = ⟨b, o + n, none⟩ := by
  unfold Addr.add; split <;> simp_all

theorem cell_row {blk : Nat} {C : Array Value} {ty : TypeId} {fr : Nat × Nat} (h : w.heap[blk]? = some (.cells C ty fr)) (i : Nat) : w.cell? ⟨blk, i, none⟩ = C[i]? := by
  simp [World.cell?, h]

theorem run_load_row {blk : Nat} {C : Array Value} {ty : TypeId} {fr : Nat × Nat} (h : w.heap[blk]? = some (.cells C ty fr)) {off n : Nat} (hn : off + n ≤ C.size) :
    (loadCells ⟨blk, off, none⟩ n).run P w = .ok (C.extract off (off + n)) w := by
  have h1 := run_loadCells_list (P := P) w ⟨blk, off, none⟩ (C.extract off (off + n)).toList fun j v hv => by
    rw [addr_add, cell_row h]
    rw [Array.getElem?_toList, Array.getElem?_extract] at hv
    split at hv
    · exact hv
    · cases hv
  have h2 : (C.extract off (off + n)).toList.length = n := by simp; omega
  rw [h2] at h1
  rw [h1, Array.toArray_toList]

theorem run_storeCells_fr (g o : Nat) (t : TypeId) (fr : Nat × Nat) : ∀ (vs : List Value) (i : Nat) (cur : Array Value) (w : World), w.heap[g]? = some (.cells cur t fr) →
    o + i + vs.length ≤ cur.size → (∀ v ∈ vs, v.oneCell' = true) → thawed fr (o + i) (o + i + vs.length) →
    (storeCells ⟨g, o, none⟩ vs i).run P w = .ok () (w.setRow g (cur.toList.take (o + i) ++ vs ++ cur.toList.drop (o + i + vs.length)).toArray)
  | [], i, cur, w, hg, _, _, _ => by
    simp only [storeCells, List.append_nil, List.length_nil, Nat.add_zero, List.take_append_drop, Array.toArray_toList]
    rw [setRow_self w g cur t fr hg]
    rfl
  | v :: rest, i, cur, w, hg, hl, h1, hf => by
    have hi : o + i < cur.size := by simp at hl; omega
    have hadd : (⟨g, o, none⟩ : Addr).add i = ⟨g, o + i, none⟩ := addr_add _ _ _
    have hcell : w.cell? ⟨g, o + i, none⟩ = some cur[o + i] := by simp [World.cell?, hg, hi]
    have hfro : w.frozen? ⟨g, o + i, none⟩ = false := by
      have := hf (o + i) (Nat.le_refl _) (by simp)
      simp [World.frozen?, hg]
      omega
    have hst : (store ((⟨g, o, none⟩ : Addr).add i) v).run P w = .ok () (w.setRow g (cur.setIfInBounds (o + i) v)) := by
      rw [hadd, run_store P w _ v _ (h1 v (by simp)), hcell]
      simp [hfro, setCell_eq_setRow w g (o + i) cur t fr v hg]
    have ih := run_storeCells_fr g o t fr rest (i + 1) (cur.setIfInBounds (o + i) v) (w.setRow g (cur.setIfInBounds (o + i) v)) (setRow_heap w g cur _ t _ hg)
      (by simp at hl ⊢; omega) (fun x hx => h1 x (by simp [hx])) (fun p h1 h2 => hf p (by omega) (by simp; omega))
    simp only [storeCells, Sem.run_bind, hst, Result.andThen_ok, ih, setRow_setRow]
    congr 3
    have e := list_seg_step cur.toList (o + i) v rest (by simp at hl ⊢; omega)
    simpa [Array.toList_setIfInBounds, Nat.add_assoc] using e

theorem splice_eq : ∀ (cs : List AV) (off : Nat) (vs : List AV), off + vs.length ≤ cs.length → splice cs off vs = cs.take off ++ vs ++ cs.drop (off + vs.length)
  | [], off, vs, h => by
    simp only [List.length_nil, Nat.le_zero, Nat.add_eq_zero_iff, List.length_eq_zero_iff] at h
    obtain ⟨rfl, rfl⟩ := h
    simp [splice]
  | c :: cs, 0, [], h => by simp [splice]
  | c :: cs, 0, v :: vs, h => by
    have := splice_eq cs 0 vs (by simp at h ⊢; omega)
    simp only [splice, this]
    simp
  | c :: cs, n + 1, vs, h => by
    have := splice_eq cs n vs (by simp at h ⊢; omega)
    simp only [splice, this]
    simp [Nat.add_right_comm n 1]

theorem splice_length (cs : List AV) (off : Nat) (vs : List AV) (h : off + vs.length ≤ cs.length) : (splice cs off vs).length = cs.length := by
  rw [splice_eq _ _ _ h]; simp; omega

/-- a row after cells were written into it -/
def spliceC (C : Array Value) (off : Nat) (us : List Value) : Array Value := (C.toList.take off ++ us ++ C.toList.drop (off + us.length)).toArray

theorem spliceC_size (C : Array Value) (off : Nat) (us : List Value) (h : off + us.length ≤ C.size) : (spliceC C off us).size = C.size := by
  simp [spliceC]; omega

theorem spliceC_get (C : Array Value) (off : Nat) (us : List Value) (h : off + us.length ≤ C.size) (j : Nat) :
    (spliceC C off us)[j]? = if off ≤ j ∧ j < off + us.length then us[j - off]? else C[j]? := by
  simp only [spliceC, List.getElem?_toArray, List.append_assoc]
  have ht : (C.toList.take off).length = off := by simp; omega
  by_cases h1 : j < off
  · rw [List.getElem?_append_left (by omega), if_neg (by omega), List.getElem?_take, if_pos h1]; simp
  · rw [List.getElem?_append_right (by omega), ht]
    by_cases h2 : j < off + us.length
    · rw [List.getElem?_append_left (by omega), if_pos (by omega)]
    · rw [List.getElem?_append_right (by omega), if_neg (by omega), List.getElem?_drop]
      simp only [Array.getElem?_toList]
      congr 1; omega

theorem AtR.splice {R : AV → Value → Prop} {cs vs : List AV} {C : Array Value} {us : List Value} (hc : AtR R cs C 0) (hu : AtR R vs us.toArray 0) (hl : us.length = vs.length)
    {off : Nat} (h : off + vs.length ≤ cs.length) (hs : cs.length ≤ C.size) : AtR R (AL.splice cs off vs) (spliceC C off us) 0 := by
  intro j hj
  rw [splice_length _ _ _ h] at hj
  rw [Nat.zero_add, spliceC_get C off us (by omega)]
  have hget : (AL.splice cs off vs)[j]? = if off ≤ j ∧ j < off + vs.length then vs[j - off]? else cs[j]? := by
    rw [splice_eq _ _ _ h, List.append_assoc]
    have ht : (cs.take off).length = off := by simp; omega
    by_cases h1 : j < off
    · rw [List.getElem?_append_left (by omega), if_neg (by omega), List.getElem?_take, if_pos h1]
    · rw [List.getElem?_append_right (by omega), ht]
      by_cases h2 : j < off + vs.length
      · rw [List.getElem?_append_left (by omega), if_pos (by omega)]
      · rw [List.getElem?_append_right (by omega), if_neg (by omega), List.getElem?_drop]
        congr 1; omega
  by_cases hb : off ≤ j ∧ j < off + vs.length
  · rw [if_pos (by omega)]
    rw [if_pos hb] at hget
    obtain ⟨u, hu, hr⟩ := hu (j - off) (by omega)
    refine ⟨u, by simpa using hu, ?_⟩
    rw [List.getElem?_eq_getElem (by rw [splice_length _ _ _ h]; exact hj), List.getElem?_eq_getElem (by omega)] at hget
    rw [Option.some.inj hget]; exact hr
  · rw [if_neg (by omega)]
    rw [if_neg hb] at hget
    obtain ⟨u, hu, hr⟩ := hc j hj
    refine ⟨u, by simpa using hu, ?_⟩
    rw [List.getElem?_eq_getElem (by rw [splice_length _ _ _ h]; exact hj), List.getElem?_eq_getElem hj] at hget
    rw [Option.some.inj hget]; exact hr

theorem one_cell {x : AV} {v : Value} (h : Rel w γ H x v) (ho : x.one = true) : v.oneCell' = true := by
  cases x <;> simp [AV.one] at ho <;> rw [Rel] at h
  case int => subst h; rfl
  case bool => subst h; rfl
  case str => subst h; rfl
  case nilp => subst h; rfl
  case nilm => subst h; rfl
  case nilf => subst h; rfl
  case nili => subst h; rfl
  case ptr => obtain ⟨_, _, _, _, rfl⟩ := h; rfl
  case mapv => obtain ⟨_, _, _, _, rfl⟩ := h; rfl
  case cptr => obtain ⟨_, _, _, _, _, rfl, _⟩ := h; rfl
  case slice => rcases h with ⟨⟨_, rfl⟩, _⟩ | ⟨_, _, _, _, _, _, rfl, _⟩ <;> rfl
  case ms => rcases h with ⟨_, _, ⟨_, _, rfl⟩ | ⟨_, _, _, _, _, _, rfl, _⟩⟩ <;> rfl
  case func => obtain ⟨_, _, rfl, _⟩ := h; rfl
  case iface => obtain ⟨_, rfl, _⟩ := h; rfl

theorem all_one {cs : List AV} {C : Array Value} (h : AtR (Rel w γ H) cs C 0) (hs : C.size = cs.length) (ho : allOne cs = true) : ∀ v ∈ C.toList, v.oneCell' = true := by
  intro v hv
  obtain ⟨j, hj, rfl⟩ := List.getElem_of_mem hv
  simp only [Array.length_toList] at hj
  obtain ⟨u, hu, hr⟩ := h j (by omega)
  rw [Nat.zero_add, Array.getElem?_eq_getElem hj] at hu
  have hu' : C[j] = u := Option.some.inj hu
  rw [Array.getElem_toList, hu']
  refine one_cell hr ?_
  simp only [allOne, List.all_eq_true] at ho
  exact ho _ (List.getElem_mem _)

end
end Go.AL
