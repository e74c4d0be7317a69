/- Contracts and plain laws, a part of the proof; no condition of its own. -/
import Derived.Test.YtnhghceobhdaoaaAlSound6
import Derived.Laws.IdiomStrings
import Derived.Laws.BytesArg
/- The abstract layer: the rules are sound, 7: conversions, literals, make. -/
namespace Go.AL
set_option linter.all false
set_option linter.unusedSectionVars false

section
variable {P : Program} {w : World} {γ : Conc} {H : AHeap}

theorem td_slice {t e : TypeId} (h : (ti P t).map TI.desc = some (.slice e)) : P.underlying t = some (.slice e) := by
  obtain ⟨d, i, hu, hi, hd⟩ := td_of h
  cases d <;> simp [tdOf] at hd
  subst hd; exact hu
theorem td_string {t : TypeId} (h : (ti P t).map TI.desc = some .string) : P.underlying t = some .string := by
  obtain ⟨d, i, hu, hi, hd⟩ := td_of h
  cases d <;> simp [tdOf] at hd
  exact hu
theorem td_int {t : TypeId} {k : IntKind} (h : (ti P t).map TI.desc = some (.int k)) : P.underlying t = some (.int k) := by
  obtain ⟨d, i, hu, hi, hd⟩ := td_of h
  cases d <;> simp [tdOf] at hd
  subst hd; exact hu

theorem flat_ofByte (s : List UInt8) : flat (s.map ofByte) = s.map ofByte := by
  induction s with
  | nil => rfl
  | cons b s ih => show (ofByte b).cells ++ flat (s.map ofByte) = _; rw [ih]; rfl

theorem atR_bytes (s : List UInt8) (z : Array Value) : AtR (Rel w γ H) (s.map ofByte) ((s.toArray.map fun b => Value.int .u8 b.toNat) ++ z) 0 := fun j hj => by
  simp only [List.length_map] at hj
  refine ⟨.int .u8 s[j].toNat, ?_, ?_⟩
  · rw [Nat.zero_add, Array.getElem?_append_left (by simpa using hj)]
    simp [hj]
  · simp only [List.getElem_map, ofByte]; exact mk_int _ _

/-- a new row that a slice owns -/
theorem own_new (hs : State w γ H) {w' : World} {sz cap : Nat} {xs : List AV} {C : Array Value} {ty : TypeId} {fr : Nat × Nat} (hos : w'.os = w.os) (htape : w'.tape = w.tape) (hout : w'.output = w.output)
    (hsz : w'.heap.size = w.heap.size + 1) (hold : ∀ b, b < w.heap.size → w'.heap[b]? = w.heap[b]?) (hnew : w'.heap[w.heap.size]? = some (.cells C ty fr)) (hfr : C.size ≤ fr.1 ∨ fr.2 = 0)
    (hle : xs.length ≤ cap) (hC : cap * sz ≤ C.size) (hall : ∀ x ∈ xs, x.cells.length = sz) (hr : AtR (Rel w γ H) (flat xs) C 0) {run : Result Value}
    (hrun : run = .ok (.slice (some ⟨w.heap.size, 0, none⟩) xs.length cap) w') : Out P w γ H (.slice (.own H.nx) sz xs) (H.push (.buf sz xs.length)) run := by
  have he := ext_push hs hos htape hout (by omega) hold (some w.heap.size) (fun b h => by cases h; exact Nat.le_refl _) (.buf sz xs.length)
  refine ⟨_, w', _, hrun, state_push hs (fun b h => by cases h; omega) he hold (.inr ⟨_, _, rfl⟩), he, ?_⟩
  refine rel_slice.2 (.inr ⟨w.heap.size, 0, cap, C, ty, fr, rfl, hle, hnew, by omega, ?_, ?_, hall, hr.mono fun x v h => h.ext he⟩)
  · intro id o ho hg
    rcases AHeap.get_push_inv _ _ ho with ⟨rfl, rfl⟩ | ⟨hlt, ho⟩
    · exact ⟨_, _, rfl, by omega⟩
    · rw [upd_ne _ _ _ _ (by omega)] at hg
      have := hs.lt ho hg; omega
  · refine ⟨by rw [AHeap.nx_push]; omega, fun sz' n h => ?_⟩
    rw [AHeap.get_push_new] at h; cases h
    refine ⟨rfl, Nat.le_refl _, fun _ => ⟨upd_same _ _ _, rfl, fun p p1 p2 => ?_⟩⟩
    rcases hfr with h | h <;> omega

theorem sound_rConvert (hs : State w γ H) {src dst : TypeId} {x : AV} {v : Value} {r : R} (hx : Rel w γ H x v) (h : zhv P src dst x H = some r) (hc : r.c) :
    Out P w γ H r.v r.H ((convert src dst v).run P w) := by
  unfold zhv at h
  split at h
  · rename_i sd k k' n hsd hdd
    cases h
    rw [rel_int hx]
    obtain ⟨d1, i1, hu1, hi1, hd1⟩ := td_of hsd
    obtain ⟨d2, i2, hu2, hi2, hd2⟩ := td_of hdd
    cases d2 <;> simp [tdOf] at hd2
    subst hd2
    exact Out.same hs (v := .int _ (IntKind.wrap _ n)) (by simp [convert, run_und hu1, run_und hu2, Conv.intToInt]) (mk_int _ _)
  · rename_i sd s hsd hdd
    cases h
    rw [rel_str hx]
    obtain ⟨d1, i1, hu1, hi1, hd1⟩ := td_of hsd
    obtain ⟨d2, i2, hu2, hi2, hd2⟩ := td_of hdd
    cases d2 <;> simp [tdOf] at hd2
    exact Out.same hs (by simp [convert, run_und hu1, run_und hu2]) (mk_str _)
  · rename_i e s hsd hdd
    rw [rel_str hx]
    have hu1 := td_string hsd
    have hu2 := td_slice hdd
    split at h <;> cases h
    rename_i bt hte
    have hed : P.underlying e = some (.int .u8) := td_int (by rw [hte]; rfl)
    have hrun := run_bytes_of_string (P := P) w src dst e ⟨s.toArray⟩ hu1 hu2 hed
    rw [size_mk] at hrun
    have hn : s.length ≤ grownCap w s.length 0 e := grownCap_ge _ _ _ _
    have hlen : (s.map ofByte).length = s.length := by simp
    have hsz : (bytesRow ⟨s.toArray⟩ (grownCap w s.length 0 e)).size = grownCap w s.length 0 e := by
      simp [bytesRow, ByteArray.size, -ByteArray.size_data]; omega
    rw [← hlen] at hrun
    have := own_new (P := P) hs (sz := 1) (xs := s.map ofByte) (w' := w.drew.alloc _) rfl rfl rfl (by simp) (fun b hb => alloc_lt w.drew _ hb) (alloc_new w.drew _) (.inl (Nat.le_refl _))
      (by rw [hlen]; exact hn) (by rw [hlen, hsz]; omega) (by simp [ofByte, AV.cells]) (by rw [flat_ofByte]; exact atR_bytes _ _) hrun
    rwa [hlen] at this
  · rename_i e m sz xs hsd hdd
    have hu1 := td_slice hsd
    have hu2 := td_string hdd
    split at h <;> cases h
    rename_i hte
    have hue := td_int hte
    have hby : ∀ x ∈ xs, isByte x := hc
    refine Out.same hs (v := .string ⟨(xs.map AL.byteOf).toArray⟩) ?_ (mk_str _)
    rcases rel_slice.1 hx with ⟨⟨a, rfl⟩, rfl, _⟩ | ⟨blk, off, cap, C, ty, fr, rfl, hle, hb, hcap, himm, hm, hall, hr⟩
    · cases a with
      | none => simp [convert, run_und hu1, run_und hu2, run_und hue, Conv.bytesToString]; rfl
      | some a =>
        rw [run_convert_bytes_string w src dst e _ 0 0 hu1 hue hu2]
        simp [Conv.bytesToString, loadCells, loadCellsFrom]; rfl
    · have hflat : flat xs = xs := by
        clear hx hr hle hc hcap himm hm
        induction xs with
        | nil => rfl
        | cons x xs ih =>
          obtain ⟨n, rfl⟩ := hby x (by simp)
          show _ ++ flat xs = _
          rw [ih (fun y hy => hby y (by simp [hy])) (fun y hy => hall y (by simp [hy]))]
          rfl
      rw [hflat] at hr
      let num : AV → Int := fun x => match x with | .int _ n => n | _ => 0
      have := run_convert_bytes_arg (P := P) w src e hu1 hue blk off xs.length cap (xs.map num) (by simp) (fun i hi => by
        obtain ⟨u, hu, hr⟩ := hr i hi
        obtain ⟨n, hn⟩ := hby xs[i] (List.getElem_mem hi)
        rw [hn] at hr
        rw [cell_row hb, hu, rel_int hr]
        simp [List.getD, hi, hn, num]) dst hu2
      rw [this]
      congr 2
      show ByteArray.mk _ = _
      congr 2
      rw [List.map_map]
      apply List.map_congr_left
      intro x hx
      obtain ⟨n, rfl⟩ := hby x hx
      rfl
  · cases h

/-! ### Literals -/
theorem agg_splice {cs vs : List AV} {C : Array Value} {u : Value} (hC : C.size = cs.length) (hr : AtR (Rel w γ H) cs C 0) (hu1 : u.cells.size = vs.length) (hu2 : AtR (Rel w γ H) vs u.cells 0)
    {off : Nat} (hle : off + vs.length ≤ cs.length) :
    ∃ D : Array Value, (u.cells.zipIdx.foldl (fun cs (c, j) => cs.setIfInBounds (off + j) c) C) = D ∧ D.size = (splice cs off vs).length ∧ AtR (Rel w γ H) (splice cs off vs) D 0 := by
  refine ⟨spliceC C off u.cells.toList, ?_, ?_, ?_⟩
  · have key : ∀ (l : List Value) (k : Nat) (D : Array Value), off + k + l.length ≤ D.size →
        (l.zipIdx k).foldl (fun cs (p : Value × Nat) => cs.setIfInBounds (off + p.2) p.1) D = spliceC D (off + k) l := by
      intro l
      induction l with
      | nil => intro k D _; simp [spliceC]
      | cons c l ih =>
        intro k D hD
        simp only [List.length_cons] at hD
        simp only [List.zipIdx_cons, List.foldl_cons]
        rw [ih (k + 1) _ (by simp; omega)]
        apply Array.ext_getElem?
        intro j
        rw [spliceC_get _ _ _ (by simp; omega), spliceC_get _ _ _ (by simp; omega)]
        simp only [List.length_cons]
        by_cases h1 : j = off + k
        · subst h1
          rw [if_neg (by omega), if_pos (by omega)]
          simp [show off + k < D.size by omega]
        · by_cases h2 : off + (k + 1) ≤ j ∧ j < off + (k + 1) + l.length
          · rw [if_pos h2, if_pos (by omega)]
            rw [show j - (off + k) = (j - (off + (k + 1))) + 1 by omega, List.getElem?_cons_succ]
          · rw [if_neg h2, if_neg (by omega), Array.getElem?_setIfInBounds_ne (by omega)]
    have := key u.cells.toList 0 C (by simp; omega)
    rw [Nat.add_zero] at this
    rw [← this, ← Array.foldl_toList, Array.toList_zipIdx]
  · rw [spliceC_size _ _ _ (by simp; omega), splice_length _ _ _ hle, hC]
  · exact hr.splice (by simpa using hu2) (by simpa using hu1) hle (by omega)

theorem fill_sound {pa : Nat → Option (Nat × Nat)} {pc : Nat → Option (Nat × Nat)} : ∀ (parts : List (Nat × AV)) (vs : List (Nat × Value)) (cs : List AV) (C : Array Value) (cs' : List AV),
    (∀ j q, pa j = some q → (∃ p ∈ parts, p.1 = j) → pc j = some q) →
    vs.length = parts.length → (∀ (j : Nat) p q, parts[j]? = some p → vs[j]? = some q → q.1 = p.1 ∧ Rel w γ H p.2 q.2) → C.size = cs.length → AtR (Rel w γ H) cs C 0 →
    zhb pa cs parts = some cs' → ∃ D : Array Value, Instr.fill pc C vs = some D ∧ D.size = cs'.length ∧ AtR (Rel w γ H) cs' D 0
  | [], vs, cs, C, cs', _, hl, _, hC, hr, h => by
    cases vs with
    | nil => simp only [zhb, Option.some.injEq] at h; subst h; exact ⟨C, rfl, hC, hr⟩
    | cons _ _ => simp at hl
  | (i, x) :: parts, vs, cs, C, cs', hp, hl, hv, hC, hr, h => by
    cases vs with
    | nil => simp at hl
    | cons q vs =>
      obtain ⟨i', v⟩ := q
      obtain ⟨e, hx⟩ := hv 0 _ _ rfl rfl
      dsimp only at e hx
      subst e
      simp only [zhb] at h
      cases hpa : pa i' with
      | none => simp [hpa] at h
      | some q =>
        obtain ⟨off, size⟩ := q
        simp only [hpa] at h
        split at h
        · rename_i hcond
          obtain ⟨h1, h2, h3⟩ := hcond
          have hnj : x ≠ .junk ∧ ∀ vs, x ≠ .tup vs := by
            constructor
            · rintro rfl; simp [AV.cells, allOne, AV.one] at h3
            · rintro vs rfl; simp [AV.cells, allOne, AV.one] at h3
          obtain ⟨hu1, hu2⟩ := Rel.cells hx hnj.1 hnj.2
          obtain ⟨D, hD, hDs, hDr⟩ := agg_splice hC hr hu1 hu2 (off := off) (by omega)
          obtain ⟨E, hE, hEs, hEr⟩ := fill_sound parts vs _ D cs' (fun j q hq ⟨p, hp1, hp2⟩ => hp j q hq ⟨p, by simp [hp1], hp2⟩) (by simpa using hl) (fun j p q hp hq => hv (j + 1) p q (by simpa using hp) (by simpa using hq)) hDs hDr h
          refine ⟨E, ?_, hEs, hEr⟩
          have hpc : pc i' = some (off, size) := hp i' (off, size) hpa ⟨(i', x), by simp, rfl⟩
          have hcond : ¬ ((decide (v.cells.size ≠ size) || decide (off + v.cells.size > C.size)) = true) := by simp; omega
          rw [Instr.fill, hpc]
          dsimp only
          rw [if_neg hcond, hD]
          exact hE
        · cases h


/-- the operands of a literal -/
def RelP (w : World) (γ : Conc) (H : AHeap) (parts : List (Nat × AV)) (vs : List (Nat × Value)) : Prop :=
  vs.length = parts.length ∧ ∀ (j : Nat) p q, parts[j]? = some p → vs[j]? = some q → q.1 = p.1 ∧ Rel w γ H p.2 q.2

theorem sizeT_eq {t : TypeId} {i : TI} (h : ti P t = some i) : zic P t = i.size := by simp [zic, h]

theorem run_places (w : World) {fields : Array Field} (hk : zhc P (fields.toList.map fun f => (f.offset, f.type, f.name == "_")) = true) :
    ∃ ps : Array (Nat × Nat), (fields.mapM fun f => do pure (f.offset, ← sizeOf f.type) : Sem _).run P w = .ok ps w ∧
      ∀ (j : Nat) (f : Field), fields[j]? = some f → ps[j]? = some (f.offset, zic P f.type) := by
  have key : ∀ (l : List Field) (acc : Array (Nat × Nat)), zhc P (l.map fun f => (f.offset, f.type, f.name == "_")) = true →
      ∃ ps : Array (Nat × Nat), (l.foldlM (fun (bs : Array (Nat × Nat)) f => bs.push <$> (do pure (f.offset, ← sizeOf f.type))) acc : Sem _).run P w = .ok ps w ∧
      (∀ j, j < acc.size → ps[j]? = acc[j]?) ∧ ∀ (j : Nat) (f : Field), l[j]? = some f → ps[acc.size + j]? = some (f.offset, zic P f.type) := by
    intro l
    induction l with
    | nil => intro acc _; exact ⟨acc, by simp, fun _ _ => rfl, fun j f h => by simp at h⟩
    | cons f l ih =>
      intro acc h
      simp only [List.map_cons, zhc, Bool.and_eq_true] at h
      obtain ⟨i, hi⟩ := Option.isSome_iff_exists.1 h.1
      obtain ⟨d, inf, z, hd, hinf, hz, rfl⟩ := ti_spec hi
      obtain ⟨ps, h0, h1, h2⟩ := ih (acc.push (f.offset, inf.size)) h.2
      refine ⟨ps, ?_, fun j hj => by rw [h1 j (by simp; omega), Array.getElem?_push, if_neg (by omega)], fun j g hg => ?_⟩
      · rw [List.foldlM_cons]
        simp only [Sem.run_bind, Sem.run_map, run_size hinf, Result.andThen_ok, Sem.run_pure]
        exact h0
      · cases j with
        | zero =>
          simp at hg; subst hg
          rw [Nat.add_zero, h1 _ (by simp), sizeT_eq hi]; simp
        | succ j =>
          have h4 := h2 j g (by simpa using hg)
          rw [← h4]; congr 1; simp; omega
  obtain ⟨ps, h0, _, h2⟩ := key fields.toList #[] hk
  refine ⟨ps, ?_, fun j f hf => by have := h2 j f (by simpa using hf); simpa using this⟩
  rw [Array.mapM_eq_foldlM, ← Array.foldlM_toList]
  exact h0

theorem sound_rBuild (hs : State w γ H) {t : TypeId} {parts : List (Nat × AV)} {vs : List (Nat × Value)} {r : R} (hp : RelP w γ H parts vs) (h : zhk P t parts H = some r) :
    Out P w γ H r.v r.H ((Instr.build t vs.toArray).run P w) := by
  unfold zhk at h
  split at h
  · rename_i i hi
    obtain ⟨d, inf, z, hd, hinf, hz, rfl⟩ := ti_spec hi
    obtain ⟨z1, z2⟩ := ofValue_cells (w := w) (γ := γ) (H := H) z
    dsimp only at h
    split at h
    · rename_i fs hfs
      obtain ⟨fields, rfl, rfl⟩ := struct_field hfs
      split at h
      · rename_i hk
        obtain ⟨ps, hps, hpl⟩ := run_places (P := P) w hk
        cases hf : zhb (fun j => ((fields.toList.map fun f => (f.offset, f.type, f.name == "_"))[j]?).map fun f => (f.1, zic P f.2.1)) (ofValue z).cells parts with
        | none => rw [hf] at h; cases h
        | some cs =>
          simp only [hf, Option.map_some, Option.some.injEq] at h
          subst h
          obtain ⟨D, hD, hDs, hDr⟩ := fill_sound (pc := fun j => ps[j]?) parts vs _ _ cs (fun j q hq _ => by
            cases hj : (fields.toList.map fun f => (f.offset, f.type, f.name == "_"))[j]? with
            | none => simp [hj] at hq
            | some p =>
              obtain ⟨f, hf, rfl⟩ := field_get hj
              simp only [hj, Option.map_some, Option.some.injEq] at hq
              rw [← hq]
              exact hpl j f hf) hp.1 hp.2 z1 z2 hf
          refine Out.same hs (v := .agg D) ?_ (mk_agg hDs hDr)
          simp only [Instr.build, Sem.run_bind, run_zero hinf hz, Result.andThen_ok, run_und hd]
          rw [hps]
          simp only [Result.andThen_ok, hD]
          rfl
      · cases h
    · rename_i n e hfs
      cases d <;> simp [tdOf] at hfs
      obtain ⟨rfl, rfl⟩ := hfs
      rename_i n e
      split at h
      · rename_i hk
        obtain ⟨ie, hie⟩ := Option.isSome_iff_exists.1 hk
        obtain ⟨de, infe, ze, hde, hinfe, hze, rfl⟩ := ti_spec hie
        cases hf : zhb (fun j => some (j * zic P e, zic P e)) (ofValue z).cells parts with
        | none => rw [hf] at h; cases h
        | some cs =>
          simp only [hf, Option.map_some, Option.some.injEq] at h
          subst h
          obtain ⟨D, hD, hDs, hDr⟩ := fill_sound (pc := fun j => some (j * infe.size, infe.size)) parts vs _ _ cs (fun j q hq _ => by
            rw [← hq, sizeT_eq hie]) hp.1 hp.2 z1 z2 hf
          refine Out.same hs (v := .agg D) ?_ (mk_agg hDs hDr)
          simp only [Instr.build, Sem.run_bind, run_zero hinf hz, Result.andThen_ok, run_und hd, run_size hinfe, hD]
          rfl
      · cases h
    · cases h
  · cases h

/-! ### Slices that the text lays -/
theorem rowsA_sound {sz : Nat} : ∀ (parts : List (Nat × AV)) (k : Nat) (xs : List AV), zhm sz k parts = some xs →
    xs = parts.map (·.2) ∧ (∀ x ∈ xs, x.cells.length = sz ∧ allOne x.cells = true) ∧ ∀ (j : Nat) p, parts[j]? = some p → p.1 = k + j
  | [], k, xs, h => by simp only [zhm, Option.some.injEq] at h; subst h; simp
  | (i, v) :: parts, k, xs, h => by
    simp only [zhm] at h
    split at h
    · rename_i hc
      obtain ⟨h1, h2, h3⟩ := hc
      cases hr : zhm sz (k + 1) parts with
      | none => simp [hr] at h
      | some ys =>
        simp only [hr, Option.map_some, Option.some.injEq] at h
        subst h
        obtain ⟨i1, i2, i3⟩ := rowsA_sound parts (k + 1) ys hr
        refine ⟨by simp [i1], fun x hx => ?_, fun j p hp => ?_⟩
        · rcases List.mem_cons.1 hx with rfl | hx
          · exact ⟨h2, h3⟩
          · exact i2 x hx
        · cases j with
          | zero => simp at hp; subst hp; simpa using h1
          | succ j => have := i3 j p (by simpa using hp); omega
    · cases h

theorem fill_rows {sz : Nat} : ∀ (parts : List (Nat × AV)) (vs : List (Nat × Value)) (k : Nat) (C : Array Value),
    vs.length = parts.length → (∀ (j : Nat) p q, parts[j]? = some p → vs[j]? = some q → q.1 = p.1 ∧ Rel w γ H p.2 q.2) →
    (∀ x ∈ parts.map (·.2), x.cells.length = sz ∧ allOne x.cells = true) → (∀ (j : Nat) p, parts[j]? = some p → p.1 = k + j) → C.size = (k + parts.length) * sz →
    ∃ D : Array Value, Instr.fill (fun i => some (i * sz, sz)) C vs = some D ∧ D.size = C.size ∧ (∀ j, j < k * sz → D[j]? = C[j]?) ∧ AtR (Rel w γ H) (flat (parts.map (·.2))) D (k * sz)
  | [], vs, k, C, hl, hv, hx, hk, hC => by
    cases vs with
    | nil => exact ⟨C, rfl, rfl, fun _ _ => rfl, AtR.nil⟩
    | cons _ _ => simp at hl
  | (i, x) :: parts, vs, k, C, hl, hv, hx, hk, hC => by
    cases vs with
    | nil => simp at hl
    | cons q vs =>
      obtain ⟨i', v⟩ := q
      obtain ⟨e, hr⟩ := hv 0 _ _ rfl rfl
      dsimp only at e hr
      subst e
      have hi : i' = k := by have := hk 0 _ rfl; simpa using this
      subst hi
      obtain ⟨h2, h3⟩ := hx x (by simp)
      have hnj : x ≠ .junk ∧ ∀ vs, x ≠ .tup vs := by
        constructor
        · rintro rfl; simp [AV.cells, allOne, AV.one] at h3
        · rintro vs rfl; simp [AV.cells, allOne, AV.one] at h3
      obtain ⟨hu1, hu2⟩ := Rel.cells hr hnj.1 hnj.2
      have hsz : i' * sz + sz ≤ C.size := by
        rw [hC]
        have : (i' + 1) * sz ≤ (i' + (parts.length + 1)) * sz := Nat.mul_le_mul_right _ (by omega)
        rw [Nat.add_mul, Nat.one_mul] at this
        exact this
      have hD0 : ∃ D0 : Array Value, v.cells.zipIdx.foldl (fun cs (c, j) => cs.setIfInBounds (i' * sz + j) c) C = D0 ∧ D0.size = C.size ∧ (∀ j, j < i' * sz → D0[j]? = C[j]?) ∧
          AtR (Rel w γ H) x.cells D0 (i' * sz) := by
        have junkR : AtR (fun (_ : AV) (_ : Value) => True) (List.replicate C.size AV.junk) C 0 := fun j hj => by
          simp at hj
          exact ⟨C[j], by simp [hj], trivial⟩
        refine ⟨spliceC C (i' * sz) v.cells.toList, ?_, spliceC_size _ _ _ (by simp; omega), fun j hj => ?_, fun j hj => ?_⟩
        · have key : ∀ (l : List Value) (k : Nat) (D : Array Value), i' * sz + k + l.length ≤ D.size →
              (l.zipIdx k).foldl (fun cs (p : Value × Nat) => cs.setIfInBounds (i' * sz + p.2) p.1) D = spliceC D (i' * sz + k) l := by
            intro l
            induction l with
            | nil => intro k D _; simp [spliceC]
            | cons c l ih =>
              intro k D hD
              simp only [List.length_cons] at hD
              simp only [List.zipIdx_cons, List.foldl_cons]
              rw [ih (k + 1) _ (by simp; omega)]
              apply Array.ext_getElem?
              intro j
              rw [spliceC_get _ _ _ (by simp; omega), spliceC_get _ _ _ (by simp; omega)]
              simp only [List.length_cons]
              by_cases h1 : j = i' * sz + k
              · subst h1
                rw [if_neg (by omega), if_pos (by omega)]
                simp [show i' * sz + k < D.size by omega]
              · by_cases h2 : i' * sz + (k + 1) ≤ j ∧ j < i' * sz + (k + 1) + l.length
                · rw [if_pos h2, if_pos (by omega)]
                  rw [show j - (i' * sz + k) = (j - (i' * sz + (k + 1))) + 1 by omega, List.getElem?_cons_succ]
                · rw [if_neg h2, if_neg (by omega), Array.getElem?_setIfInBounds_ne (by omega)]
          have := key v.cells.toList 0 C (by simp; omega)
          rw [Nat.add_zero] at this
          rw [← this, ← Array.foldl_toList, Array.toList_zipIdx]
        · rw [spliceC_get _ _ _ (by simp; omega), if_neg (by omega)]
        · obtain ⟨u, hu, hr⟩ := hu2 j hj
          refine ⟨u, ?_, hr⟩
          rw [spliceC_get _ _ _ (by simp; omega), if_pos (by simp; omega)]
          rw [Nat.zero_add] at hu
          simp only [Array.getElem?_toList]
          rw [← hu]; congr 1; omega
      obtain ⟨D0, e0, s0, o0, r0⟩ := hD0
      obtain ⟨D, hD, hDs, hDo, hDr⟩ := fill_rows parts vs (i' + 1) D0 (by simpa using hl) (fun j p q hp hq => hv (j + 1) p q (by simpa using hp) (by simpa using hq))
        (fun y hy => hx y (by simp at hy ⊢; exact .inr hy)) (fun j p hp => by have := hk (j + 1) p (by simpa using hp); omega) (by rw [s0, hC, List.length_cons]; congr 1; omega)
      refine ⟨D, ?_, hDs.trans s0, fun j hj => (hDo j (by rw [Nat.add_mul]; omega)).trans (o0 j hj), ?_⟩
      · have hcond : ¬ ((decide (v.cells.size ≠ sz) || decide (i' * sz + v.cells.size > C.size)) = true) := by simp; omega
        rw [Instr.fill]
        dsimp only
        rw [if_neg hcond, e0]
        exact hD
      · show AtR _ (x.cells ++ flat (parts.map (·.2))) D _
        rw [AtR.append, h2]
        refine ⟨fun j hj => ?_, by rw [Nat.add_mul, Nat.one_mul] at hDr; exact hDr⟩
        obtain ⟨u, hu, hr⟩ := r0 j hj
        exact ⟨u, by rw [hDo _ (by rw [Nat.add_mul]; omega)]; exact hu, hr⟩

theorem sound_rBuildSlice (hs : State w γ H) {t : TypeId} {n : Nat} {parts : List (Nat × AV)} {vs : List (Nat × Value)} {r : R} (hp : RelP w γ H parts vs) (h : zhl P t n parts H = some r) :
    Out P w γ H r.v r.H ((Instr.buildSlice t n vs.toArray).run P w) := by
  unfold zhl at h
  split at h
  · rename_i e hd
    have hu := td_slice hd
    split at h
    · rename_i te hte
      obtain ⟨ed, einf, ez, hed, heinf, hez, rfl⟩ := ti_spec hte
      split at h
      · rename_i hcond
        obtain ⟨hn, hlim⟩ := hcond
        dsimp only at h hlim
        cases hr : zhm einf.size 0 parts with
        | none => simp [hr] at h
        | some xs =>
          simp only [hr, Option.map_some, Option.some.injEq] at h
          subst h
          obtain ⟨rfl, h2, h3⟩ := rowsA_sound parts 0 xs hr
          obtain ⟨zero, hz1, hz2⟩ : ∃ zero : Array Value, (n * einf.size = 0 → zero = #[]) ∧ (¬ n * einf.size = 0 → zero = ez.cells) := by
            by_cases h0 : n * einf.size = 0
            · exact ⟨#[], fun _ => rfl, fun h => absurd h0 h⟩
            · exact ⟨ez.cells, fun h => absurd h h0, fun _ => rfl⟩
          let C0 : Array Value := (Array.range (n * einf.size)).map (zero[· % zero.size]!)
          obtain ⟨D, hD, hDs, _, hDr⟩ := fill_rows (sz := einf.size) parts vs 0 C0 hp.1 hp.2 h2 h3 (by simp [C0, hn])
          have hDs' : D.size = n * einf.size := by rw [hDs]; simp [C0]
          have := own_new (P := P) hs (w' := w.alloc (.cells D e)) (sz := einf.size) (cap := n) (xs := parts.map (·.2)) (C := D) (ty := e) (fr := (0, 0)) rfl rfl rfl (by simp) (fun b hb => alloc_lt w _ hb) (alloc_new w _)
            (.inr rfl) (by simp; omega) (by rw [hDs']; exact Nat.le_refl _) (fun x hx => (h2 x hx).1) (by simpa using hDr) (run := (Instr.buildSlice t n vs.toArray).run P w) (by
              simp only [Instr.buildSlice, Sem.run_bind, run_und hu, Result.andThen_ok, run_size heinf]
              rw [if_neg (by omega)]
              simp only [C0] at hD
              by_cases h0 : n * einf.size = 0
              · rw [if_pos h0, ← hz1 h0]
                simp only [Sem.run_bind, Sem.run_pure, Result.andThen_ok]
                rw [hD]
                simp [newRow, hn]
              · rw [if_neg h0]
                simp only [Sem.run_bind, run_zero heinf hez, Sem.run_pure, Result.andThen_ok]
                rw [← hz2 h0, hD]
                simp [newRow, hn])
          have hl : (parts.map (·.2)).length = n := by simp [hn]
          rw [hl] at this
          exact this
      · cases h
    · cases h
  · cases h

end
end Go.AL

