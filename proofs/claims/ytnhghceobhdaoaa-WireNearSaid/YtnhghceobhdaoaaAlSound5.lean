/- The abstract layer: the rules are sound, 5: addresses, parts, slices. -/
import Derived.Test.YtnhghceobhdaoaaAlSound4
namespace Go.AL
set_option linter.all false
set_option linter.unusedSectionVars false

section
variable {P : Program} {w : World} {γ : Conc} {H : AHeap}

theorem Imm.le {b e e' : Nat} (h : Imm γ H b e) (hle : e' ≤ e) : Imm γ H b e' := fun id o ho hg => let ⟨sz, n, h1, h2⟩ := h id o ho hg; ⟨sz, n, h1, by omega⟩

theorem AtR.drop {R : AV → Value → Prop} {cs : List AV} {C : Array Value} {off : Nat} (h : AtR R cs C off) (n : Nat) : AtR R (cs.drop n) C (off + n) := fun j hj => by
  simp only [List.length_drop] at hj
  obtain ⟨u, hu, hr⟩ := h (n + j) (by omega)
  exact ⟨u, by rw [← hu]; congr 1; omega, by simpa using hr⟩

theorem AtR.take {R : AV → Value → Prop} {cs : List AV} {C : Array Value} {off : Nat} (h : AtR R cs C off) (n : Nat) : AtR R (cs.take n) C off := fun j hj => by
  simp only [List.length_take] at hj
  obtain ⟨u, hu, hr⟩ := h j (by omega)
  exact ⟨u, hu, by simpa using hr⟩

theorem flat_drop {sz : Nat} : ∀ (xs : List AV) (n : Nat), (∀ x ∈ xs, x.cells.length = sz) → flat (xs.drop n) = (flat xs).drop (n * sz)
  | [], n, _ => by simp [flat]
  | x :: xs, 0, _ => by simp
  | x :: xs, n + 1, h => by
    have ih := flat_drop xs n fun y hy => h y (by simp [hy])
    have hx := h x (by simp)
    have e1 : x.cells.drop ((n + 1) * sz) = [] := List.drop_eq_nil_of_le (by rw [hx, Nat.add_mul]; omega)
    have e2 : (n + 1) * sz - sz = n * sz := by rw [Nat.add_mul]; omega
    simp only [List.drop_succ_cons, ih]
    show _ = (x.cells ++ flat xs).drop _
    rw [List.drop_append, e1, List.nil_append, hx, e2]

theorem flat_take {sz : Nat} : ∀ (xs : List AV) (n : Nat), (∀ x ∈ xs, x.cells.length = sz) → flat (xs.take n) = (flat xs).take (n * sz)
  | [], n, _ => by simp [flat]
  | x :: xs, 0, _ => by simp [flat]
  | x :: xs, n + 1, h => by
    have ih := flat_take xs n fun y hy => h y (by simp [hy])
    have hx := h x (by simp)
    have e1 : x.cells.take ((n + 1) * sz) = x.cells := List.take_of_length_le (by rw [hx, Nat.add_mul]; omega)
    have e2 : (n + 1) * sz - sz = n * sz := by rw [Nat.add_mul]; omega
    simp only [List.take_succ_cons]
    show x.cells ++ flat (xs.take n) = (x.cells ++ flat xs).take _
    rw [List.take_append, ih, e1, hx, e2]

theorem sound_rNilCheck (hs : State w γ H) {x : AV} {v : Value} {r : R} (hx : Rel w γ H x v) (h : zhq x H = some r) (o : Oper) (a : Act) (xo : Operand) (ho : o.op = .nilCheck xo) (he : a.eval xo = v) :
    (execOp a.eval o).run P w = .ok (.value v) w ∧ r.H = H ∧ r.v = x := by
  unfold zhq at h
  split at h <;> cases h
  · obtain ⟨_, _, blk, _, rfl⟩ := rel_ptr.1 hx
    exact ⟨by simp [execOp, ho, he], rfl, rfl⟩
  · obtain ⟨blk, off, C, ty, fr, rfl, _⟩ := rel_cptr.1 hx
    exact ⟨by simp [execOp, ho, he], rfl, rfl⟩
  · rw [Rel] at hx
    obtain ⟨F, C, rfl, _⟩ := hx
    exact ⟨by simp [execOp, ho, he], rfl, rfl⟩

theorem struct_field {d : TypeDesc} {fs : List (Nat × TypeId × Bool)} (h : tdOf d = .struct fs) : ∃ fields : Array Field, d = .struct fields ∧ fs = fields.toList.map fun f => (f.offset, f.type, f.name == "_") := by
  cases d <;> simp [tdOf] at h
  exact ⟨_, rfl, h.symm⟩

theorem field_get {fields : Array Field} {n : Nat} {q : Nat × TypeId × Bool} (h : (fields.toList.map fun f => (f.offset, f.type, f.name == "_"))[n]? = some q) :
    ∃ f, fields[n]? = some f ∧ q = (f.offset, f.type, f.name == "_") := by
  rw [List.getElem?_map] at h
  cases hf : fields.toList[n]? with
  | none => simp [hf] at h
  | some f => simp only [hf, Option.map_some, Option.some.injEq] at h; exact ⟨f, by simpa using hf, h.symm⟩

theorem sound_rFieldAddr (hs : State w γ H) {t : TypeId} {x : AV} {n : Nat} {v : Value} {r : R} (hx : Rel w γ H x v) (h : zhr P t x n H = some r) (hc : r.c) :
    Out P w γ H r.v r.H ((Instr.fieldAt t v n).run P w) := by
  unfold zhr at h
  split at h
  · rename_i fs hd
    obtain ⟨d, i, hu, hi, hd⟩ := td_of hd
    obtain ⟨fields, rfl, rfl⟩ := struct_field hd
    split at h
    · rename_i off ft bl hq
      obtain ⟨f, hf, hq⟩ := field_get hq
      cases hq
      split at h
      · rename_i fi hfi
        obtain ⟨fd, finf, fz, hfd, hfinf, hfz, rfl⟩ := ti_spec hfi
        split at h
        · cases h
        · rename_i hne
          have hpl : ∀ a : Addr, (fieldPlace a f).run P w = .ok (a.add f.offset) w := fun a => by simp [fieldPlace, run_size hfinf, hne]
          split at h <;> cases h
          · rename_i id o
            obtain ⟨h1, h2, blk, hg, rfl⟩ := rel_ptr.1 hx
            refine Out.same hs (v := .pointer (some ⟨blk, o + f.offset, none⟩)) ?_ (rel_ptr.2 ⟨h1, h2, blk, hg, rfl⟩)
            simp [Instr.fieldAt, run_und hu, hf, Instr.sureAddr, hpl, addr_add]
          · rename_i cs
            obtain ⟨blk, o, C, ty, fr, rfl, hb, hi, hr⟩ := rel_cptr.1 hx
            have hle : f.offset ≤ cs.length := hc
            refine Out.same hs (v := .pointer (some ⟨blk, o + f.offset, none⟩)) ?_ (rel_cptr.2 ⟨blk, o + f.offset, C, ty, fr, rfl, hb, hi.le (by simp; omega), hr.drop _⟩)
            simp [Instr.fieldAt, run_und hu, hf, Instr.sureAddr, hpl, addr_add]
      · cases h
    · cases h
  · cases h

theorem sound_part (hs : State w γ H) {t : TypeId} {i : TI} (hi : ti P t = some i) {cs : List AV} {C : Array Value} (hC : C.size = cs.length) (hr : AtR (Rel w γ H) cs C 0) {off : Nat} {r : R}
    (h : zho i cs off H = some r) (hc : r.c) : Out P w γ H r.v r.H ((part t C off).run P w) := by
  have h2 : ∃ x, teq.part P t cs off = some x ∧ r.v = x ∧ r.H = H := by
    unfold zho at h
    unfold teq.part
    simp only [hi]
    split at h <;> cases h
    · rename_i hag; simp only [hag, if_true]; refine ⟨_, if_pos hc, ?_⟩; simp
    · rename_i hag; simp only [hag, if_false, Bool.false_eq_true]; refine ⟨_, if_pos hc, ?_⟩; simp
  obtain ⟨x, hx, e1, e2⟩ := h2
  obtain ⟨v, hv, hrel⟩ := run_part hi hr hC hx
  rw [e1, e2]
  exact Out.same hs hv hrel

theorem sound_rField (hs : State w γ H) {t : TypeId} {x : AV} {n : Nat} {v : Value} {r : R} (hx : Rel w γ H x v) (h : zhs P t x n H = some r) (hc : r.c) :
    Out P w γ H r.v r.H ((Instr.field t v n).run P w) := by
  unfold zhs at h
  split at h
  · rename_i fs cs hd
    obtain ⟨d, i, hu, hi, hd⟩ := td_of hd
    obtain ⟨fields, rfl, rfl⟩ := struct_field hd
    split at h
    · rename_i off ft bl hq
      obtain ⟨f, hf, hq⟩ := field_get hq
      cases hq
      split at h
      · rename_i fi hfi
        obtain ⟨C, rfl, hC, hCr⟩ := rel_agg hx
        have := sound_part hs hfi hC hCr h hc
        simpa [Instr.field, run_und hu, hf, asAgg] using this
      · cases h
    · cases h
  · cases h

theorem run_asInt {k : IntKind} {i : Int} : (asIntOf (.int k i)).run P w = .ok (k, i) w := by simp [asIntOf]

theorem sound_rIndexAddr (hs : State w γ H) {t : TypeId} {x ix : AV} {v vi : Value} {r : R} (hx : Rel w γ H x v) (hix : Rel w γ H ix vi) (h : zht P t x ix H = some r) (hc : r.c) :
    Out P w γ H r.v r.H ((Instr.indexAt t v vi).run P w) := by
  unfold zht at h
  split at h
  · rename_i e k i hd
    rw [rel_int hix]
    obtain ⟨d, it, hu, hi, hd⟩ := td_of hd
    cases d <;> simp [tdOf] at hd
    subst hd
    split at h
    · rename_i te hte
      obtain ⟨ed, einf, ez, hed, heinf, hez, rfl⟩ := ti_spec hte
      split at h
      · rename_i m sz xs
        split at h <;> cases h
        rename_i hsz
        obtain ⟨h0, h1⟩ := hc
        rcases rel_slice.1 hx with ⟨_, rfl, _⟩ | ⟨blk, off, cap, C, ty, fr, rfl, hle, hb, hcap, himm, hm, hall, hr⟩
        · simp at h1; omega
        · obtain ⟨n, rfl⟩ := Int.eq_ofNat_of_zero_le h0
          have hn : n < xs.length := by omega
          have hmul : (n + 1) * sz ≤ xs.length * sz := Nat.mul_le_mul_right _ hn
          rw [Nat.add_mul, Nat.one_mul] at hmul
          refine Out.same hs (v := .pointer (some ⟨blk, off + n * sz, none⟩)) ?_ ?_
          · dsimp only at hsz
            simp only [Instr.indexAt, Sem.run_bind, run_asInt, Result.andThen_ok, run_und hu, Sem.run_pure]
            simp [hn, run_size heinf, addr_add, hsz]
          · have hget : (xs.getD (Int.ofNat n).toNat .junk) = xs[n] := by simp [List.getD, hn]
            rw [show ((↑n : Int)).toNat = n by simp, List.getD_eq_getElem?_getD, List.getElem?_eq_getElem hn, Option.getD_some]
            have hx1 := hall xs[n] (List.getElem_mem hn)
            refine rel_cptr.2 ⟨blk, off + n * sz, C, ty, fr, rfl, hb, himm.le (by omega), ?_⟩
            have := (hr.drop (n * sz)).take sz
            rw [← flat_drop _ _ hall] at this
            have e : (flat (xs.drop n)).take sz = xs[n].cells := by
              rw [List.drop_eq_getElem_cons hn]
              show (xs[n].cells ++ flat (xs.drop (n + 1))).take sz = _
              rw [List.take_append_of_le_length (by omega), List.take_of_length_le (by omega)]
            rwa [e] at this
      · rename_i id off sz len
        split at h <;> cases h
        rename_i hsz
        obtain ⟨h0, h1⟩ := hc
        obtain ⟨n, rfl⟩ := Int.eq_ofNat_of_zero_le h0
        have hn : n < len := by omega
        obtain ⟨hid, hnb, hx⟩ := rel_ms.1 hx
        rcases hx with ⟨rfl, _⟩ | ⟨blk, cap, C, ty, fr, hg, rfl, hle, hb, hcap, _⟩
        · omega
        refine Out.same hs (v := .pointer (some ⟨blk, off + n * sz, none⟩)) ?_ ?_
        · dsimp only at hsz
          simp only [Instr.indexAt, Sem.run_bind, run_asInt, Result.andThen_ok, run_und hu, Sem.run_pure]
          simp [hn, run_size heinf, addr_add, hsz]
        · exact rel_ptr.2 ⟨hid, hnb, blk, hg, by simp⟩
      · cases h
    · cases h
  · rename_i na e k i hd
    rw [rel_int hix]
    obtain ⟨d, it, hu, hi, hd⟩ := td_of hd
    cases d <;> simp [tdOf] at hd
    obtain ⟨rfl, rfl⟩ := hd
    split at h
    · rename_i te hte
      obtain ⟨ed, einf, ez, hed, heinf, hez, rfl⟩ := ti_spec hte
      split at h <;> cases h
      · rename_i id off
        obtain ⟨h0, h1⟩ := hc
        obtain ⟨hid, hnb, blk, hg, rfl⟩ := rel_ptr.1 hx
        obtain ⟨n, rfl⟩ := Int.eq_ofNat_of_zero_le h0
        have hn : n < _ := Int.ofNat_lt.1 h1
        refine Out.same hs (v := .pointer (some ⟨blk, off + n * einf.size, none⟩)) ?_ (rel_ptr.2 ⟨hid, hnb, blk, hg, by simp⟩)
        simp only [Instr.indexAt, Sem.run_bind, run_asInt, Result.andThen_ok, run_und hu, Sem.run_pure]
        simp [hn, run_size heinf, addr_add, Instr.sureAddr]
      · rename_i cs
        obtain ⟨h0, h1, h2⟩ := hc
        obtain ⟨blk, off, C, ty, fr, rfl, hb, himm, hr⟩ := rel_cptr.1 hx
        obtain ⟨n, rfl⟩ := Int.eq_ofNat_of_zero_le h0
        have hn : n < _ := Int.ofNat_lt.1 h1
        have hmul := Nat.mul_le_mul_right einf.size (Nat.le_of_lt hn)
        dsimp only at h2
        refine Out.same hs (v := .pointer (some ⟨blk, off + n * einf.size, none⟩)) ?_ (rel_cptr.2 ⟨blk, off + n * einf.size, C, ty, fr, rfl, hb, himm.le (by simp; omega), by simpa using hr.drop (n * einf.size)⟩)
        simp only [Instr.indexAt, Sem.run_bind, run_asInt, Result.andThen_ok, run_und hu, Sem.run_pure]
        simp [hn, run_size heinf, addr_add, Instr.sureAddr]
    · cases h
  · cases h

theorem sound_rIndex (hs : State w γ H) {t : TypeId} {x ix : AV} {v vi : Value} {r : R} (hx : Rel w γ H x v) (hix : Rel w γ H ix vi) (h : zhu P t x ix H = some r) (hc : r.c) :
    Out P w γ H r.v r.H ((Instr.index t v vi).run P w) := by
  unfold zhu at h
  split at h
  · rename_i s k i hd
    rw [rel_int hix, rel_str hx]
    obtain ⟨d, it, hu, hi, hd⟩ := td_of hd
    cases d <;> simp [tdOf] at hd
    cases h
    obtain ⟨h0, h1⟩ := hc
    obtain ⟨n, rfl⟩ := Int.eq_ofNat_of_zero_le h0
    have hn : n < s.length := by omega
    refine Out.same hs (v := .int .u8 (s[n].toNat : Int)) ?_ ?_
    · have hlt : n < (ByteArray.mk s.toArray).size := by rw [size_mk]; exact hn
      have e : (ByteArray.mk s.toArray)[n]? = some s[n] := by
        rw [getElem?_pos (ByteArray.mk s.toArray) n hlt]; rfl
      simp only [Instr.index, Sem.run_bind, run_asInt, Result.andThen_ok, run_und hu]
      simp [e]
    · rw [Rel]; simp [List.getD, hn]
  · rename_i na e cs k i hd
    rw [rel_int hix]
    obtain ⟨d, it, hu, hi, hd⟩ := td_of hd
    cases d <;> simp [tdOf] at hd
    obtain ⟨rfl, rfl⟩ := hd
    obtain ⟨C, rfl, hC, hCr⟩ := rel_agg hx
    split at h
    · rename_i te hte
      have hti := hte
      obtain ⟨ed, einf, ez, hed, heinf, hez, rfl⟩ := ti_spec hte
      split at h <;> cases h
      · rename_i hag
        obtain ⟨h0, h1, h2⟩ := hc
        obtain ⟨n, rfl⟩ := Int.eq_ofNat_of_zero_le h0
        have hn : n < _ := Int.ofNat_lt.1 h1
        have hmul := Nat.mul_le_mul_right einf.size hn
        rw [Nat.succ_mul] at hmul
        dsimp only at h2 hag
        have := sound_part hs hti hC hCr (off := n * einf.size) (r := ⟨n * einf.size + einf.size ≤ cs.length, .agg ((cs.drop (n * einf.size)).take einf.size), H⟩) (by simp [zho, hag]) (by dsimp only; omega)
        simp only [Instr.index, Sem.run_bind, run_asInt, Result.andThen_ok, run_und hu]
        simpa [hn, run_size heinf] using this
      · rename_i hag
        obtain ⟨h0, h1, h2, h3⟩ := hc
        obtain ⟨n, rfl⟩ := Int.eq_ofNat_of_zero_le h0
        have hn : n < _ := Int.ofNat_lt.1 h1
        have hmul := Nat.mul_le_mul_right einf.size hn
        rw [Nat.succ_mul] at hmul
        dsimp only at h2 hag h3
        have := sound_part hs hti hC hCr (off := n * einf.size) (r := ⟨n * einf.size < cs.length, cs.getD (n * einf.size) .junk, H⟩) (by simp [zho, hag]) (by dsimp only; omega)
        simp only [Instr.index, Sem.run_bind, run_asInt, Result.andThen_ok, run_und hu]
        simpa [hn, run_size heinf] using this
    · cases h
  · cases h

end
end Go.AL
