/- The abstract layer: the rules are sound, 4: operations on memory. -/
import Derived.Test.YtnhghceobhdaoaaAlSound3
namespace Go.AL
set_option linter.all false
set_option linter.unusedSectionVars false

section
variable {P : Program} {w : World} {γ : Conc} {H : AHeap}

theorem size_mk (s : List UInt8) : (ByteArray.mk s.toArray).size = s.length := by
  show s.toArray.size = s.length; simp

theorem td_of {t : TypeId} {a : TD} (h : (ti P t).map TI.desc = some a) : ∃ d i, P.underlying t = some d ∧ ti P t = some i ∧ tdOf d = a := by
  cases hi : ti P t with
  | none => rw [hi] at h; cases h
  | some i =>
    obtain ⟨d, inf, z, hd, _, _, rfl⟩ := ti_spec hi
    rw [hi] at h; cases h
    exact ⟨d, _, hd, rfl, rfl⟩

/-! ### New objects -/
theorem push_cells (hs : State w γ H) {cs : List AV} {C : Array Value} (hC : C.size = cs.length) (hr : AtR (Rel w γ H) cs C 0) (ty : TypeId) :
    ∃ γ', State (w.alloc (.cells C ty)) γ' (H.push (.cells cs)) ∧ Ext w γ H (w.alloc (.cells C ty)) γ' (H.push (.cells cs)) ∧ γ' H.nx = some w.heap.size := by
  have he := ext_push hs (w' := w.alloc (.cells C ty)) rfl rfl rfl (by simp) (fun b hb => alloc_lt w _ hb) (some w.heap.size) (fun b h => by cases h; exact Nat.le_refl _) (.cells cs)
  refine ⟨_, state_push hs (fun b h => by cases h; simp) he (fun b hb => alloc_lt w _ hb) (.inl ⟨cs, C, ty, (0, 0), w.heap.size, rfl, rfl, alloc_new w _, by omega, hr, ?_⟩), he, upd_same _ _ _⟩
  intro p _ _ h; simp at h

theorem notBuf_push_cells (H : AHeap) (cs : List AV) : notBuf (H.push (.cells cs)) H.nx := fun sz n h => by
  rw [AHeap.get_push_new] at h; cases h

theorem rel_new (hs : State w γ H) {cs : List AV} {C : Array Value} (hC : C.size = cs.length) (hr : AtR (Rel w γ H) cs C 0) (ty : TypeId) {run : Result Value}
    (hrun : run = .ok (.pointer (some ⟨w.heap.size, 0, none⟩)) (w.alloc (.cells C ty))) : Out P w γ H (.ptr H.nx 0) (H.push (.cells cs)) run := by
  obtain ⟨γ', h1, h2, h3⟩ := push_cells hs hC hr ty
  exact ⟨_, _, γ', hrun, h1, h2, rel_ptr.2 ⟨by rw [AHeap.nx_push]; omega, notBuf_push_cells _ _, _, h3, rfl⟩⟩

theorem scalarOf_cells (z : Value) : (scalarOf z).cells = [scalarOf z] := by
  unfold scalarOf; split <;> rfl

theorem AtR.single {R : AV → Value → Prop} {x : AV} {v : Value} (h : R x v) : AtR R [x] #[v] 0 := fun j hj => by
  simp at hj; subst hj; exact ⟨v, rfl, h⟩

theorem ofValue_cells (z : Value) : z.cells.size = (ofValue z).cells.length ∧ AtR (Rel w γ H) (ofValue z).cells z.cells 0 := by
  cases z with
  | agg cs =>
    have := rel_ofValue (w := w) (γ := γ) (H := H) (.agg cs)
    simp only [ofValue] at this ⊢
    exact Rel.cells this (by simp) (by simp)
  | _ =>
    simp only [ofValue, Value.cells, scalarOf_cells]
    exact ⟨rfl, AtR.single (rel_scalarOf _)⟩

theorem sound_rAlloc (hs : State w γ H) {t : TypeId} {r : R} (h : zhj P t H = some r) : Out P w γ H r.v r.H ((Instr.alloc t true (.tuple #[])).run P w) := by
  unfold zhj at h
  split at h <;> cases h
  rename_i i hi
  obtain ⟨d, inf, z, hd, hinf, hz, rfl⟩ := ti_spec hi
  obtain ⟨h1, h2⟩ := ofValue_cells (w := w) (γ := γ) (H := H) z
  exact rel_new hs h1 h2 t (by simp [Instr.alloc, run_zero hinf hz, newVar, newRow])

theorem sound_rBox (hs : State w γ H) {t : TypeId} {x : AV} {v : Value} {r : R} (hx : Rel w γ H x v) (h : rBox x H = some r) : Out P w γ H r.v r.H ((Instr.box t v).run P w) := by
  unfold rBox at h
  split at h
  · cases h
  · cases h
  · rename_i hj ht
    cases h
    obtain ⟨h1, h2⟩ := Rel.cells hx (fun e => hj e) (fun vs e => ht vs e)
    exact rel_new hs h1 h2 t (by simp [Instr.box, newVar, newRow])

theorem sound_rPick (hs : State w γ H) {c a b : AV} {vc va vb : Value} {r : R} (hc : Rel w γ H c vc) (ha : Rel w γ H a va) (hb : Rel w γ H b vb) (h : zhi c a b H = some r) :
    ∃ v, (do pure (if ← asBool vc then va else vb) : Sem Value).run P w = .ok v w ∧ r.H = H ∧ Rel w γ H r.v v := by
  unfold zhi at h
  split at h <;> cases h
  rename_i t
  rw [rel_bool hc]
  cases t
  · exact ⟨vb, by simp [asBool], rfl, hb⟩
  · exact ⟨va, by simp [asBool], rfl, ha⟩

theorem sound_rAssign (hs : State w γ H) {t : TypeId} {x : Operand} {a : Act} {y : AV} {r : R} (hx : Rel w γ H y (a.eval x)) (h : zhd P t x y H = some r) :
    Out P w γ H r.v r.H (.ok (a.eval x) w) := by
  unfold zhd at h
  split at h
  · split at h <;> cases h
    · rename_i e _
      have he := ext_push hs (w' := w) rfl rfl rfl (Nat.le_refl _) (fun _ _ => rfl) none (fun b h => by cases h) (.buf (zic P e) 0)
      refine ⟨_, w, _, rfl, state_push hs (fun b h => by cases h) he (fun _ _ => rfl) (.inr ⟨_, _, rfl⟩), he, ?_⟩
      refine rel_slice.2 (.inl ⟨⟨none, rfl⟩, rfl, by rw [AHeap.nx_push]; omega, fun sz' n h => ?_⟩)
      rw [AHeap.get_push_new] at h; cases h; rfl
    · exact Out.same hs rfl hx
  · cases h; exact Out.same hs rfl hx

theorem sound_rIface (hs : State w γ H) {t : TypeId} {x : AV} {v : Value} {r : R} (hx : Rel w γ H x v) (h : zhw P t x H = some r) :
    Out P w γ H r.v r.H ((Instr.makeInterface t v).run P w) := by
  unfold zhw at h
  split at h
  · cases h
  · rename_i a ha hne
    cases h
    obtain ⟨d, i, hd, hi, rfl⟩ := td_of hne
    refine Out.same hs (v := .iface t v) ?_ (by rw [Rel]; exact ⟨v, rfl, hx⟩)
    simp only [Instr.makeInterface, Sem.run_bind, run_und hd, Result.andThen_ok]
    split
    · rename_i ms; exact (ha _ rfl).elim
    · rfl
  · cases h

theorem sound_rExtract (hs : State w γ H) {x : AV} {n : Nat} {v : Value} {r : R} (hx : Rel w γ H x v) (h : zhx x n H = some r) (hc : r.c) :
    Out P w γ H r.v r.H ((Instr.extract v n).run P w) := by
  unfold zhx at h
  split at h <;> cases h
  rename_i vs
  rw [Rel] at hx
  obtain ⟨C, rfl, hC, hr⟩ := hx
  have hn : n < vs.length := hc
  obtain ⟨u, hu, hr⟩ := hr n hn
  refine Out.same hs (v := u) (by simp [Instr.extract, hu]) ?_
  simpa [List.getD, hn] using hr

theorem sound_rMinMax (hs : State w γ H) {mx : Bool} {l : List AV} {vs : List Value} {r : R} (hl : vs.length = l.length) (hx : ∀ (j : Nat) x v, l[j]? = some x → vs[j]? = some v → Rel w γ H x v)
    (h : zib mx l H = some r) (ts : Array TypeId) (t : TypeId) :
    Out P w γ H r.v r.H ((if mx then Builtin.max_ ts t vs.toArray else Builtin.min_ ts t vs.toArray).run P w) := by
  unfold zib at h
  split at h
  · rename_i k a k' b
    split at h <;> cases h
    rename_i hk; subst hk
    match vs, hl with
    | [v, u], _ =>
      have h1 := rel_int (hx 0 _ v rfl rfl)
      have h2 := rel_int (hx 1 _ u rfl rfl)
      subst h1; subst h2
      cases mx
      · refine Out.same hs (v := .int k (min a b)) ?_ (mk_int _ _)
        simp [Builtin.min_, Builtin.min2]
        split <;> (congr 2; omega)
      · refine Out.same hs (v := .int k (max a b)) ?_ (mk_int _ _)
        simp [Builtin.max_, Builtin.max2]
        split <;> (congr 2; omega)
  · cases h

theorem sound_rLen (hs : State w γ H) {t : TypeId} {x : AV} {v : Value} {r : R} (hx : Rel w γ H x v) (h : rLen P t x H = some r) (ts : Array TypeId) (hts : ts[0]? = some t) (ty : TypeId) :
    Out P w γ H r.v r.H ((Builtin.len_ ts ty #[v]).run P w) := by
  unfold rLen at h
  split at h
  · rename_i s hd
    cases h
    obtain ⟨d, i, hu, hi, hd⟩ := td_of hd
    cases d <;> simp [tdOf] at hd
    rw [rel_str hx]
    exact Out.same hs (v := .int .i64 s.length) (by simp [Builtin.len_, hts, run_und hu, goInt, size_mk]) (mk_int _ _)
  · rename_i e m sz xs hd
    cases h
    obtain ⟨d, i, hu, hi, hd⟩ := td_of hd
    cases d <;> simp [tdOf] at hd
    refine Out.same hs (v := .int .i64 xs.length) ?_ (mk_int _ _)
    rcases rel_slice.1 hx with ⟨⟨a, rfl⟩, rfl, _⟩ | ⟨blk, off, cap, C, ty, fr, rfl, _⟩ <;> simp [Builtin.len_, hts, run_und hu, goInt]
  · rename_i e id off sz len hd
    cases h
    obtain ⟨d, i, hu, hi, hd⟩ := td_of hd
    cases d <;> simp [tdOf] at hd
    refine Out.same hs (v := .int .i64 len) ?_ (mk_int _ _)
    obtain ⟨_, _, hx⟩ := rel_ms.1 hx
    rcases hx with ⟨rfl, a, rfl⟩ | ⟨blk, cap, C, ty, fr, _, rfl, _⟩ <;> simp [Builtin.len_, hts, run_und hu, goInt]
  · rename_i n e hd
    cases h
    obtain ⟨d, i, hu, hi, hd⟩ := td_of hd
    cases d <;> simp [tdOf] at hd
    obtain ⟨rfl, rfl⟩ := hd
    refine Out.same hs (v := .int .i64 _) ?_ (mk_int _ _)
    simp [Builtin.len_, hts, run_und hu, goInt]
  · cases h


/-! ### Loads and stores -/
/-- a run that leaves the world as it is -/
def OutS (P : Program) (w : World) (γ : Conc) (H : AHeap) (r : R) (run : Result Value) : Prop := r.H = H ∧ ∃ v, run = .ok v w ∧ Rel w γ H r.v v
theorem OutS.mk {c : Prop} {x : AV} {v : Value} {run : Result Value} (h : run = .ok v w) (hr : Rel w γ H x v) : OutS P w γ H ⟨c, x, H⟩ run := ⟨rfl, v, h, hr⟩
theorem OutS.out (hs : State w γ H) {r : R} {run : Result Value} (h : OutS P w γ H r run) : Out P w γ H r.v r.H run := by
  obtain ⟨h1, v, h2, h3⟩ := h
  rw [h1]; exact Out.same hs h2 h3

theorem run_loadVar {t : TypeId} {d : TypeDesc} {inf : TypeInfo} {z : AV} (hd : P.underlying t = some d) (hi : P.info? t = some inf) {blk off : Nat} {C : Array Value} {ty : TypeId} {fr : Nat × Nat}
    (hb : w.heap[blk]? = some (.cells C ty fr)) {cs : List AV} {o : Nat} (hr : AtR (Rel w γ H) cs C o) {i : Nat} (ho : off = o + i) {r : R} {H' : AHeap}
    (h : zho ⟨tdOf d, inf.size, inf.bytes, z⟩ cs i H = some r) (hc : r.c) (hs : State w γ H) (hz : cs.length + o ≤ C.size) :
    OutS P w γ H r ((loadVar t ⟨blk, off, none⟩).run P w) := by
  subst ho
  unfold zho at h
  by_cases ha : (tdOf d).agg = true
  · simp only [ha, if_true] at h
    cases h
    have hle : i + inf.size ≤ cs.length := hc
    refine OutS.mk (v := .agg (C.extract (o + i) (o + i + inf.size))) (by simp [loadVar, run_agg hd, ha, run_size hi, run_load_row (P := P) hb (off := o + i) (n := inf.size) (by omega)]) ?_
    refine mk_agg (by simp; omega) fun j hj => ?_
    simp only [List.length_take, List.length_drop] at hj
    obtain ⟨u, hu, hr⟩ := hr (i + j) (by omega)
    refine ⟨u, ?_, by simpa using hr⟩
    rw [Nat.zero_add, Array.getElem?_extract, if_pos (by omega), ← hu]
    congr 1; omega
  · simp only [ha, if_false, Bool.false_eq_true] at h
    cases h
    have hlt : i < cs.length := hc
    obtain ⟨u, hu, hr⟩ := hr i hlt
    refine OutS.mk (v := u) ?_ (by simpa [List.getD, hlt] using hr)
    have hcell := cell_row hb (o + i)
    rw [hu] at hcell
    simp [loadVar, run_agg hd, ha, hcell]

theorem obj_cells (hs : State w γ H) {id : Nat} {cs : List AV} (h : cellsOf? H id = some cs) : H.get id = some (.cells cs) ∧
    ∃ blk C ty fr, γ id = some blk ∧ w.heap[blk]? = some (.cells C ty fr) ∧ cs.length = C.size ∧ AtR (Rel w γ H) cs C 0 ∧ thawed fr 0 cs.length := by
  unfold cellsOf? at h
  split at h <;> cases h
  rename_i ho
  exact ⟨ho, hs.obj _ _ ho⟩

theorem sound_rLoadS (hs : State w γ H) {t : TypeId} {a : AV} {v : Value} {r : R} (ha : Rel w γ H a v) (h : zhn P t a H = some r) (hc : r.c) :
    OutS P w γ H r ((Instr.loadAt t v).run P w) := by
  unfold zhn at h
  split at h
  · rename_i i id off hi
    split at h
    · rename_i cs hcs
      obtain ⟨d, inf, z, hd, hinf, hz, rfl⟩ := ti_spec hi
      obtain ⟨ho, blk, C, ty, fr, hg, hb, hsz, hr, _⟩ := obj_cells hs hcs
      obtain ⟨_, _, blk', hg', rfl⟩ := rel_ptr.1 ha
      rw [hg] at hg'; cases hg'
      have := run_loadVar (H' := H) hd hinf hb (o := 0) hr (i := off) (Nat.zero_add _).symm h hc hs (by omega)
      simpa [Instr.loadAt, Instr.sureAddr] using this
    · cases h
  · rename_i i cs hi
    obtain ⟨d, inf, z, hd, hinf, hz, rfl⟩ := ti_spec hi
    obtain ⟨blk, off, C, ty, fr, rfl, hb, _, hr⟩ := rel_cptr.1 ha
    have hsz : cs.length + off ≤ C.size ∨ cs.length = 0 := by
      cases hcs : cs.length with
      | zero => exact .inr rfl
      | succ n =>
        obtain ⟨u, hu, _⟩ := hr n (by omega)
        have := (Array.getElem?_eq_some_iff.1 hu).1
        exact .inl (by omega)
    rcases hsz with hsz | hsz
    · have := run_loadVar (H' := H) hd hinf hb hr (i := 0) rfl h hc hs hsz
      simpa [Instr.loadAt, Instr.sureAddr] using this
    · have hnil : cs = [] := List.eq_nil_of_length_eq_zero hsz
      subst hnil
      unfold zho at h
      by_cases hag : (tdOf d).agg = true
      · simp only [hag, if_true] at h
        cases h
        have h0 : inf.size = 0 := by have : 0 + inf.size ≤ ([] : List AV).length := hc; simpa using this
        refine OutS.mk (v := .agg #[]) (by simp [Instr.loadAt, Instr.sureAddr, loadVar, run_agg hd, hag, run_size hinf, h0, loadCells, loadCellsFrom]) ?_
        exact mk_agg (by simp) (by simpa using AtR.nil)
      · simp only [hag, if_false, Bool.false_eq_true] at h
        cases h
        exact absurd hc (by simp)
  · cases h

theorem sound_rLoad (hs : State w γ H) {t : TypeId} {a : AV} {v : Value} {r : R} (ha : Rel w γ H a v) (h : zhn P t a H = some r) (hc : r.c) :
    Out P w γ H r.v r.H ((Instr.loadAt t v).run P w) := (sound_rLoadS hs ha h hc).out hs

theorem sound_rStore (hs : State w γ H) {t : TypeId} {a x : AV} {v u : Value} {r : R} (ha : Rel w γ H a v) (hx : Rel w γ H x u) (h : zhp P t a x H = some r) (hc : r.c) :
    ∃ w', (Instr.storeAt t v u).run P w = .ok () w' ∧ State w' γ r.H ∧ Ext w γ H w' γ r.H := by
  unfold zhp at h
  split at h
  · rename_i i id off hi
    split at h
    · rename_i cs hcs
      split at h
      · rename_i hcond
        obtain ⟨hlen, hone⟩ := hcond
        cases h
        have hle : off + i.size ≤ cs.length := hc
        obtain ⟨d, inf, z, hd, hinf, hz, rfl⟩ := ti_spec hi
        obtain ⟨ho, blk, C, ty, fr, hg, hb, hsz, hr, hth⟩ := obj_cells hs hcs
        obtain ⟨_, _, blk', hg', rfl⟩ := rel_ptr.1 ha
        rw [hg] at hg'; cases hg'
        have hnj : x ≠ .junk ∧ ∀ vs, x ≠ .tup vs := by
          constructor
          · rintro rfl; simp [AV.cells, allOne, AV.one] at hone
          · rintro vs rfl; simp [AV.cells, allOne, AV.one] at hone
        obtain ⟨hu1, hu2⟩ := Rel.cells hx hnj.1 hnj.2
        dsimp only at hle hlen
        have hul : u.cells.toList.length = x.cells.length := by simpa using hu1
        have hst := run_storeCells_fr (P := P) blk off ty fr u.cells.toList 0 C w hb (by omega) (all_one hu2 hu1 hone) (fun p h1 h2 => hth p (by omega) (by omega))
        have he := ext_row hs hg hb (C' := spliceC C off u.cells.toList) (spliceC_size _ _ _ (by omega)) ho (o' := .cells (splice cs off x.cells)) (.inl ⟨_, _, rfl, rfl⟩)
        refine ⟨_, ?_, state_row hs hg hb (spliceC_size _ _ _ (by omega)) ho he (.inl ⟨_, rfl, ?_, ?_, ?_⟩), he⟩
        · simp only [Instr.storeAt, Instr.sureAddr, Sem.run_bind, Sem.run_pure, Result.andThen_ok, storeVar, run_size hinf]
          rw [if_neg (by omega)]
          simpa [spliceC] using hst
        · rw [splice_length _ _ _ (by omega), spliceC_size _ _ _ (by omega)]; exact hsz
        · exact hr.splice hu2 hul (by omega) (Nat.le_of_eq hsz)
        · rw [splice_length _ _ _ (by omega)]; exact hth
      · cases h
    · cases h
  · cases h

end
end Go.AL
