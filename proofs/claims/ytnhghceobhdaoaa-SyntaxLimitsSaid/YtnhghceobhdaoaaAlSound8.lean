/- Contracts and plain laws, a part of the proof; no condition of its own. -/
import Derived.Test.YtnhghceobhdaoaaAlSound7
/- The abstract layer: the rules are sound, 8: make, append, copy, assertions. -/
namespace Go.AL
set_option linter.all false
set_option linter.unusedSectionVars false

theorem wrap64_id {n : Int} (h1 : -9223372036854775808 ≤ n) (h2 : n ≤ 9223372036854775807) : IntKind.i64.wrap n = n := by
  rw [IntKind.wrap_i64]; omega

section
variable {P : Program} {w : World} {γ : Conc} {H : AHeap}

theorem rep_get {cs : List AV} : ∀ (n j : Nat), j < n * cs.length → ((List.replicate n cs).flatten)[j]? = cs[j % cs.length]?
  | 0, j, h => by simp at h
  | n + 1, j, h => by
    rw [List.replicate_succ, List.flatten_cons]
    rw [Nat.add_mul, Nat.one_mul] at h
    by_cases hj : j < cs.length
    · rw [List.getElem?_append_left hj, Nat.mod_eq_of_lt hj]
    · rw [List.getElem?_append_right (by omega), rep_get n _ (by omega)]
      congr 1
      rw [← Nat.mod_eq_sub_mod (by omega)]

theorem sound_rMake (hs : State w γ H) {t : TypeId} {l c : AV} {vl vc : Value} {r : R} (hl : Rel w γ H l vl) (hcv : Rel w γ H c vc) (h : zhf P t l c H = some r) (hc : r.c) :
    Out P w γ H r.v r.H ((Instr.makeSlice t vl vc).run P w) := by
  unfold zhf at h
  split at h
  · rename_i e n m hd
    have hu := td_slice hd
    rw [rel_int hl, rel_int hcv]
    split at h
    · rename_i te hte
      obtain ⟨ed, einf, ez, hed, heinf, hez, rfl⟩ := ti_spec hte
      split at h <;> cases h
      rename_i hz
      obtain ⟨rfl, h0, hb, hn⟩ := hc
      dsimp only at hz hb
      obtain ⟨n, rfl⟩ := Int.eq_ofNat_of_zero_le h0
      obtain ⟨z1, z2⟩ := ofValue_cells (w := w) (γ := γ) (H := H) ez
      let C : Array Value := madeCells ez.cells (n * einf.size)
      have hC : C.size = ((List.replicate n (ofValue ez).cells).flatten).length := by simp [C, madeCells, hz]
      have hr : AtR (Rel w γ H) (List.replicate n (ofValue ez).cells).flatten C 0 := by
        intro j hj
        have hj' : j < n * einf.size := by simpa [hz] using hj
        have hpos : 0 < einf.size := by
          rcases Nat.eq_zero_or_pos einf.size with h | h
          · rw [h] at hj'; simp at hj'
          · exact h
        have hm : j % einf.size < (ofValue ez).cells.length := by rw [hz]; exact Nat.mod_lt _ hpos
        obtain ⟨u, hu, hr⟩ := z2 (j % einf.size) hm
        have hget := rep_get (cs := (ofValue ez).cells) n j (by rw [hz]; exact hj')
        rw [List.getElem?_eq_getElem hj, hz, List.getElem?_eq_getElem hm] at hget
        refine ⟨u, ?_, by rw [Option.some.inj hget]; exact hr⟩
        rw [Nat.zero_add] at hu ⊢
        have hzs : ez.cells.size = einf.size := by rw [z1, hz]
        simp only [C, madeCells, Array.getElem?_map, hzs]
        rw [Array.getElem?_eq_getElem (by simpa using hj')]
        simp only [Option.map_some, Array.getElem_range]
        rw [getElem!_def, hu]
      obtain ⟨γ', s1, s2, s3⟩ := push_cells hs hC hr e
      have hrun := run_make (P := P) w t e einf ez hu heinf hez .i64 .i64 n n (by omega) (by omega) (by rw [Int.mul_comm]; omega) (by omega)
      simp only [Int.toNat_natCast] at hrun
      refine ⟨_, _, γ', hrun, s1, s2, ?_⟩
      refine rel_ms.2 ⟨by rw [AHeap.nx_push]; omega, notBuf_push_cells _ _, .inr ⟨w.heap.size, n, C, e, (0, 0), s3, by simp, by simp, alloc_new w _, by simp [C, madeCells], ?_⟩⟩
      intro p _ _ h; simp at h
    · cases h
  · cases h

/-! ### What is appended -/
theorem AtR.extract {R : AV → Value → Prop} {cs : List AV} {C : Array Value} {off n : Nat} (h : AtR R cs C off) (hn : cs.length = n) : AtR R cs (C.extract off (off + n)) 0 := fun j hj => by
  obtain ⟨u, hu, hr⟩ := h j hj
  have := (Array.getElem?_eq_some_iff.1 hu).1
  exact ⟨u, by rw [Nat.zero_add, Array.getElem?_extract, if_pos (by omega)]; exact hu, hr⟩

theorem rowsOf_len (sz : Nat) : ∀ (n : Nat) (cs : List AV), (rowsOf sz n cs).length = n
  | 0, _ => rfl
  | n + 1, cs => by simp [rowsOf, rowsOf_len sz n]

theorem rowsOf_get (sz : Nat) : ∀ (n : Nat) (cs : List AV) (i : Nat) (hi : i < (rowsOf sz n cs).length),
    (rowsOf sz n cs)[i] = if sz = 1 then cell1 (cs.getD i .junk) else .agg ((List.range sz).map fun j => cs.getD (i * sz + j) .junk)
  | 0, cs, i, hi => by simp [rowsOf] at hi
  | n + 1, cs, i, hi => by
    simp only [rowsOf]
    cases i with
    | zero => simp
    | succ i =>
      simp only [List.getElem_cons_succ]
      rw [rowsOf_get sz n]
      have e : ∀ j, (cs.drop sz).getD j .junk = cs.getD (j + sz) .junk := fun j => by simp [List.getD_eq_getElem?_getD, Nat.add_comm]
      by_cases h1 : sz = 1
      · subst h1; rw [if_pos rfl, if_pos rfl, e]
      · rw [if_neg h1, if_neg h1]
        congr 1
        refine List.map_congr_left fun j _ => ?_
        rw [e]; congr 1; rw [Nat.add_mul]; omega

theorem cell1_cells (v : AV) : (cell1 v).cells = [cell1 v] := by cases v <;> rfl

theorem rel_cell1 {x : AV} {v : Value} (h : Rel w γ H x v) : Rel w γ H (cell1 x) v := by
  cases x <;> first | exact h | (simp only [cell1]; rw [Rel]; trivial)

/-- a row that can be read now -/
def Seen (w : World) (γ : Conc) (H : AHeap) (sz : Nat) (xs : List AV) (v : Value) : Prop :=
  ((∃ a, v = .slice a 0 0) ∧ xs = []) ∨ ∃ blk off cap C ty fr, v = .slice (some ⟨blk, off, none⟩) xs.length cap ∧ xs.length ≤ cap ∧ w.heap[blk]? = some (.cells C ty fr) ∧ off + cap * sz ≤ C.size ∧
    (∀ z ∈ xs, z.cells.length = sz) ∧ AtR (Rel w γ H) (flat xs) C off

theorem seen_slice {m : Mark} {sz : Nat} {xs : List AV} {v : Value} (h : Rel w γ H (.slice m sz xs) v) : Seen w γ H sz xs v := by
  rcases rel_slice.1 h with ⟨h1, h2, _⟩ | ⟨blk, off, cap, C, ty, fr, rfl, hle, hb, hcap, himm, hm, hall, hr⟩
  · exact .inl ⟨h1, h2⟩
  · exact .inr ⟨blk, off, cap, C, ty, fr, rfl, hle, hb, hcap, hall, hr⟩

theorem seen_ms (hs : State w γ H) {id off sz len : Nat} {cs : List AV} {v : Value} (h : Rel w γ H (.ms id off sz len) v) (hc : cellsOf? H id = some cs) : Seen w γ H sz (rowsOf sz len (cs.drop off)) v := by
  obtain ⟨ho, blk, C, ty, fr, hg, hb, hsz, hr, _⟩ := obj_cells hs hc
  obtain ⟨_, _, h3⟩ := rel_ms.1 h
  rcases h3 with ⟨rfl, h3⟩ | ⟨blk', cap, C', ty', fr', hg', rfl, hle, hb', hcap, _⟩
  · exact .inl ⟨h3, rfl⟩
  · rw [hg] at hg'; cases hg'
    rw [hb] at hb'; cases hb'
    have hrows := (rows_iff (R := Rel w γ H) (C := C) (sz := sz) (rowsOf sz len (cs.drop off)) off).1 fun i hi => by
      have hlen : i < len := by rw [rowsOf_len] at hi; exact hi
      have hmul : (i + 1) * sz ≤ cap * sz := Nat.mul_le_mul_right _ (by omega)
      rw [Nat.add_mul] at hmul
      have hcell : ∀ j, j < sz → ∃ u, C[off + i * sz + j]? = some u ∧ Rel w γ H ((cs.drop off).getD (i * sz + j) .junk) u := fun j hj => by
        have hlt2 : off + i * sz + j < C.size := by omega
        refine ⟨C[off + i * sz + j], by simp [hlt2], ?_⟩
        have hin : off + (i * sz + j) < cs.length := by omega
        obtain ⟨u, hu, hru⟩ := hr (off + (i * sz + j)) hin
        have : C[off + i * sz + j] = u := by
          have e1 : 0 + (off + (i * sz + j)) = off + i * sz + j := by omega
          rw [e1] at hu
          exact Option.some.inj ((by simp [hlt2] : some C[off + i * sz + j] = C[off + i * sz + j]?).trans hu)
        rw [this]
        have e2 : (cs.drop off).getD (i * sz + j) .junk = cs[off + (i * sz + j)] := by simp [List.getD_eq_getElem?_getD, hin]
        rw [e2]; exact hru
      have hget := rowsOf_get sz len (cs.drop off) i hi
      by_cases h1 : sz = 1
      · subst h1
        rw [if_pos rfl] at hget
        rw [hget]
        refine ⟨by rw [cell1_cells]; rfl, fun j hj => ?_⟩
        have hj0 : j = 0 := by rw [cell1_cells] at hj; simpa using hj
        subst hj0
        obtain ⟨u, hu, hru⟩ := hcell 0 (by omega)
        refine ⟨u, hu, ?_⟩
        have e3 : (cell1 ((cs.drop off).getD i .junk)).cells[0]'hj = cell1 ((cs.drop off).getD i .junk) := by simp only [cell1_cells, List.getElem_cons_zero]
        rw [e3]
        exact rel_cell1 (by simpa using hru)
      · rw [if_neg h1] at hget
        rw [hget]
        refine ⟨by simp [AV.cells], fun j hj => ?_⟩
        have hj' : j < sz := by simpa [AV.cells] using hj
        obtain ⟨u, hu, hru⟩ := hcell j hj'
        exact ⟨u, hu, by simpa [AV.cells] using hru⟩
    exact .inr ⟨blk, off, cap, C, ty, fr, by rw [rowsOf_len], by rw [rowsOf_len]; exact hle, hb, hcap, hrows.1, hrows.2⟩

theorem seen_cells {te : TI} {sz : Nat} {zs : List AV} {v : Value} (hsz : sz = te.size ∨ zs = []) (h : Seen w γ H sz zs v) (hone : ∀ z ∈ zs, allOne z.cells = true) :
    (Builtin.lenOf v).run P w = .ok zs.length w ∧ (∀ z ∈ zs, z.cells.length = te.size) ∧
    ∀ n, n ≤ zs.length → ∃ us : Array Value, (Builtin.firstCells te.size n v).run P w = .ok us w ∧ us.size = n * te.size ∧ AtR (Rel w γ H) (flat (zs.take n)) us 0 ∧ ∀ u ∈ us.toList, u.oneCell' = true := by
  rcases h with ⟨⟨a, rfl⟩, rfl⟩ | ⟨blk, off, cap, C, ty, fr, rfl, hle, hb, hcap, hall, hr⟩
  · refine ⟨by simp [Builtin.lenOf], by simp, fun n hn => ⟨#[], ?_, ?_, by simpa [flat] using AtR.nil, by simp⟩⟩
    · have h0 : n = 0 := by simpa using hn
      subst h0
      cases a <;> simp [Builtin.firstCells, loadCells, loadCellsFrom]
    · have h0 : n = 0 := by simpa using hn
      simp [h0]
  · have hall' : ∀ z ∈ zs, z.cells.length = te.size := fun z hz => by
      rcases hsz with rfl | rfl
      · exact hall z hz
      · cases hz
    refine ⟨by simp [Builtin.lenOf], hall', fun n hn => ?_⟩
    have e1 : n * te.size ≤ zs.length * te.size := Nat.mul_le_mul_right _ hn
    have e2 : zs.length * te.size = zs.length * sz := by
      rcases hsz with rfl | rfl
      · rfl
      · simp
    have e3 : zs.length * sz ≤ cap * sz := Nat.mul_le_mul_right _ hle
    have hlen : (flat (zs.take n)).length = n * te.size := by
      rw [flat_length (sz := te.size) (fun z hz => hall' z (List.mem_of_mem_take hz)), List.length_take, Nat.min_eq_left hn]
    have hat0 : AtR (Rel w γ H) (flat (zs.take n)) C off := by rw [flat_take (sz := te.size) _ _ hall']; exact hr.take _
    have hat := hat0.extract hlen
    have hsize : (C.extract off (off + n * te.size)).size = n * te.size := by simp; omega
    refine ⟨C.extract off (off + n * te.size), ?_, hsize, hat, all_one hat ?_ ?_⟩
    · simp only [Builtin.firstCells]
      exact run_load_row hb (by omega)
    · rw [hsize, hlen]
    · simp only [allOne, List.all_eq_true, flat, List.mem_flatMap]
      rintro c ⟨z, hz, hc⟩
      have := hone z (List.mem_of_mem_take hz)
      simp only [allOne, List.all_eq_true] at this
      exact this c hc

theorem add_cells (hs : State w γ H) {te : TI} {e : TypeId} (hte : ti P e = some te) {x : AV} {zs : List AV} {v : Value} (hx : Rel w γ H x v) (h : addL te x H = some zs) (hone : ∀ z ∈ zs, allOne z.cells = true)
 :
    (Builtin.lenOf v).run P w = .ok zs.length w ∧ (∀ z ∈ zs, z.cells.length = te.size) ∧
    ∀ n, n ≤ zs.length → ∃ us : Array Value, (Builtin.firstCells te.size n v).run P w = .ok us w ∧ us.size = n * te.size ∧ AtR (Rel w γ H) (flat (zs.take n)) us 0 ∧ ∀ u ∈ us.toList, u.oneCell' = true := by
  unfold addL at h
  split at h
  · rename_i id off sz len
    split at h
    · rename_i hsz
      split at h <;> cases h
      rename_i cs hc
      exact seen_cells (.inl hsz) (seen_ms hs hx hc) hone
    · cases h
  · rename_i m sz xs
    split at h <;> cases h
    rename_i hsz
    exact seen_cells hsz (seen_slice hx) hone
  · rename_i s
    split at h <;> cases h
    rename_i h1
    rw [rel_str hx]
    refine ⟨by simp [Builtin.lenOf, size_mk], by simp [ofByte, AV.cells, h1], fun n hn => ?_⟩
    simp only [List.length_map] at hn
    have e : (((ByteArray.mk s.toArray).extract 0 n).data.map fun b => Value.int .u8 b.toNat) = (s.take n).toArray.map fun b => Value.int .u8 b.toNat := by
      simp
    refine ⟨(s.take n).toArray.map fun b => Value.int .u8 b.toNat, ?_, by simp [h1]; omega, ?_, ?_⟩
    · rw [← e]; simp [Builtin.firstCells]
    · have := atR_bytes (w := w) (γ := γ) (H := H) (s.take n) #[]
      rw [← List.map_take, flat_ofByte]
      simpa using this
    · intro u hu
      simp only [Array.toList_map, List.mem_map] at hu
      obtain ⟨b, _, rfl⟩ := hu
      rfl
  · cases h

/-- more of a buffer is counted as known -/
theorem set_buf (hs : State w γ H) {id sz n : Nat} (ho : H.get id = some (.buf sz n)) : State w γ (H.set id (.buf sz n)) ∧ Ext w γ H w γ (H.set id (.buf sz n)) := by
  have hg : ∀ i, (H.set id (.buf sz n)).get i = H.get i := fun i => by
    by_cases h : i = id
    · subst h; rw [AHeap.get_set_same _ _ (AHeap.get_lt ho), ho]
    · exact AHeap.get_set_ne _ _ h
  have he : Ext w γ H w γ (H.set id (.buf sz n)) :=
    { os := rfl, tape := rfl, output := rfl, size := Nat.le_refl _, nx := Nat.le_refl _, block := fun b C ty fr h => ⟨C, h, rfl, fun _ _ _ _ => rfl⟩,
      imm := fun b e hb hi i o ho' hg' => hi i o (by rw [← hg]; exact ho') hg',
      un := fun _ _ _ => rfl,
      none := fun i _ h => ⟨by rw [hg]; exact h, rfl⟩,
      keep := fun i o h hb => ⟨rfl, fun sz n h' => by rw [hg, h] at h'; exact hb _ _ (Option.some.inj h')⟩,
      bufs := fun i sz n h sz' n' h' => by rw [hg, h] at h'; cases h'; exact ⟨rfl, Nat.le_refl _, fun _ => rfl⟩,
      bufk := fun i sz n h o h' => by rw [hg, h] at h'; cases h'; exact ⟨_, _, rfl⟩ }
  exact ⟨⟨fun i j oi oj b hi hj => hs.inj i j oi oj b (by rw [← hg]; exact hi) (by rw [← hg]; exact hj), fun i o h => by
    rw [hg] at h
    exact (hs.obj i o h).mono he rfl fun _ _ _ _ _ h => h⟩, he⟩


/-- a buffer that moves to a new row -/
theorem own_move (hs : State w γ H) {w' : World} {id sz cap n : Nat} {xs : List AV} {C : Array Value} {ty : TypeId} (hos : w'.os = w.os) (htape : w'.tape = w.tape) (hout : w'.output = w.output)
    (hsz : w'.heap.size = w.heap.size + 1) (hold : ∀ b, b < w.heap.size → w'.heap[b]? = w.heap[b]?) (hnew : w'.heap[w.heap.size]? = some (.cells C ty (0, 0)))
    (ho : H.get id = some (.buf sz n)) (hn : n < xs.length) (hle : xs.length ≤ cap) (hC : cap * sz ≤ C.size) (hall : ∀ x ∈ xs, x.cells.length = sz) (hr : AtR (Rel w γ H) (flat xs) C 0) {run : Result Value}
    (hrun : run = .ok (.slice (some ⟨w.heap.size, 0, none⟩) xs.length cap) w') : Out P w γ H (.slice (.own id) sz xs) (H.set id (.buf sz xs.length)) run := by
  have he := ext_move hs hos htape hout (by omega) hold (b' := w.heap.size) ho (Nat.le_refl _) hn
  refine ⟨_, w', _, hrun, state_move hs hold ho (Nat.le_refl _) (by omega) he, he, ?_⟩
  have hmul : xs.length * sz ≤ cap * sz := Nat.mul_le_mul_right _ hle
  refine rel_slice.2 (.inr ⟨w.heap.size, 0, cap, C, ty, (0, 0), rfl, hle, hnew, by omega, ?_, ?_, hall, hr.mono fun x v h => h.ext he⟩)
  · intro id' o ho' hg
    rcases AHeap.get_set_inv _ _ ho' with ⟨rfl, rfl, _⟩ | ⟨hne, ho'⟩
    · exact ⟨_, _, rfl, by omega⟩
    · rw [upd_ne _ _ _ _ hne] at hg
      have := hs.lt ho' hg; omega
  · refine ⟨by rw [AHeap.nx_set]; exact AHeap.get_lt ho, fun sz' n' h => ?_⟩
    rw [AHeap.get_set_same _ _ (AHeap.get_lt ho)] at h; cases h
    refine ⟨rfl, Nat.le_refl _, fun _ => ⟨upd_same _ _ _, rfl, fun p p1 p2 => ?_⟩⟩
    dsimp only; omega

/-- an append that writes behind what is known -/
theorem own_grow (hs : State w γ H) {id sz cap blk : Nat} {ys zs : List AV} {C us : Array Value} {ty : TypeId} {fr : Nat × Nat} (ho : H.get id = some (.buf sz ys.length)) (hg : γ id = some blk)
    (hb : w.heap[blk]? = some (.cells C ty fr)) (hcap : cap * sz ≤ C.size) (hle : (ys ++ zs).length ≤ cap) (hth : thawed fr (ys.length * sz) (cap * sz)) (hys : ∀ x ∈ ys, x.cells.length = sz) (hzs : ∀ x ∈ zs, x.cells.length = sz)
    (hry : AtR (Rel w γ H) (flat ys) C 0) (hrz : AtR (Rel w γ H) (flat zs) us 0) (hus : us.size = zs.length * sz) {run : Result Value}
    (hrun : run = .ok (.slice (some ⟨blk, 0, none⟩) (ys ++ zs).length cap) (w.setRow blk (spliceC C (ys.length * sz) us.toList))) :
    Out P w γ H (.slice (.own id) sz (ys ++ zs)) (H.set id (.buf sz (ys ++ zs).length)) run := by
  have hmul : (ys ++ zs).length * sz ≤ cap * sz := Nat.mul_le_mul_right _ hle
  have hlen : (ys ++ zs).length * sz = ys.length * sz + zs.length * sz := by rw [List.length_append, Nat.add_mul]
  have hfit : ys.length * sz + us.toList.length ≤ C.size := by simp; omega
  have hfy : (flat ys).length = ys.length * sz := flat_length hys
  have hfz : (flat zs).length = zs.length * sz := flat_length hzs
  have he := ext_row hs hg hb (C' := spliceC C (ys.length * sz) us.toList) (spliceC_size _ _ _ hfit) ho (o' := .buf sz (ys ++ zs).length) (.inr ⟨_, _, _, rfl, rfl, by simp, fun i hi => by
    rw [spliceC_get _ _ _ hfit, if_neg (by omega)]⟩)
  refine ⟨_, _, _, hrun, state_row hs hg hb (spliceC_size _ _ _ hfit) ho he (.inr ⟨_, _, rfl⟩), he, ?_⟩
  refine rel_slice.2 (.inr ⟨blk, 0, cap, _, ty, fr, rfl, hle, setRow_same _ _ _ _ _ _ hb, by rw [spliceC_size _ _ _ hfit]; omega, ?_, ?_, ?_, ?_⟩)
  · intro id' o ho' hg'
    rcases AHeap.get_set_inv _ _ ho' with ⟨rfl, rfl, _⟩ | ⟨hne, ho'⟩
    · exact ⟨_, _, rfl, by omega⟩
    · exact absurd (hs.inj id' id o _ blk ho' ho hg' hg) hne
  · refine ⟨by rw [AHeap.nx_set]; exact AHeap.get_lt ho, fun sz' n' h => ?_⟩
    rw [AHeap.get_set_same _ _ (AHeap.get_lt ho)] at h; cases h
    exact ⟨rfl, Nat.le_refl _, fun _ => ⟨hg, rfl, fun p p1 p2 => hth p (by omega) (by omega)⟩⟩
  · intro x hx
    rcases List.mem_append.1 hx with h | h
    · exact hys x h
    · exact hzs x h
  · have e : flat (ys ++ zs) = flat ys ++ flat zs := by simp [flat]
    rw [e, AtR.append]
    refine ⟨fun j hj => ?_, fun j hj => ?_⟩
    · obtain ⟨u, hu, hr⟩ := hry j hj
      exact ⟨u, by rw [spliceC_get _ _ _ hfit, if_neg (by omega)]; exact hu, hr.ext he⟩
    · obtain ⟨u, hu, hr⟩ := hrz j hj
      refine ⟨u, ?_, hr.ext he⟩
      rw [spliceC_get _ _ _ hfit, if_pos (by simp; omega)]
      rw [Nat.zero_add] at hu
      rw [Array.getElem?_toList, ← hu]; congr 1; omega

section
variable {ts : Array TypeId} {t t2 e ty : TypeId} (h0 : ts[0]? = some t) (h1 : ts[1]? = some t2) (hu : P.underlying t = some (.slice e)) {d2 : TypeDesc} (hu2 : P.underlying t2 = some d2)
  (hz : d2 = .string ∨ ∃ e2, d2 = .slice e2)
  {einf : TypeInfo} (heinf : P.info? e = some einf) {vx : Value} {n : Nat} {us : Array Value} (hn : (Builtin.lenOf vx).run P w = .ok n w)
include h0 h1 hu hu2 hz heinf hn

theorem run_app_in (hus : (Builtin.firstCells einf.size n vx).run P w = .ok us w) {base : Option Addr} {sLen sCap : Nat} (hle : sLen + n ≤ sCap) :
    (Builtin.append_ ts ty #[.slice base sLen sCap, vx]).run P w =
      match base with
      | some a => ((storeCells (a.add (sLen * einf.size)) us.toList).run P w).andThen fun _ w' => .ok (.slice base (sLen + n) sCap) w'
      | none => .ok (.slice base (sLen + n) sCap) w := by
  rcases hz with rfl | ⟨e2, rfl⟩
  all_goals
    unfold Builtin.append_
    simp only [h0, h1, List.getElem?_toArray, List.getElem?_cons_zero, List.getElem?_cons_succ, Sem.run_bind, run_und hu, Result.andThen_ok, run_size heinf, run_und hu2, Sem.run_pure, Bool.false_eq_true, if_false, hn,
      Bool.not_false, if_true]
    rw [if_pos hle]
    simp only [Sem.run_bind, hus, Result.andThen_ok]
    cases base <;> simp

theorem run_app_grow (hus : (Builtin.firstCells einf.size n vx).run P w.drew = .ok us w.drew) {base : Option Addr} {sLen sCap : Nat} (hlt : sCap < sLen + n) (hb : (sLen + n) * einf.bytes ≤ 140737488355328)
    (hm : sLen + n ≤ 140737488355328) {old : Array Value} (hold : (Builtin.firstCells einf.size sLen (.slice base sLen sCap)).run P w.drew = .ok old w.drew) {ez : Value} (hez : einf.zero = some ez) :
    (Builtin.append_ ts ty #[.slice base sLen sCap, vx]).run P w =
      .ok (.slice (some ⟨w.heap.size, 0, none⟩) (sLen + n) (grownCap w (sLen + n) sCap e)) (w.drew.alloc (.cells (old ++ us ++ Builtin.zeroCells ez.cells (grownCap w (sLen + n) sCap e - (sLen + n))) e)) := by
  have hg := growslice_fits (old := sCap) hlt hb
  have hg' : ¬ (Builtin.nextslicecap (sLen + n) sCap * einf.bytes > 2 ^ 48) := by
    have : (2 : Nat) ^ 48 = 281474976710656 := by decide
    omega
  have h63 : ¬ (((sLen + n : Nat) : Int) > IntKind.i64.max ∧ ((false : Bool) = true ∨ einf.bytes = 0)) := by
    have : IntKind.i64.max = 9223372036854775807 := by decide
    rw [this]; omega
  have hnle : ¬ sLen + n ≤ sCap := by omega
  have hq : (Question.appendCap (sLen + n) sCap e).forced = false := rfl
  rcases hz with rfl | ⟨e2, rfl⟩
  all_goals
    unfold Builtin.append_
    simp only [h0, h1, List.getElem?_toArray, List.getElem?_cons_zero, List.getElem?_cons_succ, Sem.run_bind, run_und hu, Result.andThen_ok, run_size heinf, run_und hu2, Sem.run_pure, Bool.false_eq_true, if_false, hn,
      Bool.not_false, if_true]
    rw [if_neg hnle]
    simp only [Sem.run_bind, run_info heinf, Result.andThen_ok]
    rw [if_neg (by simpa using h63)]
    simp only [Sem.run_bind, run_info heinf, Result.andThen_ok]
    rw [if_neg hg']
    simp only [Sem.run_bind, run_choose, hq, Bool.false_eq_true, if_false, Result.andThen_ok, World.drew_eq, run_info heinf, run_askRoom, hold, hus, run_zero heinf hez]
    rfl
end

/-- what is read in one world is read in a world that has drawn once more -/
theorem seen_drew {te : TI} {sz : Nat} {zs : List AV} {v : Value} (hsz : sz = te.size ∨ zs = []) (h : Seen w γ H sz zs v) {us : Array Value} (k1 : (Builtin.firstCells te.size zs.length v).run P w = .ok us w) :
    (Builtin.firstCells te.size zs.length v).run P w.drew = .ok us w.drew := by
  rcases h with ⟨⟨a, rfl⟩, rfl⟩ | ⟨blk, off, cap, C, ty, fr, rfl, hle, hb, hcap, _⟩
  · cases a <;> (simp [Builtin.firstCells, loadCells, loadCellsFrom] at k1 ⊢; exact k1)
  · simp only [Builtin.firstCells] at k1 ⊢
    have hfit : off + zs.length * te.size ≤ C.size := by
      rcases hsz with rfl | rfl
      · have := Nat.mul_le_mul_right te.size hle; omega
      · simp; omega
    rw [run_load_row hb hfit] at k1
    rw [run_load_row (w := w.drew) hb hfit]
    simp only [Result.ok.injEq, and_true] at k1 ⊢
    exact k1

theorem add_cells_drew (hs : State w γ H) {te : TI} {e : TypeId} (hte : ti P e = some te) {x : AV} {zs : List AV} {v : Value} (hx : Rel w γ H x v) (h : addL te x H = some zs) (hone : ∀ z ∈ zs, allOne z.cells = true) :
    ∃ us : Array Value, (Builtin.lenOf v).run P w = .ok zs.length w ∧ (∀ z ∈ zs, z.cells.length = te.size) ∧ (Builtin.firstCells te.size zs.length v).run P w = .ok us w ∧
      (Builtin.firstCells te.size zs.length v).run P w.drew = .ok us w.drew ∧ us.size = zs.length * te.size ∧ AtR (Rel w γ H) (flat zs) us 0 ∧ ∀ u ∈ us.toList, u.oneCell' = true := by
  obtain ⟨h1, h2, h3⟩ := add_cells (P := P) hs hte hx h hone
  obtain ⟨us, k1, k2, k3, k4⟩ := h3 zs.length (Nat.le_refl _)
  rw [List.take_length] at k3
  refine ⟨us, h1, h2, k1, ?_, k2, k3, k4⟩
  -- the same cells are read
  unfold addL at h
  split at h
  · split at h
    · rename_i hsz
      split at h <;> cases h
      rename_i cs hc
      exact seen_drew (.inl hsz) (seen_ms hs hx hc) k1
    · cases h
  · rename_i m sz xs
    split at h <;> cases h
    rename_i hsz
    exact seen_drew hsz (seen_slice hx) k1
  · split at h <;> cases h
    rw [rel_str hx] at k1 ⊢
    simp only [Builtin.firstCells, Sem.run_pure, Result.ok.injEq, and_true] at k1 ⊢
    exact k1
  · cases h

theorem sound_rAppend0 (hs : State w γ H) {t t2 : TypeId} {s x : AV} {vs vx : Value} {r : R} (hsr : Rel w γ H s vs) (hx : Rel w γ H x vx) (h : zhz P t t2 s x H = some r) (hc : r.c)
    (ts : Array TypeId) (h0 : ts[0]? = some t) (h1 : ts[1]? = some t2) (ty : TypeId) : Out P w γ H r.v r.H ((Builtin.append_ ts ty #[vs, vx]).run P w) := by
  unfold zhz at h
  split at h
  · rename_i ht2
    obtain ⟨d2, hu2, hd2⟩ : ∃ d2, P.underlying t2 = some d2 ∧ (d2 = .string ∨ ∃ e2, d2 = .slice e2) := by
      unfold addT at ht2
      split at ht2
      · rename_i a ha; exact ⟨_, td_slice ha, .inr ⟨_, rfl⟩⟩
      · rename_i ha; exact ⟨_, td_string ha, .inl rfl⟩
      · cases ht2
    split at h
    · rename_i e hd
      have hu := td_slice hd
      split at h
      · rename_i te m sz ys hte
        have hte0 := hte
        obtain ⟨ed, einf, ez, hed, heinf, hez, rfl⟩ := ti_spec hte
        split at h
        · rename_i hcond
          obtain ⟨hpos, hzl, hszm⟩ := hcond
          dsimp only at hpos hzl hszm h
          split at h
          · rename_i zs m' H' hadd hgrow
            cases h
            obtain ⟨hroom, hbytes, hmax, hone⟩ := hc
            rw [hadd] at hgrow
            simp only [Option.elim_some] at hgrow
            obtain ⟨us, a1, a2, a3, a4, a5, a6, a7⟩ := add_cells_drew (P := P) hs hte0 hx hadd hone
            dsimp only at a2 a3 a4 a5 hbytes
            have hezc : ez.cells.size = einf.size := by
              obtain ⟨z1, _⟩ := ofValue_cells (w := w) (γ := γ) (H := H) ez
              rw [z1, hzl]
            -- growth into a new row
            have hgrown : ∀ (old : Array Value) (oldCap : Nat), (∀ y ∈ ys, y.cells.length = einf.size) → AtR (Rel w γ H) (flat ys) old 0 → old.size = ys.length * einf.size →
                (∀ y ∈ ys ++ zs, y.cells.length = einf.size) ∧
                AtR (Rel w γ H) (flat (ys ++ zs)) (old ++ us ++ Builtin.zeroCells ez.cells (grownCap w (ys.length + zs.length) oldCap e - (ys.length + zs.length))) 0 ∧
                grownCap w (ys.length + zs.length) oldCap e * einf.size ≤ (old ++ us ++ Builtin.zeroCells ez.cells (grownCap w (ys.length + zs.length) oldCap e - (ys.length + zs.length))).size := by
              intro old oldCap q1 q2 q3
              refine ⟨fun y hy => ?_, ?_, ?_⟩
              · rcases List.mem_append.1 hy with h | h
                · exact q1 y h
                · exact a2 y h
              · have e1 : flat (ys ++ zs) = flat ys ++ flat zs := by simp [flat]
                have l1 : (flat ys).length = old.size := by rw [flat_length q1, q3]
                have l2 : (flat zs).length = us.size := by rw [flat_length a2, a5]
                rw [e1, AtR.append]
                refine ⟨fun j hj => ?_, fun j hj => ?_⟩
                · obtain ⟨u, hu, hr⟩ := q2 j hj
                  refine ⟨u, ?_, hr⟩
                  rw [Array.append_assoc, Array.getElem?_append_left (by omega)]; exact hu
                · obtain ⟨u, hu, hr⟩ := a6 j hj
                  refine ⟨u, ?_, hr⟩
                  rw [Array.append_assoc, Array.getElem?_append_right (by omega), Array.getElem?_append_left (by omega), ← hu]
                  congr 1; omega
              · have hge := grownCap_ge w (ys.length + zs.length) oldCap e
                simp only [Array.size_append, size_zeroCells, q3, a5, hezc, ← Nat.add_mul]
                exact Nat.mul_le_mul_right _ (by omega)
            have hl : (ys ++ zs).length = ys.length + zs.length := List.length_append
            -- a slice without a row
            have hnil : ∀ a : Option Addr, ys = [] → vs = .slice a 0 0 → ((m = .nil ∨ (m = .full ∧ zs ≠ [])) ∨ ∃ id, m = .own id ∧ H.get id = some (.buf einf.size 0)) →
                Out P w γ H (.slice m' einf.size (ys ++ zs)) H' ((Builtin.append_ ts ty #[vs, vx]).run P w) := by
              rintro a rfl rfl hm
              simp only [List.nil_append, List.length_nil, Nat.zero_add] at hgrown hl hbytes hmax hgrow ⊢
              by_cases hz : zs.length = 0
              · have hzn : zs = [] := List.eq_nil_of_length_eq_zero hz
                subst hzn
                have hrun := run_app_in (P := P) (ty := ty) h0 h1 hu hu2 hd2 heinf a1 a3 (base := a) (sLen := 0) (sCap := 0) (by simp)
                have hus : us = #[] := by
                  simp at a5; exact a5
                subst hus
                have hrun' : (Builtin.append_ ts ty #[.slice a 0 0, vx]).run P w = .ok (.slice a 0 0) w := by
                  rw [hrun]; cases a <;> simp [storeCells]
                rcases hm with (rfl | ⟨_, hz0⟩) | ⟨id, rfl, ho⟩
                rotate_left
                · exact absurd rfl hz0
                rotate_left
                · simp only [grow, Option.some.injEq, Prod.mk.injEq] at hgrow
                  obtain ⟨rfl, rfl⟩ := hgrow
                  have he := ext_push hs (w' := w) rfl rfl rfl (Nat.le_refl _) (fun _ _ => rfl) none (fun b h => by cases h) (.buf einf.size 0)
                  refine ⟨_, w, _, hrun', state_push hs (fun b h => by cases h) he (fun _ _ => rfl) (.inr ⟨_, _, rfl⟩), he, ?_⟩
                  refine rel_slice.2 (.inl ⟨⟨_, rfl⟩, rfl, by rw [AHeap.nx_push]; omega, fun sz' n h => ?_⟩)
                  rw [AHeap.get_push_new] at h; cases h; rfl
                · simp only [grow, Option.some.injEq, Prod.mk.injEq] at hgrow
                  obtain ⟨rfl, rfl⟩ := hgrow
                  obtain ⟨s1, e1⟩ := set_buf hs ho
                  refine ⟨_, w, γ, hrun', s1, e1, rel_slice.2 (.inl ⟨⟨_, rfl⟩, rfl, by rw [AHeap.nx_set]; exact AHeap.get_lt ho, fun sz' n h => ?_⟩)⟩
                  rw [List.length_nil, AHeap.get_set_same _ _ (AHeap.get_lt ho)] at h; cases h; rfl
              · have hold : (Builtin.firstCells einf.size 0 (.slice a 0 0)).run P w.drew = .ok #[] w.drew := by
                  cases a <;> simp [Builtin.firstCells, loadCells, loadCellsFrom]
                have hrun := run_app_grow (P := P) (ty := ty) h0 h1 hu hu2 hd2 heinf a1 a4 (base := a) (sLen := 0) (sCap := 0) (by omega) (by simpa using hbytes) (by omega) hold hez
                simp only [Nat.zero_add] at hrun
                obtain ⟨g1, g2, g3⟩ := hgrown #[] 0 (by simp) (by simpa [flat] using AtR.nil) (by simp)
                rcases hm with (rfl | ⟨rfl, _⟩) | ⟨id, rfl, ho⟩
                rotate_right
                · simp only [grow, Option.some.injEq, Prod.mk.injEq] at hgrow
                  obtain ⟨rfl, rfl⟩ := hgrow
                  exact own_move hs (w' := w.drew.alloc _) rfl rfl rfl (by simp) (fun b hb => alloc_lt w.drew _ hb) (alloc_new w.drew _) ho (by omega) (grownCap_ge _ _ _ _) g3 g1 g2 hrun
                all_goals
                  simp only [grow, Option.some.injEq, Prod.mk.injEq] at hgrow
                  obtain ⟨rfl, rfl⟩ := hgrow
                  exact own_new hs (w' := w.drew.alloc _) (fr := (0, 0)) rfl rfl rfl (by simp) (fun b hb => alloc_lt w.drew _ hb) (alloc_new w.drew _) (.inr rfl) (grownCap_ge _ _ _ _) g3 g1 g2 hrun
            rcases rel_slice.1 hsr with ⟨⟨a, rfl⟩, rfl, hmn⟩ | ⟨blk, off, cap, C, cty, fr, rfl, hle, hb, hcap, himm, hm, hall, hr⟩
            · refine hnil a rfl rfl ?_
              cases m with
              | nil => exact .inl (.inl rfl)
              | own id => exact .inr ⟨id, rfl, hroom⟩
              | full => exact .inl (.inr ⟨rfl, hroom⟩)
              | any => exact hroom.elim
            · have hszv : sz = einf.size := by
                rcases hszm with h | rfl
                · exact h
                · exact hm.elim
              subst hszv
              have holdr : (Builtin.firstCells einf.size ys.length (.slice (some ⟨blk, off, none⟩) ys.length cap)).run P w.drew = .ok (C.extract off (off + ys.length * einf.size)) w.drew := by
                simp only [Builtin.firstCells]
                have := Nat.mul_le_mul_right einf.size hle
                exact run_load_row (w := w.drew) hb (by omega)
              have hlen : (flat ys).length = ys.length * einf.size := flat_length hall
              have hmle := Nat.mul_le_mul_right einf.size hle
              obtain ⟨g1, g2, g3⟩ := hgrown (C.extract off (off + ys.length * einf.size)) cap hall (hr.extract hlen) (by simp; omega)
              cases m with
              | any => exact hroom.elim
              | nil => exact hm.elim
              | full =>
                have hcl : cap = ys.length := hm
                have hzl : 0 < zs.length := List.length_pos_iff.2 hroom
                simp only [grow, Option.some.injEq, Prod.mk.injEq] at hgrow
                obtain ⟨rfl, rfl⟩ := hgrow
                have hrun := run_app_grow (P := P) (ty := ty) h0 h1 hu hu2 hd2 heinf a1 a4 (base := some ⟨blk, off, none⟩) (sLen := ys.length) (sCap := cap) (by omega) hbytes hmax holdr hez
                rw [← hl] at hrun g2 g3 ⊢
                exact own_new hs (w' := w.drew.alloc _) (fr := (0, 0)) rfl rfl rfl (by simp) (fun b hb => alloc_lt w.drew _ hb) (alloc_new w.drew _) (.inr rfl) (grownCap_ge _ _ _ _) g3 g1 g2 hrun
              | own id =>
                simp only [grow, Option.some.injEq, Prod.mk.injEq] at hgrow
                obtain ⟨rfl, rfl⟩ := hgrow
                have ho : H.get id = some (.buf einf.size ys.length) := hroom
                obtain ⟨hid, hm⟩ := hm
                obtain ⟨_, _, hm⟩ := hm _ _ ho
                obtain ⟨hg, rfl, hth⟩ := hm rfl
                by_cases hfit : ys.length + zs.length ≤ cap
                · have hrun := run_app_in (P := P) (ty := ty) h0 h1 hu hu2 hd2 heinf a1 a3 (base := some ⟨blk, 0, none⟩) (sLen := ys.length) (sCap := cap) hfit
                  have hfm := Nat.mul_le_mul_right einf.size hfit
                  rw [Nat.add_mul] at hfm
                  have hst := run_storeCells_fr (P := P) blk (ys.length * einf.size) cty fr us.toList 0 C w hb (by simp; omega) a7 (fun p p1 p2 => hth p (by omega) (by simp at p2; omega))
                  rw [← hl] at hrun hfit ⊢
                  refine own_grow hs ho hg hb (by omega) hfit hth hall a2 hr a6 a5 ?_
                  rw [hrun]
                  simp only [addr_add, Nat.zero_add]
                  rw [hst]
                  simp [spliceC]
                · have hrun := run_app_grow (P := P) (ty := ty) h0 h1 hu hu2 hd2 heinf a1 a4 (base := some ⟨blk, 0, none⟩) (sLen := ys.length) (sCap := cap) (by omega) hbytes hmax holdr hez
                  rw [← hl] at hrun g2 g3 ⊢
                  exact own_move hs (w' := w.drew.alloc _) rfl rfl rfl (by simp) (fun b hb => alloc_lt w.drew _ hb) (alloc_new w.drew _) ho (by omega) (grownCap_ge _ _ _ _) g3 g1 g2 hrun
          · cases h
        · cases h
      · cases h
    · cases h
  · cases h


theorem sound_rCopy (hs : State w γ H) {t : TypeId} {d x : AV} {vd vx : Value} {r : R} (hdr : Rel w γ H d vd) (hx : Rel w γ H x vx) (h : zhg P t d x H = some r) (hc : r.c)
    (ts : Array TypeId) (h0 : ts[0]? = some t) (ty : TypeId) : Out P w γ H r.v r.H ((Builtin.copy_ ts ty #[vd, vx]).run P w) := by
  unfold zhg at h
  split at h
  · rename_i e hd
    have hu := td_slice hd
    split at h
    · rename_i te hte
      have hte0 := hte
      obtain ⟨ed, einf, ez, hed, heinf, hez, rfl⟩ := ti_spec hte
      split at h
      · rename_i id off sz len zs hadd
        split at h
        · rename_i cs hcs
          split at h <;> cases h
          rename_i hsz
          obtain ⟨hfit, hone⟩ := hc
          dsimp only at hsz
          subst hsz
          obtain ⟨a1, a2, a3⟩ := add_cells (P := P) hs hte0 hx hadd hone
          obtain ⟨us, b1, b2, b3, b4⟩ := a3 (min zs.length len) (Nat.min_le_left _ _)
          dsimp only at a2 b1 b2
          have hmin : zs.take (min zs.length len) = zs.take len := by
            rcases Nat.le_total zs.length len with h | h
            · rw [Nat.min_eq_left h, List.take_of_length_le h, List.take_of_length_le (Nat.le_refl _)]
            · rw [Nat.min_eq_right h]
          rw [hmin] at b3
          obtain ⟨ho, blk, C, cty, fr, hg, hb, hcl, hcr, hth⟩ := obj_cells hs hcs
          have hfl : (flat (zs.take len)).length = us.size := by
            rw [flat_length (sz := einf.size) (fun z hz => a2 z (List.mem_of_mem_take hz)), b2, ← hmin, List.length_take, Nat.min_eq_left (Nat.min_le_left _ _)]
          have hle2 : us.size ≤ len * einf.size := by rw [b2]; exact Nat.mul_le_mul_right _ (Nat.min_le_right _ _)
          have hfit2 : off + (flat (zs.take len)).length ≤ cs.length := by omega
          have he := ext_row hs hg hb (C' := spliceC C off us.toList) (spliceC_size _ _ _ (by simp; omega)) ho (o' := .cells (splice cs off (flat (zs.take len)))) (.inl ⟨_, _, rfl, rfl⟩)
          have hst := state_row hs hg hb (C' := spliceC C off us.toList) (spliceC_size _ _ _ (by simp; omega)) ho he (.inl ⟨_, rfl, by rw [splice_length _ _ _ hfit2, spliceC_size _ _ _ (by simp; omega)]; exact hcl,
            hcr.splice (by simpa using b3) (by simp [hfl]) hfit2 (Nat.le_of_eq hcl), by rw [splice_length _ _ _ hfit2]; exact hth⟩)
          have hstore := run_storeCells_fr (P := P) blk off cty fr us.toList 0 C w hb (by simp; omega) b4 (fun p p1 p2 => hth p (by omega) (by simp at p2; omega))
          obtain ⟨_, _, hdr⟩ := rel_ms.1 hdr
          rcases hdr with ⟨rfl, a, rfl⟩ | ⟨blk', cap, C', cty', fr', hg', rfl, hlc, hb', hcap', _⟩
          · -- nothing is copied
            have hus : us = #[] := by simpa using b2
            subst hus
            refine ⟨.int .i64 (min zs.length 0 : Nat), _, γ, ?_, hst, he, mk_int _ _⟩
            have e1 : spliceC C off ([] : List Value) = C := by simp [spliceC]
            have e2 : w.setRow blk C = w := setRow_self w blk C cty fr hb
            rw [e1, e2]
            simp only [Builtin.copy_, h0, List.getElem?_toArray, List.getElem?_cons_zero, List.getElem?_cons_succ, Sem.run_bind, run_und hu, Result.andThen_ok, a1, run_size heinf]
            have e3 : Nat.min zs.length 0 = min zs.length 0 := rfl
            rw [e3, b1]
            cases a <;> simp [storeCells, goInt]
          · rw [hg] at hg'; cases hg'
            refine ⟨.int .i64 (min zs.length len : Nat), _, γ, ?_, hst, he, mk_int _ _⟩
            simp only [Builtin.copy_, h0, List.getElem?_toArray, List.getElem?_cons_zero, List.getElem?_cons_succ, Sem.run_bind, run_und hu, Result.andThen_ok, a1, run_size heinf]
            have e3 : Nat.min zs.length len = min zs.length len := rfl
            rw [e3, b1]
            simp only [Result.andThen_ok, Sem.run_bind, Sem.run_pure]
            rw [hstore]
            simp [spliceC, goInt]
        · cases h
      · cases h
    · cases h
  · cases h

theorem sound_rAssert (hs : State w γ H) {x : AV} {t a : TypeId} {ok : Bool} {v : Value} {r : R} (hx : Rel w γ H x v) (h : rAssert P x a ok H = some r) :
    Out P w γ H r.v r.H ((Instr.typeAssert v t a ok).run P w) := by
  unfold rAssert at h
  split at h
  · rename_i i hi
    obtain ⟨d, inf, z, hd, hinf, hz, rfl⟩ := ti_spec hi
    dsimp only at h
    have hni : (∀ ms, tdOf d ≠ .iface ms) → ∀ ms, d ≠ .interface ms := fun hh ms e => by subst e; exact hh _ rfl
    have tup2 : ∀ {p q : AV} {v u : Value}, Rel w γ H p v → Rel w γ H q u → Rel w γ H (.tup [p, q]) (.tuple #[v, u]) := fun {p q v u} hp hq => by
      rw [Rel]
      refine ⟨_, rfl, rfl, fun j hj => ?_⟩
      match j, hj with
      | 0, _ => exact ⟨v, rfl, hp⟩
      | 1, _ => exact ⟨u, rfl, hq⟩
    split at h
    · cases h
    · rename_i t' y hif
      rw [Rel] at hx
      obtain ⟨u, rfl, hy⟩ := hx
      have hn := hni fun ms e => hif ms e
      split at h
      · rename_i hta
        subst hta
        cases h
        cases ok
        · refine Out.same hs (v := u) ?_ (by simpa using hy)
          cases d <;> first | exact absurd rfl (hn _) | simp [Instr.typeAssert, run_und hd]
        · refine Out.same hs (v := .tuple #[u, .bool true]) ?_ (tup2 hy (mk_bool _))
          cases d <;> first | exact absurd rfl (hn _) | simp [Instr.typeAssert, run_und hd]
      · rename_i hta
        split at h <;> cases h
        rename_i hok
        subst hok
        refine Out.same hs (v := .tuple #[z, .bool false]) ?_ (tup2 (rel_ofValue _) (mk_bool _))
        cases d <;> first | exact absurd rfl (hn _) | simp [Instr.typeAssert, run_und hd, hta, run_zero hinf hz]
    · rename_i hif
      have hn := hni fun ms e => hif ms e
      rw [Rel] at hx
      subst hx
      split at h <;> cases h
      rename_i hok
      subst hok
      refine Out.same hs (v := .tuple #[z, .bool false]) ?_ (tup2 (rel_ofValue _) (mk_bool _))
      cases d <;> first | exact absurd rfl (hn _) | simp [Instr.typeAssert, run_und hd, run_zero hinf hz]
    · cases h
  · cases h


theorem sound_rAppend (hs : State w γ H) {t t2 : TypeId} {s x : AV} {vs vx : Value} {r : R} (hsr : Rel w γ H s vs) (hx : Rel w γ H x vx) (h : zhy P t t2 s x H = some r) (hc : r.c)
    (ts : Array TypeId) (h0 : ts[0]? = some t) (h1 : ts[1]? = some t2) (ty : TypeId) : Out P w γ H r.v r.H ((Builtin.append_ ts ty #[vs, vx]).run P w) := by
  unfold zhy at h
  split at h
  · rename_i sz ys
    unfold zia at h
    split at h
    · rename_i ht2
      split at h
      · rename_i e hd
        split at h
        · rename_i te hte
          split at h
          · rename_i hcond
            split at h
            · rename_i zs hadd
              cases h
              obtain ⟨hpos, hzl, hsz⟩ := hcond
              obtain ⟨hbytes, hmax, hone⟩ := hc
              by_cases hz : zs = []
              · subst hz
                have hu := td_slice hd
                obtain ⟨ed, einf, ez, hed, heinf, hez, rfl⟩ := ti_spec hte
                obtain ⟨d2, hu2, hd2⟩ : ∃ d2, P.underlying t2 = some d2 ∧ (d2 = .string ∨ ∃ e2, d2 = .slice e2) := by
                  unfold addT at ht2
                  split at ht2
                  · rename_i a ha; exact ⟨_, td_slice ha, .inr ⟨_, rfl⟩⟩
                  · rename_i ha; exact ⟨_, td_string ha, .inl rfl⟩
                  · cases ht2
                obtain ⟨us, a1, a2, a3, a4, a5, a6, a7⟩ := add_cells_drew (P := P) hs hte hx hadd hone
                have hus : us = #[] := by simp at a5; exact a5
                subst hus
                dsimp only at hsz
                subst hsz
                have he := ext_push hs (w' := w) rfl rfl rfl (Nat.le_refl _) (fun _ _ => rfl) none (fun b h => by cases h) (.buf einf.size (ys.length + 0))
                have hst := state_push hs (fun b h => by cases h) he (fun _ _ => rfl) (.inr ⟨_, _, rfl⟩)
                have hrun : (Builtin.append_ ts ty #[vs, vx]).run P w = .ok vs w := by
                  rcases rel_slice.1 hsr with ⟨⟨a, rfl⟩, rfl, _⟩ | ⟨blk, off, cap, C, ty', fr, rfl, hle, hb, _⟩
                  · have hrun := run_app_in (P := P) (ty := ty) h0 h1 hu hu2 hd2 heinf a1 a3 (base := a) (sLen := 0) (sCap := 0) (by simp)
                    rw [hrun]; cases a <;> simp [storeCells]
                  · have hrun := run_app_in (P := P) (ty := ty) h0 h1 hu hu2 hd2 heinf a1 a3 (base := some ⟨blk, off, none⟩) (sLen := ys.length) (sCap := cap) (by simpa using hle)
                    rw [hrun]; simp [storeCells]
                refine ⟨vs, w, _, hrun, hst, he, ?_⟩
                simp only [List.isEmpty_nil, if_true, List.append_nil]
                exact hsr.ext he
              · have hne : zs.isEmpty = false := by cases zs with
                  | nil => exact absurd rfl hz
                  | cons => rfl
                have := sound_rAppend0 (P := P) hs (t := t) (t2 := t2) (r := ⟨zs ≠ [] ∧ (ys.length + zs.length) * te.bytes ≤ 140737488355328 ∧ ys.length + zs.length ≤ 140737488355328 ∧ ∀ z ∈ zs, allOne z.cells = true,
                  .slice (.own H.nx) te.size (ys ++ zs), H.push (.buf te.size (ys.length + zs.length))⟩) hsr hx (by
                    unfold zhz
                    rw [if_pos ht2, hd]
                    simp only [hte]
                    rw [if_pos ⟨hpos, hzl, .inl hsz⟩, hadd]
                    simp [grow, room]) ⟨hz, hbytes, hmax, hone⟩ ts h0 h1 ty
                simpa [hne] using this
            · cases h
          · cases h
        · cases h
      · cases h
    · cases h
  · exact sound_rAppend0 hs hsr hx h hc ts h0 h1 ty

end
end Go.AL

