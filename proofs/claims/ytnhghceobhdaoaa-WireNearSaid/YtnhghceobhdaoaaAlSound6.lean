/- The abstract layer: the rules are sound, 6: slice expressions, conversions, literals. -/
import Derived.Test.YtnhghceobhdaoaaAlSound5
namespace Go.AL
set_option linter.all false
set_option linter.unusedSectionVars false

section
variable {P : Program} {w : World} {γ : Conc} {H : AHeap}

/-- an optional bound and its value -/
def RelO (w : World) (γ : Conc) (H : AHeap) : Option AV → Option Value → Prop
  | none, none => True
  | some x, some v => Rel w γ H x v
  | _, _ => False

theorem bound_int {lo : Option AV} {vlo : Option Value} {d : Nat} {l : Int} (hr : RelO w γ H lo vlo) (h : bound lo d = some l) : (lo = none ∧ vlo = none ∧ l = d) ∨ ∃ k, vlo = some (.int k l) := by
  unfold bound at h
  split at h
  · cases vlo with
    | none => cases h; exact .inl ⟨rfl, rfl, rfl⟩
    | some v => exact hr.elim
  · cases vlo with
    | none => exact hr.elim
    | some v => cases h; exact .inr ⟨_, by rw [rel_int hr]⟩
  · cases h

theorem run_sb {k : IntKind} {n y : Nat} {code : BoundsCode} (h : n ≤ y) : (Instr.sliceBound (.int k n) y code).run P w = .ok n w := by
  simp [Instr.sliceBound, asIntOf, h]

theorem run_bounds2 {isS : Bool} {len cap : Nat} {lo hi : Option AV} {vlo vhi : Option Value} {l h : Nat} (hlo : RelO w γ H lo vlo) (hhi : RelO w γ H hi vhi)
    (h1 : bound lo 0 = some (l : Int)) (h2 : bound hi len = some (h : Int)) (hlh : l ≤ h) (hhl : h ≤ len) (hlc : len ≤ cap) :
    (Instr.sliceBounds isS len cap vlo vhi none).run P w = .ok (l, h, cap) w := by
  rcases bound_int hlo h1 with ⟨rfl, rfl, e1⟩ | ⟨k1, rfl⟩ <;> rcases bound_int hhi h2 with ⟨rfl, rfl, e2⟩ | ⟨k2, rfl⟩
  · have e1 : l = 0 := by omega
    have e2 : h = len := by omega
    subst e1; subst e2
    simp [Instr.sliceBounds]
  · have e1 : l = 0 := by omega
    subst e1
    have := run_sb (P := P) (w := w) (k := k2) (code := if isS then .sliceAcap else .sliceAlen) (show h ≤ cap by omega)
    simp [Instr.sliceBounds, this]
  · have e2 : h = len := by omega
    subst e2
    have := run_sb (P := P) (w := w) (k := k1) (code := .sliceB) hlh
    simp [Instr.sliceBounds, this]
  · have h3 := run_sb (P := P) (w := w) (k := k2) (code := if isS then .sliceAcap else .sliceAlen) (show h ≤ cap by omega)
    have h4 := run_sb (P := P) (w := w) (k := k1) (code := .sliceB) hlh
    simp [Instr.sliceBounds, h3, h4]

theorem run_bounds3 {len cap : Nat} {lo hi : Option AV} {vlo vhi : Option Value} {l h c : Nat} {k : IntKind} (hlo : RelO w γ H lo vlo) (hhi : RelO w γ H hi vhi)
    (h1 : bound lo 0 = some (l : Int)) (h2 : bound hi len = some (h : Int)) (hlh : l ≤ h) (hhc : h ≤ c) (hcc : c ≤ cap) (hsome : vhi ≠ none) :
    (Instr.sliceBounds true len cap vlo vhi (some (.int k c))).run P w = .ok (l, h, c) w := by
  have h5 := run_sb (P := P) (w := w) (k := k) (code := .slice3Acap) hcc
  rcases bound_int hhi h2 with ⟨_, rfl, _⟩ | ⟨k2, rfl⟩
  · exact absurd rfl hsome
  have h3 := run_sb (P := P) (w := w) (k := k2) (code := .slice3B) hhc
  rcases bound_int hlo h1 with ⟨rfl, rfl, e1⟩ | ⟨k1, rfl⟩
  · have e1 : l = 0 := by omega
    subst e1
    simp [Instr.sliceBounds, h5, h3]
  · have h4 := run_sb (P := P) (w := w) (k := k1) (code := .slice3C) hlh
    simp [Instr.sliceBounds, h5, h3, h4]

theorem nat_of {i : Int} (h : 0 ≤ i) : ∃ n : Nat, i = n ∧ i.toNat = n := ⟨i.toNat, by omega, rfl⟩

theorem lies_sub {m : Mark} {sz : Nat} {xs : List AV} {blk off cap : Nat} {C : Array Value} {ty : TypeId} {fr : Nat × Nat} (hL : Lies w γ H m sz xs blk off cap C ty fr) {l h c : Nat}
    (hlh : l ≤ h) (hhl : h ≤ xs.length) (hhc : h ≤ c) (hc : c ≤ cap) (m' : Mark) (hm' : m' = .any ∨ (m' = .full ∧ h = c)) :
    Lies w γ H m' sz ((xs.take h).drop l) blk (off + l * sz) (c - l) C ty fr := by
  obtain ⟨hle, hb, hcap, himm, hm, hall, hr⟩ := hL
  have hall' : ∀ x ∈ (xs.take h).drop l, x.cells.length = sz := fun x hx => hall x (List.mem_of_mem_take (List.mem_of_mem_drop hx))
  have hlen : ((xs.take h).drop l).length = h - l := by simp; omega
  have e1 : c * sz ≤ cap * sz := Nat.mul_le_mul_right _ hc
  have e2 : (c - l) * sz + l * sz = c * sz := by rw [← Nat.add_mul]; congr 1; omega
  have e3 : (h - l) * sz + l * sz = h * sz := by rw [← Nat.add_mul]; congr 1; omega
  have e4 : h * sz ≤ xs.length * sz := Nat.mul_le_mul_right _ hhl
  refine ⟨by omega, hb, by omega, himm.le (by rw [hlen]; omega), ?_, hall', ?_⟩
  · rcases hm' with rfl | ⟨rfl, e⟩
    · trivial
    · show c - l = _; rw [hlen]; omega
  · rw [flat_drop _ _ (fun x hx => hall x (List.mem_of_mem_take hx)), flat_take _ _ hall]
    exact (hr.take _).drop _

theorem rel_sub {m : Mark} {sz size : Nat} {xs : List AV} {blk off cap : Nat} {C : Array Value} {ty : TypeId} {fr : Nat × Nat} (hL : Lies w γ H m sz xs blk off cap C ty fr) {l h c : Nat}
    (hlh : l ≤ h) (hhl : h ≤ xs.length) (hhc : h ≤ c) (hc : c ≤ cap) (hsz : size = sz ∨ l = 0) (m' : Mark) (hm' : m' = .any ∨ (m' = .full ∧ h = c) ∨ (m' = .nil ∧ c = l)) :
    Rel w γ H (.slice m' sz ((xs.take h).drop l)) (.slice (if c = l then some ⟨blk, off, none⟩ else some ⟨blk, off + l * size, none⟩) (h - l) (c - l)) := by
  by_cases hcl : c = l
  · have e1 : h - l = 0 := by omega
    have e2 : c - l = 0 := by omega
    have e3 : (xs.take h).drop l = [] := List.drop_eq_nil_of_le (by simp; omega)
    rw [if_pos hcl, e1, e2, e3]
    refine rel_slice.2 (.inl ⟨⟨_, rfl⟩, rfl, ?_⟩)
    rcases hm' with rfl | ⟨rfl, _⟩ | ⟨rfl, _⟩ <;> trivial
  · have hm2 : m' = .any ∨ (m' = .full ∧ h = c) := by
      rcases hm' with h | h | h
      · exact .inl h
      · exact .inr h
      · exact absurd h.2 hcl
    have := lies_sub hL hlh hhl hhc hc m' hm2
    have hlen : ((xs.take h).drop l).length = h - l := by simp; omega
    have e : l * size = l * sz := by rcases hsz with rfl | rfl <;> simp
    rw [if_neg hcl, ← hlen, e]
    exact rel_slice.2 (.inr ⟨blk, _, _, C, ty, fr, rfl, this⟩)

theorem run_sliceAt {t e : TypeId} (hu : P.underlying t = some (.slice e)) {einf : TypeInfo} (heinf : P.info? e = some einf) {a : Option Addr} {len cap : Nat} {vlo vhi vmx : Option Value} {l h c : Nat}
    (hb : (Instr.sliceBounds true len cap vlo vhi vmx).run P w = .ok (l, h, c) w) :
    (Instr.sliceAt t (.slice a len cap) vlo vhi vmx).run P w = .ok (.slice (if c = l then a else a.map (·.add (l * einf.size))) (h - l) (c - l)) w := by
  simp [Instr.sliceAt, Instr.slice, run_und hu, hb, run_size heinf]

theorem sound_rSlice (hs : State w γ H) {t : TypeId} {x : AV} {v : Value} {lo hi mx : Option AV} {vlo vhi vmx : Option Value} {r : R} (hx : Rel w γ H x v)
    (hlo : RelO w γ H lo vlo) (hhi : RelO w γ H hi vhi) (hmx : RelO w γ H mx vmx) (h : zhh P t x lo hi mx H = some r) (hc : r.c) :
    Out P w γ H r.v r.H ((Instr.sliceAt t v vlo vhi vmx).run P w) := by
  unfold zhh at h
  split at h
  · rename_i s hd
    rw [rel_str hx]
    obtain ⟨d, it, hu, hi', hd⟩ := td_of hd
    cases d <;> simp [tdOf] at hd
    split at h <;> cases h
    rename_i l h h1 h2
    obtain ⟨c1, c2, c3⟩ := hc
    obtain ⟨l, rfl, el⟩ := nat_of c1
    obtain ⟨h, rfl, eh⟩ := nat_of (Int.le_trans c1 c2)
    cases vmx with
    | some v => exact hmx.elim
    | none =>
      have hb := run_bounds2 (P := P) (isS := false) (cap := s.length) hlo hhi h1 h2 (by omega) (by omega) (Nat.le_refl _)
      have e : (ByteArray.mk s.toArray).extract l h = ByteArray.mk ((s.take h).drop l).toArray := by
        apply ByteArray.ext
        simp [List.drop_take]
      refine Out.same hs (v := .string ⟨((s.take h).drop l).toArray⟩) ?_ (by simpa using mk_str _)
      simp only [Instr.sliceAt, Instr.slice, Sem.run_bind, run_und hu, Result.andThen_ok, size_mk]
      simp [hb, e]
  · rename_i e m sz xs hd
    obtain ⟨d, it, hu, hi', hd⟩ := td_of hd
    cases d <;> simp [tdOf] at hd
    subst hd
    split at h
    · rename_i te hte
      obtain ⟨ed, einf, ez, hed, heinf, hez, rfl⟩ := ti_spec hte
      split at h
      · rename_i hsz
        dsimp only at hsz
        split at h
        · rename_i l h0 h1 h2
          cases h
          obtain ⟨c1, c2, c3⟩ := hc
          obtain ⟨l, rfl, el⟩ := nat_of c1
          obtain ⟨h, rfl, eh⟩ := nat_of (Int.le_trans c1 c2)
          cases vmx with
          | some v => exact hmx.elim
          | none =>
            simp only [el, eh]
            rcases rel_slice.1 hx with ⟨⟨a, rfl⟩, rfl, hmn⟩ | ⟨blk, off, cap, C, ty, fr, rfl, hL⟩
            · simp only [List.length_nil] at c3
              have e0 : h = 0 := by omega
              have e1 : l = 0 := by omega
              subst e0; subst e1
              have hb := run_bounds2 (P := P) (isS := true) (len := 0) (cap := 0) hlo hhi h1 h2 (by omega) (by omega) (by omega)
              exact Out.same hs (run_sliceAt hu heinf hb) (rel_slice.2 (.inl ⟨⟨_, rfl⟩, by simp, trivial⟩))
            · have hb := run_bounds2 (P := P) (isS := true) (cap := cap) hlo hhi h1 h2 (by omega) (by omega) hL.1
              refine Out.same hs (run_sliceAt hu heinf hb) ?_
              simp only [Option.map_some, addr_add]
              refine rel_sub hL (by omega) (by omega) (by have := hL.1; omega) (Nat.le_refl _) ?_ _ (.inl rfl)
              rcases hsz with h | rfl
              · exact .inl h
              · simp at c3; exact .inr (by omega)
        · rename_i l h0 kk cc h1 h2
          split at h <;> cases h
          rename_i hsm
          obtain ⟨c1, c2, c3, c4⟩ := hc
          obtain ⟨l, rfl, el⟩ := nat_of c1
          obtain ⟨h, rfl, eh⟩ := nat_of (Int.le_trans c1 c2)
          obtain ⟨c, rfl, ec⟩ := nat_of (Int.le_trans (Int.le_trans c1 c2) c3)
          cases vmx with
          | none => exact hmx.elim
          | some v =>
            rw [rel_int hmx]
            have hsome : vhi ≠ none := by
              rintro rfl
              cases hi with
              | none => cases hsm
              | some q => exact hhi.elim
            simp only [el, eh]
            rcases rel_slice.1 hx with ⟨⟨a, rfl⟩, rfl, hmn⟩ | ⟨blk, off, cap, C, ty, fr, rfl, hL⟩
            · simp only [List.length_nil] at c4
              have e2 : c = 0 := by omega
              have e0 : h = 0 := by omega
              have e1 : l = 0 := by omega
              subst e0; subst e1; subst e2
              have hb := run_bounds3 (P := P) (len := 0) (cap := 0) (c := 0) (k := kk) hlo hhi h1 h2 (by omega) (by omega) (by omega) hsome
              exact Out.same hs (run_sliceAt hu heinf hb) (rel_slice.2 (.inl ⟨⟨_, rfl⟩, by simp, by simp [markNil]⟩))
            · have hb := run_bounds3 (P := P) (cap := cap) (c := c) (k := kk) hlo hhi h1 h2 (by omega) (by omega) (by have := hL.1; omega) hsome
              refine Out.same hs (run_sliceAt hu heinf hb) ?_
              simp only [Option.map_some, addr_add]
              refine rel_sub hL (by omega) (by omega) (by omega) (by have := hL.1; omega) ?_ _ ?_
              · rcases hsz with h | rfl
                · exact .inl h
                · simp at c4; exact .inr (by omega)
              · by_cases e1 : (h : Int) = c
                · rw [if_pos e1]
                  by_cases e2 : (l : Int) = h
                  · rw [if_pos e2]; exact .inr (.inr ⟨rfl, by omega⟩)
                  · rw [if_neg e2]; exact .inr (.inl ⟨rfl, by omega⟩)
                · rw [if_neg e1]; exact .inl rfl
        · cases h
      · cases h
    · cases h
  · rename_i e id off sz len hd
    obtain ⟨d, it, hu, hi', hd⟩ := td_of hd
    cases d <;> simp [tdOf] at hd
    subst hd
    split at h
    · rename_i te hte
      obtain ⟨ed, einf, ez, hed, heinf, hez, rfl⟩ := ti_spec hte
      split at h
      · rename_i hsz
        dsimp only at hsz
        split at h
        · rename_i l h0 h1 h2
          cases h
          obtain ⟨c1, c2, c3⟩ := hc
          obtain ⟨l, rfl, el⟩ := nat_of c1
          obtain ⟨h, rfl, eh⟩ := nat_of (Int.le_trans c1 c2)
          cases vmx with
          | some v => exact hmx.elim
          | none =>
            simp only [el]
            have e3 : ((h : Int) - l).toNat = h - l := by omega
            rw [e3]
            obtain ⟨hid, hnb, hx⟩ := rel_ms.1 hx
            rcases hx with ⟨rfl, a, rfl⟩ | ⟨blk, cap, C, ty, fr, hg, rfl, hle, hb, hcap, hth⟩
            · have e0 : h = 0 := by omega
              have e1 : l = 0 := by omega
              subst e0; subst e1
              have hb := run_bounds2 (P := P) (isS := true) (len := 0) (cap := 0) hlo hhi h1 h2 (by omega) (by omega) (by omega)
              exact Out.same hs (run_sliceAt hu heinf hb) (rel_ms.2 ⟨hid, hnb, .inl ⟨rfl, _, rfl⟩⟩)
            have hbd := run_bounds2 (P := P) (isS := true) (cap := cap) hlo hhi h1 h2 (by omega) (by omega) hle
            have hmul : l * sz + (cap - l) * sz = cap * sz := by rw [← Nat.add_mul]; congr 1; omega
            by_cases hcl : cap = l
            · refine Out.same hs (run_sliceAt hu heinf hbd) ?_
              rw [show h - l = 0 by omega, show cap - l = 0 by omega]
              exact rel_ms.2 ⟨hid, hnb, .inl ⟨rfl, _, rfl⟩⟩
            · refine Out.same hs (run_sliceAt hu heinf hbd) ?_
              rw [if_neg hcl]
              simp only [Option.map_some, addr_add, hsz]
              exact rel_ms.2 ⟨hid, hnb, .inr ⟨blk, cap - l, C, ty, fr, hg, rfl, by omega, hb, by omega, fun p p1 p2 => hth p (by omega) (by omega)⟩⟩
        · cases h
      · cases h
    · cases h
  · rename_i n e id off hd
    obtain ⟨d, it, hu, hi', hd⟩ := td_of hd
    cases d <;> simp [tdOf] at hd
    rename_i n' e'
    obtain ⟨rfl, rfl⟩ := hd
    split at h
    · rename_i te hte
      obtain ⟨ed, einf, ez, hed, heinf, hez, rfl⟩ := ti_spec hte
      split at h
      · rename_i cs hcs
        split at h
        · rename_i l h0 h1 h2
          cases h
          obtain ⟨c1, c2, c3, c4⟩ := hc
          dsimp only at c4
          obtain ⟨l, rfl, el⟩ := nat_of c1
          obtain ⟨h, rfl, eh⟩ := nat_of (Int.le_trans c1 c2)
          obtain ⟨ho, blk, C, ty, fr, hg, hb, hsz, hr, hth⟩ := obj_cells hs hcs
          obtain ⟨hid, hnb, blk', hg', rfl⟩ := rel_ptr.1 hx
          rw [hg] at hg'; cases hg'
          cases vmx with
          | some v => exact hmx.elim
          | none =>
            simp only [el]
            have e3 : ((h : Int) - l).toNat = h - l := by omega
            rw [e3]
            have hlt : l ≤ h := by omega
            have hbd : (Instr.sliceBounds false n' n' vlo vhi none).run P w = .ok (l, h, n') w := run_bounds2 (P := P) (isS := false) (cap := n') hlo hhi h1 h2 (by omega) (by omega) (Nat.le_refl _)
            have hrun : (Instr.sliceAt t (.pointer (some ⟨blk, off, none⟩)) vlo vhi none).run P w = .ok (.slice (some (if n' = l then ⟨blk, off, none⟩ else (⟨blk, off, none⟩ : Addr).add (l * einf.size))) (h - l) (n' - l)) w := by
              simp [Instr.sliceAt, run_und hu, hbd, run_size heinf, Instr.sureAddr]
            have hmul : l * einf.size + (n' - l) * einf.size = n' * einf.size := by rw [← Nat.add_mul]; congr 1; omega
            by_cases hcl : n' = l
            · refine Out.same hs hrun ?_
              rw [show h - l = 0 by omega, show n' - l = 0 by omega]
              exact rel_ms.2 ⟨hid, hnb, .inl ⟨rfl, _, rfl⟩⟩
            · refine Out.same hs hrun ?_
              rw [if_neg hcl]
              simp only [addr_add]
              exact rel_ms.2 ⟨hid, hnb, .inr ⟨blk, n' - l, C, ty, fr, hg, rfl, by omega, hb, by omega, fun p p1 p2 => hth p (by omega) (by omega)⟩⟩
        · cases h
      · cases h
    · cases h
  · cases h

end
end Go.AL
