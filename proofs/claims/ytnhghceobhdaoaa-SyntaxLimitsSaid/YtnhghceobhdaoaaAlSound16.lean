/- Contracts and plain laws, a part of the proof; no condition of its own. -/
import Derived.Test.YtnhghceobhdaoaaAlSound15
/- The abstract layer: the rules are sound, 16: the end of a function. -/
namespace Go.AL
set_option linter.all false
set_option linter.unusedSectionVars false

theorem Ext.drop {w w' : World} {γ γ' : Conc} {H0 H H' : AHeap} (h : Ext w γ H0 w' γ' H) (hl : H'.Le H) (hn : H0.nx ≤ H'.nx) : Ext w γ H0 w' γ' H' where
  os := h.os
  tape := h.tape
  output := h.output
  size := h.size
  nx := hn
  block := h.block
  imm := fun b e hb hi => (h.imm b e hb hi).drop hl
  un := h.un
  none := fun id hid hn => by
    obtain ⟨h1, h2⟩ := h.none id hid hn
    refine ⟨?_, h2⟩
    cases hg : H'.get id with
    | none => rfl
    | some o => have := hl.get _ _ hg; rw [h1] at this; cases this
  keep := fun id o ho hb => ⟨(h.keep id o ho hb).1, (h.keep id o ho hb).2.drop hl⟩
  bufs := fun id sz n ho sz' n' h' => h.bufs id sz n ho sz' n' (hl.get _ _ h')
  bufk := fun id sz n ho o h' => h.bufk id sz n ho o (hl.get _ _ h')

section
variable {P : Program} {w : World} {γ : Conc} {H H1 : AHeap}

theorem wk1_rel (hs : State w γ H) (hl : H1.Le H) {x y : AV} {v : Value} (h : Rel w γ H x v) (hw : wk1 H H1 x y) (hlt : y.lt H1.nx) : Rel w γ H1 y v := by
  unfold wk1 at hw
  split at hw
  · rename_i m sz xs m' sz' ys
    refine Rel.drop hl _ _ hlt ?_
    rw [Rel] at h ⊢
    rcases hw with ⟨hm, rfl, rfl⟩ | ⟨rfl, rfl, rfl, rfl⟩
    · rcases h with ⟨h1, h2, h3⟩ | ⟨blk, off, cap, C, ty, fr, h1, h2, h3, h4, h5, h6, h7⟩
      · refine .inl ⟨h1, h2, ?_⟩
        rcases hm with rfl | rfl
        · trivial
        · exact h3
      · refine .inr ⟨blk, off, cap, C, ty, fr, h1, h2, h3, h4, h5, ?_, h7⟩
        rcases hm with rfl | rfl
        · trivial
        · exact h6
    · rcases h with ⟨h1, h2, h3⟩ | ⟨blk, off, cap, C, ty, fr, h1, h2, h3, h4, h5, h6, h7⟩
      · exact .inl ⟨h1, rfl, trivial⟩
      · exact h6.elim
  · rename_i id off sz len m' sz' ys
    split at hw
    · rename_i cs hc
      obtain ⟨hmk, rfl, rfl, hnone⟩ := hw
      obtain ⟨ho, blk, C, ty, fr, hg, hb, hsz, hr, _⟩ := obj_cells hs hc
      rw [Rel] at h
      obtain ⟨_, _, h⟩ := h
      rw [Rel]
      rcases h with ⟨rfl, h⟩ | ⟨blk', cap, C', ty', fr', hg', rfl, hle, hb', hcap, _⟩
      · refine .inl ⟨h, rfl, ?_⟩
        rcases hmk with rfl | ⟨rfl, _⟩ <;> trivial
      · rw [hg] at hg'; cases hg'
        rw [hb] at hb'; cases hb'
        have himm : ∀ e, Imm γ H1 blk e := fun e id' o ho' hg' => by
          have := hs.inj id' id o _ blk (hl.get _ _ ho') ho hg' hg
          subst this
          rw [hnone] at ho'; cases ho'
        refine .inr ⟨blk, off, cap, C, ty, fr, by rw [rowsOf_len], by rw [rowsOf_len]; exact hle, hb, hcap, himm _, ?_, fun i hi => ?_⟩
        · rcases hmk with rfl | ⟨rfl, hk1, hk2⟩
          · trivial
          · rw [rowsOf_len]
            show cap = len
            have : cap * sz' ≤ len * sz' := by omega
            have := Nat.le_of_mul_le_mul_right this hk1
            omega
        have hlen : i < len := by rw [rowsOf_len] at hi; exact hi
        have hmul : (i + 1) * sz' ≤ cap * sz' := Nat.mul_le_mul_right _ (by omega)
        rw [Nat.add_mul] at hmul
        rw [AV.lt] at hlt
        have hlti := hlt.2 i hi
        have hcell : ∀ j, j < sz' → ∃ u, C[off + i * sz' + j]? = some u ∧ Rel w γ H ((cs.drop off).getD (i * sz' + j) .junk) u := fun j hj => by
          have hlt2 : off + i * sz' + j < C.size := by omega
          refine ⟨C[off + i * sz' + j], by simp [hlt2], ?_⟩
          by_cases hin : off + (i * sz' + j) < cs.length
          · obtain ⟨u, hu, hru⟩ := hr (off + (i * sz' + j)) hin
            have : C[off + i * sz' + j] = u := by
              have e1 : 0 + (off + (i * sz' + j)) = off + i * sz' + j := by omega
              rw [e1] at hu
              exact Option.some.inj ((by simp [hlt2] : some C[off + i * sz' + j] = C[off + i * sz' + j]?).trans hu)
            rw [this]
            have e2 : (cs.drop off).getD (i * sz' + j) .junk = cs[off + (i * sz' + j)] := by simp [List.getD_eq_getElem?_getD, hin]
            rw [e2]; exact hru
          · have e2 : (cs.drop off).getD (i * sz' + j) .junk = .junk := by
              rw [List.getD_eq_getElem?_getD, List.getElem?_drop, List.getElem?_eq_none (by omega)]; rfl
            rw [e2, Rel]; trivial
        have hget := rowsOf_get sz' len (cs.drop off) i hi
        by_cases h1 : sz' = 1
        · subst h1
          rw [if_pos rfl] at hget
          rw [hget] at hlti ⊢
          refine ⟨by rw [cell1_cells]; rfl, fun j hj => ?_⟩
          have hj0 : j = 0 := by rw [cell1_cells] at hj; simpa using hj
          subst hj0
          obtain ⟨u, hu, hru⟩ := hcell 0 (by omega)
          refine ⟨u, hu, ?_⟩
          have e3 : (cell1 ((cs.drop off).getD i .junk)).cells[0]'hj = cell1 ((cs.drop off).getD i .junk) := by simp only [cell1_cells, List.getElem_cons_zero]
          rw [e3]
          exact Rel.drop hl _ _ hlti (rel_cell1 (by simpa using hru))
        · rw [if_neg h1] at hget
          rw [hget] at hlti ⊢
          refine ⟨by simp [AV.cells], fun j hj => ?_⟩
          have hj' : j < sz' := by simpa [AV.cells] using hj
          obtain ⟨u, hu, hru⟩ := hcell j hj'
          refine ⟨u, hu, Rel.drop hl _ _ (AV.lt_cells hlti j hj) ?_⟩
          simpa [AV.cells] using hru
    · exact hw.elim
  · subst hw; exact Rel.drop hl _ _ hlt h

theorem wkL_rel (hs : State w γ H) (hl : H1.Le H) : ∀ {xs ys : List AV}, wkL H H1 xs ys → ys.length = xs.length ∧ ∀ (j : Nat) (hj : j < ys.length), ∃ hj' : j < xs.length, wk1 H H1 xs[j] ys[j]
  | [], [], _ => ⟨rfl, fun j hj => absurd hj (by simp)⟩
  | x :: xs, y :: ys, h => by
    obtain ⟨h1, h2⟩ := wkL_rel hs hl h.2
    refine ⟨by simp [h1], fun j hj => ?_⟩
    cases j with
    | zero => exact ⟨by simp, h.1⟩
    | succ j => obtain ⟨h3, h4⟩ := h2 j (by simpa using hj); exact ⟨by simpa using h3, h4⟩
  | [], _ :: _, h => h.elim
  | _ :: _, [], h => h.elim

theorem wk2_rel (hs : State w γ H) (hl : H1.Le H) {x y : AV} {v : Value} (h : Rel w γ H x v) (hw : wk2 H H1 x y) (hlt : y.lt H1.nx) : Rel w γ H1 y v := by
  unfold wk2 at hw
  split at hw
  · rename_i xs ys
    obtain ⟨hlen, hj⟩ := wkL_rel hs hl hw
    rw [AV.lt] at hlt
    rw [Rel] at h ⊢
    obtain ⟨C, hv, hsz, hc⟩ := h
    refine ⟨C, hv, by omega, fun j hjl => ?_⟩
    obtain ⟨hj', hw'⟩ := hj j hjl
    obtain ⟨u, hu, hr⟩ := hc j hj'
    exact ⟨u, hu, wk1_rel hs hl hr hw' (hlt j hjl)⟩
  · exact wk1_rel hs hl h hw hlt

theorem wkLL_rel (hs : State w γ H) (hl : H1.Le H) : ∀ {xs ys : List AV}, wkLL H H1 xs ys → ys.length = xs.length ∧ ∀ (j : Nat) (hj : j < ys.length), ∃ hj' : j < xs.length, wk2 H H1 xs[j] ys[j]
  | [], [], _ => ⟨rfl, fun j hj => absurd hj (by simp)⟩
  | x :: xs, y :: ys, h => by
    obtain ⟨h1, h2⟩ := wkLL_rel hs hl h.2
    refine ⟨by simp [h1], fun j hj => ?_⟩
    cases j with
    | zero => exact ⟨by simp, h.1⟩
    | succ j => obtain ⟨h3, h4⟩ := h2 j (by simpa using hj); exact ⟨by simpa using h3, h4⟩
  | [], _ :: _, h => h.elim
  | _ :: _, [], h => h.elim

theorem wk_rel (hs : State w γ H) (hl : H1.Le H) {x y : AV} {v : Value} (h : Rel w γ H x v) (hw : wk H H1 x y) (hlt : y.lt H1.nx) : Rel w γ H1 y v := by
  unfold wk at hw
  split at hw
  · rename_i xs ys
    obtain ⟨hlen, hj⟩ := wkLL_rel hs hl hw
    rw [AV.lt] at hlt
    rw [Rel] at h ⊢
    obtain ⟨C, hv, hsz, hc⟩ := h
    refine ⟨C, hv, by omega, fun j hjl => ?_⟩
    obtain ⟨hj', hw'⟩ := hj j hjl
    obtain ⟨u, hu, hr⟩ := hc j hj'
    exact ⟨u, hu, wk2_rel hs hl hr hw' (hlt j hjl)⟩
  · exact wk2_rel hs hl h hw hlt

/-! ### Results -/
theorem resA_sound (hs : State w γ H) {fr : Fr} {a : Act} (hf : SimF w γ H (Fr.get fr) a) {r : ResultVar} {c : Prop} {x : AV} (h : resA P fr H r = some (c, x)) (hc : c) :
    ∃ v, ((match r with | .tmp t => pure (a.tmps.getD t undef) | .cell b t => do loadVar t (← asAddr (a.tmps.getD b undef)) : Sem Value).run P w) = .ok v w ∧ Rel w γ H x v := by
  cases r with
  | tmp t =>
    simp only [resA] at h
    cases h
    exact ⟨_, by simp, hf t⟩
  | cell b t =>
    simp only [resA] at h
    cases hl : zhn P t (Fr.get fr b) H with
    | none => rw [hl] at h; cases h
    | some r =>
      rw [hl] at h; cases h
      have hb := hf b
      obtain ⟨_, v, h1, h4⟩ := sound_rLoadS hs hb hl hc
      have hp : ∃ ad, a.tmps.getD b undef = .pointer (some ad) := by
        unfold zhn at hl
        split at hl
        · rename_i heq; rw [heq, Rel] at hb; obtain ⟨_, _, blk, _, hv⟩ := hb; exact ⟨_, hv⟩
        · rename_i heq; rw [heq, Rel] at hb; obtain ⟨blk, off, C, ty, fr, hv, _⟩ := hb; exact ⟨_, hv⟩
        · cases hl
      obtain ⟨ad, had⟩ := hp
      rw [had] at h1
      refine ⟨v, ?_, h4⟩
      simp only [had]
      simpa [Instr.loadAt, Instr.sureAddr, asAddr] using h1

end
end Go.AL

