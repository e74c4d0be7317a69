/- The abstract layer: the rules are sound, 14: a region that draws its order, run in the order of the text. -/
import Derived.Test.YtnikhifkngaleaaAlSound13
namespace Go.AL
set_option linter.all false
set_option linter.unusedSectionVars false

section
variable {P : Program} {Ω : Tbl} {n : Nat} {ops : Array Oper}

theorem kindS_of {o : Op} (h : isCall o = false) : kindS P Ω o = kind P o := by
  unfold kindS
  split
  · simp [isCall] at h
  · rfl

theorem chkOp_ST {o : Oper} {fr : Fr} {x : AV} {g : AHeap} (hk : kind P o.op ≠ .eff) (h : chkOp P o fr x g) : ST P o (Fr.get fr) g (.ret x) g := by
  unfold chkOp at h
  split at h
  · rename_i r hr
    have hr' : aresE P o (evF (Fr.get fr)) g = some r := by rw [← ev_evF]; exact hr
    have := ST.res (P := P) (o := o) (f := Fr.get fr) (H := g) r hr' h.1
    rw [kind_ne_eff hk hr', h.2] at this
    exact this
  · exact h.elim

theorem stepD_out (hΩ : TblOk P Ω) {o : Oper} {fr : Fr} {H : AHeap} {hs : List AHeap} {ps : List (AHeap → Prop)} {N : List AHeap → List (AHeap → Prop) → Fr → AHeap → Prop}
    (h : stepD P Ω o hs ps N fr H) : ∃ x H' hs' ps', N hs' ps' (fr.put o.dst x) H' ∧ ST P o (Fr.get fr) H (.ret x) H' ∧ (∀ g, g ∈ hs ∨ g = H → g ∈ hs' ∨ g = H') ∧
      (∀ c ∈ ps, c ∈ ps' ∧ (c H → c H')) ∧
      (kindS P Ω o.op ≠ .eff → H' = H ∧ (∀ g ∈ hs, ST P o (Fr.get fr) g (.ret x) g) ∧ ∀ g, (∀ c ∈ ps', c H → c g) → ST P o (Fr.get fr) g (.ret x) g) := by
  unfold stepD at h
  split at h
  · split at h
    · rename_i f args argTypes hop
      split at h
      · rename_i k first cap hev
        have hg : evF (Fr.get fr) f = .func (.func k) first cap := by rw [← ev_evF]; exact hev
        have mk : ∀ {G G' : AHeap} {e : AEnd}, ACalls P k (first ++ args.toList.map (ev fr) ++ cap) G e G' → ST P o (Fr.get fr) G e G' := fun hc =>
          .call _ f k first cap _ _ hop rfl hg (by rw [← ev_evF]; exact hc)
        unfold callDr at h
        split at h
        · exact h.elim
        · rename_i e he
          have hE := hΩ k e he
          split at h
          · rename_i heff
            obtain ⟨x, H1, h1, h2⟩ := hE.2 heff _ _ _ h
            cases x with
            | panic v => exact h1.elim
            | ret v =>
              refine ⟨v, H1, _, _, h1.2, mk h2, fun g hg' => ?_, fun c hc => ⟨hc, fun _ => allP_mem h1.1 c hc⟩, fun hk => ?_⟩
              · rcases hg' with hg' | rfl
                · exact .inl (List.mem_cons_of_mem _ hg')
                · exact .inl List.mem_cons_self
              · exfalso; apply hk
                rw [hop]
                unfold kindS
                split
                · rename_i k' _ _ heq
                  cases heq
                  simp only [evF, AV.func.injEq, Fn.func.injEq] at hg
                  obtain ⟨rfl, _, _⟩ := hg
                  rw [he]; simp [heff]
                · simp [kind]
          · rename_i heff
            have heff' : e.eff = false := by simpa using heff
            obtain ⟨x, h1, h2⟩ := hE.1 heff' _ _ _ h
            have chk : ∀ g, e.p (first ++ args.toList.map (ev fr) ++ cap) g (fun v' => v' = x) → ST P o (Fr.get fr) g (.ret x) g := fun g hg' => by
              obtain ⟨y, rfl, h3⟩ := hE.1 heff' _ _ _ hg'
              exact mk h3
            refine ⟨x, H, hs, _, h1.2, mk h2, fun g hg' => hg', fun c hc => ⟨List.mem_cons_of_mem _ hc, id⟩, fun hk => ⟨rfl, fun g hg' => chk g (allH_mem h1.1 g hg'), fun g hg' => ?_⟩⟩
            rcases hg' _ List.mem_cons_self (.inl rfl) with rfl | hg'
            · exact mk h2
            · exact chk g hg'
      · exact h.elim
    · exact h.elim
  · rename_i hc
    have hc' : isCall o.op = false := by simpa using hc
    split at h
    · exact h.elim
    · rename_i r hr
      have hr' : aresE P o (evF (Fr.get fr)) H = some r := by rw [← ev_evF]; exact hr
      have hst := ST.res (P := P) (o := o) (f := Fr.get fr) (H := H) r hr' h.1
      obtain ⟨h0, h⟩ := h
      split at h
      · rename_i hk
        have hH := kind_ne_eff (by rw [hk]; simp) hr'
        rw [hH] at hst
        have anyw : ∀ g, ST P o (Fr.get fr) g (.ret r.v) g := fun g => by
          have hi := kind_inert (e := evF (Fr.get fr)) hk H g
          rw [hr'] at hi
          cases hg : aresE P o (evF (Fr.get fr)) g with
          | none => rw [hg] at hi; cases hi
          | some r' =>
            rw [hg] at hi
            simp only [Option.map_some, R.same, Option.some.injEq, Prod.mk.injEq] at hi
            have := ST.res (P := P) (o := o) (f := Fr.get fr) (H := g) r' hg (by rw [← hi.1]; exact h0)
            rw [kind_ne_eff (by rw [hk]; simp) hg, ← hi.2] at this
            exact this
        exact ⟨r.v, H, hs, ps, h, hst, fun g hg' => hg', fun c hc => ⟨hc, id⟩, fun _ => ⟨rfl, fun g _ => anyw g, fun g _ => anyw g⟩⟩
      · rename_i hk
        have hne : kind P o.op ≠ .eff := by rw [hk]; simp
        have hH := kind_ne_eff hne hr'
        rw [hH] at hst
        refine ⟨r.v, H, hs, _, h.2, hst, fun g hg' => hg', fun c hc => ⟨List.mem_cons_of_mem _ hc, id⟩, fun _ => ⟨rfl, fun g hg' => chkOp_ST hne (allH_mem h.1 g hg'), fun g hg' => ?_⟩⟩
        refine chkOp_ST hne (hg' _ List.mem_cons_self ?_)
        unfold chkOp; rw [hr]; exact ⟨h0, rfl⟩
      · rename_i hk
        refine ⟨r.v, r.H, _, _, h.2, hst, fun g hg' => ?_, fun c hc => ⟨hc, fun _ => allP_mem h.1 c hc⟩, fun hk' => absurd (by rw [kindS_of hc', hk]) hk'⟩
        rcases hg' with hg' | rfl
        · exact .inl (List.mem_cons_of_mem _ hg')
        · exact .inl List.mem_cons_self


theorem AY_of {o : Oper} {f : Nat → AV} {H H' : AHeap} {x : AV} (hg : o.guard = none) (h : ST P o f H (.ret x) H') : AY P ops o f H x H' := by
  unfold AY; rw [hg]; exact h

theorem AY_yes {o : Oper} {f : Nat → AV} {H H' : AHeap} {x : AV} {j t : Nat} {want : Bool} (hg : o.guard = some (j, want)) (ht : ydst ops j = some t) (hf : f t = .bool want)
    (h : ST P o f H (.ret x) H') : AY P ops o f H x H' := by
  unfold AY; rw [hg]; exact ⟨t, want, ht, hf, fun _ => h, fun h => absurd rfl h⟩

theorem AY_no {o : Oper} {f : Nat → AV} {H : AHeap} {j t : Nat} {want b : Bool} (hg : o.guard = some (j, want)) (ht : ydst ops j = some t) (hf : f t = .bool b) (hb : b ≠ want) : AY P ops o f H .junk H := by
  unfold AY; rw [hg]; exact ⟨t, b, ht, hf, fun h => absurd h hb, fun _ => ⟨rfl, rfl⟩⟩

/-- one operation of a region that draws its order -/
theorem awD_out (hΩ : TblOk P Ω) {K : Fr → AHeap → Prop} {o : Oper} {rest : List Oper} {fr : Fr} {H : AHeap} {hs : List AHeap} {ps : List (AHeap → Prop)}
    (h : awD P Ω ops (o :: rest) hs ps K fr H) : ∃ x H' hs' ps' fr', awD P Ω ops rest hs' ps' K fr' H' ∧ Fr.get fr' = putF (Fr.get fr) o.dst x ∧ AY P ops o (Fr.get fr) H x H' ∧
      (∀ g, g ∈ hs ∨ g = H → g ∈ hs' ∨ g = H') ∧ (∀ c ∈ ps, c ∈ ps' ∧ (c H → c H')) ∧
      (kindS P Ω o.op ≠ .eff → H' = H ∧ (∀ g ∈ hs, AY P ops o (Fr.get fr) g x g) ∧ ∀ g, (∀ c ∈ ps', c H → c g) → AY P ops o (Fr.get fr) g x g) := by
  unfold awD at h
  cases hg : o.guard with
  | none =>
    rw [hg] at h
    obtain ⟨x, H', hs', ps', h1, h2, h3, h4, h5⟩ := stepD_out hΩ h
    exact ⟨x, H', hs', ps', _, h1, get_put _ _ _, AY_of hg h2, h3, h4, fun hk => let ⟨k1, k2, k3⟩ := h5 hk; ⟨k1, fun g hm => AY_of hg (k2 g hm), fun g hm => AY_of hg (k3 g hm)⟩⟩
  | some gw =>
    obtain ⟨j, want⟩ := gw
    rw [hg] at h
    dsimp only at h
    split at h
    · rename_i b hb
      obtain ⟨t, ht, hft⟩ := yslot_some hb
      by_cases hbw : b = want
      · subst hbw
        obtain ⟨x, H', hs', ps', h1, h2, h3, h4, h5⟩ := stepD_out hΩ (h.1 rfl)
        have hfr : Fr.get (fr.put (ydst ops j) (.bool b)) = Fr.get fr := by rw [get_put, ht]; exact putF_same hft
        rw [hfr] at h2 h5
        exact ⟨x, H', hs', ps', _, h1, by rw [get_put, hfr], AY_yes hg ht hft h2, h3, h4, fun hk => let ⟨k1, k2, k3⟩ := h5 hk; ⟨k1, fun g hm => AY_yes hg ht hft (k2 g hm), fun g hm => AY_yes hg ht hft (k3 g hm)⟩⟩
      · have hb2 : b = !want := by cases b <;> cases want <;> simp_all
        have hfr : Fr.get (fr.put (ydst ops j) (.bool (!want))) = Fr.get fr := by rw [get_put, ht]; exact putF_same (by rw [hft, hb2])
        exact ⟨.junk, H, hs, ps, _, h.2 hb2, by rw [get_put, hfr], AY_no hg ht hft hbw, fun g hm => hm, fun c hc => ⟨hc, id⟩, fun _ => ⟨rfl, fun g _ => AY_no hg ht hft hbw, fun g _ => AY_no hg ht hft hbw⟩⟩
    · exact h.elim

abbrev below (i : Nat) : Nat → Bool := fun j => decide (j < i)

/-- the values and the heaps of the run in the order of the text -/
theorem lexD (hΩ : TblOk P Ω) (hr : RegOk P Ω n ops) (f0 : Nat → AV) {K : Fr → AHeap → Prop} : ∀ (rest : List Oper) (i : Nat), i + rest.length = ops.size → (∀ j, rest[j]? = ops[i + j]?) →
    ∀ hs ps fr H xs0, awD P Ω ops rest hs ps K fr H → Fr.get fr = FS ops f0 xs0 (below i) →
    ∃ (xs : Nat → AV) (hp : Nat → AHeap) (frn : Fr), (∀ j, j < i → xs j = xs0 j) ∧ hp i = H ∧ Fr.get frn = FS ops f0 xs (below ops.size) ∧ K frn (hp ops.size) ∧ (∀ c ∈ ps, c H → ∀ j, i ≤ j → j ≤ ops.size → c (hp j)) ∧
      ∀ k o, i ≤ k → ops[k]? = some o → AY P ops o (FS ops f0 xs (below k)) (hp k) (xs k) (hp (k + 1)) ∧
        (kindS P Ω o.op ≠ .eff → hp (k + 1) = hp k ∧ ∀ g, (g ∈ hs ∨ ∃ j, i ≤ j ∧ j ≤ ops.size ∧ g = hp j) → AY P ops o (FS ops f0 xs (below k)) g (xs k) g)
  | [], i, hlen, hl, hs, ps, fr, H, xs0, h, hfr => by
    have hi : i = ops.size := by simpa using hlen
    subst hi
    refine ⟨xs0, fun _ => H, fr, fun _ _ => rfl, rfl, hfr, h, fun c hc hH j _ _ => hH, fun k o hk ho => ?_⟩
    have := (Array.getElem?_eq_some_iff.1 ho).1
    omega
  | o :: rest, i, hlen, hl, hs, ps, fr, H, xs0, h, hfr => by
    have hi : ops[i]? = some o := by have := hl 0; simpa using this.symm
    have hlt : i < ops.size := (Array.getElem?_eq_some_iff.1 hi).1
    obtain ⟨x, H', hs', ps', fr', h1, h2, h3, h4, h5, h6⟩ := awD_out hΩ h
    let xs1 : Nat → AV := fun j => if j = i then x else xs0 j
    have e0 : FS ops f0 xs0 (below i) = FS ops f0 xs1 (below i) := funext fun t => FS_congr (fun _ _ _ => rfl) fun j hj => by
      have : j < i := by simpa [below] using hj
      simp only [xs1]; rw [if_neg (by omega)]
    have e1 : Fr.get fr' = FS ops f0 xs1 (below (i + 1)) := by
      rw [FS_put hr hi (S := below i) (by simp [below]) (fun j hj => by simp only [below]; rw [decide_eq_decide]; omega), ← e0, ← hfr, h2]
      simp [xs1]
    obtain ⟨xs, hp, frn, g1, g2, g3, g4, g5, g6⟩ := lexD hΩ hr f0 rest (i + 1) (by simp at hlen; omega) (fun j => by
      have := hl (j + 1); simp only [List.getElem?_cons_succ] at this; rw [this]; congr 1; omega) hs' ps' fr' H' xs1 h1 e1
    let hp' : Nat → AHeap := fun j => if j = i then H else hp j
    have hpi : hp' i = H := by simp [hp']
    have hpj : ∀ j, i + 1 ≤ j → hp' j = hp j := fun j hj => by simp only [hp']; rw [if_neg (by omega)]
    have xi : xs i = x := by rw [g1 i (by omega)]; simp [xs1]
    have eF : FS ops f0 xs (below i) = Fr.get fr := by
      rw [hfr, e0]
      exact funext fun t => FS_congr (fun _ _ _ => rfl) fun j hj => g1 j (Nat.lt_succ_of_lt (by simpa [below] using hj))
    refine ⟨xs, hp', frn, fun j hj => ?_, hpi, g3, ?_, fun c hc hH j hij hjs => ?_, fun k o' hk ho' => ?_⟩
    · rw [g1 j (by omega)]; simp only [xs1]; rw [if_neg (by omega)]
    · rw [hpj _ (by omega)]; exact g4
    · by_cases hj : j = i
      · subst hj; rw [hpi]; exact hH
      · rw [hpj j (by omega)]
        exact g5 c (h5 c hc).1 ((h5 c hc).2 hH) j (by omega) hjs
    · by_cases hki : k = i
      · subst hki
        rw [hi] at ho'; cases ho'
        rw [eF, xi, hpi, hpj (k + 1) (by omega), g2]
        refine ⟨h3, fun hk' => ?_⟩
        obtain ⟨k1, k2, k3⟩ := h6 hk'
        refine ⟨k1, fun g hg => ?_⟩
        rcases hg with hg | ⟨j, hj1, hj2, rfl⟩
        · exact k2 g hg
        · by_cases hj : j = k
          · subst hj; rw [hpi]; exact k3 H fun c _ hc => hc
          · rw [hpj j (by omega)]
            exact k3 _ fun c hc hcH => g5 c hc (by rw [k1]; exact hcH) j (by omega) hj2
      · obtain ⟨k1, k2⟩ := g6 k o' (by omega) ho'
        rw [hpj k (by omega), hpj (k + 1) (by omega)]
        refine ⟨k1, fun hk' => ⟨(k2 hk').1, fun g hg => (k2 hk').2 g ?_⟩⟩
        have cov : g ∈ hs ∨ g = H → g ∈ hs' ∨ ∃ j, i + 1 ≤ j ∧ j ≤ ops.size ∧ g = hp j := fun hg => by
          rcases h4 g hg with hg | rfl
          · exact .inl hg
          · exact .inr ⟨i + 1, by omega, by omega, g2.symm⟩
        rcases hg with hg | ⟨j, hj1, hj2, rfl⟩
        · exact cov (.inl hg)
        · by_cases hj : j = i
          · subst hj; exact cov (.inr hpi)
          · rw [hpj j (by omega)]; exact .inr ⟨j, by omega, hj2, rfl⟩

end
end Go.AL
