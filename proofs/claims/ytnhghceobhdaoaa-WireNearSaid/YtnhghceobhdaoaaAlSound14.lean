/- The abstract layer: the rules are sound, 14: a region that draws its order, run in the order of the text. -/
import Derived.Test.YtnhghceobhdaoaaAlSound13
namespace Go.AL
set_option linter.all false
set_option linter.unusedSectionVars false

section
variable {P : Program} {Ω : Tbl} {n : Nat} {ops : Array Oper}

theorem kindS_of {o : Op} (h : isCall o = false) : kindS P Ω o = kind P o := by
  unfold kindS
  split
  · simp [isCall] at h
  · rfl

theorem chkOp_ST {o : Oper} {fr : Fr} {x : AV} {g : AHeap} (hk : kind P o.op ≠ .eff) (h : chkOp P o fr x g) : ST P o (Fr.get fr) g (.ret x) g := by
  unfold chkOp at h
  split at h
  · rename_i r hr
    have hr' : aresE P o (evF (Fr.get fr)) g = some r := by rw [← ev_evF]; exact hr
    have := ST.res (P := P) (o := o) (f := Fr.get fr) (H := g) r hr' h.1
    rw [kind_ne_eff hk hr', h.2] at this
    exact this
  · exact h.elim

/-- what one step leaves: the place moves on; what was seen stays seen; what was to be kept is kept -/
structure Moved (P : Program) (Ω : Tbl) (o : Oper) (hs hs' : HS) (ps ps' : List (Nat × (AHeap → Prop))) (H H' : AHeap) : Prop where
  ms : hs'.ms = hs.ms.tail
  i : hs'.i = hs.i + 1
  old : ∀ g ∈ hs.hs, g ∈ hs'.hs
  new : (hs.i, H) ∈ hs'.hs ∨ H' = H
  ps : ∀ c ∈ ps, c ∈ ps' ∧ (c.2 H → c.2 H' ∨ (kindS P Ω o.op = .eff ∧ c.1 ∈ hs.ms.headD []))

theorem Moved.stay {o : Oper} {hs : HS} {ps ps' : List (Nat × (AHeap → Prop))} {H : AHeap} (h : ∀ c ∈ ps, c ∈ ps') : Moved P Ω o hs hs.nx ps ps' H H :=
  ⟨rfl, rfl, fun g hg => hg, .inr rfl, fun c hc => ⟨h c hc, .inl⟩⟩
theorem Moved.push {o : Oper} {hs : HS} {ps : List (Nat × (AHeap → Prop))} {H H' : AHeap} (hk : kindS P Ω o.op = .eff) (h : allP hs H' ps) : Moved P Ω o hs (hs.push H) ps ps H H' :=
  ⟨rfl, rfl, fun g hg => List.mem_cons_of_mem _ hg, .inl List.mem_cons_self, fun c hc => ⟨hc, fun _ => (allP_mem h c hc).elim (fun e => .inr ⟨hk, e⟩) .inl⟩⟩

theorem stepD_out (hΩ : TblOk P Ω) {o : Oper} {fr : Fr} {H : AHeap} {hs : HS} {ps : List (Nat × (AHeap → Prop))} {N : HS → List (Nat × (AHeap → Prop)) → Fr → AHeap → Prop}
    (h : stepD P Ω o hs ps N fr H) : ∃ x H' hs' ps', N hs' ps' (fr.put o.dst x) H' ∧ ST P o (Fr.get fr) H (.ret x) H' ∧ Moved P Ω o hs hs' ps ps' H H' ∧
      (kindS P Ω o.op ≠ .eff → H' = H ∧ (∀ g ∈ hs.hs, skip (hs.ms.headD []) g.1 (ST P o (Fr.get fr) g.2 (.ret x) g.2)) ∧ ∀ g, (∀ c ∈ ps', c.1 = hs.i → c.2 H → c.2 g) → ST P o (Fr.get fr) g (.ret x) g) := by
  unfold stepD at h
  split at h
  · split at h
    · rename_i f args argTypes hop
      split at h
      · rename_i k first cap hev
        have hg : evF (Fr.get fr) f = .func (.func k) first cap := by rw [← ev_evF]; exact hev
        have mk : ∀ {G G' : AHeap} {e : AEnd}, ACalls P k (first ++ args.toList.map (ev fr) ++ cap) G e G' → ST P o (Fr.get fr) G e G' := fun hc =>
          .call _ f k first cap _ _ hop rfl hg (by rw [← ev_evF]; exact hc)
        unfold callDr at h
        split at h
        · exact h.elim
        · rename_i e he
          have hE := hΩ k e he
          split at h
          · rename_i heff
            obtain ⟨x, H1, h1, h2⟩ := hE.2.1 heff _ _ _ h
            have hkS : kindS P Ω o.op = .eff := by
              rw [hop]
              unfold kindS
              split
              · rename_i k' _ _ heq
                cases heq
                simp only [evF, AV.func.injEq, Fn.func.injEq] at hg
                obtain ⟨rfl, _, _⟩ := hg
                rw [he]; simp [heff]
              · simp [kind]
            cases x with
            | panic v => exact h1.elim
            | ret v => exact ⟨v, H1, _, _, h1.2, mk h2, .push hkS h1.1, fun hk => absurd hkS hk⟩
          · rename_i heff
            have heff' : e.eff = false := by simpa using heff
            obtain ⟨x, h1, h2⟩ := hE.1 heff' _ _ _ h
            have chk : ∀ g, e.p (first ++ args.toList.map (ev fr) ++ cap) g (fun v' => v' = x) → ST P o (Fr.get fr) g (.ret x) g := fun g hg' => by
              obtain ⟨y, rfl, h3⟩ := hE.1 heff' _ _ _ hg'
              exact mk h3
            refine ⟨x, H, _, _, h1.2, mk h2, .stay fun c hc => List.mem_cons_of_mem _ hc, fun hk => ⟨rfl, fun g hg' => (allH_mem h1.1 g hg').imp id (chk g.2), fun g hg' => ?_⟩⟩
            rcases hg' _ List.mem_cons_self rfl (.inl rfl) with rfl | hg'
            · exact mk h2
            · exact chk g hg'
      · exact h.elim
    · exact h.elim
  · rename_i hc
    have hc' : isCall o.op = false := by simpa using hc
    split at h
    · exact h.elim
    · rename_i r hr
      have hr' : aresE P o (evF (Fr.get fr)) H = some r := by rw [← ev_evF]; exact hr
      have hst := ST.res (P := P) (o := o) (f := Fr.get fr) (H := H) r hr' h.1
      obtain ⟨h0, h⟩ := h
      split at h
      · rename_i hk
        have hH := kind_ne_eff (by rw [hk]; simp) hr'
        rw [hH] at hst
        have anyw : ∀ g, ST P o (Fr.get fr) g (.ret r.v) g := fun g => by
          have hi := kind_inert (e := evF (Fr.get fr)) hk H g
          rw [hr'] at hi
          cases hg : aresE P o (evF (Fr.get fr)) g with
          | none => rw [hg] at hi; cases hi
          | some r' =>
            rw [hg] at hi
            simp only [Option.map_some, R.same, Option.some.injEq, Prod.mk.injEq] at hi
            have := ST.res (P := P) (o := o) (f := Fr.get fr) (H := g) r' hg (by rw [← hi.1]; exact h0)
            rw [kind_ne_eff (by rw [hk]; simp) hg, ← hi.2] at this
            exact this
        exact ⟨r.v, H, _, ps, h, hst, .stay fun c hc => hc, fun _ => ⟨rfl, fun g _ => .inr (anyw g.2), fun g _ => anyw g⟩⟩
      · rename_i hk
        have hne : kind P o.op ≠ .eff := by rw [hk]; simp
        have hH := kind_ne_eff hne hr'
        rw [hH] at hst
        refine ⟨r.v, H, _, _, h.2, hst, .stay fun c hc => List.mem_cons_of_mem _ hc, fun _ => ⟨rfl, fun g hg' => (allH_mem h.1 g hg').imp id (chkOp_ST hne), fun g hg' => ?_⟩⟩
        refine chkOp_ST hne (hg' _ List.mem_cons_self rfl ?_)
        show chkOp P o fr r.v H
        unfold chkOp; rw [hr]; exact ⟨h0, rfl⟩
      · rename_i hk
        exact ⟨r.v, r.H, _, _, h.2, hst, .push (by rw [kindS_of hc', hk]) h.1, fun hk' => absurd (by rw [kindS_of hc', hk]) hk'⟩


theorem AY_of {o : Oper} {f : Nat → AV} {H H' : AHeap} {x : AV} (hg : o.guard = none) (h : ST P o f H (.ret x) H') : AY P ops o f H x H' := by
  unfold AY; rw [hg]; exact h

theorem AY_yes {o : Oper} {f : Nat → AV} {H H' : AHeap} {x : AV} {j t : Nat} {want : Bool} (hg : o.guard = some (j, want)) (ht : ydst ops j = some t) (hf : f t = .bool want)
    (h : ST P o f H (.ret x) H') : AY P ops o f H x H' := by
  unfold AY; rw [hg]; exact ⟨t, ht, .inl ⟨want, hf, fun _ => h, fun h => absurd rfl h⟩⟩

theorem AY_no {o : Oper} {f : Nat → AV} {H : AHeap} {j t : Nat} {want b : Bool} (hg : o.guard = some (j, want)) (ht : ydst ops j = some t) (hf : f t = .bool b) (hb : b ≠ want) : AY P ops o f H (.tup []) H := by
  unfold AY; rw [hg]; exact ⟨t, ht, .inl ⟨b, hf, fun h => absurd h hb, fun _ => ⟨rfl, rfl⟩⟩⟩
theorem AY_un {o : Oper} {f : Nat → AV} {H : AHeap} {j t : Nat} {want : Bool} (hg : o.guard = some (j, want)) (ht : ydst ops j = some t) (hf : f t = .tup []) : AY P ops o f H (.tup []) H := by
  unfold AY; rw [hg]; exact ⟨t, ht, .inr ⟨hf, rfl, rfl⟩⟩

/-- one operation of a region that draws its order -/
theorem awD_out (hΩ : TblOk P Ω) {K : Fr → AHeap → Prop} {o : Oper} {rest : List Oper} {fr : Fr} {H : AHeap} {hs : HS} {ps : List (Nat × (AHeap → Prop))}
    (h : awD P Ω ops (o :: rest) hs ps K fr H) : ∃ x H' hs' ps' fr', awD P Ω ops rest hs' ps' K fr' H' ∧ Fr.get fr' = putF (Fr.get fr) o.dst x ∧ AY P ops o (Fr.get fr) H x H' ∧
      Moved P Ω o hs hs' ps ps' H H' ∧
      (kindS P Ω o.op ≠ .eff → H' = H ∧ (∀ g ∈ hs.hs, skip (hs.ms.headD []) g.1 (AY P ops o (Fr.get fr) g.2 x g.2)) ∧ ∀ g, (∀ c ∈ ps', c.1 = hs.i → c.2 H → c.2 g) → AY P ops o (Fr.get fr) g x g) := by
  unfold awD at h
  cases hg : o.guard with
  | none =>
    rw [hg] at h
    obtain ⟨x, H', hs', ps', h1, h2, h3, h5⟩ := stepD_out hΩ h
    exact ⟨x, H', hs', ps', _, h1, get_put _ _ _, AY_of hg h2, h3, fun hk => let ⟨k1, k2, k3⟩ := h5 hk; ⟨k1, fun g hm => (k2 g hm).imp id (AY_of hg), fun g hm => AY_of hg (k3 g hm)⟩⟩
  | some gw =>
    obtain ⟨j, want⟩ := gw
    rw [hg] at h
    dsimp only at h
    split at h
    · rename_i b hb
      obtain ⟨t, ht, hft⟩ := yslot_some hb
      by_cases hbw : b = want
      · subst hbw
        obtain ⟨x, H', hs', ps', h1, h2, h3, h5⟩ := stepD_out hΩ (h.1 rfl)
        have hfr : Fr.get (fr.put (ydst ops j) (.bool b)) = Fr.get fr := by rw [get_put, ht]; exact putF_same hft
        rw [hfr] at h2 h5
        exact ⟨x, H', hs', ps', _, h1, by rw [get_put, hfr], AY_yes hg ht hft h2, h3, fun hk => let ⟨k1, k2, k3⟩ := h5 hk; ⟨k1, fun g hm => (k2 g hm).imp id (AY_yes hg ht hft), fun g hm => AY_yes hg ht hft (k3 g hm)⟩⟩
      · have hb2 : b = !want := by cases b <;> cases want <;> simp_all
        have hfr : Fr.get (fr.put (ydst ops j) (.bool (!want))) = Fr.get fr := by rw [get_put, ht]; exact putF_same (by rw [hft, hb2])
        exact ⟨.tup [], H, hs.nx, ps, _, h.2 hb2, by rw [get_put, hfr], AY_no hg ht hft hbw, .stay fun c hc => hc, fun _ => ⟨rfl, fun g _ => .inr (AY_no hg ht hft hbw), fun g _ => AY_no hg ht hft hbw⟩⟩
    · rename_i hb
      obtain ⟨t, ht, hft⟩ := yslot_undef hb
      exact ⟨.tup [], H, hs.nx, ps, _, h, get_put _ _ _, AY_un hg ht hft, .stay fun c hc => hc, fun _ => ⟨rfl, fun g _ => .inr (AY_un hg ht hft), fun g _ => AY_un hg ht hft⟩⟩
    · exact h.elim

abbrev below (i : Nat) : Nat → Bool := fun j => decide (j < i)

/-- operation j comes before operation i, whatever the order -/
abbrev Anc (ops : Array Oper) (i j : Nat) : Prop := ((anctbl ops.toList []).getD i 0).testBit j = true

theorem anc_lt (hr : RegOk P Ω n ops) {i j : Nat} (hi : i < ops.size) (h : Anc ops i j) : j < i := by
  obtain ⟨hanc, hlen⟩ := anctbl_spec (ops := ops) ops.toList [] (fun j => by simp) (fun i hi => absurd hi (by simp))
  exact hanc i (by rw [hlen]; simpa using hi) j h (· < i) (fun k o e h1 h2 h3 h4 => Nat.lt_trans (hr.edge k o e h1 h3 h4) h2) fun o e h1 h2 h3 => hr.edge i o e h1 h2 h3

/-- the heap behind j operations may be the one at which operation k runs -/
def adm (P : Program) (Ω : Tbl) (ops : Array Oper) (k j : Nat) : Prop :=
  (∀ e o, ops[e]? = some o → kindS P Ω o.op = .eff → Anc ops k e → e < j) ∧ (∀ e o, ops[e]? = some o → kindS P Ω o.op = .eff → Anc ops e k → j ≤ e)

/-- what is given says nothing that is not so -/
def MaskOk (ops : Array Oper) (i : Nat) (ms : List (List Nat)) : Prop :=
  ∀ k, i ≤ k → ∀ j, j ∈ ms.getD (k - i) [] → Anc ops k j

theorem MaskOk.tail {i : Nat} {ms : List (List Nat)} (h : MaskOk ops i ms) : MaskOk ops (i + 1) ms.tail := fun k hk j hj =>
  h k (by omega) j (by
    have e : k - i = (k - (i + 1)) + 1 := by omega
    rw [e]
    cases ms with
    | nil => simpa using hj
    | cons a l => simpa using hj)
theorem MaskOk.head {i : Nat} {ms : List (List Nat)} (h : MaskOk ops i ms) {j : Nat} (hj : j ∈ ms.headD []) : Anc ops i j :=
  h i (Nat.le_refl _) j (by
    rw [Nat.sub_self]
    cases ms with
    | nil => simpa using hj
    | cons a l => simpa using hj)

/-- the values and the heaps of the run in the order of the text -/
theorem lexD (hΩ : TblOk P Ω) (hr : RegOk P Ω n ops) (f0 : Nat → AV) {K : Fr → AHeap → Prop} : ∀ (rest : List Oper) (i : Nat), i + rest.length = ops.size → (∀ j, rest[j]? = ops[i + j]?) →
    ∀ hs ps fr H xs0, hs.i = i → MaskOk ops i hs.ms → awD P Ω ops rest hs ps K fr H → Fr.get fr = FS ops f0 xs0 (below i) →
    ∃ (xs : Nat → AV) (hp : Nat → AHeap) (frn : Fr), (∀ j, j < i → xs j = xs0 j) ∧ hp i = H ∧ Fr.get frn = FS ops f0 xs (below ops.size) ∧ K frn (hp ops.size) ∧
      (∀ c ∈ ps, c.2 H → ∀ j, i ≤ j → j ≤ ops.size → (∀ e o, i ≤ e → ops[e]? = some o → kindS P Ω o.op = .eff → Anc ops e c.1 → j ≤ e) → c.2 (hp j)) ∧
      ∀ k o, i ≤ k → ops[k]? = some o → AY P ops o (FS ops f0 xs (below k)) (hp k) (xs k) (hp (k + 1)) ∧
        (kindS P Ω o.op ≠ .eff → hp (k + 1) = hp k ∧ (∀ g ∈ hs.hs, Anc ops k g.1 ∨ AY P ops o (FS ops f0 xs (below k)) g.2 (xs k) g.2) ∧
          ∀ j, i ≤ j → j ≤ ops.size → adm P Ω ops k j → AY P ops o (FS ops f0 xs (below k)) (hp j) (xs k) (hp j))
  | [], i, hlen, hl, hs, ps, fr, H, xs0, _, _, h, hfr => by
    have hi : i = ops.size := by simpa using hlen
    subst hi
    refine ⟨xs0, fun _ => H, fr, fun _ _ => rfl, rfl, hfr, h, fun c hc hH j _ _ _ => hH, fun k o hk ho => ?_⟩
    have := (Array.getElem?_eq_some_iff.1 ho).1
    omega
  | o :: rest, i, hlen, hl, hs, ps, fr, H, xs0, hsi, hms, h, hfr => by
    have hi : ops[i]? = some o := by have := hl 0; simpa using this.symm
    have hlt : i < ops.size := (Array.getElem?_eq_some_iff.1 hi).1
    obtain ⟨x, H', hs', ps', fr', h1, h2, h3, h4, h6⟩ := awD_out hΩ h
    let xs1 : Nat → AV := fun j => if j = i then x else xs0 j
    have e0 : FS ops f0 xs0 (below i) = FS ops f0 xs1 (below i) := funext fun t => FS_congr (fun _ _ _ => rfl) fun j hj => by
      have : j < i := by simpa [below] using hj
      simp only [xs1]; rw [if_neg (by omega)]
    have e1 : Fr.get fr' = FS ops f0 xs1 (below (i + 1)) := by
      rw [FS_put hr hi (S := below i) (by simp [below]) (fun j hj => by simp only [below]; rw [decide_eq_decide]; omega), ← e0, ← hfr, h2]
      simp [xs1]
    obtain ⟨xs, hp, frn, g1, g2, g3, g4, g5, g6⟩ := lexD hΩ hr f0 rest (i + 1) (by simp at hlen; omega) (fun j => by
      have := hl (j + 1); simp only [List.getElem?_cons_succ] at this; rw [this]; congr 1; omega) hs' ps' fr' H' xs1 (by rw [h4.i, hsi]) (by rw [h4.ms]; exact hms.tail) h1 e1
    let hp' : Nat → AHeap := fun j => if j = i then H else hp j
    have hpi : hp' i = H := by simp [hp']
    have hpj : ∀ j, i + 1 ≤ j → hp' j = hp j := fun j hj => by simp only [hp']; rw [if_neg (by omega)]
    have xi : xs i = x := by rw [g1 i (by omega)]; simp [xs1]
    have eF : FS ops f0 xs (below i) = Fr.get fr := by
      rw [hfr, e0]
      exact funext fun t => FS_congr (fun _ _ _ => rfl) fun j hj => g1 j (Nat.lt_succ_of_lt (by simpa [below] using hj))
    refine ⟨xs, hp', frn, fun j hj => ?_, hpi, g3, ?_, fun c hc hH j hij hjs hadm => ?_, fun k o' hk ho' => ?_⟩
    · rw [g1 j (by omega)]; simp only [xs1]; rw [if_neg (by omega)]
    · rw [hpj _ (by omega)]; exact g4
    · by_cases hj : j = i
      · subst hj; rw [hpi]; exact hH
      · rw [hpj j (by omega)]
        obtain ⟨q1, q2⟩ := h4.ps c hc
        rcases q2 hH with q2 | ⟨q2, q3⟩
        · exact g5 c q1 q2 j (by omega) hjs fun e oe he => hadm e oe (by omega)
        · have := hadm i o (Nat.le_refl _) hi q2 (hms.head q3)
          omega
    · by_cases hki : k = i
      · subst hki
        rw [hi] at ho'; cases ho'
        rw [eF, xi, hpi, hpj (k + 1) (by omega), g2]
        refine ⟨h3, fun hk' => ?_⟩
        obtain ⟨k1, k2, k3⟩ := h6 hk'
        refine ⟨k1, fun g hg => (k2 g hg).imp hms.head id, fun j hj1 hj2 hadm => ?_⟩
        by_cases hj : j = k
        · subst hj; rw [hpi]; exact k3 H fun c _ _ hc => hc
        · rw [hpj j (by omega)]
          exact k3 _ fun c hc hci hcH => g5 c hc (by rw [k1]; exact hcH) j (by omega) hj2 fun e oe _ hoe hee ha => hadm.2 e oe hoe hee (by rw [← hsi, ← hci]; exact ha)
      · obtain ⟨k1, k2⟩ := g6 k o' (by omega) ho'
        have hks : k < ops.size := (Array.getElem?_eq_some_iff.1 ho').1
        rw [hpj k (by omega), hpj (k + 1) (by omega)]
        refine ⟨k1, fun hk' => ⟨(k2 hk').1, fun g hg => (k2 hk').2.1 g (h4.old g hg), fun j hj1 hj2 hadm => ?_⟩⟩
        by_cases hj : j = i
        · subst hj
          rw [hpi]
          rcases h4.new with hn | hn
          · rw [hsi] at hn
            rcases (k2 hk').2.1 _ hn with ha | ha
            · by_cases hoe : kindS P Ω o.op = .eff
              · have := hadm.1 j o hi hoe ha; omega
              · have hH := (h6 hoe).1
                have := (k2 hk').2.2 (j + 1) (by omega) (by omega) ⟨fun e oe h1 h2 h3 => by have := hadm.1 e oe h1 h2 h3; omega, fun e oe h1 h2 h3 => by
                  have := hadm.2 e oe h1 h2 h3
                  have hne : e ≠ j := fun he => by subst he; rw [hi] at h1; cases h1; exact hoe h2
                  omega⟩
                rw [g2, hH] at this; exact this
            · exact ha
          · have := (k2 hk').2.2 (j + 1) (by omega) (by omega) ⟨fun e oe h1 h2 h3 => by have := hadm.1 e oe h1 h2 h3; omega, fun e oe h1 h2 h3 => by
              have := hadm.2 e oe h1 h2 h3
              have hne : e ≠ j := fun he => by subst he; have := anc_lt hr hlt h3; omega
              omega⟩
            rw [g2, hn] at this; exact this
        · rw [hpj j (by omega)]
          exact (k2 hk').2.2 j (by omega) hj2 hadm

end
end Go.AL
