/- The abstract layer: the rules are sound, 11: regions in the order of the text. -/
import Derived.Test.YtnikhifkngaleaaAlSound10
namespace Go.AL
set_option linter.all false
set_option linter.unusedSectionVars false

/-- what holds between two operations -/
structure Inv (w0 : World) (γ0 : Conc) (H0 : AHeap) (n : Nat) (w : World) (γ : Conc) (H : AHeap) (f : Nat → AV) (a : Act) : Prop where
  state : State w γ H
  ext : Ext w0 γ0 H0 w γ H
  sim : SimF w γ H f a
  size : a.tmps.size = n
  defers : a.defers = []

def dstIn (n : Nat) (o : Oper) : Bool := match o.dst with | some d => decide (d < n) | none => true

/-- a slot written -/
def putF (f : Nat → AV) (d : Option Nat) (x : AV) : Nat → AV := match d with
  | some d => fun t => if t = d then x else f t
  | none => f

theorem get_put (fr : Fr) (d : Option Nat) (x : AV) : Fr.get (fr.put d x) = putF (Fr.get fr) d x := by
  cases d with
  | none => rfl
  | some d =>
    funext t
    simp only [Fr.put, Fr.get, putF]
    by_cases h : d = t
    · rw [if_pos h, if_pos h.symm]
    · rw [if_neg h, if_neg (fun e => h e.symm)]

theorem Act.size_put (a : Act) (d : Option Tmp) (v : Value) : (a.put d v).tmps.size = a.tmps.size := by
  cases d <;> simp [Act.put]
theorem Act.defers_put (a : Act) (d : Option Tmp) (v : Value) : (a.put d v).defers = a.defers := by
  cases d <;> rfl

section
variable {P : Program} {Ω : Tbl} {w0 : World} {γ0 : Conc} {H0 : AHeap} {n : Nat}

theorem Inv.put {w : World} {γ : Conc} {H : AHeap} {f : Nat → AV} {a : Act} (h : Inv w0 γ0 H0 n w γ H f a) {o : Oper} (hd : dstIn n o = true) {w' : World} {γ' : Conc} {H' : AHeap} {x : AV} {v : Value}
    (hs : State w' γ' H') (he : Ext w γ H w' γ' H') (hr : Rel w' γ' H' x v) : Inv w0 γ0 H0 n w' γ' H' (putF f o.dst x) (a.put o.dst v) where
  state := hs
  ext := h.ext.trans he
  sim := by
    have hsim := h.sim.ext he
    unfold dstIn at hd
    split at hd
    · rename_i d hd'
      intro t
      have hlt : d < a.tmps.size := by rw [h.size]; simpa using hd
      simp only [putF, hd', Act.put]
      by_cases ht : t = d
      · subst ht; simp [hlt, hr]
      · rw [if_neg ht]
        have := hsim t
        simp only [Array.getD_eq_getD_getElem?] at this ⊢
        rw [Array.getElem?_setIfInBounds_ne (fun e => ht e.symm)]; exact this
    · rename_i hd'
      rw [hd']; exact hsim
  size := by rw [Act.size_put]; exact h.size
  defers := by rw [Act.defers_put]; exact h.defers

/-- one step of the rules is one operation's run -/
theorem step1_out (hΩ : TblOk P Ω) {o : Oper} {fr : Fr} {H : AHeap} {K : Fr → AHeap → Prop} {Kp : AV → AHeap → Prop} (h : step1 P Ω o fr H K Kp) :
    ∃ e H', ST P o (Fr.get fr) H e H' ∧ match e with | .ret x => K (fr.put o.dst x) H' | .panic v => Kp v H' := by
  unfold step1 at h
  split at h
  · unfold stepCall at h
    split at h
    · rename_i f args argTypes hop
      split at h
      · rename_i k first cap hev
        have hg : evF (Fr.get fr) f = .func (.func k) first cap := by rw [← ev_evF]; exact hev
        unfold callK at h
        split at h
        · exact h.elim
        · rename_i e he
          have hE := hΩ k e he
          split at h
          · rename_i heff
            obtain ⟨x, H1, h1, h2⟩ := hE.2 heff _ _ _ h
            refine ⟨x, H1, .call _ f k first cap x H1 hop rfl hg (by rw [← ev_evF]; exact h2), ?_⟩
            cases x <;> exact h1
          · rename_i heff
            obtain ⟨x, h1, h2⟩ := hE.1 (by simpa using heff) _ _ _ h
            exact ⟨.ret x, H, .call _ f k first cap _ H hop rfl hg (by rw [← ev_evF]; exact h2), h1⟩
      · exact h.elim
    · rename_i x hop
      split at h
      · rename_i t v hev
        exact ⟨_, H, .panic x t v hop (by rw [← ev_evF]; exact hev), h⟩
      · exact h.elim
    · exact h.elim
  · split at h
    · rename_i r hr
      refine ⟨_, _, .res r (by rw [← ev_evF]; exact hr) h.1, h.2⟩
    · exact h.elim

theorem yielded_of {ops : Array Oper} {w : World} {γ : Conc} {H : AHeap} {f : Nat → AV} {a : Act} (hf : SimF w γ H f a) {j t : Nat} {b : Bool} (hd : ydst ops j = some t) (hb : f t = .bool b) :
    yielded ops a.tmps j = some b := by
  unfold yielded
  have : (ops[j]?).bind (·.dst) = some t := hd
  rw [this]
  have h := hf t
  rw [hb, Rel] at h
  simp only [Option.bind_some]
  rw [Array.getD_eq_getD_getElem?] at h
  cases h2 : a.tmps[t]? with
  | none => rw [h2] at h; cases h
  | some v => rw [h2] at h; simp only [Option.getD_some] at h; rw [h]

theorem yslot_some {ops : Array Oper} {fr : Fr} {j : Nat} {b : Bool} (h : yslot ops fr j = .bool b) : ∃ t, ydst ops j = some t ∧ Fr.get fr t = .bool b := by
  unfold yslot at h
  split at h
  · rename_i t ht; exact ⟨t, ht, h⟩
  · cases h

theorem putF_same {f : Nat → AV} {t : Nat} {x : AV} (h : f t = x) : putF f (some t) x = f := by
  funext s
  simp only [putF]
  split
  · rename_i e; rw [e, h]
  · rfl

/-- operations in the order of the text -/
theorem awOps_sound (hΩ : TblOk P Ω) {ops : Array Oper} {K : Fr → AHeap → Prop} {Kp : AV → AHeap → Prop} {Q : Exit → Act → World → Prop}
    (hK : ∀ fr H w γ a, Inv w0 γ0 H0 n w γ H (Fr.get fr) a → K fr H → Q .normal a w)
    (hKp : ∀ x v H w γ a, State w γ H → Ext w0 γ0 H0 w γ H → a.defers = [] → Rel w γ H x v → Kp x H → Q (.panic [{ v, recovered := false }]) a w) :
    ∀ (l : List Oper), (∀ o ∈ l, dstIn n o = true) → ∀ fr H w γ a, Inv w0 γ0 H0 n w γ H (Fr.get fr) a → awOps P Ω ops l K Kp fr H → wpList P ops Q l a w
  | [], _, fr, H, w, γ, a, hi, h => hK fr H w γ a hi h
  | o :: rest, hd, fr, H, w, γ, a, hi, h => by
    have ih := awOps_sound (ops := ops) hΩ hK hKp rest (fun o ho => hd o (List.mem_cons_of_mem _ ho))
    have hdo := hd o List.mem_cons_self
    have run : ∀ fr', Fr.get fr' = Fr.get fr → step1 P Ω o fr' H (awOps P Ω ops rest K Kp) Kp → o.wp P a w (wpList P ops Q rest) Q := by
      intro fr' hfr h
      obtain ⟨e, H', hst, hk⟩ := step1_out hΩ h
      rw [hfr] at hst
      refine hst.sound hi.state hi.sim (fun x v w' γ' he h1 h2 h3 => ?_) (fun x v w' γ' he h1 h2 h3 => ?_)
      · subst he
        have hi' := hi.put hdo h1 h2 h3
        rw [← hfr, ← get_put] at hi'
        exact ih _ _ _ _ _ hi' hk
      · subst he
        exact hKp x v H' w' γ' a h1 (hi.ext.trans h2) hi.defers h3 hk
    unfold awOps at h
    unfold wpList
    cases hg : o.guard with
    | none =>
      rw [hg] at h
      rw [if_pos (by simp [Region.wanted, hg])]
      exact .inl (run fr rfl h)
    | some gw =>
      obtain ⟨j, want⟩ := gw
      rw [hg] at h
      dsimp only at h
      split at h
      · rename_i b hb
        obtain ⟨t, ht, hft⟩ := yslot_some hb
        have hy := yielded_of hi.sim ht hft
        by_cases hbw : b = want
        · rw [if_pos (by simp [Region.wanted, hg, hy, hbw])]
          refine .inl (run _ ?_ (h.1 hbw))
          rw [get_put, ht]
          exact putF_same (by rw [hft, hbw])
        · rw [if_neg (by simp [Region.wanted, hg, hy, hbw])]
          have := hi.put (x := .junk) (v := undef) hdo hi.state (Ext.refl _ _ _) (by rw [Rel]; trivial)
          refine ih _ _ _ γ _ ?_ (h.2 (by cases b <;> cases want <;> simp_all))
          rw [get_put, get_put, ht, putF_same (by rw [hft]; cases b <;> cases want <;> simp_all)]
          exact this
      · exact h.elim

end
end Go.AL
