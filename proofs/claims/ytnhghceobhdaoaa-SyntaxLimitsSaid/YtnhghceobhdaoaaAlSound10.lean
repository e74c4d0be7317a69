/- Contracts and plain laws, a part of the proof; no condition of its own. -/
import Derived.Test.YtnhghceobhdaoaaAlSound9
/- The abstract layer: the rules are sound, 10: one operation in its region, calls among them. -/
namespace Go.AL
set_option linter.all false
set_option linter.unusedSectionVars false

def EndOk (w' : World) (γ' : Conc) (H1 : AHeap) : AEnd → Ending → Prop
  | .ret x, .returned v => Rel w' γ' H1 x v
  | .panic x, .panicked chain => ∃ v, chain = [{ v, recovered := false }] ∧ Rel w' γ' H1 x v
  | _, _ => False

def RelA (w : World) (γ : Conc) (H : AHeap) (args : List AV) (vs : Array Value) : Prop :=
  vs.size = args.length ∧ ∀ (j : Nat) (hj : j < args.length), ∃ u, vs[j]? = some u ∧ Rel w γ H args[j] u

/-- a call, entered or done at once -/
def UponCall (P : Program) (R : Ending → World → Prop) : Result Next → Prop
  | .ok (.enter f args) w' => Calls P f args w' R
  | .ok (.value v) w' => R (.returned v) w'
  | _ => False

/-- what a call comes to -/
def ACalls (P : Program) (f : FuncId) (args : List AV) (H : AHeap) (e : AEnd) (H1 : AHeap) : Prop :=
  ∀ w γ vs, State w γ H → RelA w γ H args vs → UponCall P (R := fun en w' => ∃ γ', State w' γ' H1 ∧ Ext w γ H w' γ' H1 ∧ EndOk w' γ' H1 e en) ((callFunc f vs).run P w)

/-- what is known of a call's ending -/
def ACallsP (P : Program) (f : FuncId) (args : List AV) (H : AHeap) (Q : AV → AHeap → Prop) : Prop :=
  ∀ w γ vs, State w γ H → RelA w γ H args vs → UponCall P (R := fun en w' => ∃ γ' x H1, Q x H1 ∧ State w' γ' H1 ∧ Ext w γ H w' γ' H1 ∧ EndOk w' γ' H1 (.ret x) en) ((callFunc f vs).run P w)

def EntOk (P : Program) (f : FuncId) (e : Ent) : Prop :=
  (e.eff = false → ∀ args H K, e.p args H K → ∃ x, K x ∧ ACalls P f args H (.ret x) H) ∧
  (e.eff = true → ∀ args H K, e.e args H K → ∃ x H1, K x H1 ∧ ACalls P f args H x H1) ∧
  (∀ q, e.s = some q → ∀ args H K, q args H K → ACallsP P f args H K)

def TblOk (P : Program) (Ω : Tbl) : Prop := ∀ f e, look Ω f = some e → EntOk P f e

/-- the slots -/
def SimF (w : World) (γ : Conc) (H : AHeap) (f : Nat → AV) (a : Act) : Prop := ∀ t, Rel w γ H (f t) (a.tmps.getD t undef)

theorem SimF.ext {w w' : World} {γ γ' : Conc} {H H' : AHeap} {f : Nat → AV} {a : Act} (h : SimF w γ H f a) (he : Ext w γ H w' γ' H') : SimF w' γ' H' f a := fun t => (h t).ext he

theorem SimF.eval {w : World} {γ : Conc} {H : AHeap} {f : Nat → AV} {a : Act} (h : SimF w γ H f a) (x : Operand) : Rel w γ H (evF f x) (a.eval x) := by
  cases x with
  | tmp t => exact h t
  | const v => exact rel_ofValue v
  | global g => simp only [evF]; rw [Rel]; trivial
  | func f =>
    simp only [evF, Act.eval]
    rw [Rel]
    exact ⟨#[], #[], rfl, rfl, rfl, fun j hj => absurd hj (by simp), fun j hj => absurd hj (by simp)⟩

/-- one operation's run over slots -/
inductive ST (P : Program) (o : Oper) (f : Nat → AV) (H : AHeap) : AEnd → AHeap → Prop where
  | res (r : R) (h : aresE P o (evF f) H = some r) (hc : r.c) : ST P o f H (.ret r.v) r.H
  | call (c : Call) (g : Operand) (k : FuncId) (first cap : List AV) (e : AEnd) (H' : AHeap) (h1 : o.op = .call c) (h2 : c.callee = .value g) (h3 : evF f g = .func (.func k) first cap)
      (h : ACalls P k (first ++ c.args.toList.map (evF f) ++ cap) H e H') : ST P o f H e H'
  | panic (x : Operand) (t : TypeId) (v : AV) (h1 : o.op = .panic x) (h2 : evF f x = .iface t v) : ST P o f H (.panic (.iface t v)) H

section
variable {P : Program} {w : World} {γ : Conc} {H : AHeap}

theorem RelA.of {l : List AV} {vs : List Value} (hl : vs.length = l.length) (h : ∀ (j : Nat) x v, l[j]? = some x → vs[j]? = some v → Rel w γ H x v) : RelA w γ H l vs.toArray := by
  refine ⟨by simp [hl], fun j hj => ?_⟩
  have h1 : j < vs.length := by omega
  exact ⟨vs[j], by simp [h1], h j _ _ (by simp [hj]) (by simp [h1])⟩

theorem RelA.append {l m : List AV} {vs us : Array Value} (h : RelA w γ H l vs) (k : RelA w γ H m us) : RelA w γ H (l ++ m) (vs ++ us) := by
  refine ⟨by simp [h.1, k.1], fun j hj => ?_⟩
  by_cases hlt : j < l.length
  · obtain ⟨u, h1, h2⟩ := h.2 j hlt
    refine ⟨u, ?_, by rw [List.getElem_append_left hlt]; exact h2⟩
    rw [Array.getElem?_append_left (by rw [h.1]; exact hlt)]; exact h1
  · have hge : l.length ≤ j := by omega
    obtain ⟨u, h1, h2⟩ := k.2 (j - l.length) (by simp at hj; omega)
    refine ⟨u, ?_, by rw [List.getElem_append_right hge]; exact h2⟩
    rw [Array.getElem?_append_right (by rw [h.1]; exact hge), h.1]; exact h1

theorem RelA.map {e : Operand → AV} {a : Act} (hf : ∀ x, Rel w γ H (e x) (a.eval x)) (args : Array Operand) : RelA w γ H (args.toList.map e) (args.map a.eval) := by
  refine ⟨by simp, fun j hj => ?_⟩
  simp at hj
  exact ⟨a.eval args[j], by simp [hj], by simpa using hf _⟩

/-- the run of an operation, in its frame -/
theorem ST.sound {o : Oper} {f : Nat → AV} {e : AEnd} {H' : AHeap} (h : ST P o f H e H') (hs : State w γ H) {a : Act} (hf : SimF w γ H f a) {K : Act → World → Prop} {Q : Exit → Act → World → Prop}
    (hK : ∀ x v w' γ', e = .ret x → State w' γ' H' → Ext w γ H w' γ' H' → Rel w' γ' H' x v → K (a.put o.dst v) w')
    (hp : ∀ x v w' γ', e = .panic x → State w' γ' H' → Ext w γ H w' γ' H' → Rel w' γ' H' x v → Q (.panic [{ v, recovered := false }]) a w') : o.wp P a w K Q := by
  cases h with
  | res r h hc =>
    obtain ⟨v, w', γ', h1, h2, h3, h4⟩ := sound_aresE hs (fun x => hf.eval x) h hc
    unfold Oper.wp
    rcases h1 with h1 | ⟨h1, rfl⟩
    · rw [h1]; exact hK _ v w' γ' rfl h2 h3 h4
    · rw [h1]; exact hK _ undef w' γ' rfl h2 h3 h4
  | call c g k first cap e H' h1 h2 h3 h =>
    have hg := hf.eval g
    rw [h3, Rel] at hg
    obtain ⟨F, C, hv, s1, s2, hF, hC⟩ := hg
    have hA : RelA w γ H (first ++ c.args.toList.map (evF f) ++ cap) (F ++ c.args.map a.eval ++ C) :=
      RelA.append (RelA.append ⟨s1, hF⟩ (RelA.map (fun x => hf.eval x) c.args)) ⟨s2, hC⟩
    have hcall := h w γ _ hs hA
    have hrun : (execOp a.eval o).run P w = (callFunc k (F ++ c.args.map a.eval ++ C)).run P w := by
      obtain ⟨dst, op, ty, pos, after, guard⟩ := o
      obtain ⟨callee, args, argTypes⟩ := c
      dsimp only at h1 h2
      subst h1; subst h2
      simp [execOp, resolve, invoke, hv, Deferred.ofValue]
    unfold Oper.wp
    rw [hrun]
    generalize (callFunc k (F ++ c.args.map a.eval ++ C)).run P w = rr at hcall ⊢
    unfold UponCall at hcall
    split at hcall
    · rw [Oper.upon_enter]
      refine hcall.mono fun en w' hen => ?_
      obtain ⟨γ', g1, g2, g3⟩ := hen
      cases e with
      | ret x =>
        cases en with
        | returned v => exact hK x v w' γ' rfl g1 g2 g3
        | panicked ch => exact g3.elim
        | outgrown => exact g3.elim
      | panic x =>
        cases en with
        | returned v => exact g3.elim
        | panicked ch => obtain ⟨v, rfl, g4⟩ := g3; exact hp x v w' γ' rfl g1 g2 g4
        | outgrown => exact g3.elim
    · rw [Oper.upon_value]
      obtain ⟨γ', g1, g2, g3⟩ := hcall
      cases e with
      | ret x => exact hK x _ _ γ' rfl g1 g2 g3
      | panic x => exact g3.elim
    · exact hcall.elim
  | panic x t v h1 h2 =>
    have hx := hf.eval x
    rw [h2] at hx
    have hx' := hx
    rw [Rel] at hx
    obtain ⟨u, hu, _⟩ := hx
    rw [hu] at hx'
    have hrun : (execOp a.eval o).run P w = .halt (.panic (.iface t u)) w := by
      obtain ⟨dst, op, ty, pos, after, guard⟩ := o
      dsimp only at h1
      subst h1
      simp [execOp, hu, Instr.panic, goPanic]
    unfold Oper.wp
    rw [hrun, Oper.upon_panic]
    exact hp _ _ w γ rfl hs (Ext.refl _ _ _) hx'

theorem callP_sound {o : Oper} {f : Nat → AV} {c : Call} {g : Operand} {k : FuncId} {first cap : List AV} {Post : AV → AHeap → Prop} (h1 : o.op = .call c) (h2 : c.callee = .value g) (h3 : evF f g = .func (.func k) first cap)
    (h : ACallsP P k (first ++ c.args.toList.map (evF f) ++ cap) H Post) (hs : State w γ H) {a : Act} (hf : SimF w γ H f a) {K : Act → World → Prop} {Q : Exit → Act → World → Prop}
    (hK : ∀ x H1 v w' γ', Post x H1 → State w' γ' H1 → Ext w γ H w' γ' H1 → Rel w' γ' H1 x v → K (a.put o.dst v) w') : o.wp P a w K Q := by
  have hg := hf.eval g
  rw [h3, Rel] at hg
  obtain ⟨F, C, hv, s1, s2, hF, hC⟩ := hg
  have hA : RelA w γ H (first ++ c.args.toList.map (evF f) ++ cap) (F ++ c.args.map a.eval ++ C) :=
    RelA.append (RelA.append ⟨s1, hF⟩ (RelA.map (fun x => hf.eval x) c.args)) ⟨s2, hC⟩
  have hcall := h w γ _ hs hA
  have hrun : (execOp a.eval o).run P w = (callFunc k (F ++ c.args.map a.eval ++ C)).run P w := by
    obtain ⟨dst, op, ty, pos, after, guard⟩ := o
    obtain ⟨callee, args, argTypes⟩ := c
    dsimp only at h1 h2
    subst h1; subst h2
    simp [execOp, resolve, invoke, hv, Deferred.ofValue]
  unfold Oper.wp
  rw [hrun]
  generalize (callFunc k (F ++ c.args.map a.eval ++ C)).run P w = rr at hcall ⊢
  unfold UponCall at hcall
  split at hcall
  · rw [Oper.upon_enter]
    refine hcall.mono fun en w' hen => ?_
    obtain ⟨γ', x, H1, hp, g1, g2, g3⟩ := hen
    cases en with
    | returned v => exact hK x H1 v w' γ' hp g1 g2 g3
    | panicked ch => exact g3.elim
    | outgrown => exact g3.elim
  · rw [Oper.upon_value]
    obtain ⟨γ', x, H1, hp, g1, g2, g3⟩ := hcall
    exact hK x H1 _ _ γ' hp g1 g2 g3
  · exact hcall.elim

end
end Go.AL

