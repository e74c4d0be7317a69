/- The abstract layer: the rules are sound, 11: regions in the order of the text. -/
import Derived.Test.YtnhghceobhdaoaaAlSound10
namespace Go.AL
set_option linter.all false
set_option linter.unusedSectionVars false

/-- what holds between two operations -/
structure Inv (w0 : World) (γ0 : Conc) (H0 : AHeap) (ds : List Deferred) (n : Nat) (w : World) (γ : Conc) (H : AHeap) (f : Nat → AV) (a : Act) : Prop where
  state : State w γ H
  ext : Ext w0 γ0 H0 w γ H
  sim : SimF w γ H f a
  size : a.tmps.size = n
  defers : a.defers = ds

def dstIn (n : Nat) (o : Oper) : Bool := match o.dst with | some d => decide (d < n) | none => true

/-- a slot written -/
def putF (f : Nat → AV) (d : Option Nat) (x : AV) : Nat → AV := match d with
  | some d => fun t => if t = d then x else f t
  | none => f

theorem get_put (fr : Fr) (d : Option Nat) (x : AV) : Fr.get (fr.put d x) = putF (Fr.get fr) d x := by
  cases d with
  | none => rfl
  | some d =>
    funext t
    simp only [Fr.put, Fr.get, putF]
    by_cases h : d = t
    · rw [if_pos h, if_pos h.symm]
    · rw [if_neg h, if_neg (fun e => h e.symm)]

theorem Act.size_put (a : Act) (d : Option Tmp) (v : Value) : (a.put d v).tmps.size = a.tmps.size := by
  cases d <;> simp [Act.put]
theorem Act.defers_put (a : Act) (d : Option Tmp) (v : Value) : (a.put d v).defers = a.defers := by
  cases d <;> rfl

section
variable {P : Program} {Ω : Tbl} {w0 : World} {γ0 : Conc} {H0 : AHeap} {ds : List Deferred} {n : Nat}

theorem Inv.put {w : World} {γ : Conc} {H : AHeap} {f : Nat → AV} {a : Act} (h : Inv w0 γ0 H0 ds n w γ H f a) {o : Oper} (hd : dstIn n o = true) {w' : World} {γ' : Conc} {H' : AHeap} {x : AV} {v : Value}
    (hs : State w' γ' H') (he : Ext w γ H w' γ' H') (hr : Rel w' γ' H' x v) : Inv w0 γ0 H0 ds n w' γ' H' (putF f o.dst x) (a.put o.dst v) where
  state := hs
  ext := h.ext.trans he
  sim := by
    have hsim := h.sim.ext he
    unfold dstIn at hd
    split at hd
    · rename_i d hd'
      intro t
      have hlt : d < a.tmps.size := by rw [h.size]; simpa using hd
      simp only [putF, hd', Act.put]
      by_cases ht : t = d
      · subst ht; simp [hlt, hr]
      · rw [if_neg ht]
        have := hsim t
        simp only [Array.getD_eq_getD_getElem?] at this ⊢
        rw [Array.getElem?_setIfInBounds_ne (fun e => ht e.symm)]; exact this
    · rename_i hd'
      rw [hd']; exact hsim
  size := by rw [Act.size_put]; exact h.size
  defers := by rw [Act.defers_put]; exact h.defers

/-- a call of whose ending something is known -/
def isNd (Ω : Tbl) (o : Oper) (fr : Fr) : Bool :=
  match o.op with
  | .call { callee := .value f, .. } => match ev fr f with
    | .func (.func k) _ _ => match look Ω k with
      | some e => e.s.isSome
      | none => false
    | _ => false
  | _ => false
theorem nd_out (hΩ : TblOk P Ω) {o : Oper} {fr : Fr} {H : AHeap} {K : Fr → AHeap → Prop} {Kp : Fr → AV → AHeap → Prop} (hn : isNd Ω o fr = true) (h : step1 P Ω o fr H K Kp) {w : World} {γ : Conc} {a : Act}
    (hs : State w γ H) (hf : SimF w γ H (Fr.get fr) a) {K' : Act → World → Prop} {Q : Exit → Act → World → Prop}
    (hK : ∀ x H1 v w' γ', K (fr.put o.dst x) H1 → State w' γ' H1 → Ext w γ H w' γ' H1 → Rel w' γ' H1 x v → K' (a.put o.dst v) w') : o.wp P a w K' Q := by
  obtain ⟨dst, op, ty, pos, after, guard⟩ := o
  unfold isNd at hn
  dsimp only at hn
  split at hn
  · rename_i f args argTypes
    split at hn
    · rename_i k first cap hev
      split at hn
      · rename_i e he
        obtain ⟨q, hq⟩ := Option.isSome_iff_exists.1 hn
        have hc : isCall (.call { callee := .value f, args := args, argTypes := argTypes }) = true := rfl
        unfold step1 at h
        dsimp only at h
        rw [if_pos hc] at h
        simp only [stepCall, hev, callK, he, hq] at h
        have hE := (hΩ k e he).2.2 q hq _ _ _ h
        have hg : evF (Fr.get fr) f = .func (.func k) first cap := by rw [← ev_evF]; exact hev
        rw [ev_evF] at hE
        exact callP_sound (c := { callee := .value f, args := args, argTypes := argTypes }) rfl rfl hg hE hs hf hK
      · cases hn
    · cases hn
  · cases hn

/-- one step of the rules is one operation's run -/
theorem step1_out (hΩ : TblOk P Ω) {o : Oper} {fr : Fr} {H : AHeap} {K : Fr → AHeap → Prop} {Kp : Fr → AV → AHeap → Prop} (hn : nilTest o.op = false ∨ isCall o.op = true) (hnd : isNd Ω o fr = false) (h : step1 P Ω o fr H K Kp) :
    ∃ e H', ST P o (Fr.get fr) H e H' ∧ match e with | .ret x => K (fr.put o.dst x) H' | .panic v => Kp fr v H' := by
  unfold step1 at h
  split at h
  · unfold stepCall at h
    split at h
    · rename_i f args argTypes hop
      split at h
      · rename_i k first cap hev
        have hg : evF (Fr.get fr) f = .func (.func k) first cap := by rw [← ev_evF]; exact hev
        unfold callK at h
        split at h
        · exact h.elim
        · rename_i e he
          have hE := hΩ k e he
          have hnone : e.s = none := by
            unfold isNd at hnd
            simp only [hop, hev, he] at hnd
            cases hes : e.s with
            | none => rfl
            | some q => rw [hes] at hnd; cases hnd
          rw [hnone] at h
          dsimp only at h
          split at h
          · rename_i heff
            obtain ⟨x, H1, h1, h2⟩ := hE.2.1 heff _ _ _ h
            refine ⟨x, H1, .call _ f k first cap x H1 hop rfl hg (by rw [← ev_evF]; exact h2), ?_⟩
            cases x <;> exact h1
          · rename_i heff
            obtain ⟨x, h1, h2⟩ := hE.1 (by simpa using heff) _ _ _ h
            exact ⟨.ret x, H, .call _ f k first cap _ H hop rfl hg (by rw [← ev_evF]; exact h2), h1⟩
      · exact h.elim
    · rename_i x hop
      split at h
      · rename_i t v hev
        exact ⟨_, H, .panic x t v hop (by rw [← ev_evF]; exact hev), h⟩
      · exact h.elim
    · exact h.elim
  · rename_i hcl
    rw [if_neg (by rcases hn with hn | hn <;> simp_all)] at h
    split at h
    · rename_i r hr
      refine ⟨_, _, .res r (by rw [← ev_evF]; exact hr) h.1, h.2⟩
    · exact h.elim

theorem yielded_of {ops : Array Oper} {w : World} {γ : Conc} {H : AHeap} {f : Nat → AV} {a : Act} (hf : SimF w γ H f a) {j t : Nat} {b : Bool} (hd : ydst ops j = some t) (hb : f t = .bool b) :
    yielded ops a.tmps j = some b := by
  unfold yielded
  have : (ops[j]?).bind (·.dst) = some t := hd
  rw [this]
  have h := hf t
  rw [hb, Rel] at h
  simp only [Option.bind_some]
  rw [Array.getD_eq_getD_getElem?] at h
  cases h2 : a.tmps[t]? with
  | none => rw [h2] at h; cases h
  | some v => rw [h2] at h; simp only [Option.getD_some] at h; rw [h]

theorem rel_undef {w : World} {γ : Conc} {H : AHeap} : Rel w γ H (.tup []) undef := by
  rw [Rel]; exact ⟨#[], rfl, rfl, fun j hj => absurd hj (by simp)⟩
theorem yslot_undef {ops : Array Oper} {fr : Fr} {j : Nat} (h : yslot ops fr j = .tup []) : ∃ t, ydst ops j = some t ∧ Fr.get fr t = .tup [] := by
  unfold yslot at h
  unfold ydst
  split at h
  · rename_i d hd; exact ⟨d, hd, h⟩
  · cases h
theorem yielded_undef {ops : Array Oper} {w : World} {γ : Conc} {H : AHeap} {f : Nat → AV} {a : Act} (hf : SimF w γ H f a) {j t : Nat} (hd : ydst ops j = some t) (hb : f t = .tup []) :
    yielded ops a.tmps j = none := by
  have hr := hf t
  rw [hb, Rel] at hr
  obtain ⟨C, hv, hs, _⟩ := hr
  unfold yielded
  have hd' : (ops[j]?).bind (·.dst) = some t := hd
  rw [hd']
  simp only [Option.bind_some]
  rw [Array.getD_eq_getD_getElem?] at hv
  cases he : a.tmps[t]? with
  | none => rfl
  | some u => rw [he] at hv; simp only [Option.getD_some] at hv; rw [hv]
theorem yslot_some {ops : Array Oper} {fr : Fr} {j : Nat} {b : Bool} (h : yslot ops fr j = .bool b) : ∃ t, ydst ops j = some t ∧ Fr.get fr t = .bool b := by
  unfold yslot at h
  split at h
  · rename_i t ht; exact ⟨t, ht, h⟩
  · cases h

theorem putF_same {f : Nat → AV} {t : Nat} {x : AV} (h : f t = x) : putF f (some t) x = f := by
  funext s
  simp only [putF]
  split
  · rename_i e; rw [e, h]
  · rfl

theorem andThen_assoc {α β δ : Type} (r : Result α) (f : α → World → Result β) (g : β → World → Result δ) : (r.andThen f).andThen g = r.andThen fun a w => (f a w).andThen g := by cases r <;> rfl

/-- a slice held against nil -/
theorem nil_eq {t : TypeId} {v : Value} {xo yo : Operand} {a : Option Addr} {n m : Nat} {e : TypeId} (hv : v = .slice a n m) (hu : P.underlying t = some (.slice e)) (neg : Bool) (w : World) :
    ((do eqGuard (if neg then .neq else .eql) t xo yo v (.slice none 0 0); binOp (if neg then .neq else .eql) t v (.slice none 0 0) : Sem Value).run P w) = .ok (.bool (a.isNone != neg)) w := by
  subst hv
  simp only [eqGuard_at_slice, Sem.run_bind, Sem.run_pure, Result.andThen_ok]
  refine bin_eq (by cases neg <;> simp [binOp]) (fun k => ?_)
  cases a <;> simp [Op.equalIn, run_und hu]

theorem isNilC_out {y : Operand} (h : isNilC y = true) : y = .const (.slice none 0 0) := by
  unfold isNilC at h
  split at h
  · rfl
  · cases h

theorem nil_slice {w : World} {γ : Conc} {H : AHeap} {x : AV} {v : Value} {td : Option TD} {op : BinOp} {K : Bool → Prop} (h : nilK td op x K) (hr : Rel w γ H x v) :
    ∃ e neg a n m, td = some (.slice e) ∧ op = (if neg then .neq else .eql) ∧ v = .slice a n m ∧ K (a.isNone != neg) := by
  unfold nilK at h
  split at h
  · rename_i e m sz xs
    rw [Rel] at hr
    rcases hr with ⟨⟨a, rfl⟩, hx, _⟩ | ⟨blk, off, cap, C, ty, fr, rfl, _⟩
    · exact ⟨e, false, a, 0, 0, rfl, rfl, rfl, h _ fun hne => absurd hx hne⟩
    · exact ⟨e, false, _, _, _, rfl, rfl, rfl, h _ fun hne => rfl⟩
  · rename_i e m sz xs
    rw [Rel] at hr
    rcases hr with ⟨⟨a, rfl⟩, hx, _⟩ | ⟨blk, off, cap, C, ty, fr, rfl, _⟩
    · exact ⟨e, true, a, 0, 0, rfl, rfl, rfl, h _ fun hne => absurd hx hne⟩
    · exact ⟨e, true, _, _, _, rfl, rfl, rfl, h _ fun hne => rfl⟩
  · rename_i e _ _ _ _
    rw [Rel] at hr
    obtain ⟨_, _, ⟨_, a, rfl⟩ | ⟨blk, cap, C, ty, fr, _, rfl, _⟩⟩ := hr
    · exact ⟨e, false, a, 0, 0, rfl, rfl, rfl, h _⟩
    · exact ⟨e, false, _, _, _, rfl, rfl, rfl, h _⟩
  · rename_i e _ _ _ _
    rw [Rel] at hr
    obtain ⟨_, _, ⟨_, a, rfl⟩ | ⟨blk, cap, C, ty, fr, _, rfl, _⟩⟩ := hr
    · exact ⟨e, true, a, 0, 0, rfl, rfl, rfl, h _⟩
    · exact ⟨e, true, _, _, _, rfl, rfl, rfl, h _⟩
  · exact h.elim

theorem stepNil_sound {o : Oper} {fr : Fr} {H : AHeap} {K : Fr → AHeap → Prop} (ho : nilTest o.op = true) (h : stepNil P o fr H K) {w : World} {γ : Conc} {a : Act} (hs : State w γ H) (hf : SimF w γ H (Fr.get fr) a) {K' : Act → World → Prop} {Q : Exit → Act → World → Prop}
    (hK : ∀ b, K (fr.put o.dst (.bool b)) H → K' (a.put o.dst (.bool b)) w) : o.wp P a w K' Q := by
  obtain ⟨dst, op, ty, pos, after, guard⟩ := o
  unfold stepNil at h
  split at h
  · rename_i bop t x y u hop
    dsimp only at hop ho
    subst hop
    have hy := isNilC_out (y := y) ho
    subst hy
    have hx := hf.eval x
    rw [← ev_evF] at hx
    obtain ⟨e, neg, ad, n, m, htd, rfl, hv, hk⟩ := nil_slice h hx
    obtain ⟨d, it, hu, hi', hd⟩ := td_of htd
    cases d <;> simp [tdOf] at hd
    have hrun : (execOp a.eval ⟨dst, .binOp (if neg then .neq else .eql) t x (.const (.slice none 0 0)) u, ty, pos, after, guard⟩).run P w = .ok (.value (.bool (ad.isNone != neg))) w := by
      have := nil_eq (P := P) (xo := x) (yo := .const (.slice none 0 0)) hv hu neg w
      have h2 := congrArg (fun r => r.andThen fun a w' => Result.ok (Next.value a) w') this
      simpa [execOp, Act.eval, andThen_assoc] using h2
    unfold Oper.wp
    rw [hrun]
    exact hK _ hk
  · exact h.elim

/-- operations in the order of the text -/
theorem awOps_sound (hΩ : TblOk P Ω) {ops : Array Oper} {K : Fr → AHeap → Prop} {Kp : Fr → AV → AHeap → Prop} {Q : Exit → Act → World → Prop}
    (tl : List Oper) (hK : ∀ fr H w γ a, Inv w0 γ0 H0 ds n w γ H (Fr.get fr) a → K fr H → wpList P ops Q tl a w)
    (hKp : ∀ fr x v H w γ a, Inv w0 γ0 H0 ds n w γ H (Fr.get fr) a → Rel w γ H x v → Kp fr x H → Q (.panic [{ v, recovered := false }]) a w) :
    ∀ (l : List Oper), (∀ o ∈ l, dstIn n o = true) → ∀ fr H w γ a, Inv w0 γ0 H0 ds n w γ H (Fr.get fr) a → awOps P Ω ops l K Kp fr H → wpList P ops Q (l ++ tl) a w
  | [], _, fr, H, w, γ, a, hi, h => hK fr H w γ a hi h
  | o :: rest, hd, fr, H, w, γ, a, hi, h => by
    have ih := awOps_sound (ops := ops) hΩ tl hK hKp rest (fun o ho => hd o (List.mem_cons_of_mem _ ho))
    have hdo := hd o List.mem_cons_self
    have run : ∀ fr', Fr.get fr' = Fr.get fr → step1 P Ω o fr' H (awOps P Ω ops rest K Kp) Kp → o.wp P a w (wpList P ops Q (rest ++ tl)) Q := by
      intro fr' hfr h
      by_cases hn : nilTest o.op = false ∨ isCall o.op = true
      case neg =>
        have hn1 : nilTest o.op = true := by cases h' : nilTest o.op <;> simp_all
        have hn2 : isCall o.op = false := by cases h' : isCall o.op <;> simp_all
        unfold step1 at h
        rw [if_neg (by simp [hn2]), if_pos hn1] at h
        refine stepNil_sound hn1 h hi.state (by rw [hfr]; exact hi.sim) fun b hk => ?_
        have hi' := hi.put (x := .bool b) (v := .bool b) hdo hi.state (Ext.refl _ _ _) (by rw [Rel])
        rw [← hfr, ← get_put] at hi'
        exact ih _ _ _ _ _ hi' hk
      by_cases hnd : isNd Ω o fr' = true
      · refine nd_out hΩ hnd h hi.state (by rw [hfr]; exact hi.sim) fun x H1 v w' γ' hk h1 h2 h3 => ?_
        have hi' := hi.put hdo h1 h2 h3
        rw [← hfr, ← get_put] at hi'
        exact ih _ _ _ _ _ hi' hk
      obtain ⟨e, H', hst, hk⟩ := step1_out hΩ hn (by simpa using hnd) h
      rw [hfr] at hst
      refine hst.sound hi.state hi.sim (fun x v w' γ' he h1 h2 h3 => ?_) (fun x v w' γ' he h1 h2 h3 => ?_)
      · subst he
        have hi' := hi.put hdo h1 h2 h3
        rw [← hfr, ← get_put] at hi'
        exact ih _ _ _ _ _ hi' hk
      · subst he
        exact hKp fr' x v H' w' γ' a ⟨h1, hi.ext.trans h2, by rw [hfr]; exact hi.sim.ext h2, hi.size, hi.defers⟩ h3 hk
    unfold awOps at h
    rw [List.cons_append]
    unfold wpList
    cases hg : o.guard with
    | none =>
      rw [hg] at h
      rw [if_pos (by simp [Region.wanted, hg])]
      exact .inl (run fr rfl h)
    | some gw =>
      obtain ⟨j, want⟩ := gw
      rw [hg] at h
      dsimp only at h
      split at h
      · rename_i b hb
        obtain ⟨t, ht, hft⟩ := yslot_some hb
        have hy := yielded_of hi.sim ht hft
        by_cases hbw : b = want
        · rw [if_pos (by simp [Region.wanted, hg, hy, hbw])]
          refine .inl (run _ ?_ (h.1 hbw))
          rw [get_put, ht]
          exact putF_same (by rw [hft, hbw])
        · rw [if_neg (by simp [Region.wanted, hg, hy, hbw])]
          have := hi.put (x := .tup []) (v := undef) hdo hi.state (Ext.refl _ _ _) rel_undef
          refine ih _ _ _ γ _ ?_ (h.2 (by cases b <;> cases want <;> simp_all))
          rw [get_put, get_put, ht, putF_same (by rw [hft]; cases b <;> cases want <;> simp_all)]
          exact this
      · rename_i hb
        obtain ⟨t, ht, hft⟩ := yslot_undef hb
        have hy := yielded_undef hi.sim ht hft
        rw [if_neg (by simp [Region.wanted, hg, hy])]
        have := hi.put (x := .tup []) (v := undef) hdo hi.state (Ext.refl _ _ _) rel_undef
        refine ih _ _ _ γ _ ?_ h
        rw [get_put]
        exact this
      · exact h.elim

end
end Go.AL
