/- Contracts and plain laws, a part of the proof; no condition of its own. -/
import Derived.Test.YtnhghceobhdaoaaAlSoundH
import Derived.Laws.Sem
import Derived.Scope
import Derived.Deep.LoopGhost
/- The abstract layer: the rules are sound, 17: code, and a function's call. -/
namespace Go.AL
set_option linter.all false
set_option linter.unusedSectionVars false

section
variable {P : Program} {w : World} {γ : Conc} {H : AHeap}

theorem run_mapM_list {α : Type} {f : α → Sem Value} {w : World} : ∀ {l : List α} {vs : List Value}, vs.length = l.length → (∀ (j : Nat) x v, l[j]? = some x → vs[j]? = some v → (f x).run P w = .ok v w) →
    (l.mapM f).run P w = .ok vs w
  | [], [], _, _ => by simp
  | x :: l, v :: vs, hl, h => by
    rw [List.mapM_cons]
    have h0 := h 0 x v rfl rfl
    have ih := run_mapM_list (l := l) (vs := vs) (by simpa using hl) (fun j x v hx hv => h (j + 1) x v (by simpa using hx) (by simpa using hv))
    simp [h0, ih]
  | [], _ :: _, hl, _ => by simp at hl
  | _ :: _, [], hl, _ => by simp at hl

theorem resL_sound (hs : State w γ H) {fr : Fr} {a : Act} (hf : SimF w γ H (Fr.get fr) a) : ∀ {rs : List ResultVar} {c : Prop} {xs : List AV}, resL P fr H rs = some (c, xs) → c →
    ∃ vs : List Value, vs.length = rs.length ∧ xs.length = rs.length ∧
      (∀ (j : Nat) r v, rs[j]? = some r → vs[j]? = some v → ((match r with | .tmp t => pure (a.tmps.getD t undef) | .cell b t => do loadVar t (← asAddr (a.tmps.getD b undef)) : Sem Value).run P w) = .ok v w) ∧
      ∀ (j : Nat) x v, xs[j]? = some x → vs[j]? = some v → Rel w γ H x v
  | [], c, xs, h, hc => by
    simp only [resL] at h; cases h
    exact ⟨[], rfl, rfl, fun j r v hr => by simp at hr, fun j x v hx => by simp at hx⟩
  | r :: rs, c, xs, h, hc => by
    simp only [resL] at h
    split at h
    · rename_i c1 x1 d1 xs1 h1 h2
      cases h
      obtain ⟨v, hv, hr⟩ := resA_sound hs hf h1 hc.1
      obtain ⟨vs, g1, g2, g3, g4⟩ := resL_sound hs hf h2 hc.2
      refine ⟨v :: vs, by simp [g1], by simp [g2], fun j r' v' hr' hv' => ?_, fun j x v' hx hv' => ?_⟩
      · cases j with
        | zero => simp only [List.getElem?_cons_zero, Option.some.injEq] at hr' hv'; subst hr'; subst hv'; exact hv
        | succ j => exact g3 j r' v' (by simpa using hr') (by simpa using hv')
      · cases j with
        | zero => simp only [List.getElem?_cons_zero, Option.some.injEq] at hx hv'; subst hx; subst hv'; exact hr
        | succ j => exact g4 j x v' (by simpa using hx) (by simpa using hv')
    · cases h

theorem results_sound (hs : State w γ H) {fr : Fr} {a : Act} (hf : SimF w γ H (Fr.get fr) a) {fn : Func} {c : Prop} {xs : List AV} (h : resL P fr H fn.results.toList = some (c, xs)) (hc : c) :
    ∃ v, (results fn a.tmps).run P w = .ok v w ∧ Rel w γ H (one xs) v := by
  obtain ⟨vs, g1, g2, g3, g4⟩ := resL_sound hs hf h hc
  refine ⟨if h : vs.toArray.size = 1 then vs.toArray[0] else .tuple vs.toArray, ?_, ?_⟩
  · unfold results
    rw [Sem.run_bind, Array.mapM_eq_mapM_toList]
    have := run_mapM_list (P := P) (w := w) (f := fun r => (match r with | .tmp t => pure (a.tmps.getD t undef) | .cell b t => do loadVar t (← asAddr (a.tmps.getD b undef)) : Sem Value)) g1 g3
    simp only [map_eq_pure_bind, Sem.run_bind] at this ⊢
    erw [this]
    simp
  · match xs, vs, g1, g2, g4 with
    | [x], [v], _, _, g4 => simpa [one] using g4 0 x v rfl rfl
    | [], [], _, _, g4 => simp only [one]; rw [Rel]; exact ⟨#[], by simp, by simp, fun j hj => by simp at hj⟩
    | x :: y :: xs, v :: u :: vs, g1, g2, g4 =>
      have hlen : (v :: u :: vs).length = (x :: y :: xs).length := by rw [g1, g2]
      have : (one (x :: y :: xs)) = .tup (x :: y :: xs) := rfl
      rw [this, Rel]
      refine ⟨(v :: u :: vs).toArray, by simp, by simp at hlen ⊢; omega, fun j hj => ?_⟩
      have hj' : j < (v :: u :: vs).length := by rw [hlen]; exact hj
      exact ⟨(v :: u :: vs)[j], by simp only [List.getElem?_toArray]; exact List.getElem?_eq_getElem hj', g4 j _ _ (List.getElem?_eq_getElem hj) (List.getElem?_eq_getElem hj')⟩
    | [_], [], g1, g2, _ => simp at g1 g2; omega
    | [], [_], g1, g2, _ => simp at g1 g2; omega
    | [], _ :: _ :: _, g1, g2, _ => simp at g1 g2; omega
    | [_], _ :: _ :: _, g1, g2, _ => simp at g1 g2; omega
    | _ :: _ :: _, [], g1, g2, _ => simp at g1 g2; omega
    | _ :: _ :: _, [_], g1, g2, _ => simp at g1 g2; omega
end

/-! ### Code -/
/-- is what is given among what the edges bind -/
def maskOk (ops : Array Oper) (ms : List (List Nat)) : Bool :=
  go (anctbl ops.toList []) ms
where
  go : List Nat → List (List Nat) → Bool
  | _, [] => true
  | [], m :: ms => m.isEmpty && go [] ms
  | a :: as, m :: ms => m.all (fun j => a.testBit j) && go as ms

theorem maskGo_spec : ∀ {as : List Nat} {ms : List (List Nat)}, maskOk.go as ms = true → ∀ k j, j ∈ ms.getD k [] → (as.getD k 0).testBit j = true
  | _, [], _, k, j, h => by simp at h
  | [], m :: ms, h, 0, j, hj => by
    unfold maskOk.go at h
    simp only [Bool.and_eq_true, List.isEmpty_iff] at h
    simp [h.1] at hj
  | [], m :: ms, h, k + 1, j, hj => by
    unfold maskOk.go at h
    simp only [Bool.and_eq_true] at h
    have := maskGo_spec (as := []) h.2 k j (by simpa using hj)
    simp at this
  | a :: as, m :: ms, h, 0, j, hj => by
    unfold maskOk.go at h
    simp only [Bool.and_eq_true, List.all_eq_true] at h
    simpa using h.1 j (by simpa using hj)
  | a :: as, m :: ms, h, k + 1, j, hj => by
    unfold maskOk.go at h
    simp only [Bool.and_eq_true] at h
    simpa using maskGo_spec h.2 k j (by simpa using hj)
theorem maskOk_spec {ops : Array Oper} {ms : List (List Nat)} (h : maskOk ops ms = true) : MaskOk ops 0 ms := fun k _ j hj => maskGo_spec h k j (by simpa using hj)

def codeOk (P : Program) (Ω : Tbl) (T : Nat → List (List Nat)) (n : Nat) : Code → Bool
  | .region id ops true => regionOk P Ω n ops && maskOk ops (T id)
  | .region _ ops false => ops.toList.all (dstIn n)
  | .seq a b => codeOk P Ω T n a && codeOk P Ω T n b
  | .cond _ a b => codeOk P Ω T n a && codeOk P Ω T n b
  | .block _ c => codeOk P Ω T n c
  | .loop c => codeOk P Ω T n c
  | .scope c => codeOk P Ω T n c
  | _ => true

section
variable {P : Program} {Ω : Tbl} {w0 : World} {γ0 : Conc} {H0 : AHeap} {ds : List Deferred} {n : Nat}

/-- the exits, concretely -/
structure PQ (w0 : World) (γ0 : Conc) (H0 : AHeap) (ds : List Deferred) (m : Nat) (K : Conts) (Q : Exit → Act → World → Prop) : Prop where
  n0 : K.n0 = H0.nx
  n : ∀ fr H w γ a, Inv w0 γ0 H0 ds m w γ H (Fr.get fr) a → K.n fr H → Q .normal a w
  r : ∀ fr H w γ a, Inv w0 γ0 H0 ds m w γ H (Fr.get fr) a → K.r fr H → Q .ret a w
  x : ∀ id fr H w γ a, Inv w0 γ0 H0 ds m w γ H (Fr.get fr) a → K.x id fr H → Q (.exit id) a w
  p : ∀ fr x v H w γ a, Inv w0 γ0 H0 ds m w γ H (Fr.get fr) a → Rel w γ H x v → K.p fr x H → Q (.panic [{ v, recovered := false }]) a w

theorem run_enter {f : FuncId} {fn : Func} {c : Code} (hf : P.funcs[f]? = some fn) (hname : (fn.name == "runtime.NumGoroutine") = false) (hb : fn.body = some c) (args : Array Value) (w : World) :
    (callFunc f args).run P w = .ok (.enter f args) w := by
  have h1 : fn.name ≠ "runtime.NumGoroutine" := by simpa using hname
  simp [callFunc, hf, h1, hb]

theorem Inv.draw {w : World} {γ : Conc} {H : AHeap} {f : Nat → AV} {a : Act} (h : Inv w0 γ0 H0 ds n w γ H f a) : Inv w0 γ0 H0 ds n { w with drawn := w.drawn + 1 } γ H f a := by
  have he : Ext w γ H { w with drawn := w.drawn + 1 } γ H := by
    have := Ext.refl w γ H
    exact ⟨rfl, rfl, rfl, Nat.le_refl _, Nat.le_refl _, this.block, this.imm, fun _ _ _ => rfl, this.none, this.keep, this.bufs, this.bufk⟩
  refine ⟨?_, h.ext.trans he, h.sim.ext he, h.size, h.defers⟩
  refine ⟨h.state.inj, fun id o ho => ?_⟩
  have := h.state.obj id o ho
  cases o with
  | cells cs =>
    obtain ⟨blk, C, ty, fr, h1, h2, h3, h4, h5⟩ := this
    exact ⟨blk, C, ty, fr, h1, h2, h3, fun j hj => let ⟨u, hu, hr⟩ := h4 j hj; ⟨u, hu, hr.ext he⟩, h5⟩
  | buf sz n => exact this
  | mapo es => exact this

theorem subF_get : ∀ {fr' fr : Fr}, subF fr' fr → ∀ t, Fr.get fr' t = .junk ∨ Fr.get fr' t = Fr.get fr t
  | [], fr, _, t => .inl rfl
  | (i, v) :: l, fr, h, t => by
    simp only [Fr.get]
    by_cases hi : i = t
    · subst hi; rw [if_pos rfl]; exact .inr h.1.symm
    · rw [if_neg hi]; exact subF_get h.2 t

theorem Inv.enter {fr fr' : Fr} {H H' : AHeap} {w : World} {γ : Conc} {a : Act} (h : Inv w0 γ0 H0 ds n w γ H (Fr.get fr) a) (he : enter H0.nx fr H fr' H') : Inv w0 γ0 H0 ds n w γ H' (Fr.get fr') a := by
  obtain ⟨h1, h2⟩ := he
  have hsim : SimF w γ H (Fr.get fr') a := fun t => by
    rcases subF_get h1 t with hj | hj
    · rw [hj, Rel]; trivial
    · rw [hj]; exact h.sim t
  rcases h2 with rfl | ⟨h2, h3, h4, h5⟩
  · exact ⟨h.state, h.ext, hsim, h.size, h.defers⟩
  · exact ⟨h.state.drop h3 h4, h.ext.drop h3 h2, fun t => Rel.drop h3 _ _ (ltF_get h5 t) (hsim t), h.size, h.defers⟩

theorem Inv.enterB {W : Option Bool} {fr fr' : Fr} {H H' : AHeap} {w : World} {γ : Conc} {a : Act} (h : Inv w0 γ0 H0 ds n w γ H (Fr.get fr) a) (he : enterB W H0.nx fr H fr' H') : Inv w0 γ0 H0 ds n w γ H' (Fr.get fr') a := by
  match W, he with
  | none, he => obtain ⟨rfl, rfl⟩ := he; exact h
  | some false, he => exact h.enter he
  | some true, he => exact h.enterW he

theorem aw_sound (hm : P.follows .mixedOrders = true) (hΩ : TblOk P Ω) : ∀ (c : Code) (K : Conts) (Q : Exit → Act → World → Prop), codeOk P Ω K.T n c = true → PQ w0 γ0 H0 ds n K Q →
    ∀ fr H w γ a, Inv w0 γ0 H0 ds n w γ H (Fr.get fr) a → aw P Ω c K fr H → c.wp P Q a w
  | .skip, K, Q, _, hq, fr, H, w, γ, a, hi, h => wp_skip (hq.n _ _ _ _ _ hi h)
  | .region id ops true, K, Q, hok, hq, fr, H, w, γ, a, hi, h => by
    simp only [codeOk, Bool.and_eq_true] at hok
    simp only [aw, weakB] at h
    split at h
    · exact awD_sound hm hΩ hok.1 hq.n hi.draw (maskOk_spec hok.2) h
    · rcases h with ⟨fr', H', he, h⟩ | ⟨s, j, sz, cs, h1, h2, h⟩
      · rw [hq.n0] at he
        exact awD_sound hm hΩ hok.1 hq.n (hi.enterW he).draw (maskOk_spec hok.2) h
      · obtain ⟨γ', hi'⟩ := hi.nilOwn (sz := sz) h1 h2
        exact awD_sound hm hΩ hok.1 hq.n hi'.draw (maskOk_spec hok.2) h
  | .region id ops false, K, Q, hok, hq, fr, H, w, γ, a, hi, h =>
    wp_region_list (awOpsH_sound hΩ hq.n0 hq.n hq.p _ ops.toList (fun o ho => List.all_eq_true.1 hok o ho) _ _ _ _ _ hi h)
  | .seq x y, K, Q, hok, hq, fr, H, w, γ, a, hi, h => by
    simp only [codeOk, Bool.and_eq_true] at hok
    refine wp_seq (aw_sound hm hΩ x { K with n := aw P Ω y K } (Exit.then (y.wp P Q) Q) hok.1 ⟨hq.n0, ?_, hq.r, hq.x, hq.p⟩ _ _ _ _ _ hi h)
    exact fun fr H w γ a hi h => aw_sound hm hΩ y K Q hok.2 hq _ _ _ _ _ hi h
  | .cond c x y, K, Q, hok, hq, fr, H, w, γ, a, hi, h => by
    simp only [codeOk, Bool.and_eq_true] at hok
    simp only [aw] at h
    split at h
    · rename_i t ht
      have hc := hi.sim.eval c
      rw [← ev_evF, ht, Rel] at hc
      exact wp_cond_split hc (fun e => aw_sound hm hΩ x K Q hok.1 hq _ _ _ _ _ hi (h.1 e)) (fun e => aw_sound hm hΩ y K Q hok.2 hq _ _ _ _ _ hi (h.2 e))
    · exact h.elim
  | .block id c, K, Q, hok, hq, fr, H, w, γ, a, hi, h => by
    refine wp_block (aw_sound hm hΩ c { K with x := fun i fr H => if i = id then K.n fr H else K.x i fr H } (Exit.inBlock id Q) hok ⟨hq.n0, hq.n, hq.r, ?_, hq.p⟩ _ _ _ _ _ hi h)
    intro i fr H w γ a hi h
    simp only [Exit.inBlock]
    dsimp only at h
    split at h
    · rename_i e; rw [if_pos e]; exact hq.n _ _ _ _ _ hi h
    · rename_i e; rw [if_neg e]; exact hq.x _ _ _ _ _ _ hi h
  | .loop c, K, Q, hok, hq, fr, H, w, γ, a, hi, h => by
    obtain ⟨W, A, F, G, I, μ, ⟨x0, hI0, he0⟩, hbody⟩ := h
    rw [hq.n0] at he0
    refine wp_loop_ghost (fun k a' w' => ∃ x γ', I x ∧ μ x = k ∧ Inv w0 γ0 H0 ds n w' γ' (G x) (Fr.get (F x)) a') (μ x0) ⟨x0, γ, hI0, rfl, hi.enterB he0⟩ ?_
    rintro k a' w' ⟨x, γ', hI, rfl, hi'⟩
    refine aw_sound hm hΩ c { K with n := fun fr' H' => ∃ a', I a' ∧ μ a' < μ x ∧ AL.enterB W K.n0 fr' H' (F a') (G a') } (Exit.then (fun a' w' => ∃ n', n' < μ x ∧ ∃ x γ', I x ∧ μ x = n' ∧ Inv w0 γ0 H0 ds n w' γ' (G x) (Fr.get (F x)) a') Q) hok ⟨hq.n0, ?_, hq.r, hq.x, hq.p⟩ _ _ _ _ _ hi' (hbody x hI)
    rintro fr2 H2 w2 γ2 a2 hi2 ⟨x2, hI2, hlt, he2⟩
    rw [hq.n0] at he2
    exact ⟨μ x2, hlt, x2, γ2, hI2, rfl, hi2.enterB he2⟩
  | .exit id, K, Q, _, hq, fr, H, w, γ, a, hi, h => wp_exit (hq.x _ _ _ _ _ _ hi h)
  | .ret, K, Q, _, hq, fr, H, w, γ, a, hi, h => wp_ret (hq.r _ _ _ _ _ hi h)
  | .scope c, K, Q, hok, hq, fr, H, w, γ, a, hi, h =>
    wp_scope_straight (aw_sound hm hΩ c K (Exit.noGoto Q) hok ⟨hq.n0, hq.n, hq.r, hq.x, hq.p⟩ _ _ _ _ _ hi h)
  | .label l, K, Q, _, hq, fr, H, w, γ, a, hi, h => wp_label (hq.n _ _ _ _ _ hi h)
  | .goto l, K, Q, _, hq, fr, H, w, γ, a, hi, h => h.elim
  | .rangeFunc f ps x y, K, Q, _, hq, fr, H, w, γ, a, hi, h => h.elim
  | .refuse s, K, Q, _, hq, fr, H, w, γ, a, hi, h => h.elim

theorem frOf_get : ∀ (k : Nat) (args : List AV) (t : Nat), Fr.get (frOf k args) t = if k ≤ t then (args[t - k]?).getD .junk else .junk
  | k, [], t => by simp [frOf, Fr.get]
  | k, x :: args, t => by
    simp only [frOf, Fr.get]
    by_cases h : k = t
    · subst h; simp
    · rw [if_neg h, frOf_get (k + 1) args t]
      by_cases h2 : k ≤ t
      · rw [if_pos (by omega), if_pos h2]
        have : t - k = (t - (k + 1)) + 1 := by omega
        rw [this]; simp
      · rw [if_neg (by omega), if_neg h2]

/-- a Go function: what the rules say of its code is what a call comes to -/
theorem ACalls.of_aw (hm : P.follows .mixedOrders = true) (hΩ : TblOk P Ω) {f : FuncId} {fn : Func} {c : Code} (hf : P.funcs[f]? = some fn) (hname : (fn.name == "runtime.NumGoroutine") = false)
    (hb : fn.body = some c) {rs : List ResultVar} (hrs : fn.results.toList = rs) {T : Nat → List (List Nat)} (hok : codeOk P Ω T fn.ntmps c = true) {args : List AV} (ha : args.length ≤ fn.ntmps) {H H1 : AHeap} {e : AEnd} (hnx : H.nx ≤ H1.nx)
    (h : H.Closed → (∀ x ∈ args, x.lt H.nx) → aw P Ω c (aEnd P rs H.nx e H1 T) (frOf 0 args) H) : ACalls P f args H e H1 := by
  subst hrs
  intro w γ vs hs hr
  replace h := h hs.closed fun x hx => by
    obtain ⟨j, hj, rfl⟩ := List.getElem_of_mem hx
    obtain ⟨u, _, hru⟩ := hr.2 j hj
    exact Rel.lt _ _ hru
  rw [run_enter hf hname hb]
  refine calls_of_wp hf hb (aw_sound (w0 := w) (γ0 := γ) (H0 := H) (ds := []) (n := fn.ntmps) hm hΩ c _ _ hok ⟨rfl, ?_, ?_, ?_, ?_⟩ (frOf 0 args) H w γ _ ⟨hs, Ext.refl _ _ _, ?_, ?_, rfl⟩ h)
  case refine_5 =>
    intro t
    rw [frOf_get, if_pos (Nat.zero_le _), Nat.sub_zero]
    by_cases ht : t < args.length
    · obtain ⟨u, hu, hru⟩ := hr.2 t ht
      have hlt : t < vs.size := by rw [hr.1]; exact ht
      rw [List.getElem?_eq_getElem ht, Option.getD_some, Array.getD_eq_getD_getElem?, Array.getElem?_append_left hlt, hu]
      exact hru
    · rw [List.getElem?_eq_none (by omega), Option.getD_none, Rel]; trivial
  case refine_6 => simp [hr.1]; omega
  all_goals clear h
  case refine_4 =>
    intro fr x v H' w' γ' a' hi h4 h5
    have h1 := hi.state
    have h2 := hi.ext
    refine ⟨hi.defers, ?_⟩
    cases e with
    | ret y => exact h5.elim
    | panic y =>
      obtain ⟨g1, g2, g3, g4⟩ := h5
      exact ⟨γ', h1.drop g2 g3, h2.drop g2 hnx, v, rfl, wk_rel h1 g2 h4 g1 g4⟩
  case refine_3 => intro id fr H' w' γ' a' _ h5; exact h5.elim
  all_goals
    intro fr H' w' γ' a' hi h5
    refine ⟨hi.defers, ?_⟩
    simp only [aEnd, finish] at h5
    split at h5
    · rename_i y c' xs hres
      obtain ⟨hc, g1, g2, g3, g4⟩ := h5
      obtain ⟨v, hv, hrel⟩ := results_sound hi.state hi.sim hres hc
      exact ⟨v, hv, γ', hi.state.drop g2 g3, hi.ext.drop g2 hnx, by
        show Rel w' γ' H1 y v
        exact wk_rel hi.state g2 hrel g1 g4⟩
    · exact h5.elim

/-- the same for an ending of which something is known -/
theorem ACallsP.of_aw (hm : P.follows .mixedOrders = true) (hΩ : TblOk P Ω) {f : FuncId} {fn : Func} {c : Code} (hf : P.funcs[f]? = some fn) (hname : (fn.name == "runtime.NumGoroutine") = false)
    (hb : fn.body = some c) {rs : List ResultVar} (hrs : fn.results.toList = rs) {T : Nat → List (List Nat)} (hok : codeOk P Ω T fn.ntmps c = true) {args : List AV} (ha : args.length ≤ fn.ntmps) {H : AHeap} {Q : AV → AHeap → Prop}
    (h : H.Closed → (∀ x ∈ args, x.lt H.nx) → aw P Ω c (aEndP P rs H.nx Q T) (frOf 0 args) H) : ACallsP P f args H Q := by
  subst hrs
  intro w γ vs hs hr
  replace h := h hs.closed fun x hx => by
    obtain ⟨j, hj, rfl⟩ := List.getElem_of_mem hx
    obtain ⟨u, _, hru⟩ := hr.2 j hj
    exact Rel.lt _ _ hru
  rw [run_enter hf hname hb]
  refine calls_of_wp hf hb (aw_sound (w0 := w) (γ0 := γ) (H0 := H) (ds := []) (n := fn.ntmps) hm hΩ c _ _ hok ⟨rfl, ?_, ?_, ?_, ?_⟩ (frOf 0 args) H w γ _ ⟨hs, Ext.refl _ _ _, ?_, ?_, rfl⟩ h)
  case refine_5 =>
    intro t
    rw [frOf_get, if_pos (Nat.zero_le _), Nat.sub_zero]
    by_cases ht : t < args.length
    · obtain ⟨u, hu, hru⟩ := hr.2 t ht
      have hlt : t < vs.size := by rw [hr.1]; exact ht
      rw [List.getElem?_eq_getElem ht, Option.getD_some, Array.getD_eq_getD_getElem?, Array.getElem?_append_left hlt, hu]
      exact hru
    · rw [List.getElem?_eq_none (by omega), Option.getD_none, Rel]; trivial
  case refine_6 => simp [hr.1]; omega
  all_goals clear h
  case refine_4 => intro fr x v H' w' γ' a' hi h4 h5; exact h5.elim
  case refine_3 => intro id fr H' w' γ' a' _ h5; exact h5.elim
  all_goals
    intro fr H' w' γ' a' hi h5
    refine ⟨hi.defers, ?_⟩
    simp only [aEndP, finishP] at h5
    split at h5
    · rename_i c' xs hres
      obtain ⟨hc, x, H1, hq, hnx, g1, g2, g3, g4⟩ := h5
      obtain ⟨v, hv, hrel⟩ := results_sound hi.state hi.sim hres hc
      exact ⟨v, hv, γ', x, H1, hq, hi.state.drop g2 g3, hi.ext.drop g2 hnx, by
        show Rel w' γ' H1 x v
        exact wk_rel hi.state g2 hrel g1 g4⟩
    · exact h5.elim

end
end Go.AL

