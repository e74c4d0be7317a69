/- Contracts and plain laws, a part of the proof; no condition of its own. -/
import Derived.Test.YtjjifacjlbojnaaLSyn
import Derived.Test.YtjjifacjlbojnaaLSyn2
/- Plain law of parentheses: what is parsed within longer rows of tokens, and within parentheses. -/
open Go Go.AL
namespace Go.AL
set_option linter.all false

/-- a row stands within another one from k on, and is followed by nothing or by a closing parenthesis -/
structure Within (l l' : List Tok) (k : Nat) : Prop where
  same : ∀ p, p < l.length → (l'[p + k]?).map (fun x => (x.1, x.2.1)) = (l[p]?).map (fun x => (x.1, x.2.1))
  after : l'[l.length + k]? = none ∨ ∃ z, l'[l.length + k]? = some (3, [41], z)
theorem isS_map {l l' : List Tok} {p p' : Nat} {s : List UInt8} (h : (l'[p']?).map (fun x => (x.1, x.2.1)) = (l[p]?).map (fun x => (x.1, x.2.1))) : isS l' p' s = isS l p s := by
  unfold isS
  cases h1 : l[p]? with
  | none => rw [h1] at h; cases h2 : l'[p']? with
    | none => rfl
    | some y => rw [h2] at h; cases h
  | some x =>
    rw [h1] at h
    cases h2 : l'[p']? with
    | none => rw [h2] at h; cases h
    | some y =>
      rw [h2] at h
      obtain ⟨a, b, c⟩ := x
      obtain ⟨a', b', c'⟩ := y
      simp only [Option.map_some, Option.some.injEq, Prod.mk.injEq] at h
      obtain ⟨rfl, rfl⟩ := h
      rfl
theorem Within.isS {l l' : List Tok} {k p : Nat} {s : List UInt8} (h : Within l l' k) (hs : s ≠ [41]) (hp : p ≤ l.length) : isS l' (p + k) s = isS l p s := by
  rcases Nat.lt_or_ge p l.length with h1 | h1
  · exact isS_map (h.same p h1)
  · have : p = l.length := by omega
    subst this
    have e : Go.AL.isS l l.length s = false := by
      unfold Go.AL.isS; rw [List.getElem?_eq_none (Nat.le_refl _)]
    rw [e]
    unfold Go.AL.isS
    rcases h.after with h2 | ⟨z, h2⟩
    · rw [h2]
    · rw [h2]
      show ((3 : Nat) == 3 && [41] == s) = false
      cases hb : ([41] == s) with
      | false => rfl
      | true => exact absurd (beq_iff_eq.1 hb).symm hs
theorem Within.par {l l' : List Tok} {k p : Nat} (h : Within l l' k) (hp : Go.AL.isS l p [41] = true) : Go.AL.isS l' (p + k) [41] = true := by
  rw [isS_map (h.same p (isS_lt hp))]; exact hp
theorem Within.op {l l' : List Tok} {k p : Nat} (h : Within l l' k) (hp : p ≤ l.length) : ∀ {ops : List (Nat × List UInt8)}, (∀ x ∈ ops, x.2 ≠ [41]) → opOf l' (p + k) ops = opOf l p ops
  | [], _ => rfl
  | (j, s) :: r, hs => by
    unfold opOf
    rw [h.isS (hs (j, s) List.mem_cons_self) hp, Within.op h hp fun x hx => hs x (List.mem_cons_of_mem _ hx)]
theorem thenR_okI {o : Option PR} {K : Nat → Nat → List Nd → Option PR} {a q : Nat} {u : List Nd} (h : thenR o K = some (.ok a q u)) : ∃ a1 p1 t1, o = some (.ok a1 p1 t1) ∧ K a1 p1 t1 = some (.ok a q u) := by
  rcases thenR_some h with ⟨p, _, h2⟩ | h2
  · cases h2
  · exact h2
theorem atomR_shift {l l' : List Tok} {k p a q : Nat} {t u : List Nd} (h : Within l l' k) (hp : p ≤ l.length) (hr : atomR l p t = .ok a q u) : atomR l' (p + k) t = .ok a (q + k) u := by
  have hlt : p < l.length := by
    rcases Nat.lt_or_ge p l.length with h1 | h1
    · exact h1
    · unfold atomR at hr; rw [List.getElem?_eq_none h1] at hr; cases hr
  have hs := h.same p hlt
  rcases hx : l[p]? with _ | ⟨kd, x, z⟩
  · rw [List.getElem?_eq_getElem hlt] at hx; cases hx
  rw [hx] at hs
  rcases hx' : l'[p + k]? with _ | ⟨kd', x', z'⟩
  · rw [hx'] at hs; cases hs
  rw [hx'] at hs
  simp only [Option.map_some, Option.some.injEq, Prod.mk.injEq] at hs
  obtain ⟨rfl, rfl⟩ := hs
  unfold atomR at hr ⊢
  rw [hx] at hr
  rw [hx']
  dsimp only at hr ⊢
  have e1 : p + k + 1 = p + 1 + k := by omega
  have hc : Go.AL.isS l' (p + k + 1) [58, 58] = Go.AL.isS l (p + 1) [58, 58] := by rw [e1]; exact h.isS (by simp) hlt
  rw [hc]
  split at hr
  · rename_i g; rw [if_pos g]; cases hr; rw [e1]
  · rename_i g; rw [if_neg g]
    split at hr
    · rename_i g2; rw [if_pos g2]
      split at hr
      · rename_i g3; rw [if_pos g3]; cases hr; rw [e1]
      · rename_i g3; rw [if_neg g3]
        split at hr
        · rename_i g4; rw [if_pos g4]; cases hr; rw [e1]
        · rename_i g4; rw [if_neg g4]
          split at hr
          · rename_i g5
            rw [if_pos g5]
            have hlt5 := isS_lt g5
            rcases hy : l[p + 2]? with _ | ⟨k2, y, z2⟩
            · rw [hy] at hr; cases hr
            · rw [hy] at hr
              have hlt6 : p + 2 < l.length := by
                rcases Nat.lt_or_ge (p + 2) l.length with h1 | h1
                · exact h1
                · rw [List.getElem?_eq_none h1] at hy; cases hy
              have hs2 := h.same (p + 2) hlt6
              rw [hy] at hs2
              rcases hy' : l'[p + 2 + k]? with _ | ⟨k2', y', z2'⟩
              · rw [hy'] at hs2; cases hs2
              rw [hy'] at hs2
              simp only [Option.map_some, Option.some.injEq, Prod.mk.injEq] at hs2
              obtain ⟨rfl, rfl⟩ := hs2
              rw [show p + k + 2 = p + 2 + k by omega, hy']
              dsimp only at hr ⊢
              split at hr
              · rename_i g6; rw [if_pos g6]; cases hr; rw [show p + k + 3 = p + 3 + k by omega]
              · cases hr
          · rename_i g5; rw [if_neg g5]; cases hr; rw [e1]
    · cases hr
theorem step_shift {l l' : List Tok} {k f : Nat} (h : Within l l' k) (ih : ∀ rl p t a q u, run l f rl p t = some (.ok a q u) → Good t → rootIn t rl → p ≤ l.length → run l' f rl (p + k) t = some (.ok a (q + k) u)) :
    ∀ {rl p t a q u}, step l (run l f) rl p t = some (.ok a q u) → Good t → rootIn t rl → p ≤ l.length → step l' (run l' f) rl (p + k) t = some (.ok a (q + k) u) := by
  intro rl p t a q u hr hg hro hp
  have e1 : ∀ p, p + k + 1 = p + 1 + k := fun p => by omega
  cases rl <;> simp only [step] at hr ⊢
  case imp =>
    obtain ⟨a1, p1, t1, h1, h2⟩ := thenR_okI hr
    obtain ⟨k1, k2, k3, k4, k5, k6⟩ := run_post _ h1 hg trivial hp
    rw [ih _ _ _ _ _ _ h1 hg trivial hp, thenR_ok, h.isS (by simp) k2]
    split at h2
    · rename_i hc
      rw [if_pos hc, e1]
      obtain ⟨b, p2, t2, h3, h4⟩ := thenR_okI h2
      rw [ih _ _ _ _ _ _ h3 k5 trivial (isS_lt hc), thenR_ok]
      cases h4; rfl
    · rename_i hc; rw [if_neg hc]; cases h2; rfl
  case or =>
    obtain ⟨a1, p1, t1, h1, h2⟩ := thenR_okI hr
    obtain ⟨k1, k2, k3, k4, k5, k6⟩ := run_post _ h1 hg trivial hp
    rw [ih _ _ _ _ _ _ h1 hg trivial hp, thenR_ok]
    exact ih _ _ _ _ _ _ h2 k5 k1 k2
  case and =>
    obtain ⟨a1, p1, t1, h1, h2⟩ := thenR_okI hr
    obtain ⟨k1, k2, k3, k4, k5, k6⟩ := run_post _ h1 hg trivial hp
    rw [ih _ _ _ _ _ _ h1 hg trivial hp, thenR_ok]
    exact ih _ _ _ _ _ _ h2 k5 k1 k2
  case sum =>
    obtain ⟨a1, p1, t1, h1, h2⟩ := thenR_okI hr
    obtain ⟨k1, k2, k3, k4, k5, k6⟩ := run_post _ h1 hg trivial hp
    rw [ih _ _ _ _ _ _ h1 hg trivial hp, thenR_ok]
    exact ih _ _ _ _ _ _ h2 k5 k1 k2
  case orL x =>
    rw [h.isS (by simp) hp]
    split at hr
    · rename_i hc
      rw [if_pos hc, e1]
      obtain ⟨b, p2, t2, h3, h4⟩ := thenR_okI hr
      obtain ⟨k1, k2, k3, k4, k5, k6⟩ := run_post _ h3 hg trivial (isS_lt hc)
      simp only [rootIn] at hro
      rw [ih _ _ _ _ _ _ h3 hg trivial (isS_lt hc), thenR_ok]
      exact ih _ _ _ _ _ _ h4 (k5.snoc (n := nd2 15 x b) ⟨(show 1 ≤ 15 by decide), (show 15 ≤ 16 by decide)⟩ (show (0 : Nat) < 2 ^ 128 by decide) (.inr ⟨by simp only [nd2]; omega, by simp only [nd2]; omega⟩)) (by simp [rootIn]) k2
    · rename_i hc; rw [if_neg hc]; cases hr; rfl
  case andL x =>
    rw [h.isS (by simp) hp]
    split at hr
    · rename_i hc
      rw [if_pos hc, e1]
      obtain ⟨b, p2, t2, h3, h4⟩ := thenR_okI hr
      obtain ⟨k1, k2, k3, k4, k5, k6⟩ := run_post _ h3 hg trivial (isS_lt hc)
      simp only [rootIn] at hro
      rw [ih _ _ _ _ _ _ h3 hg trivial (isS_lt hc), thenR_ok]
      exact ih _ _ _ _ _ _ h4 (k5.snoc (n := nd2 14 x b) ⟨(show 1 ≤ 14 by decide), (show 14 ≤ 16 by decide)⟩ (show (0 : Nat) < 2 ^ 128 by decide) (.inr ⟨by simp only [nd2]; omega, by simp only [nd2]; omega⟩)) (by simp [rootIn]) k2
    · rename_i hc; rw [if_neg hc]; cases hr; rfl
  case sumL x =>
    rw [h.op hp (by simp [opsS])]
    cases ho : opOf l p opsS with
    | some op =>
      rw [ho] at hr
      dsimp only at hr ⊢
      obtain ⟨hlt, so, hso⟩ := opOf_lt ho
      obtain ⟨o1, o2⟩ := opsS_op hso
      rw [e1]
      obtain ⟨b, p2, t2, h3, h4⟩ := thenR_okI hr
      obtain ⟨k1, k2, k3, k4, k5, k6⟩ := run_post _ h3 hg trivial hlt
      simp only [rootIn] at hro
      rw [ih _ _ _ _ _ _ h3 hg trivial hlt, thenR_ok]
      exact ih _ _ _ _ _ _ h4 (k5.snoc (n := nd2 op x b) ⟨by simp only [nd2]; omega, o2⟩ (show (0 : Nat) < 2 ^ 128 by decide) (.inr ⟨by simp only [nd2]; omega, by simp only [nd2]; omega⟩)) (by simp [rootIn]) k2
    | none => rw [ho] at hr; dsimp only at hr ⊢; cases hr; rfl
  case not =>
    rw [h.isS (by simp) hp]
    split at hr
    · rename_i hc
      rw [if_pos hc, e1]
      obtain ⟨b, p2, t2, h3, h4⟩ := thenR_okI hr
      rw [ih _ _ _ _ _ _ h3 hg trivial (isS_lt hc), thenR_ok]
      cases h4; rfl
    · rename_i hc; rw [if_neg hc]; exact ih _ _ _ _ _ _ hr hg trivial hp
  case un =>
    rw [h.isS (by simp) hp]
    split at hr
    · rename_i hc
      rw [if_pos hc, e1]
      obtain ⟨b, p2, t2, h3, h4⟩ := thenR_okI hr
      rw [ih _ _ _ _ _ _ h3 hg trivial (isS_lt hc), thenR_ok]
      cases h4; rfl
    · rename_i hc; rw [if_neg hc]; exact ih _ _ _ _ _ _ hr hg trivial hp
  case cmp =>
    obtain ⟨a1, p1, t1, h1, h2⟩ := thenR_okI hr
    obtain ⟨k1, k2, k3, k4, k5, k6⟩ := run_post _ h1 hg trivial hp
    rw [ih _ _ _ _ _ _ h1 hg trivial hp, thenR_ok, h.op k2 (by simp [opsC])]
    cases ho : opOf l p1 opsC with
    | some op =>
      rw [ho] at h2
      dsimp only at h2 ⊢
      obtain ⟨hlt, _⟩ := opOf_lt ho
      rw [e1]
      obtain ⟨b, p2, t2, h3, h4⟩ := thenR_okI h2
      rw [ih _ _ _ _ _ _ h3 k5 trivial hlt, thenR_ok]
      cases h4; rfl
    | none => rw [ho] at h2; dsimp only at h2 ⊢; cases h2; rfl
  case atom =>
    rw [h.isS (by simp) hp]
    split at hr
    · rename_i hc
      rw [if_pos hc, e1]
      obtain ⟨b, p2, t2, h3, h4⟩ := thenR_okI hr
      rw [ih _ _ _ _ _ _ h3 hg trivial (isS_lt hc), thenR_ok]
      split at h4
      · rename_i hc2; rw [if_pos (h.par hc2)]; cases h4; rw [e1]
      · cases h4
    · rename_i hc
      rw [if_neg hc, atomR_shift h hp (Option.some.inj hr)]
theorem run_shift {l l' : List Tok} {k : Nat} (h : Within l l' k) : ∀ (f : Nat) (rl : Rl) (p : Nat) (t : List Nd) (a q : Nat) (u : List Nd), run l f rl p t = some (.ok a q u) → Good t → rootIn t rl → p ≤ l.length → run l' f rl (p + k) t = some (.ok a (q + k) u)
  | 0, _, _, _, _, _, _, hr, _, _, _ => by cases hr
  | f + 1, rl, p, t, a, q, u, hr, hg, hro, hp => step_shift h (run_shift h f) hr hg hro hp
theorem isS_two {l : List Tok} {p : Nat} {s s' : List UInt8} (h : isS l p s = true) (hne : s' ≠ s) : isS l p s' = false := by
  cases h' : isS l p s' with
  | false => rfl
  | true =>
    exfalso
    unfold isS at h h'
    split at h
    · rename_i k x z e
      rw [e] at h'
      simp only [Bool.and_eq_true, beq_iff_eq] at h h'
      exact hne (by rw [← h.2, h'.2])
    · cases h
/-- nothing, or a closing parenthesis -/
def quiet (l : List Tok) (p : Nat) : Prop := l[p]? = none ∨ ∃ z, l[p]? = some (3, [41], z)
theorem quiet_isS {l : List Tok} {p : Nat} {s : List UInt8} (h : quiet l p) (hs : s ≠ [41]) : isS l p s = false := by
  unfold isS
  rcases h with h2 | ⟨z, h2⟩
  · rw [h2]
  · rw [h2]
    show ((3 : Nat) == 3 && [41] == s) = false
    cases hb : ([41] == s) with
    | false => rfl
    | true => exact absurd (beq_iff_eq.1 hb).symm hs
theorem quiet_op {l : List Tok} {p : Nat} (h : quiet l p) : ∀ {ops : List (Nat × List UInt8)}, (∀ x ∈ ops, x.2 ≠ [41]) → opOf l p ops = none
  | [], _ => rfl
  | (j, s) :: r, hs => by
    unfold opOf
    rw [quiet_isS h (hs (j, s) List.mem_cons_self), if_neg (by simp), quiet_op h fun x hx => hs x (List.mem_cons_of_mem _ hx)]
/-- one pair of parentheses -/
theorem wrap {l : List Tok} {F j q a : Nat} {t t' : List Nd} (h1 : isS l j [40] = true) (hF : run l F .imp (j + 1) t = some (.ok a q t')) (h2 : isS l q [41] = true) (h3 : quiet l (q + 1)) :
    run l (F + 8) .imp j t = some (.ok a (q + 1) t') := by
  have a0 : run l (F + 1) .atom j t = some (.ok a (q + 1) t') := by
    show step l (run l F) .atom j t = _
    simp only [step]
    rw [if_pos h1, hF, thenR_ok, if_pos h2]
  have a1 : run l (F + 2) .un j t = some (.ok a (q + 1) t') := by
    show step l (run l (F + 1)) .un j t = _
    simp only [step]
    rw [isS_two h1 (by simp), if_neg (by simp)]; exact a0
  have a2 : run l (F + 3) .sum j t = some (.ok a (q + 1) t') := by
    show step l (run l (F + 2)) .sum j t = _
    simp only [step]
    rw [a1, thenR_ok]
    show step l (run l (F + 1)) (.sumL a) (q + 1) t' = _
    simp only [step]
    rw [quiet_op h3 (by simp [opsS])]
  have a3 : run l (F + 4) .cmp j t = some (.ok a (q + 1) t') := by
    show step l (run l (F + 3)) .cmp j t = _
    simp only [step]
    rw [a2, thenR_ok, quiet_op h3 (by simp [opsC])]
  have a4 : run l (F + 5) .not j t = some (.ok a (q + 1) t') := by
    show step l (run l (F + 4)) .not j t = _
    simp only [step]
    rw [isS_two h1 (by simp), if_neg (by simp)]; exact a3
  have a5 : run l (F + 6) .and j t = some (.ok a (q + 1) t') := by
    show step l (run l (F + 5)) .and j t = _
    simp only [step]
    rw [a4, thenR_ok]
    show step l (run l (F + 4)) (.andL a) (q + 1) t' = _
    simp only [step]
    rw [quiet_isS h3 (by simp), if_neg (by simp)]
  have a6 : run l (F + 7) .or j t = some (.ok a (q + 1) t') := by
    show step l (run l (F + 6)) .or j t = _
    simp only [step]
    rw [a5, thenR_ok]
    show step l (run l (F + 5)) (.orL a) (q + 1) t' = _
    simp only [step]
    rw [quiet_isS h3 (by simp), if_neg (by simp)]
  show step l (run l (F + 7)) .imp j t = _
  simp only [step]
  rw [a6, thenR_ok, quiet_isS h3 (by simp), if_neg (by simp)]
/-- k pairs of parentheses around a row -/
structure Wrapped (l l' : List Tok) (k : Nat) : Prop where
  len : l'.length = l.length + 2 * k
  opens : ∀ j, j < k → isS l' j [40] = true
  same : ∀ p, p < l.length → (l'[p + k]?).map (fun x => (x.1, x.2.1)) = (l[p]?).map (fun x => (x.1, x.2.1))
  closes : ∀ j, j < k → ∃ z, l'[l.length + k + j]? = some (3, [41], z)
theorem Wrapped.quiet {l l' : List Tok} {k i : Nat} (h : Wrapped l l' k) (hi : i ≤ k) : Go.AL.quiet l' (l.length + k + i) := by
  rcases Nat.lt_or_ge i k with h1 | h1
  · exact .inr (h.closes i h1)
  · exact .inl (List.getElem?_eq_none (by have := h.len; omega))
theorem Wrapped.run {l l' : List Tok} {k f a : Nat} {t : List Nd} (h : Wrapped l l' k) (hr : Go.AL.run l f .imp 0 [] = some (.ok a l.length t)) : ∃ F, Go.AL.run l' F .imp 0 [] = some (.ok a l'.length t) := by
  have hw : Within l l' k := ⟨h.same, by have := h.quiet (Nat.zero_le k); exact this⟩
  have h0 := run_shift hw f _ _ _ _ _ _ hr Good.nil trivial (Nat.zero_le _)
  have key : ∀ i, i ≤ k → ∃ F, Go.AL.run l' F .imp (k - i) [] = some (.ok a (l.length + k + i) t) := by
    intro i
    induction i with
    | zero => intro _; exact ⟨f, by simpa using h0⟩
    | succ i ih =>
      intro hi
      obtain ⟨F, hF⟩ := ih (by omega)
      obtain ⟨z, hz⟩ := h.closes i (by omega)
      have hc : isS l' (l.length + k + i) [41] = true := by unfold isS; rw [hz]; rfl
      refine ⟨F + 8, wrap (h.opens _ (by omega)) (by rw [show k - (i + 1) + 1 = k - i by omega]; exact hF) hc (h.quiet hi)⟩
  obtain ⟨F, hF⟩ := key k (Nat.le_refl _)
  exact ⟨F, by rw [h.len, Nat.two_mul, ← Nat.add_assoc]; simpa using hF⟩
/-! ### Scanning what stands within parentheses -/
theorem hasP_app {u v x : List UInt8} (hu : u ≠ []) (hx : x.length ≤ 2) (h1 : x[1]? ≠ some 41) : hasP (u ++ 41 :: v) x = hasP u x := by
  unfold hasP
  match u, hu with
  | a :: [], _ =>
    match x, hx, h1 with
    | [], _, _ => rfl
    | [c], _, _ => rfl
    | [c, d], _, h1 =>
      have hd : d ≠ 41 := fun h => h1 (by rw [h]; rfl)
      show ((a :: 41 :: []) == [c, d]) = ([a] == [c, d])
      have e1 : ((a :: 41 :: []) == [c, d]) = false := by
        rw [beq_eq_false_iff_ne]; intro h; injection h with h2 h3; injection h3 with h4; exact hd h4.symm
      have e2 : ([a] == [c, d]) = false := by
        rw [beq_eq_false_iff_ne]; intro h; injection h with h2 h3; cases h3
      rw [e1, e2]
  | a :: b :: r, _ =>
    match x, hx with
    | [], _ => rfl
    | [c], _ => rfl
    | [c, d], _ => rfl
theorem symL_app {u v : List UInt8} (hu : u ≠ []) : ∀ {L : List (List UInt8)}, (∀ x ∈ L, x.length ≤ 2 ∧ x[1]? ≠ some 41) → symL L (u ++ 41 :: v) = symL L u
  | [], _ => rfl
  | x :: L, h => by
    obtain ⟨h1, h2⟩ := h x List.mem_cons_self
    unfold symL
    rw [hasP_app hu h1 h2, symL_app hu fun y hy => h y (List.mem_cons_of_mem _ hy)]
theorem wordOf_app {v : List UInt8} : ∀ (u : List UInt8), wordOf (u ++ 41 :: v) = wordOf u
  | [] => by unfold wordOf; rw [List.nil_append, List.takeWhile_cons_of_neg (by decide)]; rfl
  | c :: u => by
    have := wordOf_app (v := v) u
    unfold wordOf at this ⊢
    rw [List.cons_append, List.takeWhile_cons, List.takeWhile_cons, this]
theorem tok1_app {u : List UInt8} (hu : u ≠ []) (k : Nat) : tok1 (u ++ List.replicate k 41) = tok1 u := by
  cases k with
  | zero => simp
  | succ k =>
    have e : symOf (u ++ 41 :: List.replicate k 41) = symOf u := symL_app hu (by decide)
    unfold tok1
    rw [List.replicate_succ, wordOf_app, e]
def par (k : Nat) (s : List UInt8) : List UInt8 := List.replicate k 40 ++ s ++ List.replicate k 41
theorem par_len {k : Nat} {s : List UInt8} : (par k s).length = s.length + 2 * k := by simp [par]; omega
theorem par_succ {k : Nat} {s : List UInt8} : [40] ++ par k s ++ [41] = par (k + 1) s := by
  unfold par
  rw [List.replicate_succ, List.replicate_succ']
  simp
theorem par_mid {k p : Nat} {s : List UInt8} (h : p ≤ s.length) : (par k s).drop (k + p) = s.drop p ++ List.replicate k 41 := by
  unfold par
  rw [List.append_assoc, List.drop_append, List.length_replicate, List.drop_of_length_le (by simp), List.nil_append, Nat.add_sub_cancel_left, List.drop_append, show p - s.length = 0 by omega, List.drop_zero]
theorem tok_op (r : List UInt8) : tok1 (40 :: r) = some (3, [40]) := by
  have h1 : wordOf (40 :: r) = [] := by unfold wordOf; rw [List.takeWhile_cons_of_neg (by decide)]
  have h2 : symOf (40 :: r) = [40] := by simp [symOf, symL, syms, hasP]
  unfold tok1; rw [h1, h2]
theorem tok_cl (r : List UInt8) : tok1 (41 :: r) = some (3, [41]) := by
  have h1 : wordOf (41 :: r) = [] := by unfold wordOf; rw [List.takeWhile_cons_of_neg (by decide)]
  have h2 : symOf (41 :: r) = [41] := by simp [symOf, symL, syms, hasP]
  unfold tok1; rw [h1, h2]
def shiftT (k : Nat) (l : List Tok) : List Tok := l.map fun x => (x.1, x.2.1, x.2.2 + k)
theorem rest_close {k : Nat} {s : List UInt8} : ∀ (d j : Nat), j + d = k → rest (par k s) (k + s.length + j) = ((List.range d).map (fun i => (3, [41], k + s.length + j + i)), none)
  | 0, j, h => by rw [rest_end (by rw [par_len]; omega)]; rfl
  | d + 1, j, h => by
    have hlt : k + s.length + j < (par k s).length := by rw [par_len]; omega
    have hd : (par k s).drop (k + s.length + j) = 41 :: List.replicate d 41 := by
      have := par_mid (k := k) (p := s.length) (s := s) (Nat.le_refl _)
      rw [← List.drop_drop, this, List.drop_length, List.nil_append, List.drop_replicate, show k - j = d + 1 by omega, List.replicate_succ]
    have hc : (par k s)[k + s.length + j] = 41 := by
      have := List.drop_eq_getElem_cons hlt
      rw [hd] at this
      injection this with h1 _
      exact h1.symm
    rw [rest_tok hlt (by rw [hc]; decide) (by rw [hd]; exact tok_cl _)]
    have := rest_close (k := k) (s := s) d (j + 1) (by omega)
    rw [show k + s.length + j + ([41] : List UInt8).length = k + s.length + (j + 1) by simp only [List.length_cons, List.length_nil]; omega, this]
    simp only [List.range_succ_eq_map, List.map_cons, List.map_map, Nat.add_zero]
    refine Prod.ext ?_ rfl
    dsimp only
    congr 1
    refine List.map_congr_left fun i _ => ?_
    simp only [Function.comp]
    rw [show k + s.length + (j + 1) + i = k + s.length + j + (i + 1) by omega]
theorem rest_mid {k : Nat} {s : List UInt8} : ∀ (d p : Nat) (m : List Tok), p + d = s.length → rest s p = (m, none) → rest (par k s) (k + p) = (shiftT k m ++ (rest (par k s) (k + s.length)).1, (rest (par k s) (k + s.length)).2) := by
  intro d
  induction d using Nat.strongRecOn with
  | _ d ih =>
    intro p m hd hr
    rcases Nat.lt_or_ge p s.length with hlt | hge
    rotate_left
    · have hp : p = s.length := by omega
      subst hp
      rw [rest_end (Nat.le_refl _)] at hr
      cases hr
      rfl
    · have hlt' : k + p < (par k s).length := by rw [par_len]; omega
      have hmid := par_mid (k := k) (p := p) (s := s) (by omega)
      have hdrop := List.drop_eq_getElem_cons hlt
      have hc : (par k s)[k + p] = s[p] := by
        have := List.drop_eq_getElem_cons hlt'
        rw [hmid, hdrop] at this
        injection this with h1 _
        exact h1.symm
      by_cases hs : s[p] = 32
      · rw [rest_space hlt hs] at hr
        rw [rest_space hlt' (by rw [hc]; exact hs), Nat.add_assoc]
        exact ih (d - 1) (by omega) (p + 1) m (by omega) hr
      · have htk : tok1 ((par k s).drop (k + p)) = tok1 (s.drop p) := by rw [hmid]; exact tok1_app (fun e => by rw [hdrop] at e; cases e) k
        cases h3 : tok1 (s.drop p) with
        | none => rw [rest_bad hlt hs h3] at hr; cases hr
        | some y =>
          obtain ⟨kd, x⟩ := y
          obtain ⟨g1, g2, g3⟩ := tok1_text h3
          have hx := List.length_pos_iff.2 g1
          rw [List.length_drop] at g2
          rw [rest_tok hlt hs h3] at hr
          rw [rest_tok hlt' (by rw [hc]; exact hs) (by rw [htk]; exact h3)]
          have hr2 : (rest s (p + x.length)).2 = none := congrArg Prod.snd hr
          have hr1 : m = (kd, x, p) :: (rest s (p + x.length)).1 := (congrArg Prod.fst hr).symm
          have := ih (d - x.length) (by omega) (p + x.length) (rest s (p + x.length)).1 (by omega) (Prod.ext rfl hr2)
          rw [Nat.add_assoc, this, hr1]
          simp only [shiftT, List.map_cons, List.cons_append, Nat.add_comm k p]
theorem rest_open {k : Nat} {s : List UInt8} : ∀ (d j : Nat), j + d = k → rest (par k s) j = ((List.range d).map (fun i => (3, [40], j + i)) ++ (rest (par k s) k).1, (rest (par k s) k).2)
  | 0, j, h => by rw [show j = k by omega]; rfl
  | d + 1, j, h => by
    have hlt : j < (par k s).length := by rw [par_len]; omega
    have hd : (par k s).drop j = 40 :: (List.replicate d 40 ++ s ++ List.replicate k 41) := by
      unfold par
      rw [List.append_assoc, List.drop_append, List.length_replicate, show j - k = 0 by omega, List.drop_zero, List.drop_replicate, show k - j = d + 1 by omega, List.replicate_succ]
      simp
    have hc : (par k s)[j] = 40 := by
      have := List.drop_eq_getElem_cons hlt
      rw [hd] at this
      injection this with h1 _
      exact h1.symm
    rw [rest_tok hlt (by rw [hc]; decide) (by rw [hd]; exact tok_op _)]
    have := rest_open (k := k) (s := s) d (j + 1) (by omega)
    rw [show j + ([40] : List UInt8).length = j + 1 from rfl, this]
    simp only [List.range_succ_eq_map, List.map_cons, List.map_map, Nat.add_zero, List.cons_append]
    refine Prod.ext ?_ rfl
    dsimp only
    congr 2
    refine List.map_congr_left fun i _ => ?_
    simp only [Function.comp]
    rw [show j + 1 + i = j + (i + 1) by omega]
def wrapT (k n : Nat) (l : List Tok) : List Tok := (List.range k).map (fun i => (3, [40], 0 + i)) ++ (shiftT k l ++ (List.range k).map fun i => (3, [41], k + n + 0 + i))
theorem rest_par {k : Nat} {s : List UInt8} {l : List Tok} (h : rest s 0 = (l, none)) : rest (par k s) 0 = (wrapT k s.length l, none) := by
  rw [rest_open k 0 (by omega)]
  have h1 := rest_mid (k := k) s.length 0 l (by omega) h
  have h2 := rest_close (k := k) (s := s) k 0 (by omega)
  rw [Nat.add_zero] at h1
  rw [h1, show k + s.length = k + s.length + 0 from rfl, h2]
  rfl
theorem scanned_par {k : Nat} {s : List UInt8} {l : List Tok} (h : scanned s = (l, 0, 0)) (hk : (par k s).length ≤ 400) : scanned (par k s) = (wrapT k s.length l, 0, 0) := by
  have hs : ¬ 400 < s.length := by rw [par_len] at hk; omega
  unfold scanned at h ⊢
  rw [if_neg hs] at h
  rw [if_neg (by omega)]
  cases e : rest s 0 with
  | mk m o =>
    rw [e] at h
    cases o with
    | none => cases h; rw [rest_par e]
    | some q => cases h
theorem wrapT_wrapped {k n : Nat} {l : List Tok} : Wrapped l (wrapT k n l) k where
  len := by simp [wrapT, shiftT]; omega
  opens := fun j hj => by
    unfold isS wrapT
    rw [List.getElem?_append_left (by simp; exact hj)]
    simp [hj]
  same := fun p hp => by
    unfold wrapT
    rw [List.getElem?_append_right (by simp), List.getElem?_append_left (by simp [shiftT]; exact hp)]
    simp only [List.length_map, List.length_range, Nat.add_sub_cancel, shiftT, List.getElem?_map]
    cases l[p]? <;> rfl
  closes := fun j hj => by
    refine ⟨k + n + 0 + j, ?_⟩
    unfold wrapT
    rw [List.getElem?_append_right (by simp; omega), List.getElem?_append_right (by simp [shiftT]; omega)]
    simp only [List.length_map, List.length_range, shiftT]
    rw [show l.length + k + j - k - l.length = j by omega]
    simp [hj]
end Go.AL

