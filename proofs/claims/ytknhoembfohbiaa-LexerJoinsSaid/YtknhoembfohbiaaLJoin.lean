/- Contracts and plain laws, a part of the proof; no condition of its own. -/
import Derived.Test.YtknhoembfohbiaaLLex2
/- Plain laws of tokens joined with spaces. -/
open Go Go.AL
namespace Go.AL
set_option linter.all false
/-- texts with a space between two of them -/
def spaced : List (List UInt8) → List UInt8
  | [] => []
  | [x] => x
  | x :: y :: r => x ++ 32 :: spaced (y :: r)
theorem wordOf_app {x r : List UInt8} (h : wordOf (x ++ r) = x) : wordOf x = x ∧ ∀ r', wordOf (x ++ 32 :: r') = x := by
  unfold wordOf at *
  have key : ∀ x : List UInt8, List.takeWhile isPart (x ++ r) = x → List.takeWhile isPart x = x ∧ ∀ r', List.takeWhile isPart (x ++ 32 :: r') = x := by
    intro x
    induction x with
    | nil => intro _; exact ⟨rfl, fun r' => rfl⟩
    | cons c x ih =>
      intro h
      rw [List.cons_append, List.takeWhile_cons] at h
      split at h
      · rename_i hc
        injection h with h1 h2
        obtain ⟨h3, h4⟩ := ih h2
        refine ⟨by rw [List.takeWhile_cons, if_pos hc, h3], fun r' => ?_⟩
        rw [List.cons_append, List.takeWhile_cons, if_pos hc, h4]
      · cases h
  exact key x h
theorem sym_app : ∀ x ∈ syms, wordOf x = [] ∧ symOf x = x ∧ (∀ r', wordOf (x ++ 32 :: r') = []) ∧ ∀ r', symOf (x ++ 32 :: r') = x := by
  intro x hx
  simp only [syms, List.mem_cons, List.not_mem_nil, or_false] at hx
  rcases hx with rfl | rfl | rfl | rfl | rfl | rfl | rfl | rfl | rfl | rfl | rfl | rfl | rfl | rfl | rfl <;> exact ⟨rfl, rfl, fun r' => rfl, fun r' => rfl⟩
theorem take_split {s x : List UInt8} (h : s.take x.length = x) : ∃ r, s = x ++ r := ⟨s.drop x.length, by
  have := List.take_append_drop x.length s
  rw [h] at this
  exact this.symm⟩
/-- a token stays the token that it is, before a space and at the end -/
theorem tok1_app {s x : List UInt8} {kd : Nat} (h : tok1 s = some (kd, x)) : tok1 x = some (kd, x) ∧ ∀ r', tok1 (x ++ 32 :: r') = some (kd, x) := by
  obtain ⟨hne, _, ht⟩ := tok1_text h
  obtain ⟨r, rfl⟩ := take_split ht
  unfold tok1 at h
  split at h
  · rename_i hw
    split at h
    · cases h
    · rename_i y hy
      injection h with h
      injection h with h1 h2
      subst h1
      obtain ⟨h3, h4⟩ := symL_ne syms_ne (s := x ++ r) hy
      have e : symOf (x ++ r) = x := h2
      have h3' : x ∈ syms := by rw [← e]; exact h3
      obtain ⟨g1, g2, g3, g4⟩ := sym_app x h3'
      constructor
      · unfold tok1; rw [g1, g2]; cases x with
        | nil => exact absurd rfl hne
        | cons c x => rfl
      · intro r'; unfold tok1; rw [g3, g4]; cases x with
        | nil => exact absurd rfl hne
        | cons c x => rfl
  · rename_i c w hw
    have hx : x = c :: w := by
      split at h
      · injection h with h; injection h with h1 h2; exact h2.symm
      · split at h
        · injection h with h; injection h with h1 h2; exact h2.symm
        · cases h
    subst hx
    obtain ⟨g1, g2⟩ := wordOf_app hw
    constructor
    · unfold tok1; rw [g1]; exact h
    · intro r'; unfold tok1; rw [g2]; exact h
theorem tok1_space {s : List UInt8} {x : Nat × List UInt8} (h : tok1 (32 :: s) = some x) : False := by
  have : tok1 (32 :: s) = none := rfl
  rw [this] at h; cases h
/-- every token of a text is one by itself -/
theorem scanT_all : ∀ (f : Nat) (s : List UInt8) (k : Nat), ∀ y ∈ (scanT f s k).1, ∃ r, tok1 (r) = some (y.1, y.2.1) ∧ y.2.1 ≠ []
  | 0, _, _, y, h => by cases h
  | f + 1, [], _, y, h => by cases h
  | f + 1, c :: r, k, y, h => by
    unfold scanT at h
    split at h
    · exact scanT_all f r (k + 1) y h
    · split at h
      · cases h
      · rename_i kd x hx
        rcases List.mem_cons.1 h with rfl | h
        · exact ⟨_, hx, (tok1_text hx).1⟩
        · exact scanT_all f _ _ y h
/-- the tokens of joined tokens -/
theorem scan_spaced : ∀ (l : List Tok) (f k : Nat), (∀ y ∈ l, ∃ r, tok1 r = some (y.1, y.2.1) ∧ y.2.1 ≠ []) → (spaced (l.map (·.2.1))).length ≤ f →
    ∃ m, scanT f (spaced (l.map (·.2.1))) k = (m, none) ∧ m.map (fun y => (y.1, y.2.1)) = l.map (fun y => (y.1, y.2.1))
  | [], f, k, _, _ => by
    refine ⟨[], ?_, rfl⟩
    cases f <;> rfl
  | [(kd, x, q)], f, k, hall, hf => by
    obtain ⟨r, hr, hne⟩ := hall _ List.mem_cons_self
    dsimp only at hr hne
    obtain ⟨h1, h2⟩ := tok1_app hr
    simp only [List.map_cons, List.map_nil, spaced] at hf ⊢
    cases x with
    | nil => exact absurd rfl hne
    | cons c x =>
      obtain ⟨f, rfl⟩ : ∃ g, f = g + 1 := ⟨f - 1, by simp at hf; omega⟩
      refine ⟨[(kd, c :: x, k)], ?_, rfl⟩
      have hc : c ≠ 32 := fun e => by subst e; exact tok1_space h1
      rw [scanT, if_neg hc, h1]
      simp only [List.drop_length]
      cases f <;> rfl
  | (kd, x, q) :: y :: l, f, k, hall, hf => by
    obtain ⟨r, hr, hne⟩ := hall _ List.mem_cons_self
    dsimp only at hr hne
    obtain ⟨h1, h2⟩ := tok1_app hr
    simp only [List.map_cons, spaced] at hf ⊢
    cases x with
    | nil => exact absurd rfl hne
    | cons c x =>
      have hl : ((c :: x) ++ 32 :: spaced (y.2.1 :: l.map (·.2.1))).length = x.length + (spaced (y.2.1 :: l.map (·.2.1))).length + 2 := by simp; omega
      rw [hl] at hf
      obtain ⟨f, rfl⟩ : ∃ g, f = g + 1 := ⟨f - 1, by omega⟩
      have hc : c ≠ 32 := fun e => by subst e; exact tok1_space h1
      have h3 := h2 (spaced (y.2.1 :: l.map (·.2.1)))
      rw [List.cons_append] at h3 ⊢
      rw [scanT, if_neg hc, h3]
      have hd : (c :: (x ++ 32 :: spaced (y.2.1 :: l.map (·.2.1)))).drop (c :: x).length = 32 :: spaced (y.2.1 :: l.map (·.2.1)) := by
        rw [← List.cons_append]; exact List.drop_left
      simp only [hd]
      obtain ⟨f, rfl⟩ : ∃ g, f = g + 1 := ⟨f - 1, by omega⟩
      obtain ⟨m, hm, hmm⟩ := scan_spaced (y :: l) f (k + (c :: x).length + 1) (fun z hz => hall z (List.mem_cons_of_mem _ hz)) (by
        simp only [List.map_cons]; omega)
      simp only [List.map_cons] at hm
      rw [scanT, if_pos rfl, hm]
      exact ⟨(kd, c :: x, k) :: m, rfl, by simp only [List.map_cons, hmm]⟩
theorem scanned_ok {s : List UInt8} {l : List Tok} {i : Nat} (h : scanned s = (l, i, 0)) : s.length ≤ 400 ∧ ∀ y ∈ l, ∃ r, tok1 r = some (y.1, y.2.1) ∧ y.2.1 ≠ [] := by
  unfold scanned at h
  split at h
  · cases h
  · rename_i hl
    refine ⟨by omega, ?_⟩
    split at h
    · rename_i l' hr
      cases h
      intro y hy
      have : y ∈ (scanT s.length (s.drop 0) 0).1 := by unfold rest at hr; rw [hr]; exact hy
      exact scanT_all _ _ _ y this
    · cases h
theorem scanned_spaced {s : List UInt8} {l : List Tok} {i : Nat} (h : scanned s = (l, i, 0)) (h2 : (spaced (l.map (·.2.1))).length ≤ 400) :
    ∃ m, scanned (spaced (l.map (·.2.1))) = (m, 0, 0) ∧ m.map (fun y => (y.1, y.2.1)) = l.map (fun y => (y.1, y.2.1)) := by
  obtain ⟨m, h3, h4⟩ := scan_spaced l _ 0 (scanned_ok h).2 (Nat.le_refl _)
  refine ⟨m, ?_, h4⟩
  unfold scanned
  rw [if_neg (by omega)]
  unfold rest
  rw [List.drop_zero, h3]
end Go.AL

