/- Contracts and plain laws, a part of the proof; no condition of its own. -/
import Derived.Test.YtepgdamgklfnmaaS11c
open Go Go.AL Go.Proofs
namespace Go.AL
set_option linter.all false
set_option maxRecDepth 10000

theorem firstI_zero : ∀ {l : List Int}, firstI l = 0 ↔ ∀ x ∈ l, x = 0
  | [] => by simp [firstI]
  | x :: l => by
    have ih := firstI_zero (l := l)
    unfold firstI
    by_cases hx : x = 0
    · subst hx
      simp [ih]
    · simp [hx]
theorem cmpI_eq {a b : Int} : cmpI a b = 0 ↔ a = b := by
  unfold cmpI
  split
  · constructor <;> intro h <;> omega
  · split <;> constructor <;> intro h <;> omega
theorem cmpN_eq {a b : Nat} : cmpN a b = 0 ↔ a = b := by
  unfold cmpN
  split
  · simp [*]
  · split <;> simp [*]
theorem pI_eq {m n : SMatch} : pI m = pI n ↔ m.present = n.present := by
  unfold pI
  cases m.present <;> cases n.present <;> simp
theorem cmpM_eq {m n : SMatch} : cmpM m n = 0 ↔ m = n := by
  unfold cmpM
  rw [firstI_zero]
  simp only [List.mem_cons, List.not_mem_nil, or_false, forall_eq_or_imp, forall_eq, cmpI_eq, cmpN_eq, pI_eq]
  obtain ⟨a, b, c, d, e⟩ := m
  obtain ⟨a', b', c', d', e'⟩ := n
  simp
theorem cmpL_eq {α : Type} {f : α → α → Int} (hf : ∀ x y, f x y = 0 ↔ x = y) : ∀ {xs ys : List α}, cmpL f xs ys = 0 ↔ xs = ys
  | [], [] => by simp [cmpL]
  | [], _ :: _ => by simp [cmpL]
  | _ :: _, [] => by simp [cmpL]
  | x :: xs, y :: ys => by
    have ih := cmpL_eq hf (xs := xs) (ys := ys)
    unfold cmpL
    by_cases h : f x y = 0
    · have := (hf x y).1 h
      subst this
      rw [if_neg (by simp [h]), ih]
      simp
    · have hne : x ≠ y := fun e => h ((hf x y).2 e)
      rw [if_pos (by simp [h])]
      simp [h, hne]
theorem cmpE_eq {e f : SEntry} : cmpE e f = 0 ↔ e = f := by
  unfold cmpE
  rw [firstI_zero]
  simp only [List.mem_cons, List.not_mem_nil, or_false, forall_eq_or_imp, forall_eq, cmpI_eq, cmpL_eq (fun _ _ => cmpM_eq), cmpL_eq (fun _ _ => cmpN_eq)]
  obtain ⟨a, b, c, d, e⟩ := e
  obtain ⟨a', b', c', d', e'⟩ := f
  simp only [SEntry.mk.injEq]
  constructor
  · rintro ⟨h1, h2, h3, h4, h5⟩; exact ⟨h1, h3, h2.symm, h4, h5⟩
  · rintro ⟨h1, h2, h3, h4, h5⟩; exact ⟨h1, h3.symm, h2, h4, h5⟩
end Go.AL


open Go Go.AL Go.Proofs
namespace Go.AL
set_option linter.all false
set_option maxRecDepth 10000

/-- a comparison that orders -/
structure TPre {α : Type} (f : α → α → Int) : Prop where
  anti : ∀ x y, f y x = - f x y
  trans : ∀ x y z, f x y ≤ 0 → f y z ≤ 0 → f x z ≤ 0
theorem TPre.zero {α : Type} : TPre fun _ _ : α => 0 := ⟨fun _ _ => rfl, fun _ _ _ _ _ => by decide⟩
end Go.AL

