/- Contracts and plain laws, a part of the proof; no condition of its own. -/
import Derived.Test.YtnhghceobhdaoaaLSyn
import Derived.Test.YtnhghceobhdaoaaS07b
/- Plain laws of sentences: every text has an answer; depths; what scanning gives is fit for parsing. -/
open Go Go.AL
namespace Go.AL
set_option linter.all false

def tot (l : List Tok) (rl : Rl) (p : Nat) (t : List Nd) : Prop := ∃ f r, run l f rl p t = some r
/-! ### Depths -/
def dAt (ds : List Nat) (n : Nd) : Nat := if n.op ≤ 3 then 0 else if n.op ≤ 5 then 1 + ds.getD n.a 0 else if n.op = 16 then max (ds.getD n.a 0) (1 + ds.getD n.b 0) else max (ds.getD n.a 0) (ds.getD n.b 0)
def deps (t : List Nd) : List Nat := t.foldl (fun ds n => ds ++ [dAt ds n]) []
def depthOf (t : List Nd) : Nat := (deps t).getD (t.length - 1) 0
theorem deps_snoc {t : List Nd} {n : Nd} : deps (t ++ [n]) = deps t ++ [dAt (deps t) n] := by
  unfold deps; rw [List.foldl_append]; rfl
theorem deps_take {t : List Nd} {i : Nat} (h : i < t.length) : deps (t.take (i + 1)) = deps (t.take i) ++ [dAt (deps (t.take i)) t[i]] := by
  rw [List.take_succ_eq_append_getElem h, deps_snoc]
theorem deps_len_take {t : List Nd} : ∀ {i : Nat}, i ≤ t.length → (deps (t.take i)).length = i
  | 0, _ => rfl
  | i + 1, h => by rw [deps_take h, List.length_append, deps_len_take (Nat.le_of_succ_le h)]; rfl
theorem deps_len {t : List Nd} : (deps t).length = t.length := by
  have := deps_len_take (t := t) (Nat.le_refl _)
  rwa [List.take_length] at this
theorem getD_le {ds : List Nat} {m : Nat} (h : ∀ x ∈ ds, x ≤ m) (a : Nat) : ds.getD a 0 ≤ m := by
  rw [List.getD_eq_getElem?_getD]
  cases e : ds[a]? with
  | none => simp
  | some x => exact h x (List.mem_of_getElem? e)
theorem dAt_le {ds : List Nat} {m : Nat} (h : ∀ x ∈ ds, x ≤ m) (n : Nd) : dAt ds n ≤ m + 1 := by
  have h1 := getD_le h n.a
  have h2 := getD_le h n.b
  unfold dAt
  split
  · omega
  · split
    · omega
    · split <;> omega
theorem deps_le {t : List Nd} : ∀ {i : Nat}, i ≤ t.length → ∀ x ∈ deps (t.take i), x ≤ i
  | 0, _, x, hx => by simp [deps] at hx
  | i + 1, h, x, hx => by
    have ih := deps_le (Nat.le_of_succ_le h)
    rw [deps_take h, List.mem_append] at hx
    rcases hx with hx | hx
    · exact Nat.le_succ_of_le (ih x hx)
    · rw [List.mem_singleton.1 hx]; exact dAt_le ih _
/-! ### What scanning gives -/
theorem tok1_good {s : List UInt8} {kd : Nat} {x : List UInt8} (h : tok1 s = some (kd, x)) (hk : kd = 1) : (lit x).isSome = true := by
  subst hk
  unfold tok1 at h
  split at h
  · split at h <;> cases h
  · split at h
    · cases h
    · split at h
      · rename_i h2
        cases h
        exact h2
      · cases h
theorem scanT_good : ∀ (f : Nat) (s : List UInt8) (k : Nat), s.length ≤ 1000 → (scanT f s k).1.length ≤ s.length ∧ goodL (scanT f s k).1
  | 0, s, k, h => ⟨Nat.zero_le _, fun x hx => by cases hx⟩
  | f + 1, [], k, h => ⟨Nat.zero_le _, fun x hx => by cases hx⟩
  | f + 1, c :: r, k, h => by
    unfold scanT
    split
    · obtain ⟨h1, h2⟩ := scanT_good f r (k + 1) (by simp at h; omega)
      exact ⟨by simp only [List.length_cons]; omega, h2⟩
    · split
      · exact ⟨Nat.zero_le _, fun x hx => by cases hx⟩
      · rename_i kd x htk
        obtain ⟨g1, g2, g3⟩ := tok1_text htk
        have hx0 := List.length_pos_iff.2 g1
        obtain ⟨h1, h2⟩ := scanT_good f ((c :: r).drop x.length) (k + x.length) (by rw [List.length_drop]; omega)
        rw [List.length_drop] at h1
        refine ⟨by simp only [List.length_cons] at *; omega, fun y hy => ?_⟩
        rcases List.mem_cons.1 hy with rfl | hy
        · exact ⟨by dsimp only; omega, fun hk => tok1_good htk hk⟩
        · exact h2 y hy
theorem scanned_good (s : List UInt8) : (scanned s).1.length ≤ 400 ∧ goodL (scanned s).1 := by
  unfold scanned
  split
  · exact ⟨Nat.zero_le _, fun x hx => by cases hx⟩
  · rename_i h
    obtain ⟨h1, h2⟩ := scanT_good s.length (s.drop 0) 0 (by simp; omega)
    change (rest s 0).1.length ≤ _ at h1
    change goodL (rest s 0).1 at h2
    cases e : rest s 0 with
    | mk a b =>
      rw [e] at h1 h2
      cases b with
      | none => exact ⟨by simp at h1; dsimp only; omega, h2⟩
      | some k => exact ⟨Nat.zero_le _, fun x hx => by cases hx⟩
end Go.AL

