/- Plain laws of tokens and their places. -/
import Derived.Test.YtogojhflpdlceaaLLex
open Go Go.AL
namespace Go.AL
set_option linter.all false
theorem rest_next {s : List UInt8} : ∀ (d p : Nat) (l : List Tok), s.length = p + d → rest s p = (l, none) →
    (l = [] ∧ s = s.take p ++ List.replicate (s.length - p) 32) ∨ ∃ q kd x l', l = (kd, x, q) :: l' ∧ p ≤ q ∧ q + x.length ≤ s.length ∧ s.take q = s.take p ++ List.replicate (q - p) 32 ∧ (s.drop q).take x.length = x ∧ rest s (q + x.length) = (l', none)
  | 0, p, l, h, e => by
    rw [rest_end (by omega)] at e
    injection e with e1 e2
    refine .inl ⟨e1.symm, ?_⟩
    rw [show s.length - p = 0 by omega, List.take_of_length_le (by omega)]; simp
  | d + 1, p, l, h, e => by
    have hp : p < s.length := by omega
    rcases Classical.em (s[p] = 32) with hc | hc
    · rw [rest_space hp hc] at e
      have e2 : s.take (p + 1) = s.take p ++ [32] := by rw [List.take_succ_eq_append_getElem hp, hc]
      rcases rest_next d (p + 1) l (by omega) e with ⟨h1, h2⟩ | ⟨q, kd, x, l', h1, h2, h3, h4, h5, h6⟩
      · refine .inl ⟨h1, ?_⟩
        rw [e2, List.append_assoc] at h2
        rw [show s.length - p = s.length - (p + 1) + 1 by omega, List.replicate_succ]
        exact h2
      · refine .inr ⟨q, kd, x, l', h1, by omega, h3, ?_, h5, h6⟩
        rw [h4, e2, List.append_assoc, show q - p = q - (p + 1) + 1 by omega, List.replicate_succ]; rfl
    · cases ht : tok1 (s.drop p) with
      | none => rw [rest_bad hp hc ht] at e; injection e with e1 e2; cases e2
      | some y =>
        obtain ⟨kd, x⟩ := y
        rw [rest_tok hp hc ht] at e
        injection e with e1 e2
        obtain ⟨g1, g2, g3⟩ := tok1_text ht
        rw [List.length_drop] at g2
        refine .inr ⟨p, kd, x, _, e1.symm, Nat.le_refl _, by omega, by simp, g3, ?_⟩
        exact Prod.ext rfl e2
/-- what is written when tokens are put at their places -/
theorem put_tok {s x : List UInt8} {p q : Nat} (h2 : p ≤ q) (h3 : q + x.length ≤ s.length) (h4 : s.take q = s.take p ++ List.replicate (q - p) 32) (h5 : (s.drop q).take x.length = x) :
    (s.take p ++ List.replicate (s.length - p) (32 : UInt8)).take q ++ x ++ (s.take p ++ List.replicate (s.length - p) (32 : UInt8)).drop (q + x.length) = s.take (q + x.length) ++ List.replicate (s.length - (q + x.length)) 32 := by
  have e1 : (s.take p ++ List.replicate (s.length - p) (32 : UInt8)).take q = s.take q := by
    rw [h4, List.take_append, List.take_of_length_le (by rw [List.length_take]; omega), List.take_replicate, List.length_take, show min (q - min p s.length) (s.length - p) = q - p by omega]
  have e2 : s.take (q + x.length) = s.take q ++ x := by rw [List.take_add, h5]
  have e3 : (s.take p ++ List.replicate (s.length - p) (32 : UInt8)).drop (q + x.length) = List.replicate (s.length - (q + x.length)) 32 := by
    rw [List.drop_append, List.drop_eq_nil_of_le (by rw [List.length_take]; omega), List.drop_replicate, List.length_take, List.nil_append]
    congr 1; omega
  rw [e1, e2, e3]
end Go.AL
