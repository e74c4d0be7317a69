/- Contracts and plain laws, a part of the proof; no condition of its own. -/
import Derived.Test.YtepgdamgklfnmaaGreatS11h
open Go Go.AL Go.Proofs
namespace Go.AL
set_option linter.all false
set_option maxRecDepth 10000

end Go.AL


open Go Go.AL Go.Proofs
namespace Go.AL
set_option linter.all false
set_option maxRecDepth 10000

def p_rSame10 : List AV → AHeap → (AV → Prop) → Prop
  | [.agg l, .agg k], _, K => ∃ e f : SEntry, (l = entryC e ∧ k = entryC f ∧ COk e ∧ COk f) ∧ K (.bool (cmpE e f == 0))
  | _, _, _ => False
theorem ok_rSame10 : EntOk Tryz.prog 55 (Ent.pure p_rSame10) := by
  refine EntOk.pure fun args H K h => ?_
  unfold p_rSame10 at h
  split at h
  rotate_left
  · exact h.elim
  rename_i l k
  obtain ⟨e, f, ⟨rfl, rfl, he, hf⟩, hK⟩ := h
  refine ⟨_, hK, ?_⟩
  clear hK
  refine ACalls.of_aw (Ω := [(115, Ent.pure p_rCompareE)]) (T := assoc []) mixed (TblOk.cons ok_rCompareE TblOk.nil) Tryz.func55 (by kernel_rfl) (by rfl) (rs := [.tmp 4]) (by rfl) (by kernel_rfl) (by simp only [Tryz.ntmps55, List.length_cons, List.length_nil]; decide) (Nat.le_refl _) fun hcl hlt => ?_
  change aw _ _ _ (KI Tryz.prog [(115, Ent.pure p_rCompareE)] (aEnd Tryz.prog [.tmp 4] H.nx _ _ (assoc [])) []) _ _
  clear hlt
  simp only [go_sem, reduceCtorEq, Nat.reduceEqDiff, Nat.reduceAdd, Nat.reduceMul, Nat.reduceSub, Nat.reduceLeDiff, Nat.reduceLT, Int.reduceMul, Int.reduceAdd, Int.reduceSub, Int.reduceToNat, entryC, p_rCompareE]
  refine ⟨e, f, ⟨rfl, rfl, he, hf⟩, ?_⟩
  try simp only [go_sem, reduceCtorEq, Nat.reduceEqDiff, Nat.reduceAdd, Nat.reduceMul, Nat.reduceSub, Nat.reduceLeDiff, Nat.reduceLT, Int.reduceMul, Int.reduceAdd, Int.reduceSub, Int.reduceToNat]
  simp (disch := first | assumption | omega | (simp; done) | (simp; omega) | (simp only [bt, and_true]; first | done | omega | (simp; done))) [↓zlw, beq, List.take_of_length_le, List.drop_append, List.take_append, endOk, wk, wk2, wk1, wkM, wkL, wkLL, List.drop_eq_nil_of_le, hcl]
  first | done | repeat (first | exact AHeap.Le.refl _ | refine AHeap.Le.push ?_ _)
end Go.AL

