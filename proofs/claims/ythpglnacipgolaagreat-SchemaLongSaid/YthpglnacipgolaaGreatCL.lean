/- Contracts and plain laws, a part of the proof; no condition of its own. -/
import Derived.Test.YthpglnacipgolaaGreatCG
import Derived.Test.YthpglnacipgolaaGreatLRd2
open Go Go.AL Go.Proofs
namespace Go.AL
set_option linter.all false
set_option maxRecDepth 10000

theorem plainB_step (l : List UInt8) (k : Nat) (h : k < l.length) : plainB (l.drop k) = (!(decide ((l.getD k 0).toNat < 32) || decide (126 < (l.getD k 0).toNat)) && plainB (l.drop (k + 1))) := by
  rw [List.drop_eq_getElem_cons h]
  have : l.getD k 0 = l[k] := by simp [List.getD_eq_getElem?_getD, h]
  rw [this]; rfl

def p_xPlain : List AV → AHeap → (AV → Prop) → Prop
  | [.str s], _, K => (s.length ≤ 140737488355328) ∧ K (.bool (plainB s))
  | _, _, _ => False
theorem ok_xPlain : EntOk Tryz.prog 323 (Ent.pure p_xPlain) := by
  refine EntOk.pure fun args H K h => ?_
  unfold p_xPlain at h
  split at h
  rotate_left
  · exact h.elim
  rename_i s
  obtain ⟨hle, hK⟩ := h
  refine ⟨_, hK, ?_⟩
  refine ACalls.of_aw (Ω := []) (T := assoc []) mixed TblOk.nil Tryz.func323 (by kernel_rfl) (by rfl) (rs := [.tmp 2]) (by rfl) (by kernel_rfl) (by simp only [Tryz.ntmps323, List.length_cons, List.length_nil]; decide) (Nat.le_refl _) fun hcl hlt => ?_
  change aw _ _ _ (KI Tryz.prog [] (aEnd Tryz.prog [.tmp 2] H.nx _ _) []) _ _
  clear hK hlt
  simp only [go_sem, reduceCtorEq, Nat.reduceEqDiff, Nat.reduceAdd, Nat.reduceMul, Nat.reduceSub, Nat.reduceLeDiff, Nat.reduceLT, Int.reduceMul, Int.reduceAdd, Int.reduceSub, Int.reduceToNat, byq]
  refine loop_intro (A := Nat) (fun k => [(3, .int .i64 (k : Int)), (0, .str s)])
    (fun k => H) (fun k => k ≤ s.length ∧ plainB (s.drop k) = plainB s) (fun k => s.length - k) 0 ⟨by omega, by simp⟩ ?_ fun k hk => ?_
  · simp only [bnq, enter, subF, ltF, ne_eq, Nat.reduceEqDiff, reduceCtorEq, true_or, and_true]
  obtain ⟨hk, hb⟩ := hk
  simp only [go_sem, reduceCtorEq, Nat.reduceEqDiff, Nat.reduceAdd, Nat.reduceMul, Nat.reduceSub, Nat.reduceLeDiff, Nat.reduceLT, Int.reduceMul, Int.reduceAdd, Int.reduceSub, Int.reduceToNat, byq]
  refine cond_split (fun hc => ?_) (fun hc => ?_)
  · have hk : k < s.length := by simp at hc; omega
    have e1 : IntKind.i64.wrap ((k : Int) + 1) = ((k + 1 : Nat) : Int) := by rw [wrap_i64] <;> omega
    have hst := plainB_step s k hk
    have fin1 : ∀ c : Nat, (decide ((c : Int) < 32)) = decide (c < 32) := fun c => by rw [Bool.eq_iff_iff]; simp; omega
    have fin2 : ∀ c : Nat, (decide ((c : Int) > 126)) = decide (126 < c) := fun c => by rw [Bool.eq_iff_iff]; simp; omega
    by_cases c1 : (s.getD k 0).toNat < 32
    · have c1' : decide ((s.getD k 0).toNat < 32) = true := by simpa using c1
      rw [c1'] at hst
      have hf : plainB s = false := by rw [← hb, hst]; rfl
      rw [hf]
      simp only [go_sem, zav, reduceCtorEq, Nat.reduceEqDiff, Nat.reduceAdd, Nat.reduceMul, Nat.reduceSub, Nat.reduceLeDiff, Nat.reduceLT, Int.reduceMul, Int.reduceAdd, Int.reduceSub, Int.reduceToNat, byq, e1, Int.toNat_natCast, fin1, c1']
      refine ⟨by omega, ?_⟩
      simp (disch := first | assumption | omega | (simp; done) | (simp; omega) | (simp only [bt, and_true]; first | done | omega | (simp; done))) [↓zmi, beq, List.take_of_length_le, List.drop_append, List.take_append, endOk, wk, wk2, wk1, wkM, wkL, wkLL, List.drop_eq_nil_of_le, hcl]
    · have c1' : decide ((s.getD k 0).toNat < 32) = false := by simpa using c1
      rw [c1'] at hst
      by_cases c2 : 126 < (s.getD k 0).toNat
      · have c2' : decide (126 < (s.getD k 0).toNat) = true := by simpa using c2
        rw [c2'] at hst
        have hf : plainB s = false := by rw [← hb, hst]; rfl
        rw [hf]
        simp only [go_sem, zav, reduceCtorEq, Nat.reduceEqDiff, Nat.reduceAdd, Nat.reduceMul, Nat.reduceSub, Nat.reduceLeDiff, Nat.reduceLT, Int.reduceMul, Int.reduceAdd, Int.reduceSub, Int.reduceToNat, byq, e1, Int.toNat_natCast, fin1, fin2, c1', c2']
        refine ⟨by omega, by omega, ?_⟩
        simp (disch := first | assumption | omega | (simp; done) | (simp; omega) | (simp only [bt, and_true]; first | done | omega | (simp; done))) [↓zmi, beq, List.take_of_length_le, List.drop_append, List.take_append, endOk, wk, wk2, wk1, wkM, wkL, wkLL, List.drop_eq_nil_of_le, hcl]
      · have c2' : decide (126 < (s.getD k 0).toNat) = false := by simpa using c2
        rw [c2'] at hst
        have hf : plainB (s.drop (k + 1)) = plainB s := by rw [← hb, hst]; simp
        simp only [go_sem, reduceCtorEq, Nat.reduceEqDiff, Nat.reduceAdd, Nat.reduceMul, Nat.reduceSub, Nat.reduceLeDiff, Nat.reduceLT, Int.reduceMul, Int.reduceAdd, Int.reduceSub, Int.reduceToNat, zau, byq, e1, Int.toNat_natCast, fin1, fin2, c1', c2']
        refine ⟨by omega, by omega, k + 1, ⟨by omega, hf⟩, by omega, ?_⟩
        simp only [bnq, enter, subF, ltF, ne_eq, Nat.reduceEqDiff, reduceCtorEq, true_or, and_self]
  · have hk : k = s.length := by simp at hc; omega
    subst hk
    rw [List.drop_length] at hb
    rw [← hb]
    simp only [go_sem, reduceCtorEq, Nat.reduceEqDiff, Nat.reduceAdd, Nat.reduceMul, Nat.reduceSub, Nat.reduceLeDiff, Nat.reduceLT, Int.reduceMul, Int.reduceAdd, Int.reduceSub, Int.reduceToNat, byq]
    simp (disch := first | assumption | omega | (simp; done) | (simp; omega) | (simp only [bt, and_true]; first | done | omega | (simp; done))) [↓zmi, beq, List.take_of_length_le, List.drop_append, List.take_append, endOk, wk, wk2, wk1, wkM, wkL, wkLL, List.drop_eq_nil_of_le, hcl, plainB]

end Go.AL


open Go Go.AL Go.Proofs
namespace Go.AL
set_option linter.all false
set_option maxRecDepth 10000

end Go.AL


open Go Go.AL Go.Proofs
namespace Go.AL
set_option linter.all false
set_option maxRecDepth 10000

end Go.AL


open Go Go.AL Go.Proofs
namespace Go.AL
set_option linter.all false
set_option maxRecDepth 10000

theorem EntOk.eff {P : Program} {f : FuncId} {p : List AV → AHeap → (AV → Prop) → Prop} (h : EntOk P f (Ent.pure p)) : EntOk P f (Ent.effect fun args H K => p args H fun v => K (.ret v) H) :=
  EntOk.effect fun args H K hh => by
    obtain ⟨x, hx, hc⟩ := h.1 rfl args H (fun v => K (.ret v) H) hh
    exact ⟨_, _, hx, hc⟩
end Go.AL

