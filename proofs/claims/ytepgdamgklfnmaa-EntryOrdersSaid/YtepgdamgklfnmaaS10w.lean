/- Contracts and plain laws, a part of the proof; no condition of its own. -/
import Derived.Test.YtepgdamgklfnmaaS10t
open Go Go.AL Go.Proofs
namespace Go.AL
set_option linter.all false
set_option maxRecDepth 10000

end Go.AL


open Go Go.AL Go.Proofs
namespace Go.AL
set_option linter.all false
set_option maxRecDepth 10000

def p_gNaN : List AV → AHeap → (AV → Prop) → Prop
  | [.int .i64 x], _, K => K (.bool false)
  | _, _, _ => False
theorem ok_gNaN : EntOk Try.prog 70 (Ent.pure p_gNaN) := by
  refine EntOk.pure fun args H K h => ?_
  unfold p_gNaN at h
  split at h
  rotate_left
  · exact h.elim
  rename_i x
  refine ⟨_, h, ?_⟩
  clear h
  refine ACalls.of_aw (Ω := []) (T := assoc []) mixed TblOk.nil Try.func70 (by kernel_rfl) (by rfl) (rs := [.tmp 2]) (by rfl) (by kernel_rfl) (by simp only [Try.ntmps70, List.length_cons, List.length_nil]; decide) (Nat.le_refl _) fun hcl hlt => ?_
  change aw _ _ _ (KI Try.prog [] (aEnd Try.prog [.tmp 2] H.nx _ _) []) _ _
  clear hlt
  simp only [go_sem, reduceCtorEq, Nat.reduceEqDiff, Nat.reduceAdd, Nat.reduceMul, Nat.reduceSub, Nat.reduceLeDiff, Nat.reduceLT, Int.reduceMul, Int.reduceAdd, Int.reduceSub, Int.reduceToNat, bne_self_eq_false]
  simp (disch := first | assumption | omega | (simp; done) | (simp; omega) | (simp only [bt, and_true]; first | done | omega | (simp; done))) [↓zlu, beq, List.take_of_length_le, List.drop_append, List.take_append, endOk, wk, wk2, wk1, wkM, wkL, wkLL, List.drop_eq_nil_of_le, hcl]
def cmpI (a b : Int) : Int := if a < b then -1 else if b < a then 1 else 0
def p_gCompare : List AV → AHeap → (AV → Prop) → Prop
  | [.int .i64 a, .int .i64 b], _, K => K (.int .i64 (cmpI a b))
  | _, _, _ => False
theorem ok_gCompare : EntOk Try.prog 38 (Ent.pure p_gCompare) := by
  refine EntOk.pure fun args H K h => ?_
  unfold p_gCompare at h
  split at h
  rotate_left
  · exact h.elim
  rename_i a b
  refine ⟨_, h, ?_⟩
  clear h
  unfold cmpI
  by_cases h1 : a < b
  · rw [if_pos h1]
    have d1 : decide (a < b) = true := decide_eq_true h1
    refine ACalls.of_aw (Ω := [(70, Ent.pure p_gNaN)]) (T := assoc []) mixed (TblOk.cons ok_gNaN TblOk.nil) Try.func38 (by kernel_rfl) (by rfl) (rs := [.tmp 4]) (by rfl) (by kernel_rfl) (by simp only [Try.ntmps38, List.length_cons, List.length_nil]; decide) (Nat.le_refl _) fun hcl hlt => ?_
    change aw _ _ _ (KI Try.prog [(70, Ent.pure p_gNaN)] (aEnd Try.prog [.tmp 4] H.nx _ _) []) _ _
    clear hlt
    simp only [go_sem, reduceCtorEq, Nat.reduceEqDiff, Nat.reduceAdd, Nat.reduceMul, Nat.reduceSub, Nat.reduceLeDiff, Nat.reduceLT, Int.reduceMul, Int.reduceAdd, Int.reduceSub, Int.reduceToNat, p_gNaN, d1]
    simp (disch := first | assumption | omega | (simp; done) | (simp; omega) | (simp only [bt, and_true]; first | done | omega | (simp; done))) [↓zlu, beq, List.take_of_length_le, List.drop_append, List.take_append, endOk, wk, wk2, wk1, wkM, wkL, wkLL, List.drop_eq_nil_of_le, hcl]
  · rw [if_neg h1]
    have d1 : decide (a < b) = false := decide_eq_false h1
    by_cases h2 : b < a
    · rw [if_pos h2]
      have d2 : decide (a > b) = true := decide_eq_true h2
      refine ACalls.of_aw (Ω := [(70, Ent.pure p_gNaN)]) (T := assoc []) mixed (TblOk.cons ok_gNaN TblOk.nil) Try.func38 (by kernel_rfl) (by rfl) (rs := [.tmp 4]) (by rfl) (by kernel_rfl) (by simp only [Try.ntmps38, List.length_cons, List.length_nil]; decide) (Nat.le_refl _) fun hcl hlt => ?_
      change aw _ _ _ (KI Try.prog [(70, Ent.pure p_gNaN)] (aEnd Try.prog [.tmp 4] H.nx _ _) []) _ _
      clear hlt
      simp only [go_sem, reduceCtorEq, Nat.reduceEqDiff, Nat.reduceAdd, Nat.reduceMul, Nat.reduceSub, Nat.reduceLeDiff, Nat.reduceLT, Int.reduceMul, Int.reduceAdd, Int.reduceSub, Int.reduceToNat, p_gNaN, d1, d2]
      simp (disch := first | assumption | omega | (simp; done) | (simp; omega) | (simp only [bt, and_true]; first | done | omega | (simp; done))) [↓zlu, beq, List.take_of_length_le, List.drop_append, List.take_append, endOk, wk, wk2, wk1, wkM, wkL, wkLL, List.drop_eq_nil_of_le, hcl]
    · rw [if_neg h2]
      have d2 : decide (a > b) = false := decide_eq_false h2
      refine ACalls.of_aw (Ω := [(70, Ent.pure p_gNaN)]) (T := assoc []) mixed (TblOk.cons ok_gNaN TblOk.nil) Try.func38 (by kernel_rfl) (by rfl) (rs := [.tmp 4]) (by rfl) (by kernel_rfl) (by simp only [Try.ntmps38, List.length_cons, List.length_nil]; decide) (Nat.le_refl _) fun hcl hlt => ?_
      change aw _ _ _ (KI Try.prog [(70, Ent.pure p_gNaN)] (aEnd Try.prog [.tmp 4] H.nx _ _) []) _ _
      clear hlt
      simp only [go_sem, reduceCtorEq, Nat.reduceEqDiff, Nat.reduceAdd, Nat.reduceMul, Nat.reduceSub, Nat.reduceLeDiff, Nat.reduceLT, Int.reduceMul, Int.reduceAdd, Int.reduceSub, Int.reduceToNat, p_gNaN, d1, d2]
      simp (disch := first | assumption | omega | (simp; done) | (simp; omega) | (simp only [bt, and_true]; first | done | omega | (simp; done))) [↓zlu, beq, List.take_of_length_le, List.drop_append, List.take_append, endOk, wk, wk2, wk1, wkM, wkL, wkLL, List.drop_eq_nil_of_le, hcl]
def firstI : List Int → Int
  | [] => 0
  | x :: xs => if (x != 0) = true then x else firstI xs
def p_eFirst : List AV → AHeap → (AV → Prop) → Prop
  | [.slice _ 1 l], _, K => ∃ xs : List Int, (l = inL xs ∧ xs.length ≤ 1000000) ∧ K (.int .i64 (firstI xs))
  | _, _, _ => False
theorem ok_eFirst : EntOk Try.prog 37 (Ent.pure p_eFirst) := by
  refine EntOk.pure fun args H K h => ?_
  unfold p_eFirst at h
  split at h
  rotate_left
  · exact h.elim
  rename_i m l
  obtain ⟨xs, ⟨rfl, hl⟩, hK⟩ := h
  refine ⟨_, hK, ?_⟩
  clear hK
  generalize hR : firstI xs = R
  refine ACalls.of_aw (Ω := []) (T := assoc []) mixed TblOk.nil Try.func37 (by kernel_rfl) (by rfl) (rs := [.tmp 2]) (by rfl) (by kernel_rfl) (by simp only [Try.ntmps37, List.length_cons, List.length_nil]; decide) (Nat.le_refl _) fun hcl hlt => ?_
  change aw _ _ _ (KI Try.prog [] (aEnd Try.prog [.tmp 2] H.nx _ _) []) _ _
  have hm : AV.lt H.nx (.slice m 1 (inL xs)) := hlt _ (by simp)
  clear hlt
  simp only [go_sem, reduceCtorEq, Nat.reduceEqDiff, Nat.reduceAdd, Nat.reduceMul, Nat.reduceSub, Nat.reduceLeDiff, Nat.reduceLT, Int.reduceMul, Int.reduceAdd, Int.reduceSub, Int.reduceToNat, inL_len]
  refine loop_introW (A := Nat) (fun k => [(5, .slice m 1 (inL xs)), (6, .int .i64 (xs.length : Int)), (7, .int .i64 (k : Int))]) (fun _ => H) (fun k => k ≤ xs.length ∧ firstI (xs.drop k) = R) (fun k => xs.length - k) 0 ⟨by omega, hR⟩ ?_ fun k hk => ?_
  · refine ⟨Nat.le_refl _, AHeap.Le.refl _, hcl, ?_, ?_⟩
    · simp [ltF, zml, hm]
    · simp [subW, wk2, wk1, wkM, Fr.get]
  clear hR
  obtain ⟨hk, hR⟩ := hk
  simp only [go_sem, reduceCtorEq, Nat.reduceEqDiff, Nat.reduceAdd, Nat.reduceMul, Nat.reduceSub, Nat.reduceLeDiff, Nat.reduceLT, Int.reduceMul, Int.reduceAdd, Int.reduceSub, Int.reduceToNat]
  refine cond_split (fun hc => ?_) (fun hc => ?_)
  · have hk' : k < xs.length := by simp at hc; omega
    obtain ⟨x, hx⟩ : ∃ x, x = xs[k] := ⟨_, rfl⟩
    have hd : xs.drop k = x :: xs.drop (k + 1) := by rw [hx]; exact List.drop_eq_getElem_cons hk'
    have hg := getD_map (f := AV.int .i64) (l := xs) (k := k) (x := x) (by rw [List.getElem?_eq_getElem hk', hx])
    have e5 : IntKind.i64.wrap ((k : Int) + 1) = ((k + 1 : Nat) : Int) := by rw [wrap_i64] <;> omega
    rw [hd] at hR
    unfold firstI at hR
    simp only [go_sem, reduceCtorEq, Nat.reduceEqDiff, Nat.reduceAdd, Nat.reduceMul, Nat.reduceSub, Nat.reduceLeDiff, Nat.reduceLT, Int.reduceMul, Int.reduceAdd, Int.reduceSub, Int.reduceToNat, Int.toNat_natCast, inL, hg, List.length_map]
    (repeat with_reducible refine And.intro (by first | exact True.intro | decide | omega | (simp [zib, zge, zgf, zgg, zgi, zgh, zgm]; first | done | omega)) ?_)
    refine cond_split (fun hq => ?_) (fun hq => ?_)
    · rw [if_pos hq] at hR
      subst hR
      simp only [go_sem, reduceCtorEq, Nat.reduceEqDiff, Nat.reduceAdd, Nat.reduceMul, Nat.reduceSub, Nat.reduceLeDiff, Nat.reduceLT, Int.reduceMul, Int.reduceAdd, Int.reduceSub, Int.reduceToNat]
      simp (disch := first | assumption | omega | (simp; done) | (simp; omega) | (simp only [bt, and_true]; first | done | omega | (simp; done))) [↓zlu, beq, List.take_of_length_le, List.drop_append, List.take_append, endOk, wk, wk2, wk1, wkM, wkL, wkLL, List.drop_eq_nil_of_le, hcl]
    · rw [if_neg (by rw [hq]; decide)] at hR
      simp only [go_sem, reduceCtorEq, Nat.reduceEqDiff, Nat.reduceAdd, Nat.reduceMul, Nat.reduceSub, Nat.reduceLeDiff, Nat.reduceLT, Int.reduceMul, Int.reduceAdd, Int.reduceSub, Int.reduceToNat, e5]
      unfold inL at hm
      refine ⟨k + 1, ⟨by omega, hR⟩, by omega, Nat.le_refl _, AHeap.Le.refl _, hcl, ?_, ?_⟩
      · simp [ltF, zml, hm]
      · simp [subW, wk2, wk1, wkM, Fr.get]
  · have hk' : k = xs.length := by simp at hc; omega
    subst hk'
    rw [List.drop_length] at hR
    unfold firstI at hR
    subst hR
    simp only [go_sem, reduceCtorEq, Nat.reduceEqDiff, Nat.reduceAdd, Nat.reduceMul, Nat.reduceSub, Nat.reduceLeDiff, Nat.reduceLT, Int.reduceMul, Int.reduceAdd, Int.reduceSub, Int.reduceToNat]
    simp (disch := first | assumption | omega | (simp; done) | (simp; omega) | (simp only [bt, and_true]; first | done | omega | (simp; done))) [↓zlu, beq, List.take_of_length_le, List.drop_append, List.take_append, endOk, wk, wk2, wk1, wkM, wkL, wkLL, List.drop_eq_nil_of_le, hcl]
theorem cmpI_zero {a b : Int} : (cmpI a b != 0) = (a != b) := by
  unfold cmpI
  split
  · have : a ≠ b := by omega
    simp [this]
  · split
    · have : a ≠ b := by omega
      simp [this]
    · have : a = b := by omega
      simp [this]
end Go.AL

