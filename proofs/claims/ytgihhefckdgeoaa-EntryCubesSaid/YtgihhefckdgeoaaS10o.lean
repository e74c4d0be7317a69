/- Contracts and plain laws, a part of the proof; no condition of its own. -/
import Derived.Test.YtgihhefckdgeoaaS10n
open Go Go.AL Go.Proofs
namespace Go.AL
set_option linter.all false
set_option maxRecDepth 10000

theorem actionL_in {P : SAction → Prop} (h0 : P ⟨0, [], [], [], []⟩) : ∀ {l : List SAction} {a : Int}, (∀ x ∈ l, P x) → P (actionL l a)
  | [], _, _ => h0
  | x :: l, a, h => by
    unfold actionL
    split
    · exact h x List.mem_cons_self
    · exact actionL_in h0 fun y hy => h y (List.mem_cons_of_mem _ hy)
theorem gTables_keys {b : List UInt8} {v : Nat} : ∀ t ∈ gTables b v, t.keys.length ≤ 3 ∧ (∀ k ∈ t.keys, 1 ≤ bitsL gFields k.field ∧ bitsL gFields k.field ≤ 32 ∧ (k.kind = 2 → 16 ≤ bitsL gFields k.field)) ∧ 1 ≤ t.actions.length ∧ t.actions.length ≤ 5 := by
  intro t ht
  simp only [gTables, List.mem_cons, List.not_mem_nil, or_false] at ht
  rcases ht with rfl | rfl | rfl | rfl
  · refine ⟨by simp [gTable0], fun k hk => ?_, by simp [gTable0], by simp [gTable0]⟩
    simp only [gTable0, List.mem_cons, List.not_mem_nil, or_false] at hk
    subst hk
    decide
  · refine ⟨by simp only [gTable1]; split <;> simp, fun k hk => ?_, by simp [gTable1], by simp [gTable1]⟩
    simp only [gTable1] at hk
    split at hk <;> simp only [List.cons_append, List.nil_append, List.append_nil, List.mem_cons, List.not_mem_nil, or_false] at hk
    · rcases hk with rfl | rfl <;> decide
    · subst hk; decide
  · refine ⟨by simp only [gTable2]; split <;> simp, fun k hk => ?_, by simp [gTable2], by simp [gTable2]⟩
    simp only [gTable2] at hk
    split at hk <;> simp only [List.cons_append, List.nil_append, List.append_nil, List.mem_cons, List.not_mem_nil, or_false] at hk
    · rcases hk with rfl | rfl | rfl <;> decide
    · rcases hk with rfl | rfl <;> decide
  · refine ⟨by simp only [gTable3]; split <;> simp, fun k hk => ?_, by simp [gTable3], by simp [gTable3]⟩
    simp only [gTable3] at hk
    split at hk <;> simp only [List.cons_append, List.nil_append, List.append_nil, List.mem_cons, List.not_mem_nil, or_false] at hk
    · rcases hk with rfl | rfl | rfl <;> decide
    · subst hk; decide
theorem gActions_in {b : List UInt8} {v : Nat} : ∀ a ∈ gActions b v, a.params.length ≤ 4 ∧ ∀ p ∈ a.params, 0 ≤ p.bits ∧ p.bits ≤ 1000 := by
  intro a ha
  simp only [gActions, List.mem_cons, List.not_mem_nil, or_false] at ha
  rcases ha with rfl | rfl | rfl | rfl | rfl | rfl <;> refine ⟨by simp, fun p hp => ?_⟩ <;> simp only [List.mem_cons, List.not_mem_nil, or_false] at hp <;> first | exact hp.elim | (subst hp; decide) | (rcases hp with rfl | rfl <;> decide)
theorem genS_ok (b : List UInt8) (v : Nat) : GenS (gSchema b v).1 where
  fl := (by decide : gFields.length ≤ 1000)
  al := by simp [gSchema, gActions]
  tl := by simp [gSchema, gTables]
  t1 := by simp [gSchema, gTables]
  kl := fun t ht => by have := (gTables_keys t ht).1; omega
  kb := fun t ht => (gTables_keys t ht).2.1
  a1 := fun t ht => ⟨(gTables_keys t ht).2.2.1, by have := (gTables_keys t ht).2.2.2; omega⟩
  pl := fun a => actionL_in (P := fun x => x.params.length ≤ 100) (by decide) fun x hx => by have := (gActions_in x hx).1; omega
  pb := fun a => actionL_in (P := fun x => ∀ p ∈ x.params, 0 ≤ p.bits ∧ p.bits ≤ 1000) (by simp) fun x hx => (gActions_in x hx).2
def e0 : SEntry := ⟨2, [⟨true, 167772161, 0, 8, 0⟩], 0, 0, []⟩
theorem begun_check : checkKeyE (gSchema [] 0).1 e0 = 5 := by decide +kernel
theorem begun_covers : coversM ⟨true, 167772160, 0, 8, 0⟩ 2 32 167838211 = true := by decide +kernel
theorem zod_codV {b : List UInt8} : zod b 0 = codV b (cp 0 0) := by
  unfold zod codV cp
  simp
def p_begun10 : List AV → AHeap → (AV → Prop) → Prop
  | [], _, K => K (.bool true)
  | _, _, _ => False
set_option maxHeartbeats 2000000 in
theorem ok_begun10 : EntOk Try.prog 22 (Ent.pure p_begun10) := by
  refine EntOk.pure fun args H K h => ?_
  unfold p_begun10 at h
  split at h
  rotate_left
  · exact h.elim
  refine ⟨_, h, ?_⟩
  clear h
  have hG := genS_ok [] 0
  have hbc := begun_check
  have hbo := begun_covers
  generalize hS : (gSchema [] 0).1 = S at *
  refine ACalls.of_aw (Ω := [(12, Ent.effect e_ZNew), (13, Ent.effect e_CSchema), (78, Ent.pure p_eCheckKey), (24, Ent.pure p_eCovers)]) (T := assoc [(3, [[16]])]) mixed (TblOk.cons ok_ZNew (TblOk.cons ok_CSchema (TblOk.cons ok_eCheckKey (TblOk.cons ok_eCovers TblOk.nil)))) Try.func22 (by kernel_rfl) (by rfl) (rs := [.tmp 0]) (by rfl) (by kernel_rfl) (by simp only [Try.ntmps22, List.length_cons, List.length_nil]; decide) (Nat.le_refl _) fun hcl hlt => ?_
  change aw _ _ _ (KI Try.prog [(12, Ent.effect e_ZNew), (13, Ent.effect e_CSchema), (78, Ent.pure p_eCheckKey), (24, Ent.pure p_eCovers)] (aEnd Try.prog [.tmp 0] H.nx _ _ (assoc [(3, [[16]])])) []) _ _
  clear hlt
  have hze : zod ([] : List UInt8) 0 = codV [] (cp 0 0) := zod_codV
  have hS' : schAV (gSchema [] 0).1 = .agg (schC S) := by rw [hS]; rfl
  simp only [go_sem, reduceCtorEq, Nat.reduceEqDiff, Nat.reduceAdd, Nat.reduceMul, Nat.reduceSub, Nat.reduceLeDiff, Nat.reduceLT, Int.reduceMul, Int.reduceAdd, Int.reduceSub, Int.reduceToNat, e_ZNew]
  refine ⟨[], ⟨rfl, by omega⟩, ?_⟩
  simp only [blkE, blkP, bhq, Nat.reduceMod, Nat.reduceDiv, stepH, stepM, toMs1, toMs, toMs0, strK, pubK, pubF, pubV, List.take_succ_cons, List.take_zero, List.drop_succ_cons, List.drop_zero, go_sem, reduceCtorEq, Nat.reduceEqDiff, Nat.reduceAdd, Nat.reduceMul, Nat.reduceSub, Nat.reduceLeDiff, Nat.reduceLT, Int.reduceMul, Int.reduceAdd, Int.reduceSub, Int.reduceToNat, e_ZNew, e_CSchema, eG, List.take_nil, hze, onC_cod (b := []) (by decide), List.length_nil, Nat.min_zero, hS', schC]
  refine weak_slot 12 (entryAV e0) ?_ ?_
  · simp [Fr.get, entryAV, entryC, e0, matchAV, matchC, vc, AV.cells, wkD_agg, wkD_slice, wkDL_cons, wkDL_nil, wkDR_cons, wkDR_nil, wkD_int, wkD_bool, wkM]
  simp only [blkE, blkP, bhq, Nat.reduceMod, Nat.reduceDiv, stepH, stepM, toMs1, toMs, toMs0, strK, pubK, pubF, pubV, List.take_succ_cons, List.take_zero, List.drop_succ_cons, List.drop_zero, go_sem, reduceCtorEq, Nat.reduceEqDiff, Nat.reduceAdd, Nat.reduceMul, Nat.reduceSub, Nat.reduceLeDiff, Nat.reduceLT, Int.reduceMul, Int.reduceAdd, Int.reduceSub, Int.reduceToNat, e_ZNew, e_CSchema, eG, List.take_nil, hze, onC_cod (b := []) (by decide), List.length_nil, Nat.min_zero, hS', schC, entryAV, entryC, p_eCheckKey]
  refine ⟨S, e0, ⟨rfl, rfl, by have := hG.tl; omega, by have := hG.fl; omega, fun t ht => by have := hG.kl t ht; omega, ⟨by decide, by decide, ?_⟩⟩, ?_⟩
  · intro m hm
    simp only [e0, List.mem_cons, List.not_mem_nil, or_false] at hm
    subst hm
    exact ⟨by decide, by decide, by decide⟩
  rw [hbc]
  simp only [blkE, blkP, bhq, Nat.reduceMod, Nat.reduceDiv, stepH, stepM, toMs1, toMs, toMs0, strK, pubK, pubF, pubV, List.take_succ_cons, List.take_zero, List.drop_succ_cons, List.drop_zero, go_sem, reduceCtorEq, Nat.reduceEqDiff, Nat.reduceAdd, Nat.reduceMul, Nat.reduceSub, Nat.reduceLeDiff, Nat.reduceLT, Int.reduceMul, Int.reduceAdd, Int.reduceSub, Int.reduceToNat, e_ZNew, e_CSchema, eG, List.take_nil, hze, onC_cod (b := []) (by decide), List.length_nil, Nat.min_zero, hS', schC, p_eCovers]
  refine ⟨⟨true, 167772160, 0, 8, 0⟩, ⟨rfl, ⟨by decide, by decide, by decide⟩, by unfold isV; decide⟩, ?_⟩
  rw [vOf_zero, hbo]
  refine both_split (fun _ => ?_) (fun h => by cases h)
  rw [show ((5 : Int) == 5) = true from rfl]
  simp (disch := first | assumption | omega | (simp; done) | (simp; omega) | (simp only [bt, and_true]; first | done | omega | (simp; done))) [↓zlq, beq, List.take_of_length_le, List.drop_append, List.take_append, endOk, wk, wk2, wk1, wkM, wkL, wkLL, List.drop_eq_nil_of_le, hcl]
  first | done | repeat (first | exact AHeap.Le.refl _ | refine AHeap.Le.push ?_ _)
end Go.AL

