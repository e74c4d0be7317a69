/- Contracts and plain laws, a part of the proof; no condition of its own. -/
import Derived.Test.YtjjifacjlbojnaaS07l
import Derived.Test.YtjjifacjlbojnaaS07h
import Derived.Test.YtjjifacjlbojnaaLPar
open Go Go.AL Go.Proofs
namespace Go.AL
set_option linter.all false
set_option maxRecDepth 10000

theorem nd_ext {n m : Nd} (h1 : n.op = m.op) (h2 : n.a = m.a) (h3 : n.b = m.b) (h4 : n.name = m.name) (h5 : n.attr = m.attr) (h6 : n.v / 2 ^ 64 = m.v / 2 ^ 64) (h7 : n.v % 2 ^ 64 = m.v % 2 ^ 64) : n = m := by
  cases n; cases m
  simp only at *
  subst h1 h2 h3 h4 h5
  congr 1
  omega
theorem teq_nodes {n m : Nd} : teq Try.prog 9 49 (ndAV n) (ndAV m) = some (decide (n = m)) := by
  have g1 : Try.prog.stoodInHeld 49 = false := by kernel_rfl
  have g2 : Try.prog.stoodInHeld 47 = false := by kernel_rfl
  by_cases h : n = m
  · subst h
    rw [decide_eq_true rfl]
    exact teq_node
  · rw [decide_eq_false h]
    simp only [ndAV]
    generalize h1 : n.v / 2 ^ 64 = nh
    generalize h2 : n.v % 2 ^ 64 = nl
    generalize h3 : m.v / 2 ^ 64 = mh
    generalize h4 : m.v % 2 ^ 64 = ml
    simp [ti_node, ti_value, teq, teq.go, teq.part, ti_u64, ti_int, ti_string, ceq, g1, g2, TD.agg]
    intro k1 k2 k3 k4 k5 k6 k7
    exact h (nd_ext (by omega) (by omega) (by omega) k4 k5 (by omega) (by omega))
def p_SEqual : List AV → AHeap → (AV → Prop) → Prop
  | [.slice _ 7 x, .slice _ 7 y], _, K => ∃ t u, (x = nds t ∧ y = nds u ∧ t.length ≤ 100000) ∧ K (.bool (decide (t = u)))
  | _, _, _ => False
set_option maxHeartbeats 4000000 in
theorem ok_SEqual : EntOk Try.prog 40 (Ent.pure p_SEqual) := by
  refine EntOk.pure fun args H K h => ?_
  unfold p_SEqual at h
  split at h
  rotate_left
  · exact h.elim
  rename_i m x m' y
  obtain ⟨t, u, ⟨rfl, rfl, hl⟩, hK⟩ := h
  refine ⟨_, hK, ?_⟩
  clear hK
  refine ACalls.of_aw (Ω := []) (T := assoc []) mixed TblOk.nil Try.func40 (by kernel_rfl) (by rfl) (rs := [.tmp 4]) (by rfl) (by kernel_rfl) (by simp only [Try.ntmps40, List.length_cons, List.length_nil]; decide) (Nat.le_refl _) fun hcl hlt => ?_
  change aw _ _ _ (KI Try.prog [] (aEnd Try.prog [.tmp 4] H.nx _ _ (assoc [])) []) _ _
  have hm : ∀ n', H.nx ≤ n' → AV.lt n' (.slice m 7 (nds t)) := fun n' hn => AV.lt_mono hn _ (hlt (.slice m 7 (nds t)) (by simp))
  have hm' : ∀ n', H.nx ≤ n' → AV.lt n' (.slice m' 7 (nds u)) := fun n' hn => AV.lt_mono hn _ (hlt (.slice m' 7 (nds u)) (by simp))
  clear hlt
  simp only [go_sem, reduceCtorEq, Nat.reduceEqDiff, Nat.reduceAdd, Nat.reduceMul, Nat.reduceSub, Nat.reduceLeDiff, Nat.reduceLT, Int.reduceMul, Int.reduceAdd, Int.reduceSub, Int.reduceToNat, nds_length]
  refine cond_split (fun hc => ?_) (fun hc => ?_)
  · have hne : decide (t = u) = false := decide_eq_false fun e => by subst e; simp at hc
    simp only [go_sem, reduceCtorEq, Nat.reduceEqDiff, Nat.reduceAdd, Nat.reduceMul, Nat.reduceSub, Nat.reduceLeDiff, Nat.reduceLT, Int.reduceMul, Int.reduceAdd, Int.reduceSub, Int.reduceToNat, hne]
    simp (disch := first | assumption | omega | (simp; done) | (simp; omega) | (simp only [bt, and_true]; first | done | omega | (simp; done))) [↓zlf, beq, List.take_of_length_le, List.drop_append, List.take_append, endOk, wk, wk2, wk1, wkM, wkL, wkLL, List.drop_eq_nil_of_le, hcl]
  have hlen : t.length = u.length := by simp at hc; omega
  simp only [go_sem, reduceCtorEq, Nat.reduceEqDiff, Nat.reduceAdd, Nat.reduceMul, Nat.reduceSub, Nat.reduceLeDiff, Nat.reduceLT, Int.reduceMul, Int.reduceAdd, Int.reduceSub, Int.reduceToNat, nds_length]
  refine loop_introW (A := Nat) (fun k => [(0, .slice m 7 (nds t)), (1, .slice m' 7 (nds u)), (12, .int .i64 (t.length : Int)), (13, .int .i64 (k : Int))]) (fun k => H) (fun k => k ≤ t.length ∧ t.take k = u.take k) (fun k => t.length - k) 0 ⟨by omega, rfl⟩ ?_ fun k hk => ?_
  · (simp only [bkq, enterW, subW, ltF, ne_eq, Nat.reduceEqDiff, reduceCtorEq, hm, hm']; try simp (disch := first | assumption | omega | (simp; done) | (simp; omega) | (simp only [bt, and_true]; first | done | omega | (simp; done))) [↓zlf, beq, List.take_of_length_le, List.drop_append, List.take_append, endOk, wk, wk2, wk1, wkM, wkL, wkLL, List.drop_eq_nil_of_le, byq, biq, isDs_ints, hcl, hm, hm']; try (repeat' (first | assumption | omega | exact True.intro | refine And.intro ?_ ?_ | refine closed_buf ?_ | refine closed_set_buf ?_ | refine closed_cells ?_ ?_ | refine closed_set ?_ ?_ | refine closed_del ?_ | exact AHeap.Le.refl _ | refine AHeap.Le.push ?_ _ | refine AHeap.Le.del ?_ ?_ | (simp only [bt, and_true, true_and, hm, hm']; first | done | omega | (simp; done)))))
  obtain ⟨hk, htk⟩ := hk
  simp only [go_sem, reduceCtorEq, Nat.reduceEqDiff, Nat.reduceAdd, Nat.reduceMul, Nat.reduceSub, Nat.reduceLeDiff, Nat.reduceLT, Int.reduceMul, Int.reduceAdd, Int.reduceSub, Int.reduceToNat]
  refine cond_split (fun hc => ?_) (fun hc => ?_)
  · have hk1 : k < t.length := by simp at hc; omega
    have hk2 : k < u.length := by omega
    have e5 : IntKind.i64.wrap ((k : Int) + 1) = ((k + 1 : Nat) : Int) := by rw [wrap_i64] <;> omega
    have tq := teq_nodes (n := t[k]) (m := u[k])
    simp only [ndAV] at tq
    simp only [go_sem, reduceCtorEq, Nat.reduceEqDiff, Nat.reduceAdd, Nat.reduceMul, Nat.reduceSub, Nat.reduceLeDiff, Nat.reduceLT, Int.reduceMul, Int.reduceAdd, Int.reduceSub, Int.reduceToNat, nds_length, nds_get hk1, nds_get hk2, Int.toNat_natCast, e5, tq, eqg_node]
    refine ⟨by omega, by omega, ?_⟩
    refine cond_split (fun h2 => ?_) (fun h2 => ?_)
    · have hne : t[k] ≠ u[k] := by simpa using h2
      have hd : decide (t = u) = false := decide_eq_false fun e => hne (by subst e; rfl)
      simp only [go_sem, reduceCtorEq, Nat.reduceEqDiff, Nat.reduceAdd, Nat.reduceMul, Nat.reduceSub, Nat.reduceLeDiff, Nat.reduceLT, Int.reduceMul, Int.reduceAdd, Int.reduceSub, Int.reduceToNat, hd]
      simp (disch := first | assumption | omega | (simp; done) | (simp; omega) | (simp only [bt, and_true]; first | done | omega | (simp; done))) [↓zlf, beq, List.take_of_length_le, List.drop_append, List.take_append, endOk, wk, wk2, wk1, wkM, wkL, wkLL, List.drop_eq_nil_of_le, hcl]
    · have he : t[k] = u[k] := by simpa using h2
      try simp only [go_sem, reduceCtorEq, Nat.reduceEqDiff, Nat.reduceAdd, Nat.reduceMul, Nat.reduceSub, Nat.reduceLeDiff, Nat.reduceLT, Int.reduceMul, Int.reduceAdd, Int.reduceSub, Int.reduceToNat, e5]
      refine ⟨k + 1, ⟨by omega, ?_⟩, by omega, ?_⟩
      · rw [List.take_succ_eq_append_getElem hk1, List.take_succ_eq_append_getElem hk2, htk, he]
      (simp only [bkq, enterW, subW, ltF, ne_eq, Nat.reduceEqDiff, reduceCtorEq, hm, hm']; try simp (disch := first | assumption | omega | (simp; done) | (simp; omega) | (simp only [bt, and_true]; first | done | omega | (simp; done))) [↓zlf, beq, List.take_of_length_le, List.drop_append, List.take_append, endOk, wk, wk2, wk1, wkM, wkL, wkLL, List.drop_eq_nil_of_le, byq, biq, isDs_ints, hcl, hm, hm']; try (repeat' (first | assumption | omega | exact True.intro | refine And.intro ?_ ?_ | refine closed_buf ?_ | refine closed_set_buf ?_ | refine closed_cells ?_ ?_ | refine closed_set ?_ ?_ | refine closed_del ?_ | exact AHeap.Le.refl _ | refine AHeap.Le.push ?_ _ | refine AHeap.Le.del ?_ ?_ | (simp only [bt, and_true, true_and, hm, hm']; first | done | omega | (simp; done)))))
  · have hk1 : k = t.length := by simp at hc; omega
    have heq : decide (t = u) = true := decide_eq_true (by
      rw [hk1, List.take_length, hlen, List.take_length] at htk; exact htk)
    simp only [go_sem, reduceCtorEq, Nat.reduceEqDiff, Nat.reduceAdd, Nat.reduceMul, Nat.reduceSub, Nat.reduceLeDiff, Nat.reduceLT, Int.reduceMul, Int.reduceAdd, Int.reduceSub, Int.reduceToNat, heq]
    simp (disch := first | assumption | omega | (simp; done) | (simp; omega) | (simp only [bt, and_true]; first | done | omega | (simp; done))) [↓zlf, beq, List.take_of_length_le, List.drop_append, List.take_append, endOk, wk, wk2, wk1, wkM, wkL, wkLL, List.drop_eq_nil_of_le, hcl]
def p_SSame : List AV → AHeap → (AV → Prop) → Prop
  | [.slice _ 7 x, .slice _ 7 y], _, K => ∃ t u, (x = nds t ∧ y = nds u ∧ t.length ≤ 100000) ∧ K (.bool (decide (t = u)))
  | _, _, _ => False
theorem ok_SSame : EntOk Try.prog 19 (Ent.pure p_SSame) := by
  refine EntOk.pure fun args H K h => ?_
  unfold p_SSame at h
  split at h
  rotate_left
  · exact h.elim
  rename_i m x m' y
  obtain ⟨t, u, ⟨rfl, rfl, hl⟩, hK⟩ := h
  refine ⟨_, hK, ?_⟩
  clear hK
  refine ACalls.of_aw (Ω := [(40, Ent.pure p_SEqual)]) (T := assoc []) mixed (TblOk.cons ok_SEqual TblOk.nil) Try.func19 (by kernel_rfl) (by rfl) (rs := [.tmp 4]) (by rfl) (by kernel_rfl) (by simp only [Try.ntmps19, List.length_cons, List.length_nil]; decide) (Nat.le_refl _) fun hcl hlt => ?_
  change aw _ _ _ (KI Try.prog [(40, Ent.pure p_SEqual)] (aEnd Try.prog [.tmp 4] H.nx _ _ (assoc [])) []) _ _
  clear hlt
  simp only [go_sem, reduceCtorEq, Nat.reduceEqDiff, Nat.reduceAdd, Nat.reduceMul, Nat.reduceSub, Nat.reduceLeDiff, Nat.reduceLT, Int.reduceMul, Int.reduceAdd, Int.reduceSub, Int.reduceToNat, p_SEqual]
  refine ⟨t, u, ⟨rfl, rfl, hl⟩, ?_⟩
  try simp only [go_sem, reduceCtorEq, Nat.reduceEqDiff, Nat.reduceAdd, Nat.reduceMul, Nat.reduceSub, Nat.reduceLeDiff, Nat.reduceLT, Int.reduceMul, Int.reduceAdd, Int.reduceSub, Int.reduceToNat]
  simp (disch := first | assumption | omega | (simp; done) | (simp; omega) | (simp only [bt, and_true]; first | done | omega | (simp; done))) [↓zlf, beq, List.take_of_length_le, List.drop_append, List.take_append, endOk, wk, wk2, wk1, wkM, wkL, wkLL, List.drop_eq_nil_of_le, hcl]
theorem litFree_true {l : List Tok} : litFree True l := fun _ _ => trivial
theorem parsed_of2 {o : Option (List Nd)} : parsedAV o = .tup [.slice .any 7 (nds (o.getD [])), .slice .any 7 (nds (o.getD [])), .bool true, .bool o.isSome] := by
  cases o <;> rfl
theorem tree_len {l : List Tok} {r : PR} : ((treeOf l r).getD []).length ≤ 120 := by
  cases h : treeOf l r with
  | none => exact Nat.zero_le _
  | some t =>
    cases r with
    | bad q => cases h
    | ok a p u =>
      simp only [treeOf] at h
      split at h
      · cases h
      · split at h
        · cases h
        · rename_i hb
          cases h
          unfold bigT at hb
          simp at hb
          simp only [Option.getD_some]
          omega
end Go.AL

