/- Contracts and plain laws, a part of the proof; no condition of its own. -/
import Derived.Test.YtknhoembfohbiaaS07y
open Go Go.AL Go.Proofs
namespace Go.AL
set_option linter.all false
set_option maxRecDepth 10000
theorem ruleR_zero {A : Prop} {g : FuncId} {rl : Rl} : EntOk Try.prog g (Ent.some (s_rule A rl 0)) := by
  refine EntOk.some fun args H K h => ?_
  unfold s_rule at h
  split at h
  · obtain ⟨m, l, p, b, tb, t, hg, hpre, hK⟩ := h
    exact hK.elim
  · exact h.elim
structure RulesR (A : Prop) (f : Nat) : Prop where
  imp : EntOk Try.prog 80 (Ent.some (s_zImp A f))
  or : EntOk Try.prog 154 (Ent.some (s_zOr A f))
  and : EntOk Try.prog 201 (Ent.some (s_zAnd A f))
  not : EntOk Try.prog 223 (Ent.some (s_zNot A f))
  cmp : EntOk Try.prog 227 (Ent.some (s_zCmp A f))
  sum : EntOk Try.prog 229 (Ent.some (s_zSum A f))
  un : EntOk Try.prog 233 (Ent.some (s_zUn A f))
  atom : EntOk Try.prog 236 (Ent.some (s_zAtom A f))
theorem rulesR_ok {A : Prop} (hV : ∀ f, EntOk Try.prog 238 (Ent.some (s_zVal A f))) : ∀ f, RulesR A f
  | 0 => ⟨ruleR_zero, ruleR_zero, ruleR_zero, ruleR_zero, ruleR_zero, ruleR_zero, ruleR_zero, ruleR_zero⟩
  | f + 1 => have h := rulesR_ok hV f
    ⟨sr_zImp h.or h.imp, sr_zOr h.and, sr_zAnd h.not, sr_zNot h.not h.cmp, sr_zCmp h.sum, sr_zSum h.un, sr_zUn h.un h.atom, sr_zAtom (hV f) h.imp⟩
def bigT (t : List Nd) : Bool := decide (120 < t.length) || decide (12 < depthOf t)
def parseAV (l : List Tok) : PR → AV
  | .ok _ p t => if p < l.length then .tup [.slice .any 7 [], .int .i64 (p : Int), .int .i64 10] else if bigT t = true then .tup [.slice .any 7 [], .int .i64 0, .int .i64 11] else .tup [.slice .any 7 (nds t), .int .i64 0, .int .i64 0]
  | .bad p => .tup [.slice .any 7 [], .int .i64 (p : Int), .int .i64 10]
def s_zParse (A : Prop) (_g : Nat) : List AV → AHeap → (AV → AHeap → Prop) → Prop
  | [.slice _ 3 x], H, K => ∃ l f r, (x = toks l ∧ run l f .imp 0 [] = some r ∧ l.length ≤ 1000 ∧ goodL l ∧ litFree A l) ∧ K (parseAV l r) H
  | _, _, _ => False
def p_yParse : List AV → AHeap → (AV → Prop) → Prop
  | [.slice _ 3 x], H, K => ∃ l f r, (x = toks l ∧ run l f .imp 0 [] = some r ∧ l.length ≤ 1000 ∧ goodL l) ∧ K (parseAV l r)
  | _, _, _ => False
theorem ok_yParse : EntOk Try.prog 23 (Ent.pure p_yParse) := by
  refine EntOk.pure fun args H K h => ?_
  unfold p_yParse at h
  split at h
  rotate_left
  · exact h.elim
  rename_i m x
  obtain ⟨l, f, r, ⟨rfl, hr, hl, hgl⟩, hK⟩ := h
  refine ⟨_, hK, ?_⟩
  clear hK
  have hw := run_post f hr Good.nil trivial (Nat.zero_le _)
  refine ACalls.of_aw (Ω := [(78, Ent.pure p_ySent), (79, Ent.pure p_yDepth)]) (T := assoc []) mixed (TblOk.cons ok_ySent (TblOk.cons ok_yDepth TblOk.nil)) Try.func23 (by kernel_rfl) (by rfl) (rs := [.tmp 2,.tmp 3,.tmp 4]) (by rfl) (by kernel_rfl) (by simp only [Try.ntmps23, List.length_cons, List.length_nil]; decide) (Nat.le_refl _) fun hcl hlt => ?_
  change aw _ _ _ (KI Try.prog [(78, Ent.pure p_ySent), (79, Ent.pure p_yDepth)] (aEnd Try.prog [.tmp 2,.tmp 3,.tmp 4] H.nx _ _ (assoc [])) []) _ _
  clear hlt
  simp only [go_sem, reduceCtorEq, Nat.reduceEqDiff, Nat.reduceAdd, Nat.reduceMul, Nat.reduceSub, Nat.reduceLeDiff, Nat.reduceLT, Int.reduceMul, Int.reduceAdd, Int.reduceSub, Int.reduceToNat, p_ySent]
  refine ⟨l, f, r, ⟨rfl, hr, hl, hgl⟩, ?_⟩
  cases r with
  | bad q =>
    simp only [go_sem, reduceCtorEq, Nat.reduceEqDiff, Nat.reduceAdd, Nat.reduceMul, Nat.reduceSub, Nat.reduceLeDiff, Nat.reduceLT, Int.reduceMul, Int.reduceAdd, Int.reduceSub, Int.reduceToNat, sentAV, parseAV]
    simp (disch := first | assumption | omega | (simp; done) | (simp; omega) | (simp only [bt, and_true]; first | done | omega | (simp; done))) [↓zlf, beq, List.take_of_length_le, List.drop_append, List.take_append, endOk, wk, wk2, wk1, wkM, wkL, wkLL, List.drop_eq_nil_of_le, hcl, lt_slice]
  | ok a p t =>
    obtain ⟨k1, k2, k3, k4, k5, k6⟩ := hw
    simp only [sentAV, parseAV]
    by_cases hp : p < l.length
    · simp only [if_pos hp, go_sem, reduceCtorEq, Nat.reduceEqDiff, Nat.reduceAdd, Nat.reduceMul, Nat.reduceSub, Nat.reduceLeDiff, Nat.reduceLT, Int.reduceMul, Int.reduceAdd, Int.reduceSub, Int.reduceToNat]
      simp (disch := first | assumption | omega | (simp; done) | (simp; omega) | (simp only [bt, and_true]; first | done | omega | (simp; done))) [↓zlf, beq, List.take_of_length_le, List.drop_append, List.take_append, endOk, wk, wk2, wk1, wkM, wkL, wkLL, List.drop_eq_nil_of_le, hcl, lt_slice]
    · have ht : t.length ≤ 1000 := by simp at k3; omega
      simp only [if_neg hp, go_sem, reduceCtorEq, Nat.reduceEqDiff, Nat.reduceAdd, Nat.reduceMul, Nat.reduceSub, Nat.reduceLeDiff, Nat.reduceLT, Int.reduceMul, Int.reduceAdd, Int.reduceSub, Int.reduceToNat, nds_length]
      by_cases h1 : 120 < t.length
      · have hb : bigT t = true := by unfold bigT; simp [h1]
        have d1 : decide ((t.length : Int) > 120) = true := by simp; omega
        rw [if_pos hb]
        simp only [d1, go_sem, reduceCtorEq, Nat.reduceEqDiff, Nat.reduceAdd, Nat.reduceMul, Nat.reduceSub, Nat.reduceLeDiff, Nat.reduceLT, Int.reduceMul, Int.reduceAdd, Int.reduceSub, Int.reduceToNat]
        simp (disch := first | assumption | omega | (simp; done) | (simp; omega) | (simp only [bt, and_true]; first | done | omega | (simp; done))) [↓zlf, beq, List.take_of_length_le, List.drop_append, List.take_append, endOk, wk, wk2, wk1, wkM, wkL, wkLL, List.drop_eq_nil_of_le, hcl, lt_slice]
      · have d1 : decide ((t.length : Int) > 120) = false := by simp; omega
        simp only [d1, go_sem, reduceCtorEq, Nat.reduceEqDiff, Nat.reduceAdd, Nat.reduceMul, Nat.reduceSub, Nat.reduceLeDiff, Nat.reduceLT, Int.reduceMul, Int.reduceAdd, Int.reduceSub, Int.reduceToNat, p_yDepth]
        refine ⟨t, ⟨rfl, k5, ht⟩, ?_⟩
        by_cases h2 : 12 < depthOf t
        · have hb : bigT t = true := by unfold bigT; simp [h2]
          have d2 : decide (((depthOf t : Nat) : Int) > 12) = true := by simp; omega
          rw [if_pos hb]
          simp only [d2, go_sem, reduceCtorEq, Nat.reduceEqDiff, Nat.reduceAdd, Nat.reduceMul, Nat.reduceSub, Nat.reduceLeDiff, Nat.reduceLT, Int.reduceMul, Int.reduceAdd, Int.reduceSub, Int.reduceToNat]
          simp (disch := first | assumption | omega | (simp; done) | (simp; omega) | (simp only [bt, and_true]; first | done | omega | (simp; done))) [↓zlf, beq, List.take_of_length_le, List.drop_append, List.take_append, endOk, wk, wk2, wk1, wkM, wkL, wkLL, List.drop_eq_nil_of_le, hcl, lt_slice]
        · have hb : ¬ bigT t = true := by unfold bigT; simp; omega
          have d2 : decide (((depthOf t : Nat) : Int) > 12) = false := by simp; omega
          rw [if_neg hb]
          simp only [d2, go_sem, reduceCtorEq, Nat.reduceEqDiff, Nat.reduceAdd, Nat.reduceMul, Nat.reduceSub, Nat.reduceLeDiff, Nat.reduceLT, Int.reduceMul, Int.reduceAdd, Int.reduceSub, Int.reduceToNat]
          simp (disch := first | assumption | omega | (simp; done) | (simp; omega) | (simp only [bt, and_true]; first | done | omega | (simp; done))) [↓zlf, beq, List.take_of_length_le, List.drop_append, List.take_append, endOk, wk, wk2, wk1, wkM, wkL, wkLL, List.drop_eq_nil_of_le, hcl, nds_lt]
end Go.AL


open Go Go.AL Go.Proofs
namespace Go.AL
set_option linter.all false
set_option maxRecDepth 10000
theorem onQ_zero {m : Mark} {l : List Tok} {tb : Nat} {b : Bool} {K : Mark → List Tok → Nat → Bool → Nat → List Nd → Prop} : onQ (some (.cells [.slice m 3 (toks l), .int .i64 0, .bool b, .slice (.own tb) 7 []])) K = K m l 0 b tb [] := onQ_some (p := 0) (t := [])
theorem finishP_3 {P : Program} {t s u n0 : Nat} {fr : Fr} {H : AHeap} {Q : AV → AHeap → Prop} : finishP P [.tmp t, .tmp s, .tmp u] n0 Q fr H = endP n0 Q (.tup [Fr.get fr t, Fr.get fr s, Fr.get fr u]) H := by simp [finishP, resL, resA, one, endP]
theorem zp_end {P : Program} {H X : AHeap} {K : AV → AHeap → Prop} {fr : Fr} {m : Mark} {t : List Nd} {a b : Int} (hK : K (.tup [.slice .any 7 (nds t), .int .i64 a, .int .i64 b]) H) (hcl : H.Closed) (hle : H.Le X)
    (f2 : Fr.get fr 2 = .slice m 7 (nds t)) (f3 : Fr.get fr 3 = .int .i64 a) (f4 : Fr.get fr 4 = .int .i64 b) : finishP P [.tmp 2, .tmp 3, .tmp 4] H.nx K fr X := by
  rw [finishP_3, f2, f3, f4]
  refine ⟨_, H, hK, Nat.le_refl _, ?_, hle, hcl, ?_⟩
  · simp [wk, wkLL, wk2, wk1, wkM]
  · simp [zmj, zml, zmm, zlw, nds_lt]
set_option maxHeartbeats 4000000 in
theorem s_ok_zParse {A : Prop} {g : Nat} (hV : ∀ f, EntOk Try.prog 238 (Ent.some (s_zVal A f))) : EntOk Try.prog 24 (Ent.some (s_zParse A g)) := by
  refine EntOk.some fun args H K h => ?_
  unfold s_zParse at h
  split at h
  rotate_left
  · exact h.elim
  rename_i m x
  obtain ⟨l, f, r, ⟨rfl, hr, hl, hgl, hfree⟩, hK⟩ := h
  have h_zImp := (rulesR_ok hV f).imp
  have hw := run_post f hr Good.nil trivial (Nat.zero_le _)
  refine ACallsP.of_aw (Ω := [(80, Ent.some (s_zImp A f)), (81, Ent.pure p_zDepth)]) (T := assoc [(4, [[], [], [], [], [], [], [3]]), (1, [[7]])]) mixed (TblOk.cons h_zImp (TblOk.cons ok_zDepth TblOk.nil)) Try.func24 (by kernel_rfl) (by rfl) (rs := [.tmp 2,.tmp 3,.tmp 4]) (by rfl) (by kernel_rfl) (by simp only [Try.ntmps24, List.length_cons, List.length_nil]; decide) fun hcl hlt => ?_
  change aw _ _ _ (KI Try.prog [(80, Ent.some (s_zImp A f)), (81, Ent.pure p_zDepth)] (aEndP Try.prog [.tmp 2,.tmp 3,.tmp 4] H.nx _ (assoc [(4, [[], [], [], [], [], [], [3]]), (1, [[7]])])) []) _ _
  have hm : ∀ n', H.nx ≤ n' → AV.lt n' (.slice m 3 (toks l)) := fun n' hn => AV.lt_mono hn _ (hlt (.slice m 3 (toks l)) (by simp))
  clear hlt
  simp only [go_sem, reduceCtorEq, Nat.reduceEqDiff, Nat.reduceAdd, Nat.reduceMul, Nat.reduceSub, Nat.reduceLeDiff, Nat.reduceLT, Int.reduceMul, Int.reduceAdd, Int.reduceSub, Int.reduceToNat, bhq, Nat.reduceMod, Nat.reduceDiv, stepH, stepM, toMs1, toMs, toMs0, strK, pubK, pubF, pubV, List.take_succ_cons, List.take_zero, List.drop_succ_cons, List.drop_zero]
  refine weak_nil 7 3 7 [.slice m 3 (toks l), .int .i64 0, .bool false, .slice .nil 1 []] (by simp [Fr.get]) rfl ?_
  simp only [List.set_cons_succ, List.set_cons_zero, go_sem, reduceCtorEq, Nat.reduceEqDiff, Nat.reduceAdd, Nat.reduceMul, Nat.reduceSub, Nat.reduceLeDiff, Nat.reduceLT, Int.reduceMul, Int.reduceAdd, Int.reduceSub, Int.reduceToNat, bhq, Nat.reduceMod, Nat.reduceDiv, stepH, stepM, toMs1, toMs, toMs0, strK, pubK, pubF, pubV, List.take_succ_cons, List.take_zero, List.drop_succ_cons, List.drop_zero, s_zImp, s_rule, onQ_zero, hr]
  have n1 : (H.nx + 1 + 1 = H.nx + 1) = False := eq_false (by omega)
  have n2 : (H.nx + 1 = H.nx + 1 + 1) = False := eq_false (by omega)
  have n3 : (H.nx = H.nx + 1) = False := eq_false (by omega)
  have n4 : (H.nx = H.nx + 1 + 1) = False := eq_false (by omega)
  refine ⟨⟨⟨by omega, ?_, by simp, by simp, hl, hgl, Good.nil⟩, hfree⟩, ?_⟩
  · rw [AHeap.get_push_lt _ _ (by simp only [zjv]; omega)]
    exact AHeap.get_push_new _ _
  have hcl1 : ∀ p b t n, ((((H.push (.buf 7 0)).push (.buf 7 n)).push (.cells [.slice m 3 (toks l), .int .i64 (p : Int), .bool b, .slice (.own (H.nx + 1)) 7 (nds t)]))).Closed := fun p b t n => by
    refine closed_cells (closed_buf (closed_buf hcl)) ?_
    simp only [zml, zmm, zlw, zlx, nds_lt, and_true, true_and, zjv]
    exact ⟨hm _ (by omega), fun id h => by cases h; omega⟩
  cases r with
  | bad q =>
    rw [endS_bad]
    intro a t ht
    simp only [parseAV] at hK
    simp only [blkS, go_sem, reduceCtorEq, Nat.reduceEqDiff, Nat.reduceAdd, Nat.reduceMul, Nat.reduceSub, Nat.reduceLeDiff, Nat.reduceLT, Int.reduceMul, Int.reduceAdd, Int.reduceSub, Int.reduceToNat, rst, n1, n2, n3, n4]
    exact zp_end (t := []) hK hcl (((((AHeap.Le.refl H).push _).push _).push _).push _) rfl rfl rfl
  | ok a p t =>
    rw [endS_ok]
    obtain ⟨k1, k2, k3, k4, k5, k6⟩ := hw
    have hnl : (nds t).length = t.length := nds_length
    have ht : t.length ≤ 1000 := by simp at k3; omega
    simp only [parseAV] at hK
    by_cases hp : p < l.length
    · have d0 : decide ((p : Int) < (l.length : Int)) = true := by simp; omega
      rw [if_pos hp] at hK
      simp only [blkS, go_sem, reduceCtorEq, Nat.reduceEqDiff, Nat.reduceAdd, Nat.reduceMul, Nat.reduceSub, Nat.reduceLeDiff, Nat.reduceLT, Int.reduceMul, Int.reduceAdd, Int.reduceSub, Int.reduceToNat, rst, n1, n2, n3, n4, toks_length, d0]
      exact zp_end (t := []) hK hcl (((((AHeap.Le.refl H).push _).push _).push _).push _) rfl rfl rfl
    · have d0 : decide ((p : Int) < (l.length : Int)) = false := by simp; omega
      rw [if_neg hp] at hK
      simp only [blkS, go_sem, reduceCtorEq, Nat.reduceEqDiff, Nat.reduceAdd, Nat.reduceMul, Nat.reduceSub, Nat.reduceLeDiff, Nat.reduceLT, Int.reduceMul, Int.reduceAdd, Int.reduceSub, Int.reduceToNat, rst, n1, n2, n3, n4, toks_length, d0, hnl]
      by_cases h1 : 120 < t.length
      · have hb : bigT t = true := by unfold bigT; simp [h1]
        have d1 : decide ((t.length : Int) > 120) = true := by simp; omega
        rw [if_pos hb] at hK
        simp only [d1, go_sem, reduceCtorEq, Nat.reduceEqDiff, Nat.reduceAdd, Nat.reduceMul, Nat.reduceSub, Nat.reduceLeDiff, Nat.reduceLT, Int.reduceMul, Int.reduceAdd, Int.reduceSub, Int.reduceToNat]
        exact zp_end (t := []) hK hcl (((((AHeap.Le.refl H).push _).push _).push _).push _) rfl rfl rfl
      · have d1 : decide ((t.length : Int) > 120) = false := by simp; omega
        simp only [d1, go_sem, reduceCtorEq, Nat.reduceEqDiff, Nat.reduceAdd, Nat.reduceMul, Nat.reduceSub, Nat.reduceLeDiff, Nat.reduceLT, Int.reduceMul, Int.reduceAdd, Int.reduceSub, Int.reduceToNat, p_zDepth]
        refine ⟨t, ⟨rfl, k5, ht⟩, ?_⟩
        by_cases h2 : 12 < depthOf t
        · have hb : bigT t = true := by unfold bigT; simp [h2]
          have d2 : decide (((depthOf t : Nat) : Int) > 12) = true := by simp; omega
          rw [if_pos hb] at hK
          simp only [d2, go_sem, reduceCtorEq, Nat.reduceEqDiff, Nat.reduceAdd, Nat.reduceMul, Nat.reduceSub, Nat.reduceLeDiff, Nat.reduceLT, Int.reduceMul, Int.reduceAdd, Int.reduceSub, Int.reduceToNat]
          exact zp_end (t := []) hK hcl (((((AHeap.Le.refl H).push _).push _).push _).push _) rfl rfl rfl
        · have hb : ¬ bigT t = true := by unfold bigT; simp; omega
          have d2 : decide (((depthOf t : Nat) : Int) > 12) = false := by simp; omega
          rw [if_neg hb] at hK
          simp only [d2, go_sem, reduceCtorEq, Nat.reduceEqDiff, Nat.reduceAdd, Nat.reduceMul, Nat.reduceSub, Nat.reduceLeDiff, Nat.reduceLT, Int.reduceMul, Int.reduceAdd, Int.reduceSub, Int.reduceToNat, hnl]
          exact zp_end hK hcl ((((AHeap.Le.refl H).push _).push _).push _) rfl rfl rfl
end Go.AL

