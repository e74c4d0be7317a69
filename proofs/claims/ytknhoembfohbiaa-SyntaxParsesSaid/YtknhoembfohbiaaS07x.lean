/- Contracts and plain laws, a part of the proof; no condition of its own. -/
import Derived.Test.YtknhoembfohbiaaS07u
import Derived.Test.YtknhoembfohbiaaS07d
import Derived.Test.YtknhoembfohbiaaLSyn2
open List renaming map_cons → yae, length_cons → yaz, length_nil → yba, take_of_length_le → ybc, drop_append → ybd, take_append → ybe, drop_eq_nil_of_le → ybf, cons_append → yal
open Go Go.AL Go.Proofs
namespace Go.AL
set_option linter.all false
set_option maxRecDepth 10000

def its (d : List Nat) : List AV := d.map fun (n : Nat) => .int .i64 (n : Int)
theorem its_length {d : List Nat} : (its d).length = d.length := by simp [its]
theorem its_get {d : List Nat} {a : Nat} (h : a < d.length) : (its d).getD a .junk = .int .i64 ((d.getD a 0 : Nat) : Int) := by
  simp [its, List.getD_eq_getElem?_getD, h]
theorem its_snoc {d : List Nat} {n : Nat} : its d ++ [.int .i64 (n : Int)] = its (d ++ [n]) := by simp [its]
theorem its_ltL {n : Nat} {d : List Nat} : ltL n (its d) := by
  induction d with
  | nil => simp [its, zmm]
  | cons a d ih => simp only [its, yae, zml, zlw, true_and]; exact ih
theorem its_lt {n : Nat} {m : Mark} {d : List Nat} : AV.lt n (.slice m 1 (its d)) = ∀ id, m = .own id → id < n := by
  rw [AV.lt]
  refine propext ⟨fun h => h.1, fun h => ⟨h, fun j hj => ?_⟩⟩
  simp only [its, List.getElem_map]
  simp [zlw]
theorem nds_get {t : List Nd} {k : Nat} (h : k < t.length) : (nds t).getD k .junk = .agg [.int .i64 (t[k].op : Int), .int .i64 (t[k].a : Int), .int .i64 (t[k].b : Int), .str t[k].name, .str t[k].attr, .int .u64 ((t[k].v / 2 ^ 64 : Nat) : Int), .int .u64 ((t[k].v % 2 ^ 64 : Nat) : Int)] := by
  simp [nds, ndAV, List.getD_eq_getElem?_getD, h]
def p_yOperand : List AV → AHeap → (AV → Prop) → Prop
  | [.slice _ 1 x, .int .i64 a, .int .i64 i], _, K => ∃ d, (x = its d ∧ 0 ≤ a ∧ i = (d.length : Int) ∧ d.length ≤ 100000) ∧ K (.int .i64 ((d.getD a.toNat 0 : Nat) : Int))
  | _, _, _ => False
theorem ok_yOperand : EntOk Try.prog 153 (Ent.pure p_yOperand) := by
  refine EntOk.pure fun args H K h => ?_
  unfold p_yOperand at h
  split at h
  rotate_left
  · exact h.elim
  rename_i m x a i
  obtain ⟨d, ⟨rfl, h1, rfl, hd⟩, hK⟩ := h
  refine ⟨_, hK, ?_⟩
  clear hK
  obtain ⟨a, rfl⟩ := u64_lift h1
  simp only [Int.toNat_natCast]
  refine ACalls.of_aw (Ω := []) (T := assoc []) mixed TblOk.nil Try.func153 (by kernel_rfl) (by rfl) (rs := [.tmp 6]) (by rfl) (by kernel_rfl) (by simp only [Try.ntmps153, yaz, yba]; decide) (Nat.le_refl _) fun hcl hlt => ?_
  change aw _ _ _ (KI Try.prog [] (aEnd Try.prog [.tmp 6] H.nx _ _ (assoc [])) []) _ _
  clear hlt
  have d1 : decide ((a : Int) < 0) = false := by simp
  by_cases ha : a < d.length
  · have d2 : decide ((a : Int) ≥ (d.length : Int)) = false := by simp; omega
    simp only [go_sem, reduceCtorEq, Nat.reduceEqDiff, Nat.reduceAdd, Nat.reduceMul, Nat.reduceSub, Nat.reduceLeDiff, Nat.reduceLT, Int.reduceMul, Int.reduceAdd, Int.reduceSub, Int.reduceToNat, its_length, d1, d2, its_get ha, Int.toNat_natCast]
    refine ⟨by omega, ?_⟩
    simp (disch := first | assumption | omega | (simp; done) | (simp; omega) | (simp only [bt, and_true]; first | done | omega | (simp; done))) [↓zlf, beq, ybc, ybd, ybe, endOk, wk, wk2, wk1, wkM, wkL, wkLL, ybf, hcl]
  · have d2 : decide ((a : Int) ≥ (d.length : Int)) = true := by simp; omega
    have e : d.getD a 0 = 0 := by rw [List.getD_eq_getElem?_getD, List.getElem?_eq_none (by omega)]; rfl
    simp only [go_sem, reduceCtorEq, Nat.reduceEqDiff, Nat.reduceAdd, Nat.reduceMul, Nat.reduceSub, Nat.reduceLeDiff, Nat.reduceLT, Int.reduceMul, Int.reduceAdd, Int.reduceSub, Int.reduceToNat, its_length, d1, d2, e]
    simp (disch := first | assumption | omega | (simp; done) | (simp; omega) | (simp only [bt, and_true]; first | done | omega | (simp; done))) [↓zlf, beq, ybc, ybd, ybe, endOk, wk, wk2, wk1, wkM, wkL, wkLL, ybf, hcl]
def rowD (t : List Nd) (k : Nat) : List AV := its (deps (t.take k)) ++ its (List.replicate (t.length - k) 0)
theorem rowD_len {t : List Nd} {k : Nat} (h : k ≤ t.length) : (rowD t k).length = t.length := by
  simp only [rowD, List.length_append, its_length, deps_len_take h, List.length_replicate]; omega
theorem rowD_ltL {n : Nat} {t : List Nd} {k : Nat} : ltL n (rowD t k) := by
  unfold rowD its
  rw [← List.map_append]
  exact its_ltL
theorem rowD_get {t : List Nd} {k a : Nat} (h : k ≤ t.length) (ha : a < k) : (rowD t k).getD a .junk = .int .i64 (((deps (t.take k)).getD a 0 : Nat) : Int) := by
  have h1 : a < (deps (t.take k)).length := by rw [deps_len_take h]; exact ha
  rw [List.getD_eq_getElem?_getD, rowD, List.getElem?_append_left (by rw [its_length]; exact h1)]
  simp [its, List.getD_eq_getElem?_getD, h1]
theorem splice_at : ∀ (A : List AV) (x v : AV) (B : List AV), splice (A ++ x :: B) A.length [v] = A ++ v :: B
  | [], x, v, B => by cases B <;> rfl
  | c :: A, x, v, B => by
    have := splice_at A x v B
    simp only [yal, yaz, splice]
    rw [this]
theorem rowD_set {t : List Nd} {k d : Nat} (h : k < t.length) (hd : d = dAt (deps (t.take k)) t[k]) : splice (rowD t k) k [.int .i64 (d : Int)] = rowD t (k + 1) := by
  have hl : (its (deps (t.take k))).length = k := by rw [its_length, deps_len_take (by omega)]
  have e : t.length - k = (t.length - (k + 1)) + 1 := by omega
  unfold rowD
  rw [deps_take h, e, List.replicate_succ, ← hd]
  have h2 := splice_at (its (deps (t.take k))) (.int .i64 ((0 : Nat) : Int)) (.int .i64 (d : Int)) (its (List.replicate (t.length - (k + 1)) 0))
  rw [hl] at h2
  rw [show its (0 :: List.replicate (t.length - (k + 1)) 0) = .int .i64 ((0 : Nat) : Int) :: its (List.replicate (t.length - (k + 1)) 0) from rfl, h2]
  simp [its]
theorem rowD_skip {t : List Nd} {k : Nat} (h : k < t.length) (hd : dAt (deps (t.take k)) t[k] = 0) : rowD t k = rowD t (k + 1) := by
  have e : t.length - k = (t.length - (k + 1)) + 1 := by omega
  unfold rowD
  rw [deps_take h, e, List.replicate_succ, hd]
  simp [its]
theorem rowD_0 {t : List Nd} : (List.replicate t.length [AV.int .i64 0]).flatten = rowD t 0 := by
  unfold rowD
  have : ∀ n : Nat, (List.replicate n [AV.int .i64 0]).flatten = its (List.replicate n 0) := fun n => by
    induction n with
    | zero => rfl
    | succ n ih => rw [List.replicate_succ, List.replicate_succ, List.flatten_cons, ih]; rfl
  rw [this]; simp [deps, its]
theorem imax {a b : Nat} : max (a : Int) (b : Int) = ((max a b : Nat) : Int) := by omega
def p_zDepth : List AV → AHeap → (AV → Prop) → Prop
  | [.slice _ 7 x], _, K => ∃ t, (x = nds t ∧ Good t ∧ t.length ≤ 1000) ∧ K (.int .i64 ((depthOf t : Nat) : Int))
  | _, _, _ => False
set_option maxHeartbeats 4000000 in
theorem ok_zDepth : EntOk Try.prog 81 (Ent.pure p_zDepth) := by
  refine EntOk.pure fun args H K h => ?_
  unfold p_zDepth at h
  split at h
  rotate_left
  · exact h.elim
  rename_i m x
  obtain ⟨t, ⟨rfl, hgt, hl⟩, hK⟩ := h
  refine ⟨_, hK, ?_⟩
  clear hK
  refine ACalls.of_aw (Ω := []) (T := assoc [(10, [[], [], [], [], [], [], [], [], [], [], [], [], [], [], [], [4, 6, 9, 11]]), (5, [[], [], [], [], [], [], [], [], [], [], [], [], [], [], [4, 6, 9, 11]])]) mixed TblOk.nil Try.func81 (by kernel_rfl) (by rfl) (rs := [.tmp 2]) (by rfl) (by kernel_rfl) (by simp only [Try.ntmps81, yaz, yba]; decide) (Nat.le_refl _) fun hcl hlt => ?_
  change aw _ _ _ (KI Try.prog [] (aEnd Try.prog [.tmp 2] H.nx _ _ (assoc [(10, [[], [], [], [], [], [], [], [], [], [], [], [], [], [], [], [4, 6, 9, 11]]), (5, [[], [], [], [], [], [], [], [], [], [], [], [], [], [], [4, 6, 9, 11]])])) []) _ _
  have hm : ∀ n', H.nx ≤ n' → AV.lt n' (.slice m 7 (nds t)) := fun n' hn => AV.lt_mono hn _ (hlt (.slice m 7 (nds t)) (by simp))
  clear hlt
  simp only [go_sem, reduceCtorEq, Nat.reduceEqDiff, Nat.reduceAdd, Nat.reduceMul, Nat.reduceSub, Nat.reduceLeDiff, Nat.reduceLT, Int.reduceMul, Int.reduceAdd, Int.reduceSub, Int.reduceToNat, nds_length, Int.toNat_natCast, rowD_0]
  refine ⟨by omega, ?_⟩
  refine loop_introW (A := Nat) (fun k => [(0, .slice m 7 (nds t)), (3, .ms H.nx 0 1 t.length), (9, .slice m 7 (nds t)), (10, .int .i64 (t.length : Int)), (11, .int .i64 (k : Int))]) (fun k => H.push (.cells (rowD t k))) (fun k => k ≤ t.length) (fun k => t.length - k) 0 (by omega) ?_ fun k hk => ?_
  · (simp only [bkq, enterW, subW, ltF, ne_eq, Nat.reduceEqDiff, reduceCtorEq, rowD_ltL, hm]; try simp (disch := first | assumption | omega | (simp; done) | (simp; omega) | (simp only [bt, and_true]; first | done | omega | (simp; done))) [↓zlf, beq, ybc, ybd, ybe, endOk, wk, wk2, wk1, wkM, wkL, wkLL, ybf, byq, biq, isDs_ints, hcl, rowD_ltL, hm]; try (repeat' (first | assumption | omega | exact True.intro | refine And.intro ?_ ?_ | refine closed_buf ?_ | refine closed_set_buf ?_ | refine closed_cells ?_ ?_ | refine closed_set ?_ ?_ | refine closed_del ?_ | exact AHeap.Le.refl _ | refine AHeap.Le.push ?_ _ | refine AHeap.Le.del ?_ ?_ | (simp only [bt, and_true, true_and, rowD_ltL, hm]; first | done | omega | (simp; done)))))
  have hcl1 : ∀ k, (H.push (.cells (rowD t k))).Closed := fun k => closed_cells hcl rowD_ltL
  simp only [go_sem, reduceCtorEq, Nat.reduceEqDiff, Nat.reduceAdd, Nat.reduceMul, Nat.reduceSub, Nat.reduceLeDiff, Nat.reduceLT, Int.reduceMul, Int.reduceAdd, Int.reduceSub, Int.reduceToNat]
  refine cond_split (fun hc => ?_) (fun hc => ?_)
  · have hk1 : k < t.length := by simp at hc; omega
    have e5 : IntKind.i64.wrap ((k : Int) + 1) = ((k + 1 : Nat) : Int) := by rw [wrap_i64] <;> omega
    obtain ⟨g1, g2, g3, g4⟩ := hgt k t[k] (by simp [hk1])
    have hrl := rowD_len (t := t) (k := k) (by omega)
    have hgets : ∀ a, a < k → (rowD t k).getD a .junk = .int .i64 (((deps (t.take k)).getD a 0 : Nat) : Int) := fun a ha => rowD_get (by omega) ha
    have hkn : (H.nx = H.nx + 1) = False := eq_false (by omega)
    have hen : ∀ d : Nat, d = dAt (deps (t.take k)) t[k] → splice (rowD t k) k [.int .i64 (d : Int)] = rowD t (k + 1) := fun d hd => rowD_set hk1 hd
    have hdl : ∀ a, (deps (t.take k)).getD a 0 ≤ k := fun a => getD_le (deps_le (by omega)) a
    have w1 : ∀ a, IntKind.i64.wrap (1 + (((deps (t.take k)).getD a 0 : Nat) : Int)) = ((1 + (deps (t.take k)).getD a 0 : Nat) : Int) := fun a => by
      have := hdl a
      rw [wrap_i64] <;> omega
    simp only [go_sem, reduceCtorEq, Nat.reduceEqDiff, Nat.reduceAdd, Nat.reduceMul, Nat.reduceSub, Nat.reduceLeDiff, Nat.reduceLT, Int.reduceMul, Int.reduceAdd, Int.reduceSub, Int.reduceToNat, nds_length, nds_get hk1, Int.toNat_natCast, hkn]
    refine ⟨by omega, ?_⟩
    refine cond_split (fun h3 => ?_) (fun h3 => ?_)
    · have h3' : t[k].op ≤ 3 := by simp at h3; omega
      have hz : dAt (deps (t.take k)) t[k] = 0 := by unfold dAt; rw [if_pos h3']
      try simp only [go_sem, reduceCtorEq, Nat.reduceEqDiff, Nat.reduceAdd, Nat.reduceMul, Nat.reduceSub, Nat.reduceLeDiff, Nat.reduceLT, Int.reduceMul, Int.reduceAdd, Int.reduceSub, Int.reduceToNat]
      refine ⟨k + 1, by omega, by omega, ?_⟩
      rw [← rowD_skip hk1 hz]
      (simp only [bkq, enterW, subW, ltF, ne_eq, Nat.reduceEqDiff, reduceCtorEq, rowD_ltL, hm]; try simp (disch := first | assumption | omega | (simp; done) | (simp; omega) | (simp only [bt, and_true]; first | done | omega | (simp; done))) [↓zlf, beq, ybc, ybd, ybe, endOk, wk, wk2, wk1, wkM, wkL, wkLL, ybf, byq, biq, isDs_ints, hcl, rowD_ltL, hm]; try (repeat' (first | assumption | omega | exact True.intro | refine And.intro ?_ ?_ | refine closed_buf ?_ | refine closed_set_buf ?_ | refine closed_cells ?_ ?_ | refine closed_set ?_ ?_ | refine closed_del ?_ | exact AHeap.Le.refl _ | refine AHeap.Le.push ?_ _ | refine AHeap.Le.del ?_ ?_ | (simp only [bt, and_true, true_and, rowD_ltL, hm]; first | done | omega | (simp; done)))))
    have h3' : ¬ t[k].op ≤ 3 := by simp at h3; omega
    obtain ⟨ga, gb⟩ : t[k].a < k ∧ t[k].b < k := g4.resolve_left h3'
    simp only [go_sem, reduceCtorEq, Nat.reduceEqDiff, Nat.reduceAdd, Nat.reduceMul, Nat.reduceSub, Nat.reduceLeDiff, Nat.reduceLT, Int.reduceMul, Int.reduceAdd, Int.reduceSub, Int.reduceToNat, nds_length, nds_get hk1, Int.toNat_natCast, hkn]
    refine cond_split (fun h4 => ?_) (fun h4 => ?_)
    · have h4' : t[k].op ≤ 5 := by simp at h4; omega
      have hz : 1 + (deps (t.take k)).getD t[k].a 0 = dAt (deps (t.take k)) t[k] := by unfold dAt; rw [if_neg h3', if_pos h4']
      simp only [go_sem, reduceCtorEq, Nat.reduceEqDiff, Nat.reduceAdd, Nat.reduceMul, Nat.reduceSub, Nat.reduceLeDiff, Nat.reduceLT, Int.reduceMul, Int.reduceAdd, Int.reduceSub, Int.reduceToNat, nds_length, nds_get hk1, Int.toNat_natCast, hkn, hrl, hgets _ ga, w1, hen _ hz, e5]
      refine ⟨by omega, by omega, by omega, by omega, k + 1, by omega, by omega, ?_⟩
      (simp only [bkq, enterW, subW, ltF, ne_eq, Nat.reduceEqDiff, reduceCtorEq, rowD_ltL, hm]; try simp (disch := first | assumption | omega | (simp; done) | (simp; omega) | (simp only [bt, and_true]; first | done | omega | (simp; done))) [↓zlf, beq, ybc, ybd, ybe, endOk, wk, wk2, wk1, wkM, wkL, wkLL, ybf, byq, biq, isDs_ints, hcl, rowD_ltL, hm]; try (repeat' (first | assumption | omega | exact True.intro | refine And.intro ?_ ?_ | refine closed_buf ?_ | refine closed_set_buf ?_ | refine closed_cells ?_ ?_ | refine closed_set ?_ ?_ | refine closed_del ?_ | exact AHeap.Le.refl _ | refine AHeap.Le.push ?_ _ | refine AHeap.Le.del ?_ ?_ | (simp only [bt, and_true, true_and, rowD_ltL, hm]; first | done | omega | (simp; done)))))
    have h4' : ¬ t[k].op ≤ 5 := by simp at h4; omega
    simp only [go_sem, reduceCtorEq, Nat.reduceEqDiff, Nat.reduceAdd, Nat.reduceMul, Nat.reduceSub, Nat.reduceLeDiff, Nat.reduceLT, Int.reduceMul, Int.reduceAdd, Int.reduceSub, Int.reduceToNat, nds_length, nds_get hk1, Int.toNat_natCast, hkn]
    refine cond_split (fun h5 => ?_) (fun h5 => ?_)
    · have h5' : t[k].op = 16 := by simp at h5; omega
      have hz : max ((deps (t.take k)).getD t[k].a 0) (1 + (deps (t.take k)).getD t[k].b 0) = dAt (deps (t.take k)) t[k] := by unfold dAt; rw [if_neg h3', if_neg h4', if_pos h5']
      simp only [go_sem, reduceCtorEq, Nat.reduceEqDiff, Nat.reduceAdd, Nat.reduceMul, Nat.reduceSub, Nat.reduceLeDiff, Nat.reduceLT, Int.reduceMul, Int.reduceAdd, Int.reduceSub, Int.reduceToNat, nds_length, nds_get hk1, Int.toNat_natCast, hkn, hrl, hgets _ ga, hgets _ gb, w1, imax, hen _ hz, e5]
      refine ⟨by omega, by omega, by omega, by omega, by omega, by omega, k + 1, by omega, by omega, ?_⟩
      (simp only [bkq, enterW, subW, ltF, ne_eq, Nat.reduceEqDiff, reduceCtorEq, rowD_ltL, hm]; try simp (disch := first | assumption | omega | (simp; done) | (simp; omega) | (simp only [bt, and_true]; first | done | omega | (simp; done))) [↓zlf, beq, ybc, ybd, ybe, endOk, wk, wk2, wk1, wkM, wkL, wkLL, ybf, byq, biq, isDs_ints, hcl, rowD_ltL, hm]; try (repeat' (first | assumption | omega | exact True.intro | refine And.intro ?_ ?_ | refine closed_buf ?_ | refine closed_set_buf ?_ | refine closed_cells ?_ ?_ | refine closed_set ?_ ?_ | refine closed_del ?_ | exact AHeap.Le.refl _ | refine AHeap.Le.push ?_ _ | refine AHeap.Le.del ?_ ?_ | (simp only [bt, and_true, true_and, rowD_ltL, hm]; first | done | omega | (simp; done)))))
    · have h5' : ¬ t[k].op = 16 := by simp at h5; omega
      have hz : max ((deps (t.take k)).getD t[k].a 0) ((deps (t.take k)).getD t[k].b 0) = dAt (deps (t.take k)) t[k] := by unfold dAt; rw [if_neg h3', if_neg h4', if_neg h5']
      simp only [go_sem, reduceCtorEq, Nat.reduceEqDiff, Nat.reduceAdd, Nat.reduceMul, Nat.reduceSub, Nat.reduceLeDiff, Nat.reduceLT, Int.reduceMul, Int.reduceAdd, Int.reduceSub, Int.reduceToNat, nds_length, nds_get hk1, Int.toNat_natCast, hkn, hrl, hgets _ ga, hgets _ gb, w1, imax, hen _ hz, e5]
      refine ⟨by omega, by omega, by omega, by omega, by omega, by omega, k + 1, by omega, by omega, ?_⟩
      (simp only [bkq, enterW, subW, ltF, ne_eq, Nat.reduceEqDiff, reduceCtorEq, rowD_ltL, hm]; try simp (disch := first | assumption | omega | (simp; done) | (simp; omega) | (simp only [bt, and_true]; first | done | omega | (simp; done))) [↓zlf, beq, ybc, ybd, ybe, endOk, wk, wk2, wk1, wkM, wkL, wkLL, ybf, byq, biq, isDs_ints, hcl, rowD_ltL, hm]; try (repeat' (first | assumption | omega | exact True.intro | refine And.intro ?_ ?_ | refine closed_buf ?_ | refine closed_set_buf ?_ | refine closed_cells ?_ ?_ | refine closed_set ?_ ?_ | refine closed_del ?_ | exact AHeap.Le.refl _ | refine AHeap.Le.push ?_ _ | refine AHeap.Le.del ?_ ?_ | (simp only [bt, and_true, true_and, rowD_ltL, hm]; first | done | omega | (simp; done)))))
  · have hk1 : k = t.length := by simp at hc; omega
    subst hk1
    have hrl := rowD_len (t := t) (Nat.le_refl _)
    have hfull : deps (t.take t.length) = deps t := by rw [List.take_length]
    by_cases ht0 : t = []
    · subst ht0
      have hd0 : depthOf [] = 0 := rfl
      have d1 : (((([] : List Nd).length : Nat) : Int) == 0) = true := rfl
      have hcl2 := hcl1 0
      have hkk : ((((0 : Nat) : Int)) == 0) = true := rfl
      simp only [go_sem, reduceCtorEq, Nat.reduceEqDiff, Nat.reduceAdd, Nat.reduceMul, Nat.reduceSub, Nat.reduceLeDiff, Nat.reduceLT, Int.reduceMul, Int.reduceAdd, Int.reduceSub, Int.reduceToNat, hd0, yba, nds_length, zat, hkk]
      simp (disch := first | assumption | omega | (simp; done) | (simp; omega) | (simp only [bt, and_true]; first | done | omega | (simp; done))) [↓zlf, beq, ybc, ybd, ybe, endOk, wk, wk2, wk1, wkM, wkL, wkLL, ybf, hcl, hcl2]
    have htp := List.length_pos_iff.2 ht0
    have d1 : ((t.length : Int) == 0) = false := by simp; omega
    have e6 : IntKind.i64.wrap ((t.length : Int) - 1) = ((t.length - 1 : Nat) : Int) := by rw [wrap_i64] <;> omega
    have hge := rowD_get (t := t) (Nat.le_refl _) (show t.length - 1 < t.length by omega)
    rw [hfull, show (deps t).getD (t.length - 1) 0 = depthOf t from rfl] at hge
    simp only [go_sem, reduceCtorEq, Nat.reduceEqDiff, Nat.reduceAdd, Nat.reduceMul, Nat.reduceSub, Nat.reduceLeDiff, Nat.reduceLT, Int.reduceMul, Int.reduceAdd, Int.reduceSub, Int.reduceToNat, nds_length, d1, e6, hrl, hge, Int.toNat_natCast]
    refine ⟨by omega, by omega, ?_⟩
    simp (disch := first | assumption | omega | (simp; done) | (simp; omega) | (simp only [bt, and_true]; first | done | omega | (simp; done))) [↓zlf, beq, ybc, ybd, ybe, endOk, wk, wk2, wk1, wkM, wkL, wkLL, ybf, hcl, hcl1]
end Go.AL

