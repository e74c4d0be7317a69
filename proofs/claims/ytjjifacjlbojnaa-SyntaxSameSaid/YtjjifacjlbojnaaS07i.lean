/- Contracts and plain laws, a part of the proof; no condition of its own. -/
import Derived.Test.YtjjifacjlbojnaaS07n
import Derived.Test.YtjjifacjlbojnaaS07w
open List renaming getElem?_cons_succ → yan, map_cons → yae, length_cons → yaz, cons_append → yal, nil_append → yak, drop_succ_cons → yao, drop_zero → yap, getElem?_cons_zero → yam, getD_cons_succ → yav, length_nil → yba, take_of_length_le → ybc, drop_append → ybd, take_append → ybe, drop_eq_nil_of_le → ybf, take_succ_cons → yaq, take_zero → yar, map_nil → yaf
open Go Go.AL Go.Proofs
namespace Go.AL
set_option linter.all false
set_option maxRecDepth 10000

/-- the node k with another upper half of its value -/
def bump (t : List Nd) (k z : Nat) : List Nd := match t[k]? with
  | some n => t.set k { n with v := z * 2 ^ 64 + n.v % 2 ^ 64 }
  | none => t
theorem bump_succ {n : Nd} {t : List Nd} {k z : Nat} : bump (n :: t) (k + 1) z = n :: bump t k z := by
  unfold bump
  rw [yan]
  cases t[k]? <;> rfl
theorem bump_ne {t : List Nd} {k z : Nat} (h : k < t.length) (hz : z < 2 ^ 64) (hne : z ≠ t[k].v / 2 ^ 64) : decide (t = bump t k z) = false := by
  refine decide_eq_false fun e => hne ?_
  have e2 : t[k]? = (bump t k z)[k]? := by rw [← e]
  unfold bump at e2
  rw [List.getElem?_eq_getElem h] at e2
  simp only [List.getElem?_set_self h, Option.some.injEq] at e2
  have := congrArg Nd.v e2
  simp only at this
  omega
theorem bump_rows {kk z : Nat} : ∀ {t : List Nd} {k : Nat}, k < t.length → z < 2 ^ 64 →
    rowsOf 7 t.length (splice ((nds t).flatMap AV.cells ++ List.replicate kk .junk) (k * 7 + 5) [.int .u64 (z : Int)]) = nds (bump t k z)
  | n :: t, 0, _, hz => by
    have h1 : (z * 2 ^ 64 + n.v % 2 ^ 64) / 2 ^ 64 = z := by omega
    have h2 : (z * 2 ^ 64 + n.v % 2 ^ 64) % 2 ^ 64 = n.v % 2 ^ 64 := by omega
    have key : ∀ (t : List Nd), rowsOf 7 t.length ((nds t).flatMap AV.cells ++ List.replicate kk .junk) = nds t := by
      intro t
      induction t with
      | nil => rfl
      | cons m t ih =>
        simp only [nds, yae, List.flatMap_cons, yaz, rowsOf, ndAV, AV.cells, yal, yak, yao, yap] at ih ⊢
        rw [ih]; rfl
    simp only [bump, yam, List.set_cons_zero, nds, yae, ndAV, h1, h2]
    simp only [List.flatMap_cons, AV.cells, yal, yak, Nat.zero_mul, Nat.zero_add, splice, yaz, rowsOf, yao, yap]
    have := key t
    simp only [nds] at this
    have e : splice (List.flatMap AV.cells (List.map ndAV t) ++ List.replicate kk AV.junk) 0 [] = List.flatMap AV.cells (List.map ndAV t) ++ List.replicate kk AV.junk := by
      cases (List.flatMap AV.cells (List.map ndAV t) ++ List.replicate kk AV.junk) <;> rfl
    try rw [e]
    rw [this]; rfl
  | n :: t, k + 1, h, hz => by
    have ih := bump_rows (kk := kk) (t := t) (k := k) (by simpa using h) hz
    rw [bump_succ]
    have e : (k + 1) * 7 + 5 = (k * 7 + 5) + 7 := by omega
    rw [e]
    simp only [nds, yae, List.flatMap_cons, ndAV, AV.cells, yal, yak, splice, yaz, rowsOf, yao, yap] at ih ⊢
    rw [ih]; rfl
theorem bump_get {kk : Nat} : ∀ {t : List Nd} {k : Nat} (h : k < t.length), ((nds t).flatMap AV.cells ++ List.replicate kk AV.junk).getD (k * 7 + 5) AV.junk = .int .u64 ((t[k].v / 2 ^ 64 : Nat) : Int)
  | n :: t, 0, _ => rfl
  | n :: t, k + 1, h => by
    have ih := bump_get (kk := kk) (t := t) (k := k) (by simpa using h)
    have e : (k + 1) * 7 + 5 = (k * 7 + 5) + 7 := by omega
    rw [e]
    simp only [nds, yae, List.flatMap_cons, ndAV, AV.cells, yal, yak, yav, List.getElem_cons_succ] at ih ⊢
    exact ih
theorem flat_nds_len {kk : Nat} {t : List Nd} : ((nds t).flatMap AV.cells ++ List.replicate kk AV.junk).length = t.length * 7 + kk := by
  induction t with
  | nil => simp [nds]
  | cons n t ih =>
    simp only [nds, yae, List.flatMap_cons, ndAV, AV.cells, yal, yak, yaz] at ih ⊢
    rw [ih]; omega
def p_SyntaxSame : List AV → AHeap → (AV → Prop) → Prop
  | [.slice _ 1 l, .slice _ 1 l2, .int .i64 n, .int .i64 n2], _, K => (isB l ∧ isB l2 ∧ -9223372036854775808 ≤ n ∧ n < 9223372036854775808) ∧ K (.bool true)
  | _, _, _ => False
set_option maxHeartbeats 4000000 in
theorem ok_SyntaxSame : EntOk Try.prog 6 (Ent.pure p_SyntaxSame) := by
  refine EntOk.pure fun args H K h => ?_
  unfold p_SyntaxSame at h
  split at h
  rotate_left
  · exact h.elim
  rename_i m l m2 l2 n n2
  obtain ⟨⟨hB, hB2, hn1, hn2⟩, hK⟩ := h
  obtain ⟨b, rfl⟩ := isB_out hB
  obtain ⟨d, rfl⟩ := isB_out hB2
  clear hB hB2
  refine ⟨_, hK, ?_⟩
  clear hK
  have h_parsed : EntOk Try.prog 17 (Ent.some (s_parsed True 0)) := s_ok_parsed (s_ok_zParse ok_zVal)
  have h_CSent := s_ok_CSent (A := True) 3
  refine ACalls.of_aw (Ω := [(10, Ent.effect e_CNew), (15, Ent.some (s_CSent True 3)), (17, Ent.some (s_parsed True 0)), (19, Ent.pure p_SSame), (16, Ent.pure p_Mod), (18, Ent.pure p_begun07)]) (T := assoc [(10, [[0,3]]), (13, [[30]])]) mixed (TblOk.cons ok_CNew (TblOk.cons h_CSent (TblOk.cons h_parsed (TblOk.cons ok_SSame (TblOk.cons ok_Mod (TblOk.cons ok_begun07 TblOk.nil)))))) Try.func6 (by kernel_rfl) (by rfl) (rs := [.tmp 8]) (by rfl) (by kernel_rfl) (by simp only [Try.ntmps6, yaz, yba]; decide) (Nat.le_refl _) fun hcl hlt => ?_
  change aw _ _ _ (KI Try.prog [(10, Ent.effect e_CNew), (15, Ent.some (s_CSent True 3)), (17, Ent.some (s_parsed True 0)), (19, Ent.pure p_SSame), (16, Ent.pure p_Mod), (18, Ent.pure p_begun07)] (aEnd Try.prog [.tmp 8] H.nx _ _ (assoc [(10, [[0,3]]), (13, [[30]])])) []) _ _
  clear hlt
  simp only [go_sem, reduceCtorEq, Nat.reduceEqDiff, Nat.reduceAdd, Nat.reduceMul, Nat.reduceSub, Nat.reduceLeDiff, Nat.reduceLT, Int.reduceMul, Int.reduceAdd, Int.reduceSub, Int.reduceToNat, e_CNew]
  refine ⟨b, ⟨rfl, by omega⟩, ?_⟩
  have hbt : (b.take (min (b.length : Int) 30).toNat).length ≤ 30 := by rw [List.length_take]; omega
  generalize b.take (min (b.length : Int) 30).toNat = b1 at *
  have hb3 : bS 3 ≤ 5000 := by decide
  simp only [s_CSent]
  refine ⟨b1, 0, ⟨AHeap.get_push_new _ _, ⟨by omega, by omega⟩, by omega, rfl, by omega⟩, fun s a' hs _ _ => ?_⟩
  obtain ⟨f, r, hr⟩ := run_total (scanned s).1
  simp only [blkS, cod, go_sem, reduceCtorEq, Nat.reduceEqDiff, Nat.reduceAdd, Nat.reduceMul, Nat.reduceSub, Nat.reduceLeDiff, Nat.reduceLT, Int.reduceMul, Int.reduceAdd, Int.reduceSub, Int.reduceToNat, s_parsed]
  refine ⟨f, r, ⟨hr, by omega, litFree_true⟩, ?_⟩
  have htl := tree_len (l := (scanned s).1) (r := r)
  rw [parsed_of2]
  generalize treeOf (scanned s).1 r = o at *
  simp only [blkS, cod, go_sem, reduceCtorEq, Nat.reduceEqDiff, Nat.reduceAdd, Nat.reduceMul, Nat.reduceSub, Nat.reduceLeDiff, Nat.reduceLT, Int.reduceMul, Int.reduceAdd, Int.reduceSub, Int.reduceToNat, e_CNew]
  refine ⟨d, ⟨rfl, by omega⟩, ?_⟩
  have hdt : (d.take (min (d.length : Int) 30).toNat).length ≤ 30 := by rw [List.length_take]; omega
  generalize d.take (min (d.length : Int) 30).toNat = d1 at *
  simp only [s_CSent]
  refine ⟨d1, 0, ⟨AHeap.get_push_new _ _, ⟨by omega, by omega⟩, by omega, rfl, by omega⟩, fun s2 a2 hs2 _ _ => ?_⟩
  obtain ⟨f2, r2, hr2⟩ := run_total (scanned s2).1
  simp only [blkS, cod, go_sem, reduceCtorEq, Nat.reduceEqDiff, Nat.reduceAdd, Nat.reduceMul, Nat.reduceSub, Nat.reduceLeDiff, Nat.reduceLT, Int.reduceMul, Int.reduceAdd, Int.reduceSub, Int.reduceToNat, s_parsed]
  refine ⟨f2, r2, ⟨hr2, by omega, litFree_true⟩, ?_⟩
  have htl2 := tree_len (l := (scanned s2).1) (r := r2)
  rw [parsed_of2]
  generalize treeOf (scanned s2).1 r2 = o2 at *
  simp only [blkS, cod, go_sem, reduceCtorEq, Nat.reduceEqDiff, Nat.reduceAdd, Nat.reduceMul, Nat.reduceSub, Nat.reduceLeDiff, Nat.reduceLT, Int.reduceMul, Int.reduceAdd, Int.reduceSub, Int.reduceToNat, e_CNew]
  generalize o.getD [] = t at *
  generalize o2.getD [] = u at *
  have hbe : ((t.length : Int) == (u.length : Int)) = decide (t.length = u.length) := by
    by_cases h : t.length = u.length
    · rw [decide_eq_true h, h]; simp
    · rw [decide_eq_false h]; simp; omega
  simp only [nds_length, hbe]
  refine loop_introW (A := Nat × Bool) (fun x => [(2, .int .i64 n), (9, .slice .any 7 (nds t)), (13, .slice .any 7 (nds u)), (17, .bool x.2), (18, .int .i64 (x.1 : Int))]) (fun x => H) (fun x => x.1 ≤ t.length ∧ x.2 = decide (t.length = u.length ∧ t.take x.1 = u.take x.1)) (fun x => t.length - x.1) (0, decide (t.length = u.length)) ⟨by simp, by simp⟩ ?_ fun x hx => ?_
  · (simp only [bkq, enterW, subW, ltF, ne_eq, Nat.reduceEqDiff, reduceCtorEq, nds_lt]; try simp (disch := first | assumption | omega | (simp; done) | (simp; omega) | (simp only [bt, and_true]; first | done | omega | (simp; done))) [↓zlf, beq, ybc, ybd, ybe, endOk, wk, wk2, wk1, wkM, wkL, wkLL, ybf, byq, biq, isDs_ints, hcl, nds_lt]; try (repeat' (first | assumption | omega | exact True.intro | refine And.intro ?_ ?_ | refine closed_buf ?_ | refine closed_set_buf ?_ | refine closed_cells ?_ ?_ | refine closed_set ?_ ?_ | refine closed_del ?_ | exact AHeap.Le.refl _ | refine AHeap.Le.push ?_ _ | refine AHeap.Le.del ?_ ?_ | (simp only [bt, and_true, true_and, nds_lt]; first | done | omega | (simp; done)))))
  obtain ⟨i, e⟩ := x
  obtain ⟨hi, he⟩ := hx
  dsimp only at hi he ⊢
  by_cases hgo : e = true ∧ i < t.length
  · obtain ⟨rfl, hi1⟩ := hgo
    obtain ⟨hlen, htk⟩ := of_decide_eq_true he.symm
    have hi2 : i < u.length := by omega
    have d5 : decide ((i : Int) < (t.length : Int)) = true := by simp; omega
    have e5 : IntKind.i64.wrap ((i : Int) + 1) = ((i + 1 : Nat) : Int) := by rw [wrap_i64] <;> omega
    have tq := teq_nodes (n := t[i]) (m := u[i])
    simp only [ndAV] at tq
    simp only [go_sem, reduceCtorEq, Nat.reduceEqDiff, Nat.reduceAdd, Nat.reduceMul, Nat.reduceSub, Nat.reduceLeDiff, Nat.reduceLT, Int.reduceMul, Int.reduceAdd, Int.reduceSub, Int.reduceToNat, nds_length, nds_get hi1, nds_get hi2, Int.toNat_natCast, d5, e5, tq, eqg_node]
    refine ⟨by omega, by omega, (i + 1, decide (t[i] = u[i])), ⟨by omega, ?_⟩, by simp only; omega, ?_⟩
    · refine decide_eq_decide.2 ⟨fun h => ⟨hlen, by rw [List.take_succ_eq_append_getElem hi1, List.take_succ_eq_append_getElem hi2, htk, h]⟩, fun h => ?_⟩
      have := congrArg (fun l => l[i]?) h.2
      simpa [hi1, hi2] using this
    (simp only [bkq, enterW, subW, ltF, ne_eq, Nat.reduceEqDiff, reduceCtorEq, nds_lt]; try simp (disch := first | assumption | omega | (simp; done) | (simp; omega) | (simp only [bt, and_true]; first | done | omega | (simp; done))) [↓zlf, beq, ybc, ybd, ybe, endOk, wk, wk2, wk1, wkM, wkL, wkLL, ybf, byq, biq, isDs_ints, hcl, nds_lt]; try (repeat' (first | assumption | omega | exact True.intro | refine And.intro ?_ ?_ | refine closed_buf ?_ | refine closed_set_buf ?_ | refine closed_cells ?_ ?_ | refine closed_set ?_ ?_ | refine closed_del ?_ | exact AHeap.Le.refl _ | refine AHeap.Le.push ?_ _ | refine AHeap.Le.del ?_ ?_ | (simp only [bt, and_true, true_and, nds_lt]; first | done | omega | (simp; done)))))
  have hfin : e = decide (t = u) := by
    cases e with
    | false =>
      refine (decide_eq_false fun h => ?_).symm
      subst h
      simp at he
    | true =>
      obtain ⟨hlen, htk⟩ := of_decide_eq_true he.symm
      have : i = t.length := by
        have : ¬ i < t.length := fun h => hgo ⟨rfl, h⟩
        omega
      refine (decide_eq_true ?_).symm
      rw [this, List.take_length, hlen, List.take_length] at htk
      exact htk
  subst hfin
  clear he
  have hss : (decide (t = u) != decide (t = u)) = false := by simp
  have d5 : decide (t = u) = true → decide ((i : Int) < (t.length : Int)) = false := fun h => by
    have : ¬ i < t.length := fun hi => hgo ⟨h, hi⟩
    simp; omega
  cases hb : decide (t = u)
  case' false => simp only [go_sem, reduceCtorEq, Nat.reduceEqDiff, Nat.reduceAdd, Nat.reduceMul, Nat.reduceSub, Nat.reduceLeDiff, Nat.reduceLT, Int.reduceMul, Int.reduceAdd, Int.reduceSub, Int.reduceToNat, p_SSame]
  case' true => simp only [go_sem, reduceCtorEq, Nat.reduceEqDiff, Nat.reduceAdd, Nat.reduceMul, Nat.reduceSub, Nat.reduceLeDiff, Nat.reduceLT, Int.reduceMul, Int.reduceAdd, Int.reduceSub, Int.reduceToNat, d5 hb, p_SSame, nds_length]
  all_goals
    refine ⟨t, u, ⟨rfl, rfl, by omega⟩, both_ff (by rw [hb]; rfl) ⟨t, t, ⟨rfl, rfl, by omega⟩, ?_⟩⟩
    have dtt : decide (t = t) = true := decide_eq_true rfl
    rw [dtt]
    cases t with
    | nil =>
      have d0 : decide (((0 : Nat) : Int) > 0) = false := rfl
      simp only [go_sem, reduceCtorEq, Nat.reduceEqDiff, Nat.reduceAdd, Nat.reduceMul, Nat.reduceSub, Nat.reduceLeDiff, Nat.reduceLT, Int.reduceMul, Int.reduceAdd, Int.reduceSub, Int.reduceToNat, bhq, Nat.reduceMod, Nat.reduceDiv, stepH, stepM, toMs1, toMs, toMs0, strK, pubK, pubF, pubV, yaq, yar, yao, yap, nds, yaf, Bool.not_true, List.isEmpty_nil, d0, p_begun07]
      refine ⟨fun z hz => (by cases hz), ?_⟩
      simp (disch := first | assumption | omega | (simp; done) | (simp; omega) | (simp only [bt, and_true]; first | done | omega | (simp; done))) [↓zlf, beq, ybc, ybd, ybe, endOk, wk, wk2, wk1, wkM, wkL, wkLL, ybf, hcl]
    | cons x t0 =>
      generalize hT : x :: t0 = t at *
      have hTl : 0 < t.length := by rw [← hT]; simp
      have hne : (nds t = []) = False := eq_false fun h => by rw [← hT] at h; simp [nds] at h
      have hem : (nds t).isEmpty = false := by rw [← hT]; rfl
      have d0 : decide ((t.length : Int) > 0) = true := by simp; omega
      simp only [go_sem, reduceCtorEq, Nat.reduceEqDiff, Nat.reduceAdd, Nat.reduceMul, Nat.reduceSub, Nat.reduceLeDiff, Nat.reduceLT, Int.reduceMul, Int.reduceAdd, Int.reduceSub, Int.reduceToNat, bhq, Nat.reduceMod, Nat.reduceDiv, stepH, stepM, toMs1, toMs, toMs0, strK, pubK, pubF, pubV, yaq, yar, yao, yap, Bool.not_true, nds_length, hne, hem, Bool.false_eq_true, d0]
      refine ⟨⟨by omega, by omega, nds_one⟩, fun kk => ?_⟩
      obtain ⟨ix, hix, hixl⟩ : ∃ ix : Nat, (n.tmod (t.length : Int) + (t.length : Int)).tmod (t.length : Int) = (ix : Int) ∧ ix < t.length := by
        obtain ⟨h1, h2⟩ := @mod_lt n (t.length : Int) (by omega)
        exact ⟨((n.tmod (t.length : Int) + (t.length : Int)).tmod (t.length : Int)).toNat, by omega, by omega⟩
      have hgd := bump_get (kk := kk) hixl
      have hlen := flat_nds_len (kk := kk) (t := t)
      obtain ⟨z, hz, hzl, hzn⟩ : ∃ z : Nat, IntKind.u64.wrap (((t[ix].v / 2 ^ 64 : Nat) : Int) + 1) = (z : Int) ∧ z < 2 ^ 64 ∧ z ≠ t[ix].v / 2 ^ 64 := by
        have e64 : ∀ z : Int, IntKind.u64.wrap z = z % 18446744073709551616 := fun z => by simp [IntKind.wrap, IntKind.signed, IntKind.bits]
        refine ⟨(t[ix].v / 2 ^ 64 + 1) % 2 ^ 64, by rw [e64]; omega, by omega, by omega⟩
      have hrw := bump_rows (kk := kk) hixl hzl
      have hbn := bump_ne hixl hzl hzn
      generalize t[ix].v / 2 ^ 64 = hi at *
      simp only [go_sem, reduceCtorEq, Nat.reduceEqDiff, Nat.reduceAdd, Nat.reduceMul, Nat.reduceSub, Nat.reduceLeDiff, Nat.reduceLT, Int.reduceMul, Int.reduceAdd, Int.reduceSub, Int.reduceToNat, bhq, Nat.reduceMod, Nat.reduceDiv, stepH, stepM, toMs1, toMs, toMs0, strK, pubK, pubF, pubV, yaq, yar, yao, yap, p_Mod, hix, hlen, Int.toNat_natCast, Nat.zero_add, Nat.add_zero, hgd, hz]
      refine ⟨⟨by omega, by omega, by omega, by omega⟩, ⟨by omega, by omega⟩, by omega, ⟨by omega, by omega⟩, by omega, 7, t.length, ?_⟩
      have hle1 : (7 = 7 ∧ t.length ≤ t.length) = True := eq_true ⟨rfl, Nat.le_refl _⟩
      simp only [go_sem, reduceCtorEq, Nat.reduceEqDiff, Nat.reduceAdd, Nat.reduceMul, Nat.reduceSub, Nat.reduceLeDiff, Nat.reduceLT, Int.reduceMul, Int.reduceAdd, Int.reduceSub, Int.reduceToNat, bhq, Nat.reduceMod, Nat.reduceDiv, stepH, stepM, toMs1, toMs, toMs0, strK, pubK, pubF, pubV, yaq, yar, yao, yap, hle1, hrw, Nat.le_refl, eq_self, p_SSame]
      refine ⟨t, bump t ix z, ⟨rfl, rfl, by omega⟩, ?_⟩
      rw [hbn]
      simp only [go_sem, reduceCtorEq, Nat.reduceEqDiff, Nat.reduceAdd, Nat.reduceMul, Nat.reduceSub, Nat.reduceLeDiff, Nat.reduceLT, Int.reduceMul, Int.reduceAdd, Int.reduceSub, Int.reduceToNat, Bool.not_false, p_begun07]
      refine ⟨by simp [wk, wk2, wk1], ?_, hcl, by simp [zlx]⟩
      (repeat' (first | assumption | omega | exact True.intro | refine And.intro ?_ ?_ | refine closed_buf ?_ | refine closed_set_buf ?_ | refine closed_cells ?_ ?_ | refine closed_set ?_ ?_ | refine closed_del ?_ | exact AHeap.Le.refl _ | refine AHeap.Le.push ?_ _ | refine AHeap.Le.del ?_ ?_ | (simp only [bt, and_true, true_and]; first | done | omega | (simp; done))))
end Go.AL

