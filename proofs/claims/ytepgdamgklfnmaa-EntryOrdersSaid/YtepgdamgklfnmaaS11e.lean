/- Contracts and plain laws, a part of the proof; no condition of its own. -/
import Derived.Test.YtepgdamgklfnmaaS11c
open List renaming length_cons → yaz, length_nil → yba, length_map → ybb, cons_append → yal, nil_append → yak, take_of_length_le → ybc, drop_append → ybd, take_append → ybe, drop_eq_nil_of_le → ybf, take_succ_cons → yaq, take_zero → yar, drop_succ_cons → yao, drop_zero → yap
open Go Go.AL Go.Proofs
namespace Go.AL
set_option linter.all false
set_option maxRecDepth 10000

theorem firstI_zero : ∀ {l : List Int}, firstI l = 0 ↔ ∀ x ∈ l, x = 0
  | [] => by simp [firstI]
  | x :: l => by
    have ih := firstI_zero (l := l)
    unfold firstI
    by_cases hx : x = 0
    · subst hx
      simp [ih]
    · simp [hx]
theorem cmpI_eq {a b : Int} : cmpI a b = 0 ↔ a = b := by
  unfold cmpI
  split
  · constructor <;> intro h <;> omega
  · split <;> constructor <;> intro h <;> omega
theorem cmpN_eq {a b : Nat} : cmpN a b = 0 ↔ a = b := by
  unfold cmpN
  split
  · simp [*]
  · split <;> simp [*]
theorem pI_eq {m n : SMatch} : pI m = pI n ↔ m.present = n.present := by
  unfold pI
  cases m.present <;> cases n.present <;> simp
theorem cmpM_eq {m n : SMatch} : cmpM m n = 0 ↔ m = n := by
  unfold cmpM
  rw [firstI_zero]
  simp only [List.mem_cons, List.not_mem_nil, or_false, forall_eq_or_imp, forall_eq, cmpI_eq, cmpN_eq, pI_eq]
  obtain ⟨a, b, c, d, e⟩ := m
  obtain ⟨a', b', c', d', e'⟩ := n
  simp
theorem cmpL_eq {α : Type} {f : α → α → Int} (hf : ∀ x y, f x y = 0 ↔ x = y) : ∀ {xs ys : List α}, cmpL f xs ys = 0 ↔ xs = ys
  | [], [] => by simp [cmpL]
  | [], _ :: _ => by simp [cmpL]
  | _ :: _, [] => by simp [cmpL]
  | x :: xs, y :: ys => by
    have ih := cmpL_eq hf (xs := xs) (ys := ys)
    unfold cmpL
    by_cases h : f x y = 0
    · have := (hf x y).1 h
      subst this
      rw [if_neg (by simp [h]), ih]
      simp
    · have hne : x ≠ y := fun e => h ((hf x y).2 e)
      rw [if_pos (by simp [h])]
      simp [h, hne]
theorem cmpE_eq {e f : SEntry} : cmpE e f = 0 ↔ e = f := by
  unfold cmpE
  rw [firstI_zero]
  simp only [List.mem_cons, List.not_mem_nil, or_false, forall_eq_or_imp, forall_eq, cmpI_eq, cmpL_eq (fun _ _ => cmpM_eq), cmpL_eq (fun _ _ => cmpN_eq)]
  obtain ⟨a, b, c, d, e⟩ := e
  obtain ⟨a', b', c', d', e'⟩ := f
  simp only [SEntry.mk.injEq]
  constructor
  · rintro ⟨h1, h2, h3, h4, h5⟩; exact ⟨h1, h3, h2.symm, h4, h5⟩
  · rintro ⟨h1, h2, h3, h4, h5⟩; exact ⟨h1, h3.symm, h2, h4, h5⟩
def sameK (e f : SEntry) : Bool := decide (e.table = f.table) && (decide (e.ms = f.ms) && decide (e.prio = f.prio))
def p_EqM : List AV → AHeap → (AV → Prop) → Prop
  | [.slice _ 8 l, .slice _ 8 k], _, K => ∃ ms ns : List SMatch, (l = ms.map matchAV ∧ k = ns.map matchAV ∧ ms.length ≤ 140737488355328 ∧ ns.length ≤ 140737488355328) ∧ K (.bool (decide (ms = ns)))
  | _, _, _ => False
set_option maxHeartbeats 2000000 in
theorem ok_EqM : EntOk Try.prog 47 (Ent.pure p_EqM) := by
  refine EntOk.pure fun args H K h => ?_
  unfold p_EqM at h
  split at h
  rotate_left
  · exact h.elim
  rename_i m1 l m2 k
  obtain ⟨ms, ns, ⟨rfl, rfl, hl1, hl2⟩, hK⟩ := h
  refine ⟨_, hK, ?_⟩
  clear hK
  by_cases hlen : ms.length = ns.length
  · have d0 : (((ms.length : Nat) : Int) != ((ns.length : Nat) : Int)) = false := by simp [hlen]
    generalize hR : decide (ms = ns) = R
    refine ACalls.of_aw (Ω := []) (T := assoc []) mixed TblOk.nil Try.func47 (by kernel_rfl) (by rfl) (rs := [.tmp 4]) (by rfl) (by kernel_rfl) (by simp only [Try.ntmps47, yaz, yba]; decide) (Nat.le_refl _) fun hcl hlt => ?_
    change aw _ _ _ (KI Try.prog [] (aEnd Try.prog [.tmp 4] H.nx _ _ (assoc [])) []) _ _
    have hm1 : AV.lt H.nx (.slice m1 8 (ms.map matchAV)) := hlt _ (by simp)
    have hm2 : AV.lt H.nx (.slice m2 8 (ns.map matchAV)) := hlt _ (by simp)
    clear hlt
    simp only [go_sem, reduceCtorEq, Nat.reduceEqDiff, Nat.reduceAdd, Nat.reduceMul, Nat.reduceSub, Nat.reduceLeDiff, Nat.reduceLT, Int.reduceMul, Int.reduceAdd, Int.reduceSub, Int.reduceToNat, ybb, d0]
    refine loop_introW (A := Nat) (fun k => [(0, .slice m1 8 (ms.map matchAV)), (1, .slice m2 8 (ns.map matchAV)), (12, .int .i64 (ms.length : Int)), (13, .int .i64 (k : Int))]) (fun _ => H) (fun k => k ≤ ms.length ∧ decide (ms.drop k = ns.drop k) = R) (fun k => ms.length - k) 0 ⟨by omega, hR⟩ ?_ fun k hk => ?_
    · refine ⟨Nat.le_refl _, AHeap.Le.refl _, hcl, ?_, ?_⟩
      · simp [ltF, zml, hm1, hm2]
      · simp [subW, wk2, wk1, wkM, Fr.get]
    clear hR
    obtain ⟨hk1, hR⟩ := hk
    simp only [go_sem, reduceCtorEq, Nat.reduceEqDiff, Nat.reduceAdd, Nat.reduceMul, Nat.reduceSub, Nat.reduceLeDiff, Nat.reduceLT, Int.reduceMul, Int.reduceAdd, Int.reduceSub, Int.reduceToNat]
    refine cond_split (fun hc => ?_) (fun hc => ?_)
    · have hk' : k < ms.length := by simp at hc; omega
      have hk3 : k < ns.length := by omega
      obtain ⟨x, hx⟩ : ∃ x, x = ms[k] := ⟨_, rfl⟩
      have hd : ms.drop k = x :: ms.drop (k + 1) := by rw [hx]; exact List.drop_eq_getElem_cons hk'
      have hg := getD_map (f := matchAV) (l := ms) (k := k) (x := x) (by rw [List.getElem?_eq_getElem hk', hx])
      have e5 : IntKind.i64.wrap ((k : Int) + 1) = ((k + 1 : Nat) : Int) := by rw [wrap_i64] <;> omega
      obtain ⟨y, hy⟩ : ∃ y, y = ns[k] := ⟨_, rfl⟩
      have hd2 : ns.drop k = y :: ns.drop (k + 1) := by rw [hy]; exact List.drop_eq_getElem_cons hk3
      have hg2 := getD_map (f := matchAV) (l := ns) (k := k) (x := y) (by rw [List.getElem?_eq_getElem hk3, hy])
      rw [hd, hd2] at hR
      by_cases hxy : x = y
      · have dxy : decide (x = y) = true := decide_eq_true hxy
        have hR' : decide (ms.drop (k + 1) = ns.drop (k + 1)) = R := by
          rw [← hR, decide_eq_decide, hxy]; simp
        simp only [go_sem, reduceCtorEq, Nat.reduceEqDiff, Nat.reduceAdd, Nat.reduceMul, Nat.reduceSub, Nat.reduceLeDiff, Nat.reduceLT, Int.reduceMul, Int.reduceAdd, Int.reduceSub, Int.reduceToNat, Int.toNat_natCast, ybb, hg, hg2, matchAV, matchC, vc, yal, yak, teq_matchV, eqg_matchV, Bool.bne_false, dxy, Bool.bne_true, Bool.not_true, e5]
        refine ⟨⟨by omega, by omega⟩, ⟨by omega, by omega⟩, k + 1, ⟨by omega, hR'⟩, by omega, Nat.le_refl _, AHeap.Le.refl _, hcl, ?_, ?_⟩
        · simp [ltF, zml, hm1, hm2]
        · simp [subW, wk2, wk1, wkM, Fr.get]
      · have dxy : decide (x = y) = false := decide_eq_false hxy
        have hR' : R = false := by
          rw [← hR]; refine decide_eq_false fun h => hxy ?_
          exact (List.cons.inj h).1
        subst hR'
        simp only [go_sem, reduceCtorEq, Nat.reduceEqDiff, Nat.reduceAdd, Nat.reduceMul, Nat.reduceSub, Nat.reduceLeDiff, Nat.reduceLT, Int.reduceMul, Int.reduceAdd, Int.reduceSub, Int.reduceToNat, Int.toNat_natCast, ybb, hg, hg2, matchAV, matchC, vc, yal, yak, teq_matchV, eqg_matchV, Bool.bne_false, dxy, Bool.bne_true, Bool.not_false]
        refine ⟨⟨by omega, by omega⟩, ⟨by omega, by omega⟩, ?_⟩
        simp (disch := first | assumption | omega | (simp; done) | (simp; omega) | (simp only [bt, and_true]; first | done | omega | (simp; done))) [↓zlu, beq, ybc, ybd, ybe, endOk, wk, wk2, wk1, wkM, wkL, wkLL, ybf, hcl]
    · have hk' : k = ms.length := by simp at hc; omega
      rw [ybf (by omega), ybf (by omega)] at hR
      have hR' : R = true := by rw [← hR]; rfl
      subst hR'
      simp only [go_sem, reduceCtorEq, Nat.reduceEqDiff, Nat.reduceAdd, Nat.reduceMul, Nat.reduceSub, Nat.reduceLeDiff, Nat.reduceLT, Int.reduceMul, Int.reduceAdd, Int.reduceSub, Int.reduceToNat]
      simp (disch := first | assumption | omega | (simp; done) | (simp; omega) | (simp only [bt, and_true]; first | done | omega | (simp; done))) [↓zlu, beq, ybc, ybd, ybe, endOk, wk, wk2, wk1, wkM, wkL, wkLL, ybf, hcl]
  · have d0 : (((ms.length : Nat) : Int) != ((ns.length : Nat) : Int)) = true := by simp; omega
    have hR : decide (ms = ns) = false := decide_eq_false fun h => hlen (by rw [h])
    rw [hR]
    refine ACalls.of_aw (Ω := []) (T := assoc []) mixed TblOk.nil Try.func47 (by kernel_rfl) (by rfl) (rs := [.tmp 4]) (by rfl) (by kernel_rfl) (by simp only [Try.ntmps47, yaz, yba]; decide) (Nat.le_refl _) fun hcl hlt => ?_
    change aw _ _ _ (KI Try.prog [] (aEnd Try.prog [.tmp 4] H.nx _ _ (assoc [])) []) _ _
    clear hlt
    simp only [go_sem, reduceCtorEq, Nat.reduceEqDiff, Nat.reduceAdd, Nat.reduceMul, Nat.reduceSub, Nat.reduceLeDiff, Nat.reduceLT, Int.reduceMul, Int.reduceAdd, Int.reduceSub, Int.reduceToNat, ybb, d0]
    simp (disch := first | assumption | omega | (simp; done) | (simp; omega) | (simp only [bt, and_true]; first | done | omega | (simp; done))) [↓zlu, beq, ybc, ybd, ybe, endOk, wk, wk2, wk1, wkM, wkL, wkLL, ybf, hcl]
def p_EqV : List AV → AHeap → (AV → Prop) → Prop
  | [.slice _ 2 l, .slice _ 2 k], _, K => ∃ ms ns : List Nat, (l = ms.map vv ∧ k = ns.map vv ∧ ms.length ≤ 140737488355328 ∧ ns.length ≤ 140737488355328) ∧ K (.bool (decide (ms = ns)))
  | _, _, _ => False
set_option maxHeartbeats 2000000 in
theorem ok_EqV : EntOk Try.prog 46 (Ent.pure p_EqV) := by
  refine EntOk.pure fun args H K h => ?_
  unfold p_EqV at h
  split at h
  rotate_left
  · exact h.elim
  rename_i m1 l m2 k
  obtain ⟨ms, ns, ⟨rfl, rfl, hl1, hl2⟩, hK⟩ := h
  refine ⟨_, hK, ?_⟩
  clear hK
  by_cases hlen : ms.length = ns.length
  · have d0 : (((ms.length : Nat) : Int) != ((ns.length : Nat) : Int)) = false := by simp [hlen]
    generalize hR : decide (ms = ns) = R
    refine ACalls.of_aw (Ω := []) (T := assoc []) mixed TblOk.nil Try.func46 (by kernel_rfl) (by rfl) (rs := [.tmp 4]) (by rfl) (by kernel_rfl) (by simp only [Try.ntmps46, yaz, yba]; decide) (Nat.le_refl _) fun hcl hlt => ?_
    change aw _ _ _ (KI Try.prog [] (aEnd Try.prog [.tmp 4] H.nx _ _ (assoc [])) []) _ _
    have hm1 : AV.lt H.nx (.slice m1 2 (ms.map vv)) := hlt _ (by simp)
    have hm2 : AV.lt H.nx (.slice m2 2 (ns.map vv)) := hlt _ (by simp)
    clear hlt
    simp only [go_sem, reduceCtorEq, Nat.reduceEqDiff, Nat.reduceAdd, Nat.reduceMul, Nat.reduceSub, Nat.reduceLeDiff, Nat.reduceLT, Int.reduceMul, Int.reduceAdd, Int.reduceSub, Int.reduceToNat, ybb, d0]
    refine loop_introW (A := Nat) (fun k => [(0, .slice m1 2 (ms.map vv)), (1, .slice m2 2 (ns.map vv)), (12, .int .i64 (ms.length : Int)), (13, .int .i64 (k : Int))]) (fun _ => H) (fun k => k ≤ ms.length ∧ decide (ms.drop k = ns.drop k) = R) (fun k => ms.length - k) 0 ⟨by omega, hR⟩ ?_ fun k hk => ?_
    · refine ⟨Nat.le_refl _, AHeap.Le.refl _, hcl, ?_, ?_⟩
      · simp [ltF, zml, hm1, hm2]
      · simp [subW, wk2, wk1, wkM, Fr.get]
    clear hR
    obtain ⟨hk1, hR⟩ := hk
    simp only [go_sem, reduceCtorEq, Nat.reduceEqDiff, Nat.reduceAdd, Nat.reduceMul, Nat.reduceSub, Nat.reduceLeDiff, Nat.reduceLT, Int.reduceMul, Int.reduceAdd, Int.reduceSub, Int.reduceToNat]
    refine cond_split (fun hc => ?_) (fun hc => ?_)
    · have hk' : k < ms.length := by simp at hc; omega
      have hk3 : k < ns.length := by omega
      obtain ⟨x, hx⟩ : ∃ x, x = ms[k] := ⟨_, rfl⟩
      have hd : ms.drop k = x :: ms.drop (k + 1) := by rw [hx]; exact List.drop_eq_getElem_cons hk'
      have hg := getD_map (f := vv) (l := ms) (k := k) (x := x) (by rw [List.getElem?_eq_getElem hk', hx])
      have e5 : IntKind.i64.wrap ((k : Int) + 1) = ((k + 1 : Nat) : Int) := by rw [wrap_i64] <;> omega
      obtain ⟨y, hy⟩ : ∃ y, y = ns[k] := ⟨_, rfl⟩
      have hd2 : ns.drop k = y :: ns.drop (k + 1) := by rw [hy]; exact List.drop_eq_getElem_cons hk3
      have hg2 := getD_map (f := vv) (l := ns) (k := k) (x := y) (by rw [List.getElem?_eq_getElem hk3, hy])
      rw [hd, hd2] at hR
      by_cases hxy : x = y
      · have dxy : decide (x = y) = true := decide_eq_true hxy
        have hR' : decide (ms.drop (k + 1) = ns.drop (k + 1)) = R := by
          rw [← hR, decide_eq_decide, hxy]; simp
        simp only [go_sem, reduceCtorEq, Nat.reduceEqDiff, Nat.reduceAdd, Nat.reduceMul, Nat.reduceSub, Nat.reduceLeDiff, Nat.reduceLT, Int.reduceMul, Int.reduceAdd, Int.reduceSub, Int.reduceToNat, Int.toNat_natCast, ybb, hg, hg2, vv, vc, teq_valV, eqg_valV, val_eq, val_eq', dxy, Bool.bne_true, Bool.not_true, e5]
        refine ⟨⟨by omega, by omega⟩, ⟨by omega, by omega⟩, k + 1, ⟨by omega, hR'⟩, by omega, Nat.le_refl _, AHeap.Le.refl _, hcl, ?_, ?_⟩
        · simp [ltF, zml, hm1, hm2]
        · simp [subW, wk2, wk1, wkM, Fr.get]
      · have dxy : decide (x = y) = false := decide_eq_false hxy
        have hR' : R = false := by
          rw [← hR]; refine decide_eq_false fun h => hxy ?_
          exact (List.cons.inj h).1
        subst hR'
        simp only [go_sem, reduceCtorEq, Nat.reduceEqDiff, Nat.reduceAdd, Nat.reduceMul, Nat.reduceSub, Nat.reduceLeDiff, Nat.reduceLT, Int.reduceMul, Int.reduceAdd, Int.reduceSub, Int.reduceToNat, Int.toNat_natCast, ybb, hg, hg2, vv, vc, teq_valV, eqg_valV, val_eq, val_eq', dxy, Bool.bne_true, Bool.not_false]
        refine ⟨⟨by omega, by omega⟩, ⟨by omega, by omega⟩, ?_⟩
        simp (disch := first | assumption | omega | (simp; done) | (simp; omega) | (simp only [bt, and_true]; first | done | omega | (simp; done))) [↓zlu, beq, ybc, ybd, ybe, endOk, wk, wk2, wk1, wkM, wkL, wkLL, ybf, hcl]
    · have hk' : k = ms.length := by simp at hc; omega
      rw [ybf (by omega), ybf (by omega)] at hR
      have hR' : R = true := by rw [← hR]; rfl
      subst hR'
      simp only [go_sem, reduceCtorEq, Nat.reduceEqDiff, Nat.reduceAdd, Nat.reduceMul, Nat.reduceSub, Nat.reduceLeDiff, Nat.reduceLT, Int.reduceMul, Int.reduceAdd, Int.reduceSub, Int.reduceToNat]
      simp (disch := first | assumption | omega | (simp; done) | (simp; omega) | (simp only [bt, and_true]; first | done | omega | (simp; done))) [↓zlu, beq, ybc, ybd, ybe, endOk, wk, wk2, wk1, wkM, wkL, wkLL, ybf, hcl]
  · have d0 : (((ms.length : Nat) : Int) != ((ns.length : Nat) : Int)) = true := by simp; omega
    have hR : decide (ms = ns) = false := decide_eq_false fun h => hlen (by rw [h])
    rw [hR]
    refine ACalls.of_aw (Ω := []) (T := assoc []) mixed TblOk.nil Try.func46 (by kernel_rfl) (by rfl) (rs := [.tmp 4]) (by rfl) (by kernel_rfl) (by simp only [Try.ntmps46, yaz, yba]; decide) (Nat.le_refl _) fun hcl hlt => ?_
    change aw _ _ _ (KI Try.prog [] (aEnd Try.prog [.tmp 4] H.nx _ _ (assoc [])) []) _ _
    clear hlt
    simp only [go_sem, reduceCtorEq, Nat.reduceEqDiff, Nat.reduceAdd, Nat.reduceMul, Nat.reduceSub, Nat.reduceLeDiff, Nat.reduceLT, Int.reduceMul, Int.reduceAdd, Int.reduceSub, Int.reduceToNat, ybb, d0]
    simp (disch := first | assumption | omega | (simp; done) | (simp; omega) | (simp only [bt, and_true]; first | done | omega | (simp; done))) [↓zlu, beq, ybc, ybd, ybe, endOk, wk, wk2, wk1, wkM, wkL, wkLL, ybf, hcl]
def p_eSameKey : List AV → AHeap → (AV → Prop) → Prop
  | [.agg l, .agg k], _, K => ∃ e f : SEntry, (l = entryC e ∧ k = entryC f ∧ COk e ∧ COk f) ∧ K (.bool (sameK e f))
  | _, _, _ => False
set_option maxHeartbeats 2000000 in
theorem ok_eSameKey : EntOk Try.prog 14 (Ent.pure p_eSameKey) := by
  refine EntOk.pure fun args H K h => ?_
  unfold p_eSameKey at h
  split at h
  rotate_left
  · exact h.elim
  rename_i l k
  obtain ⟨e, f, ⟨rfl, rfl, he, hf⟩, hK⟩ := h
  refine ⟨_, hK, ?_⟩
  clear hK
  unfold sameK
  by_cases ht : e.table = f.table
  · have dt : (e.table == f.table) = true := by simp [ht]
    rw [decide_eq_true ht, Bool.true_and]
    by_cases hm : e.ms = f.ms
    · have dm : decide (e.ms = f.ms) = true := decide_eq_true hm
      rw [dm, Bool.true_and]
      have dp : (e.prio == f.prio) = decide (e.prio = f.prio) := by rw [Bool.eq_iff_iff]; simp
      refine ACalls.of_aw (Ω := [(47, Ent.pure p_EqM)]) (T := assoc []) mixed (TblOk.cons ok_EqM TblOk.nil) Try.func14 (by kernel_rfl) (by rfl) (rs := [.tmp 4]) (by rfl) (by kernel_rfl) (by simp only [Try.ntmps14, yaz, yba]; decide) (Nat.le_refl _) fun hcl hlt => ?_
      change aw _ _ _ (KI Try.prog [(47, Ent.pure p_EqM)] (aEnd Try.prog [.tmp 4] H.nx _ _ (assoc [])) []) _ _
      clear hlt
      simp only [go_sem, reduceCtorEq, Nat.reduceEqDiff, Nat.reduceAdd, Nat.reduceMul, Nat.reduceSub, Nat.reduceLeDiff, Nat.reduceLT, Int.reduceMul, Int.reduceAdd, Int.reduceSub, Int.reduceToNat, entryC, p_EqM, dt]
      refine ⟨e.ms, f.ms, ⟨rfl, rfl, he.ok.ml, hf.ok.ml⟩, ?_⟩
      rw [dm]
      try simp only [blkE, blkP, bhq, Nat.reduceMod, Nat.reduceDiv, stepH, stepM, toMs1, toMs, toMs0, strK, pubK, pubF, pubV, yaq, yar, yao, yap, go_sem, reduceCtorEq, Nat.reduceEqDiff, Nat.reduceAdd, Nat.reduceMul, Nat.reduceSub, Nat.reduceLeDiff, Nat.reduceLT, Int.reduceMul, Int.reduceAdd, Int.reduceSub, Int.reduceToNat, dp]
      try simp (disch := first | assumption | omega | (simp; done) | (simp; omega) | (simp only [bt, and_true]; first | done | omega | (simp; done))) [↓zlu, beq, ybc, ybd, ybe, endOk, wk, wk2, wk1, wkM, wkL, wkLL, ybf, hcl]
      first | done | repeat (first | exact AHeap.Le.refl _ | refine AHeap.Le.push ?_ _)
    · have dm : decide (e.ms = f.ms) = false := decide_eq_false hm
      rw [dm, Bool.false_and]
      refine ACalls.of_aw (Ω := [(47, Ent.pure p_EqM)]) (T := assoc []) mixed (TblOk.cons ok_EqM TblOk.nil) Try.func14 (by kernel_rfl) (by rfl) (rs := [.tmp 4]) (by rfl) (by kernel_rfl) (by simp only [Try.ntmps14, yaz, yba]; decide) (Nat.le_refl _) fun hcl hlt => ?_
      change aw _ _ _ (KI Try.prog [(47, Ent.pure p_EqM)] (aEnd Try.prog [.tmp 4] H.nx _ _ (assoc [])) []) _ _
      clear hlt
      simp only [go_sem, reduceCtorEq, Nat.reduceEqDiff, Nat.reduceAdd, Nat.reduceMul, Nat.reduceSub, Nat.reduceLeDiff, Nat.reduceLT, Int.reduceMul, Int.reduceAdd, Int.reduceSub, Int.reduceToNat, entryC, p_EqM, dt]
      refine ⟨e.ms, f.ms, ⟨rfl, rfl, he.ok.ml, hf.ok.ml⟩, ?_⟩
      rw [dm]
      try simp only [blkE, blkP, bhq, Nat.reduceMod, Nat.reduceDiv, stepH, stepM, toMs1, toMs, toMs0, strK, pubK, pubF, pubV, yaq, yar, yao, yap, go_sem, reduceCtorEq, Nat.reduceEqDiff, Nat.reduceAdd, Nat.reduceMul, Nat.reduceSub, Nat.reduceLeDiff, Nat.reduceLT, Int.reduceMul, Int.reduceAdd, Int.reduceSub, Int.reduceToNat]
      try simp (disch := first | assumption | omega | (simp; done) | (simp; omega) | (simp only [bt, and_true]; first | done | omega | (simp; done))) [↓zlu, beq, ybc, ybd, ybe, endOk, wk, wk2, wk1, wkM, wkL, wkLL, ybf, hcl]
      first | done | repeat (first | exact AHeap.Le.refl _ | refine AHeap.Le.push ?_ _)
  · have dt : (e.table == f.table) = false := by simp [ht]
    rw [decide_eq_false ht, Bool.false_and]
    refine ACalls.of_aw (Ω := [(47, Ent.pure p_EqM)]) (T := assoc []) mixed (TblOk.cons ok_EqM TblOk.nil) Try.func14 (by kernel_rfl) (by rfl) (rs := [.tmp 4]) (by rfl) (by kernel_rfl) (by simp only [Try.ntmps14, yaz, yba]; decide) (Nat.le_refl _) fun hcl hlt => ?_
    change aw _ _ _ (KI Try.prog [(47, Ent.pure p_EqM)] (aEnd Try.prog [.tmp 4] H.nx _ _ (assoc [])) []) _ _
    clear hlt
    simp only [go_sem, reduceCtorEq, Nat.reduceEqDiff, Nat.reduceAdd, Nat.reduceMul, Nat.reduceSub, Nat.reduceLeDiff, Nat.reduceLT, Int.reduceMul, Int.reduceAdd, Int.reduceSub, Int.reduceToNat, entryC, p_EqM, dt]
    try simp (disch := first | assumption | omega | (simp; done) | (simp; omega) | (simp only [bt, and_true]; first | done | omega | (simp; done))) [↓zlu, beq, ybc, ybd, ybe, endOk, wk, wk2, wk1, wkM, wkL, wkLL, ybf, hcl]
    first | done | repeat (first | exact AHeap.Le.refl _ | refine AHeap.Le.push ?_ _)
def p_rSameKey : List AV → AHeap → (AV → Prop) → Prop
  | [.agg l, .agg k], _, K => ∃ e f : SEntry, (l = entryC e ∧ k = entryC f ∧ COk e ∧ COk f) ∧ K (.bool (sameK e f))
  | _, _, _ => False
set_option maxHeartbeats 2000000 in
theorem ok_rSameKey : EntOk Try.prog 15 (Ent.pure p_rSameKey) := by
  refine EntOk.pure fun args H K h => ?_
  unfold p_rSameKey at h
  split at h
  rotate_left
  · exact h.elim
  rename_i l k
  obtain ⟨e, f, ⟨rfl, rfl, he, hf⟩, hK⟩ := h
  refine ⟨_, hK, ?_⟩
  clear hK
  unfold sameK
  have dz : (cmpL cmpM e.ms f.ms == 0) = decide (e.ms = f.ms) := by rw [Bool.eq_iff_iff, beq_iff_eq, decide_eq_true_eq]; exact cmpL_eq fun _ _ => cmpM_eq
  by_cases ht : e.table = f.table
  · have dt : (e.table == f.table) = true := by simp [ht]
    rw [decide_eq_true ht, Bool.true_and]
    by_cases hp : e.prio = f.prio
    · have dp : (e.prio == f.prio) = true := by simp [hp]
      rw [decide_eq_true hp, Bool.and_true]
      refine ACalls.of_aw (Ω := [(44, Ent.pure p_rMatchL)]) (T := assoc []) mixed (TblOk.cons ok_rMatchL TblOk.nil) Try.func15 (by kernel_rfl) (by rfl) (rs := [.tmp 4]) (by rfl) (by kernel_rfl) (by simp only [Try.ntmps15, yaz, yba]; decide) (Nat.le_refl _) fun hcl hlt => ?_
      change aw _ _ _ (KI Try.prog [(44, Ent.pure p_rMatchL)] (aEnd Try.prog [.tmp 4] H.nx _ _ (assoc [])) []) _ _
      clear hlt
      simp only [go_sem, reduceCtorEq, Nat.reduceEqDiff, Nat.reduceAdd, Nat.reduceMul, Nat.reduceSub, Nat.reduceLeDiff, Nat.reduceLT, Int.reduceMul, Int.reduceAdd, Int.reduceSub, Int.reduceToNat, entryC, p_rMatchL, dt, dp]
      refine ⟨e.ms, f.ms, ⟨rfl, rfl, he.ok.ml, hf.ok.ml, he.ok.mo, hf.ok.mo⟩, ?_⟩
      try simp only [blkE, blkP, bhq, Nat.reduceMod, Nat.reduceDiv, stepH, stepM, toMs1, toMs, toMs0, strK, pubK, pubF, pubV, yaq, yar, yao, yap, go_sem, reduceCtorEq, Nat.reduceEqDiff, Nat.reduceAdd, Nat.reduceMul, Nat.reduceSub, Nat.reduceLeDiff, Nat.reduceLT, Int.reduceMul, Int.reduceAdd, Int.reduceSub, Int.reduceToNat, dz]
      try simp (disch := first | assumption | omega | (simp; done) | (simp; omega) | (simp only [bt, and_true]; first | done | omega | (simp; done))) [↓zlu, beq, ybc, ybd, ybe, endOk, wk, wk2, wk1, wkM, wkL, wkLL, ybf, hcl]
      first | done | repeat (first | exact AHeap.Le.refl _ | refine AHeap.Le.push ?_ _)
    · have dp : (e.prio == f.prio) = false := by simp [hp]
      rw [decide_eq_false hp, Bool.and_false]
      refine ACalls.of_aw (Ω := [(44, Ent.pure p_rMatchL)]) (T := assoc []) mixed (TblOk.cons ok_rMatchL TblOk.nil) Try.func15 (by kernel_rfl) (by rfl) (rs := [.tmp 4]) (by rfl) (by kernel_rfl) (by simp only [Try.ntmps15, yaz, yba]; decide) (Nat.le_refl _) fun hcl hlt => ?_
      change aw _ _ _ (KI Try.prog [(44, Ent.pure p_rMatchL)] (aEnd Try.prog [.tmp 4] H.nx _ _ (assoc [])) []) _ _
      clear hlt
      simp only [go_sem, reduceCtorEq, Nat.reduceEqDiff, Nat.reduceAdd, Nat.reduceMul, Nat.reduceSub, Nat.reduceLeDiff, Nat.reduceLT, Int.reduceMul, Int.reduceAdd, Int.reduceSub, Int.reduceToNat, entryC, p_rMatchL, dt, dp]
      try simp (disch := first | assumption | omega | (simp; done) | (simp; omega) | (simp only [bt, and_true]; first | done | omega | (simp; done))) [↓zlu, beq, ybc, ybd, ybe, endOk, wk, wk2, wk1, wkM, wkL, wkLL, ybf, hcl]
      first | done | repeat (first | exact AHeap.Le.refl _ | refine AHeap.Le.push ?_ _)
  · have dt : (e.table == f.table) = false := by simp [ht]
    rw [decide_eq_false ht, Bool.false_and]
    refine ACalls.of_aw (Ω := [(44, Ent.pure p_rMatchL)]) (T := assoc []) mixed (TblOk.cons ok_rMatchL TblOk.nil) Try.func15 (by kernel_rfl) (by rfl) (rs := [.tmp 4]) (by rfl) (by kernel_rfl) (by simp only [Try.ntmps15, yaz, yba]; decide) (Nat.le_refl _) fun hcl hlt => ?_
    change aw _ _ _ (KI Try.prog [(44, Ent.pure p_rMatchL)] (aEnd Try.prog [.tmp 4] H.nx _ _ (assoc [])) []) _ _
    clear hlt
    simp only [go_sem, reduceCtorEq, Nat.reduceEqDiff, Nat.reduceAdd, Nat.reduceMul, Nat.reduceSub, Nat.reduceLeDiff, Nat.reduceLT, Int.reduceMul, Int.reduceAdd, Int.reduceSub, Int.reduceToNat, entryC, p_rMatchL, dt]
    try simp (disch := first | assumption | omega | (simp; done) | (simp; omega) | (simp only [bt, and_true]; first | done | omega | (simp; done))) [↓zlu, beq, ybc, ybd, ybe, endOk, wk, wk2, wk1, wkM, wkL, wkLL, ybf, hcl]
    first | done | repeat (first | exact AHeap.Le.refl _ | refine AHeap.Le.push ?_ _)
def p_eSame : List AV → AHeap → (AV → Prop) → Prop
  | [.agg l, .agg k], _, K => ∃ e f : SEntry, (l = entryC e ∧ k = entryC f ∧ COk e ∧ COk f) ∧ K (.bool (sameK e f && (decide (e.act = f.act) && decide (e.args = f.args))))
  | _, _, _ => False
set_option maxHeartbeats 2000000 in
theorem ok_eSame : EntOk Try.prog 13 (Ent.pure p_eSame) := by
  refine EntOk.pure fun args H K h => ?_
  unfold p_eSame at h
  split at h
  rotate_left
  · exact h.elim
  rename_i l k
  obtain ⟨e, f, ⟨rfl, rfl, he, hf⟩, hK⟩ := h
  refine ⟨_, hK, ?_⟩
  clear hK
  by_cases hk : sameK e f = true
  · rw [hk, Bool.true_and]
    by_cases ha : e.act = f.act
    · have da : (e.act == f.act) = true := by simp [ha]
      rw [decide_eq_true ha, Bool.true_and]
      refine ACalls.of_aw (Ω := [(14, Ent.pure p_eSameKey), (46, Ent.pure p_EqV)]) (T := assoc []) mixed (TblOk.cons ok_eSameKey (TblOk.cons ok_EqV TblOk.nil)) Try.func13 (by kernel_rfl) (by rfl) (rs := [.tmp 4]) (by rfl) (by kernel_rfl) (by simp only [Try.ntmps13, yaz, yba]; decide) (Nat.le_refl _) fun hcl hlt => ?_
      change aw _ _ _ (KI Try.prog [(14, Ent.pure p_eSameKey), (46, Ent.pure p_EqV)] (aEnd Try.prog [.tmp 4] H.nx _ _ (assoc [])) []) _ _
      clear hlt
      simp only [go_sem, reduceCtorEq, Nat.reduceEqDiff, Nat.reduceAdd, Nat.reduceMul, Nat.reduceSub, Nat.reduceLeDiff, Nat.reduceLT, Int.reduceMul, Int.reduceAdd, Int.reduceSub, Int.reduceToNat, entryC, p_eSameKey, p_EqV]
      refine ⟨e, f, ⟨rfl, rfl, he, hf⟩, ?_⟩
      rw [hk]
      simp only [blkE, blkP, bhq, Nat.reduceMod, Nat.reduceDiv, stepH, stepM, toMs1, toMs, toMs0, strK, pubK, pubF, pubV, yaq, yar, yao, yap, go_sem, reduceCtorEq, Nat.reduceEqDiff, Nat.reduceAdd, Nat.reduceMul, Nat.reduceSub, Nat.reduceLeDiff, Nat.reduceLT, Int.reduceMul, Int.reduceAdd, Int.reduceSub, Int.reduceToNat, da]
      refine ⟨e.args, f.args, ⟨rfl, rfl, he.ok.al, hf.ok.al⟩, ?_⟩
      try simp only [blkE, blkP, bhq, Nat.reduceMod, Nat.reduceDiv, stepH, stepM, toMs1, toMs, toMs0, strK, pubK, pubF, pubV, yaq, yar, yao, yap, go_sem, reduceCtorEq, Nat.reduceEqDiff, Nat.reduceAdd, Nat.reduceMul, Nat.reduceSub, Nat.reduceLeDiff, Nat.reduceLT, Int.reduceMul, Int.reduceAdd, Int.reduceSub, Int.reduceToNat]
      try simp (disch := first | assumption | omega | (simp; done) | (simp; omega) | (simp only [bt, and_true]; first | done | omega | (simp; done))) [↓zlu, beq, ybc, ybd, ybe, endOk, wk, wk2, wk1, wkM, wkL, wkLL, ybf, hcl]
      first | done | repeat (first | exact AHeap.Le.refl _ | refine AHeap.Le.push ?_ _)
    · have da : (e.act == f.act) = false := by simp [ha]
      rw [decide_eq_false ha, Bool.false_and]
      refine ACalls.of_aw (Ω := [(14, Ent.pure p_eSameKey), (46, Ent.pure p_EqV)]) (T := assoc []) mixed (TblOk.cons ok_eSameKey (TblOk.cons ok_EqV TblOk.nil)) Try.func13 (by kernel_rfl) (by rfl) (rs := [.tmp 4]) (by rfl) (by kernel_rfl) (by simp only [Try.ntmps13, yaz, yba]; decide) (Nat.le_refl _) fun hcl hlt => ?_
      change aw _ _ _ (KI Try.prog [(14, Ent.pure p_eSameKey), (46, Ent.pure p_EqV)] (aEnd Try.prog [.tmp 4] H.nx _ _ (assoc [])) []) _ _
      clear hlt
      simp only [go_sem, reduceCtorEq, Nat.reduceEqDiff, Nat.reduceAdd, Nat.reduceMul, Nat.reduceSub, Nat.reduceLeDiff, Nat.reduceLT, Int.reduceMul, Int.reduceAdd, Int.reduceSub, Int.reduceToNat, entryC, p_eSameKey, p_EqV]
      refine ⟨e, f, ⟨rfl, rfl, he, hf⟩, ?_⟩
      rw [hk]
      simp only [blkE, blkP, bhq, Nat.reduceMod, Nat.reduceDiv, stepH, stepM, toMs1, toMs, toMs0, strK, pubK, pubF, pubV, yaq, yar, yao, yap, go_sem, reduceCtorEq, Nat.reduceEqDiff, Nat.reduceAdd, Nat.reduceMul, Nat.reduceSub, Nat.reduceLeDiff, Nat.reduceLT, Int.reduceMul, Int.reduceAdd, Int.reduceSub, Int.reduceToNat, da]
      try simp (disch := first | assumption | omega | (simp; done) | (simp; omega) | (simp only [bt, and_true]; first | done | omega | (simp; done))) [↓zlu, beq, ybc, ybd, ybe, endOk, wk, wk2, wk1, wkM, wkL, wkLL, ybf, hcl]
      first | done | repeat (first | exact AHeap.Le.refl _ | refine AHeap.Le.push ?_ _)
  · have hk' : sameK e f = false := by simpa using hk
    rw [hk', Bool.false_and]
    refine ACalls.of_aw (Ω := [(14, Ent.pure p_eSameKey), (46, Ent.pure p_EqV)]) (T := assoc []) mixed (TblOk.cons ok_eSameKey (TblOk.cons ok_EqV TblOk.nil)) Try.func13 (by kernel_rfl) (by rfl) (rs := [.tmp 4]) (by rfl) (by kernel_rfl) (by simp only [Try.ntmps13, yaz, yba]; decide) (Nat.le_refl _) fun hcl hlt => ?_
    change aw _ _ _ (KI Try.prog [(14, Ent.pure p_eSameKey), (46, Ent.pure p_EqV)] (aEnd Try.prog [.tmp 4] H.nx _ _ (assoc [])) []) _ _
    clear hlt
    simp only [go_sem, reduceCtorEq, Nat.reduceEqDiff, Nat.reduceAdd, Nat.reduceMul, Nat.reduceSub, Nat.reduceLeDiff, Nat.reduceLT, Int.reduceMul, Int.reduceAdd, Int.reduceSub, Int.reduceToNat, entryC, p_eSameKey, p_EqV]
    refine ⟨e, f, ⟨rfl, rfl, he, hf⟩, ?_⟩
    rw [hk']
    try simp only [blkE, blkP, bhq, Nat.reduceMod, Nat.reduceDiv, stepH, stepM, toMs1, toMs, toMs0, strK, pubK, pubF, pubV, yaq, yar, yao, yap, go_sem, reduceCtorEq, Nat.reduceEqDiff, Nat.reduceAdd, Nat.reduceMul, Nat.reduceSub, Nat.reduceLeDiff, Nat.reduceLT, Int.reduceMul, Int.reduceAdd, Int.reduceSub, Int.reduceToNat]
    try simp (disch := first | assumption | omega | (simp; done) | (simp; omega) | (simp only [bt, and_true]; first | done | omega | (simp; done))) [↓zlu, beq, ybc, ybd, ybe, endOk, wk, wk2, wk1, wkM, wkL, wkLL, ybf, hcl]
    first | done | repeat (first | exact AHeap.Le.refl _ | refine AHeap.Le.push ?_ _)
theorem same_cmp {e f : SEntry} : (sameK e f && (decide (e.act = f.act) && decide (e.args = f.args))) = (cmpE e f == 0) := by
  rw [Bool.eq_iff_iff, beq_iff_eq, cmpE_eq]
  obtain ⟨a, b, c, d, e⟩ := e
  obtain ⟨a', b', c', d', e'⟩ := f
  simp only [sameK, Bool.and_eq_true, decide_eq_true_eq, SEntry.mk.injEq]
  constructor
  · rintro ⟨⟨h1, h2, h3⟩, h4, h5⟩; exact ⟨h1, h2, h3, h4, h5⟩
  · rintro ⟨h1, h2, h3, h4, h5⟩; exact ⟨⟨h1, h2, h3⟩, h4, h5⟩
end Go.AL


open Go Go.AL Go.Proofs
namespace Go.AL
set_option linter.all false
set_option maxRecDepth 10000

/-- a comparison that orders -/
structure TPre {α : Type} (f : α → α → Int) : Prop where
  anti : ∀ x y, f y x = - f x y
  trans : ∀ x y z, f x y ≤ 0 → f y z ≤ 0 → f x z ≤ 0
theorem TPre.lt1 {α : Type} {f : α → α → Int} (h : TPre f) {x y z : α} (h1 : f x y < 0) (h2 : f y z ≤ 0) : f x z < 0 := by
  have a := h.trans x y z (by omega) h2
  rcases Int.lt_or_eq_of_le a with b | b
  · exact b
  · have c := h.anti x z
    have d := h.trans y z x h2 (by omega)
    have e := h.anti x y
    omega
theorem TPre.lt2 {α : Type} {f : α → α → Int} (h : TPre f) {x y z : α} (h1 : f x y ≤ 0) (h2 : f y z < 0) : f x z < 0 := by
  have a := h.trans x y z h1 (by omega)
  rcases Int.lt_or_eq_of_le a with b | b
  · exact b
  · have c := h.anti x z
    have d := h.trans z x y (by omega) h1
    have e := h.anti y z
    omega
theorem TPre.zz {α : Type} {f : α → α → Int} (h : TPre f) {x y z : α} (h1 : f x y = 0) (h2 : f y z = 0) : f x z = 0 := by
  have a := h.trans x y z (by omega) (by omega)
  have b := h.trans z y x (by have := h.anti y z; omega) (by have := h.anti x y; omega)
  have c := h.anti x z
  omega
def lexI (a b : Int) : Int := if (a != 0) = true then a else b
theorem lexI_anti {a b : Int} : lexI (-a) (-b) = - lexI a b := by
  unfold lexI
  by_cases h : a = 0 <;> simp [h]
theorem TPre.lex {α : Type} {f g : α → α → Int} (hf : TPre f) (hg : TPre g) : TPre fun x y => lexI (f x y) (g x y) where
  anti := fun x y => by rw [hf.anti x y, hg.anti x y, lexI_anti]
  trans := fun x y z h1 h2 => by
    unfold lexI at *
    by_cases a : f x y = 0
    · rw [if_neg (by simp [a])] at h1
      by_cases b : f y z = 0
      · rw [if_neg (by simp [b])] at h2
        rw [if_neg (by simp [hf.zz a b])]
        exact hg.trans x y z h1 h2
      · rw [if_pos (by simp [b])] at h2
        have := hf.lt2 (x := x) (y := y) (z := z) (by omega) (by omega)
        rw [if_pos (by simp; omega)]
        omega
    · rw [if_pos (by simp [a])] at h1
      have h2' : f y z ≤ 0 := by
        by_cases b : f y z = 0
        · omega
        · rw [if_pos (by simp [b])] at h2; exact h2
      have := hf.lt1 (x := x) (y := y) (z := z) (by omega) h2'
      rw [if_pos (by simp; omega)]
      omega
theorem TPre.zero {α : Type} : TPre fun _ _ : α => 0 := ⟨fun _ _ => rfl, fun _ _ _ _ _ => by decide⟩
theorem TPre.pull {α β : Type} {f : β → β → Int} (hf : TPre f) (h : α → β) : TPre fun x y => f (h x) (h y) := ⟨fun x y => hf.anti _ _, fun x y z => hf.trans _ _ _⟩
theorem TPre.flip {α : Type} {f : α → α → Int} (hf : TPre f) : TPre fun x y => f y x := ⟨fun x y => hf.anti _ _, fun x y z h1 h2 => hf.trans z y x h2 h1⟩
theorem tp_cmpI : TPre cmpI where
  anti := fun x y => by unfold cmpI; split <;> split <;> (try split) <;> (try split) <;> omega
  trans := fun x y z h1 h2 => by
    have a : x ≤ y := by
      unfold cmpI at h1
      split at h1
      · omega
      · split at h1 <;> omega
    have b : y ≤ z := by
      unfold cmpI at h2
      split at h2
      · omega
      · split at h2 <;> omega
    unfold cmpI
    split
    · decide
    · rw [if_neg (by omega)]; decide
theorem cmpN_I {x y : Nat} : cmpN x y = cmpI x y := by
  unfold cmpN cmpI
  split
  · rw [if_neg (by omega), if_neg (by omega)]
  · split
    · rw [if_pos (by omega)]
    · rw [if_neg (by omega), if_pos (by omega)]
theorem tp_cmpN : TPre cmpN := by
  have := tp_cmpI.pull (fun x : Nat => (x : Int))
  have e : cmpN = fun x y : Nat => cmpI ((x : Nat) : Int) ((y : Nat) : Int) := funext fun _ => funext fun _ => cmpN_I
  rw [e]
  exact this
theorem tp_cmpM : TPre cmpM := by
  have h := (tp_cmpI.pull pI).lex ((tp_cmpN.pull SMatch.value).lex ((tp_cmpN.pull SMatch.mask).lex ((tp_cmpI.pull SMatch.pfx).lex ((tp_cmpN.pull SMatch.high).lex TPre.zero))))
  exact h
theorem cmpL_cons {α : Type} {f : α → α → Int} {x y : α} {xs ys : List α} : cmpL f (x :: xs) (y :: ys) = lexI (f x y) (cmpL f xs ys) := rfl
theorem tp_cmpL {α : Type} {f : α → α → Int} (hf : TPre f) : TPre (cmpL f) where
  anti := by
    intro xs
    induction xs with
    | nil => intro ys; cases ys <;> rfl
    | cons x xs ih =>
      intro ys
      cases ys with
      | nil => rfl
      | cons y ys => rw [cmpL_cons, cmpL_cons, hf.anti x y, ih ys, lexI_anti]
  trans := by
    intro xs
    induction xs with
    | nil =>
      intro ys zs _ _
      cases zs <;> simp [cmpL]
    | cons x xs ih =>
      intro ys zs h1 h2
      cases ys with
      | nil => simp [cmpL] at h1
      | cons y ys =>
        cases zs with
        | nil => simp [cmpL] at h2
        | cons z zs =>
          rw [cmpL_cons] at *
          unfold lexI at *
          by_cases a : f x y = 0
          · rw [if_neg (by simp [a])] at h1
            by_cases b : f y z = 0
            · rw [if_neg (by simp [b])] at h2
              rw [if_neg (by simp [hf.zz a b])]
              exact ih ys zs h1 h2
            · rw [if_pos (by simp [b])] at h2
              have := hf.lt2 (x := x) (y := y) (z := z) (by omega) (by omega)
              rw [if_pos (by simp; omega)]
              omega
          · rw [if_pos (by simp [a])] at h1
            have h2' : f y z ≤ 0 := by
              by_cases b : f y z = 0
              · omega
              · rw [if_pos (by simp [b])] at h2; exact h2
            have := hf.lt1 (x := x) (y := y) (z := z) (by omega) h2'
            rw [if_pos (by simp; omega)]
            omega
theorem tp_cmpE : TPre cmpE := by
  have h := (tp_cmpI.pull SEntry.table).lex ((tp_cmpI.flip.pull SEntry.prio).lex (((tp_cmpL tp_cmpM).pull SEntry.ms).lex ((tp_cmpI.pull SEntry.act).lex (((tp_cmpL tp_cmpN).pull SEntry.args).lex TPre.zero))))
  exact h
end Go.AL

