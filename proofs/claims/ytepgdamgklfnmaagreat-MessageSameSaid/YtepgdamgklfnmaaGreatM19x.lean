/- Contracts and plain laws, a part of the proof; no condition of its own. -/
import Derived.Test.YtepgdamgklfnmaaGreatM19j
open List renaming length_cons → yaz, length_nil → yba, length_map → ybb, take_of_length_le → ybc, drop_append → ybd, take_append → ybe, drop_eq_nil_of_le → ybf, cons_append → yal, nil_append → yak
open Go Go.AL Go.Proofs
namespace Go.AL
set_option linter.all false
set_option maxRecDepth 10000
theorem ti_record : ti Tryz.prog 76 = some ⟨.struct [(0, 3, false), (1, 3, false), (2, 3, false), (3, 3, false), (4, 47, false), (5, 3, false), (6, 3, false)], 7, 56, .agg [.int .i64 0, .int .i64 0, .int .i64 0, .int .i64 0, .int .i64 0, .int .i64 0, .int .i64 0]⟩ := by kernel_rfl
theorem ti_records : ti Tryz.prog 52 = some ⟨.slice 76, 1, 24, .slice .nil 1 []⟩ := by kernel_rfl
theorem ti_output : ti Tryz.prog 54 = some ⟨.struct [(0, 4, false), (1, 3, false), (2, 3, false), (3, 26, false)], 4, 48, .agg [.bool false, .int .i64 0, .int .i64 0, .slice .nil 1 []]⟩ := by kernel_rfl
theorem ti_resp : ti Tryz.prog 56 = some ⟨.struct [(0, 47, false), (1, 3, false), (2, 4, false), (3, 51, false), (4, 52, false), (5, 54, false)], 9, 120, .agg [.int .i64 0, .int .i64 0, .bool false, .slice .nil 1 [], .slice .nil 1 [], .bool false, .int .i64 0, .int .i64 0, .slice .nil 1 []]⟩ := by kernel_rfl
attribute [go_sem] ti_record ti_records ti_output ti_resp
/-- a record -/
structure SRec where
  num : Int
  ctl : Int
  role : Int
  kind : Int
  code : Int
  fail : Int
  upd : Int
def recC (r : SRec) : List AV := [.int .i64 r.num, .int .i64 r.ctl, .int .i64 r.role, .int .i64 r.kind, .int .i64 r.code, .int .i64 r.fail, .int .i64 r.upd]
def recAV (r : SRec) : AV := .agg (recC r)
theorem lt_rec {n : Nat} (r : SRec) : AV.lt n (recAV r) := by simp only [recAV, recC, zmz, znc, znd, zmn, and_true]
def eqRec (a b : SRec) : Bool := (a.num == b.num) && ((a.ctl == b.ctl) && ((a.role == b.role) && ((a.kind == b.kind) && ((a.code == b.code) && ((a.fail == b.fail) && ((a.upd == b.upd) && true))))))
theorem eqRec_refl (a : SRec) : eqRec a a = true := by simp [eqRec]
theorem eqg_rec : Tryz.prog.eqGuardType Tryz.prog.depth 76 = false := by kernel_rfl
theorem teq_rec {a b : SRec} : teq Tryz.prog 9 76 (.agg [.int .i64 a.num, .int .i64 a.ctl, .int .i64 a.role, .int .i64 a.kind, .int .i64 a.code, .int .i64 a.fail, .int .i64 a.upd]) (.agg [.int .i64 b.num, .int .i64 b.ctl, .int .i64 b.role, .int .i64 b.kind, .int .i64 b.code, .int .i64 b.fail, .int .i64 b.upd]) = some (eqRec a b) := by
  have g2 : Tryz.prog.stoodInHeld 76 = false := by kernel_rfl
  simp [ti_record, teq, teq.go, teq.part, ti_zint, ti_errno, ceq, g2, TD.agg, eqRec]
def p_rEqual : List AV → AHeap → (AV → Prop) → Prop
  | [.slice _ 7 l, .slice _ 7 k], _, K => ∃ xs ys : List (SRec), (l = xs.map recAV ∧ k = ys.map recAV ∧ xs.length ≤ 140737488355328 ∧ ys.length ≤ 140737488355328 ∧ True) ∧ K (.bool (eqL eqRec xs ys))
  | _, _, _ => False
set_option maxHeartbeats 2000000 in
theorem ok_rEqual : EntOk Tryz.prog 57 (Ent.pure p_rEqual) := by
  refine EntOk.pure fun args H K h => ?_
  unfold p_rEqual at h
  split at h
  rotate_left
  · exact h.elim
  rename_i m1 l m2 k
  obtain ⟨xs, ys, ⟨rfl, rfl, hl1, hl2, ho⟩, hK⟩ := h
  clear ho
  refine ⟨_, hK, ?_⟩
  clear hK
  obtain ⟨R, hR⟩ : ∃ R, eqL eqRec xs ys = R := ⟨_, rfl⟩
  rw [hR]
  by_cases hlen : xs.length = ys.length
  case neg =>
    rw [eqL_len hlen] at hR
    subst hR
    have d0 : ((xs.length : Int) != (ys.length : Int)) = true := by rw [bne_iff_ne]; omega
    refine ACalls.of_aw (Ω := []) (T := assoc []) mixed TblOk.nil Tryz.func57 (by kernel_rfl) (by rfl) (rs := [.tmp 4]) (by rfl) (by kernel_rfl) (by simp only [Tryz.ntmps57, yaz, yba]; decide) (Nat.le_refl _) fun hcl hlt => ?_
    change aw _ _ _ (KI Tryz.prog [] (aEnd Tryz.prog [.tmp 4] H.nx _ _ (assoc [])) []) _ _
    clear hlt
    simp only [go_sem, reduceCtorEq, Nat.reduceEqDiff, Nat.reduceAdd, Nat.reduceMul, Nat.reduceSub, Nat.reduceLeDiff, Nat.reduceLT, Int.reduceMul, Int.reduceAdd, Int.reduceSub, Int.reduceToNat, ybb, d0]
    simp (disch := first | assumption | omega | (simp; done) | (simp; omega) | (simp only [bt, and_true]; first | done | omega | (simp; done))) [↓zlw, beq, ybc, ybd, ybe, endOk, wk, wk2, wk1, wkM, wkL, wkLL, ybf, hcl]
  have d0 : ((xs.length : Int) != (ys.length : Int)) = false := by rw [hlen]; simp
  refine ACalls.of_aw (Ω := []) (T := assoc []) mixed TblOk.nil Tryz.func57 (by kernel_rfl) (by rfl) (rs := [.tmp 4]) (by rfl) (by kernel_rfl) (by simp only [Tryz.ntmps57, yaz, yba]; decide) (Nat.le_refl _) fun hcl hlt => ?_
  change aw _ _ _ (KI Tryz.prog [] (aEnd Tryz.prog [.tmp 4] H.nx _ _ (assoc [])) []) _ _
  have hs1 := hlt (.slice m1 7 (xs.map recAV)) (by simp)
  have hs2 := hlt (.slice m2 7 (ys.map recAV)) (by simp)
  clear hlt
  simp only [go_sem, reduceCtorEq, Nat.reduceEqDiff, Nat.reduceAdd, Nat.reduceMul, Nat.reduceSub, Nat.reduceLeDiff, Nat.reduceLT, Int.reduceMul, Int.reduceAdd, Int.reduceSub, Int.reduceToNat, ybb, d0]
  refine loop_introW (A := Nat) (fun k => [(0, .slice m1 7 (xs.map recAV)), (1, .slice m2 7 (ys.map recAV)), (12, .int .i64 (xs.length : Int)), (13, .int .i64 (k : Int))]) (fun _ => H) (fun k => k ≤ xs.length ∧ eqL eqRec (xs.drop k) (ys.drop k) = R) (fun k => xs.length - k) 0 ⟨by omega, hR⟩ ?_ fun k hk => ?_
  · refine ⟨by simp only [zjy, zkd]; omega, AHeap.Le.refl _, hcl, ?_, ?_⟩
    · simp only [ltF, zmn, and_true, true_and]
      exact ⟨hs1, hs2⟩
    · simp [subW, wk2, wk1, wkM, Fr.get]
  obtain ⟨hk, hq⟩ := hk
  simp only [go_sem, reduceCtorEq, Nat.reduceEqDiff, Nat.reduceAdd, Nat.reduceMul, Nat.reduceSub, Nat.reduceLeDiff, Nat.reduceLT, Int.reduceMul, Int.reduceAdd, Int.reduceSub, Int.reduceToNat]
  refine cond_split (fun hc => ?_) (fun hc => ?_)
  · have hk' : k < xs.length := by simp at hc; omega
    have hk2 : k < ys.length := by omega
    obtain ⟨x, hx⟩ : ∃ x, x = xs[k] := ⟨_, rfl⟩
    obtain ⟨y, hy⟩ : ∃ y, y = ys[k] := ⟨_, rfl⟩
    have hd : xs.drop k = x :: xs.drop (k + 1) := by rw [hx]; exact List.drop_eq_getElem_cons hk'
    have hd2 : ys.drop k = y :: ys.drop (k + 1) := by rw [hy]; exact List.drop_eq_getElem_cons hk2
    have hg := getD_map (f := recAV) (l := xs) (k := k) (x := x) (by rw [List.getElem?_eq_getElem hk', hx])
    have hg2 := getD_map (f := recAV) (l := ys) (k := k) (x := y) (by rw [List.getElem?_eq_getElem hk2, hy])
    have e5 : IntKind.i64.wrap ((k : Int) + 1) = ((k + 1 : Nat) : Int) := by rw [wrap_i64] <;> omega
    rw [hd, hd2] at hq
    unfold eqL at hq
    simp only [go_sem, reduceCtorEq, Nat.reduceEqDiff, Nat.reduceAdd, Nat.reduceMul, Nat.reduceSub, Nat.reduceLeDiff, Nat.reduceLT, Int.reduceMul, Int.reduceAdd, Int.reduceSub, Int.reduceToNat, Int.toNat_natCast, ybb, hg, hg2, recAV, recC, teq_rec, eqg_rec, Bool.bne_false, Bool.bne_true]
    (repeat with_reducible refine And.intro (by first | assumption | decide | omega) ?_)
    refine cond_split (fun hb => ?_) (fun hb => ?_)
    · have hb' : eqRec x y = false := by first | (simpa using hb; done) | (simpa [eqRec] using hb)
      rw [hb', Bool.false_and] at hq
      rw [← hq]
      try simp only [go_sem, reduceCtorEq, Nat.reduceEqDiff, Nat.reduceAdd, Nat.reduceMul, Nat.reduceSub, Nat.reduceLeDiff, Nat.reduceLT, Int.reduceMul, Int.reduceAdd, Int.reduceSub, Int.reduceToNat]
      simp (disch := first | assumption | omega | (simp; done) | (simp; omega) | (simp only [bt, and_true]; first | done | omega | (simp; done))) [↓zlw, beq, ybc, ybd, ybe, endOk, wk, wk2, wk1, wkM, wkL, wkLL, ybf, hcl]
      first | done | repeat (first | exact AHeap.Le.refl _ | refine AHeap.Le.push ?_ _)
    · have hb' : eqRec x y = true := by first | (simpa using hb; done) | (simpa [eqRec] using hb)
      rw [hb', Bool.true_and] at hq
      simp only [go_sem, reduceCtorEq, Nat.reduceEqDiff, Nat.reduceAdd, Nat.reduceMul, Nat.reduceSub, Nat.reduceLeDiff, Nat.reduceLT, Int.reduceMul, Int.reduceAdd, Int.reduceSub, Int.reduceToNat, e5]
      refine ⟨k + 1, ⟨by omega, hq⟩, by omega, by (try simp only [zkm]); omega, by repeat (first | exact AHeap.Le.refl _ | refine AHeap.Le.push ?_ _), hcl, ?_, ?_⟩
      · simp only [ltF, zmn, and_true, true_and]
        exact ⟨hs1, hs2⟩
      · simp [subW, wk2, wk1, wkM, Fr.get]
  · have hk' : k = xs.length := by simp at hc; omega
    subst hk'
    rw [List.drop_length, hlen, List.drop_length] at hq
    rw [← hq]
    simp only [go_sem, reduceCtorEq, Nat.reduceEqDiff, Nat.reduceAdd, Nat.reduceMul, Nat.reduceSub, Nat.reduceLeDiff, Nat.reduceLT, Int.reduceMul, Int.reduceAdd, Int.reduceSub, Int.reduceToNat, eqL]
    simp (disch := first | assumption | omega | (simp; done) | (simp; omega) | (simp only [bt, and_true]; first | done | omega | (simp; done))) [↓zlw, beq, ybc, ybd, ybe, endOk, wk, wk2, wk1, wkM, wkL, wkLL, ybf, hcl]
def p_xSameRecs : List AV → AHeap → (AV → Prop) → Prop
  | [.slice _ 7 l, .slice _ 7 k], _, K => ∃ xs ys : List (SRec), (l = xs.map recAV ∧ k = ys.map recAV ∧ xs.length ≤ 140737488355328 ∧ ys.length ≤ 140737488355328 ∧ True) ∧ K (.bool (eqL eqRec xs ys))
  | _, _, _ => False
set_option maxHeartbeats 2000000 in
theorem ok_xSameRecs : EntOk Tryz.prog 59 (Ent.pure p_xSameRecs) := by
  refine EntOk.pure fun args H K h => ?_
  unfold p_xSameRecs at h
  split at h
  rotate_left
  · exact h.elim
  rename_i m1 l m2 k
  obtain ⟨xs, ys, ⟨rfl, rfl, hl1, hl2, ho⟩, hK⟩ := h
  clear ho
  refine ⟨_, hK, ?_⟩
  clear hK
  obtain ⟨R, hR⟩ : ∃ R, eqL eqRec xs ys = R := ⟨_, rfl⟩
  rw [hR]
  by_cases hlen : xs.length = ys.length
  case neg =>
    rw [eqL_len hlen] at hR
    subst hR
    have d0 : ((xs.length : Int) != (ys.length : Int)) = true := by rw [bne_iff_ne]; omega
    refine ACalls.of_aw (Ω := []) (T := assoc []) mixed TblOk.nil Tryz.func59 (by kernel_rfl) (by rfl) (rs := [.tmp 4]) (by rfl) (by kernel_rfl) (by simp only [Tryz.ntmps59, yaz, yba]; decide) (Nat.le_refl _) fun hcl hlt => ?_
    change aw _ _ _ (KI Tryz.prog [] (aEnd Tryz.prog [.tmp 4] H.nx _ _ (assoc [])) []) _ _
    clear hlt
    simp only [go_sem, reduceCtorEq, Nat.reduceEqDiff, Nat.reduceAdd, Nat.reduceMul, Nat.reduceSub, Nat.reduceLeDiff, Nat.reduceLT, Int.reduceMul, Int.reduceAdd, Int.reduceSub, Int.reduceToNat, ybb, d0]
    simp (disch := first | assumption | omega | (simp; done) | (simp; omega) | (simp only [bt, and_true]; first | done | omega | (simp; done))) [↓zlw, beq, ybc, ybd, ybe, endOk, wk, wk2, wk1, wkM, wkL, wkLL, ybf, hcl]
  have d0 : ((xs.length : Int) != (ys.length : Int)) = false := by rw [hlen]; simp
  refine ACalls.of_aw (Ω := []) (T := assoc []) mixed TblOk.nil Tryz.func59 (by kernel_rfl) (by rfl) (rs := [.tmp 4]) (by rfl) (by kernel_rfl) (by simp only [Tryz.ntmps59, yaz, yba]; decide) (Nat.le_refl _) fun hcl hlt => ?_
  change aw _ _ _ (KI Tryz.prog [] (aEnd Tryz.prog [.tmp 4] H.nx _ _ (assoc [])) []) _ _
  have hs1 := hlt (.slice m1 7 (xs.map recAV)) (by simp)
  have hs2 := hlt (.slice m2 7 (ys.map recAV)) (by simp)
  clear hlt
  simp only [go_sem, reduceCtorEq, Nat.reduceEqDiff, Nat.reduceAdd, Nat.reduceMul, Nat.reduceSub, Nat.reduceLeDiff, Nat.reduceLT, Int.reduceMul, Int.reduceAdd, Int.reduceSub, Int.reduceToNat, ybb, d0]
  refine loop_introW (A := Nat) (fun k => [(0, .slice m1 7 (xs.map recAV)), (1, .slice m2 7 (ys.map recAV)), (12, .int .i64 (xs.length : Int)), (13, .int .i64 (k : Int))]) (fun _ => H) (fun k => k ≤ xs.length ∧ eqL eqRec (xs.drop k) (ys.drop k) = R) (fun k => xs.length - k) 0 ⟨by omega, hR⟩ ?_ fun k hk => ?_
  · refine ⟨by simp only [zjy, zkd]; omega, AHeap.Le.refl _, hcl, ?_, ?_⟩
    · simp only [ltF, zmn, and_true, true_and]
      exact ⟨hs1, hs2⟩
    · simp [subW, wk2, wk1, wkM, Fr.get]
  obtain ⟨hk, hq⟩ := hk
  simp only [go_sem, reduceCtorEq, Nat.reduceEqDiff, Nat.reduceAdd, Nat.reduceMul, Nat.reduceSub, Nat.reduceLeDiff, Nat.reduceLT, Int.reduceMul, Int.reduceAdd, Int.reduceSub, Int.reduceToNat]
  refine cond_split (fun hc => ?_) (fun hc => ?_)
  · have hk' : k < xs.length := by simp at hc; omega
    have hk2 : k < ys.length := by omega
    obtain ⟨x, hx⟩ : ∃ x, x = xs[k] := ⟨_, rfl⟩
    obtain ⟨y, hy⟩ : ∃ y, y = ys[k] := ⟨_, rfl⟩
    have hd : xs.drop k = x :: xs.drop (k + 1) := by rw [hx]; exact List.drop_eq_getElem_cons hk'
    have hd2 : ys.drop k = y :: ys.drop (k + 1) := by rw [hy]; exact List.drop_eq_getElem_cons hk2
    have hg := getD_map (f := recAV) (l := xs) (k := k) (x := x) (by rw [List.getElem?_eq_getElem hk', hx])
    have hg2 := getD_map (f := recAV) (l := ys) (k := k) (x := y) (by rw [List.getElem?_eq_getElem hk2, hy])
    have e5 : IntKind.i64.wrap ((k : Int) + 1) = ((k + 1 : Nat) : Int) := by rw [wrap_i64] <;> omega
    rw [hd, hd2] at hq
    unfold eqL at hq
    simp only [go_sem, reduceCtorEq, Nat.reduceEqDiff, Nat.reduceAdd, Nat.reduceMul, Nat.reduceSub, Nat.reduceLeDiff, Nat.reduceLT, Int.reduceMul, Int.reduceAdd, Int.reduceSub, Int.reduceToNat, Int.toNat_natCast, ybb, hg, hg2, recAV, recC, teq_rec, eqg_rec, Bool.bne_false, Bool.bne_true]
    (repeat with_reducible refine And.intro (by first | assumption | decide | omega) ?_)
    refine cond_split (fun hb => ?_) (fun hb => ?_)
    · have hb' : eqRec x y = false := by first | (simpa using hb; done) | (simpa [eqRec] using hb)
      rw [hb', Bool.false_and] at hq
      rw [← hq]
      try simp only [go_sem, reduceCtorEq, Nat.reduceEqDiff, Nat.reduceAdd, Nat.reduceMul, Nat.reduceSub, Nat.reduceLeDiff, Nat.reduceLT, Int.reduceMul, Int.reduceAdd, Int.reduceSub, Int.reduceToNat]
      simp (disch := first | assumption | omega | (simp; done) | (simp; omega) | (simp only [bt, and_true]; first | done | omega | (simp; done))) [↓zlw, beq, ybc, ybd, ybe, endOk, wk, wk2, wk1, wkM, wkL, wkLL, ybf, hcl]
      first | done | repeat (first | exact AHeap.Le.refl _ | refine AHeap.Le.push ?_ _)
    · have hb' : eqRec x y = true := by first | (simpa using hb; done) | (simpa [eqRec] using hb)
      rw [hb', Bool.true_and] at hq
      simp only [go_sem, reduceCtorEq, Nat.reduceEqDiff, Nat.reduceAdd, Nat.reduceMul, Nat.reduceSub, Nat.reduceLeDiff, Nat.reduceLT, Int.reduceMul, Int.reduceAdd, Int.reduceSub, Int.reduceToNat, e5]
      refine ⟨k + 1, ⟨by omega, hq⟩, by omega, by (try simp only [zkm]); omega, by repeat (first | exact AHeap.Le.refl _ | refine AHeap.Le.push ?_ _), hcl, ?_, ?_⟩
      · simp only [ltF, zmn, and_true, true_and]
        exact ⟨hs1, hs2⟩
      · simp [subW, wk2, wk1, wkM, Fr.get]
  · have hk' : k = xs.length := by simp at hc; omega
    subst hk'
    rw [List.drop_length, hlen, List.drop_length] at hq
    rw [← hq]
    simp only [go_sem, reduceCtorEq, Nat.reduceEqDiff, Nat.reduceAdd, Nat.reduceMul, Nat.reduceSub, Nat.reduceLeDiff, Nat.reduceLT, Int.reduceMul, Int.reduceAdd, Int.reduceSub, Int.reduceToNat, eqL]
    simp (disch := first | assumption | omega | (simp; done) | (simp; omega) | (simp only [bt, and_true]; first | done | omega | (simp; done))) [↓zlw, beq, ybc, ybd, ybe, endOk, wk, wk2, wk1, wkM, wkL, wkLL, ybf, hcl]
def p_xSameAll : List AV → AHeap → (AV → Prop) → Prop
  | [.slice _ 5 l, .slice _ 5 k], _, K => ∃ xs ys : List (SEntry), (l = xs.map entryAV ∧ k = ys.map entryAV ∧ xs.length ≤ 140737488355328 ∧ ys.length ≤ 140737488355328 ∧ (∀ x ∈ xs, (COk) x) ∧ ∀ x ∈ ys, (COk) x) ∧ K (.bool (eqL eqE xs ys))
  | _, _, _ => False
set_option maxHeartbeats 2000000 in
theorem ok_xSameAll : EntOk Tryz.prog 58 (Ent.pure p_xSameAll) := by
  refine EntOk.pure fun args H K h => ?_
  unfold p_xSameAll at h
  split at h
  rotate_left
  · exact h.elim
  rename_i m1 l m2 k
  obtain ⟨xs, ys, ⟨rfl, rfl, hl1, hl2, ho⟩, hK⟩ := h
  obtain ⟨ho1, ho2⟩ := ho
  refine ⟨_, hK, ?_⟩
  clear hK
  obtain ⟨R, hR⟩ : ∃ R, eqL eqE xs ys = R := ⟨_, rfl⟩
  rw [hR]
  by_cases hlen : xs.length = ys.length
  case neg =>
    rw [eqL_len hlen] at hR
    subst hR
    have d0 : ((xs.length : Int) != (ys.length : Int)) = true := by rw [bne_iff_ne]; omega
    refine ACalls.of_aw (Ω := [(55, Ent.pure p_rSame10)]) (T := assoc [(6, [[], [], [], [], [], [], [], [], [3, 7]])]) mixed (TblOk.cons ok_rSame10 TblOk.nil) Tryz.func58 (by kernel_rfl) (by rfl) (rs := [.tmp 4]) (by rfl) (by kernel_rfl) (by simp only [Tryz.ntmps58, yaz, yba]; decide) (Nat.le_refl _) fun hcl hlt => ?_
    change aw _ _ _ (KI Tryz.prog [(55, Ent.pure p_rSame10)] (aEnd Tryz.prog [.tmp 4] H.nx _ _ (assoc [(6, [[], [], [], [], [], [], [], [], [3, 7]])])) []) _ _
    clear hlt
    simp only [go_sem, reduceCtorEq, Nat.reduceEqDiff, Nat.reduceAdd, Nat.reduceMul, Nat.reduceSub, Nat.reduceLeDiff, Nat.reduceLT, Int.reduceMul, Int.reduceAdd, Int.reduceSub, Int.reduceToNat, ybb, d0]
    simp (disch := first | assumption | omega | (simp; done) | (simp; omega) | (simp only [bt, and_true]; first | done | omega | (simp; done))) [↓zlw, beq, ybc, ybd, ybe, endOk, wk, wk2, wk1, wkM, wkL, wkLL, ybf, hcl]
  have d0 : ((xs.length : Int) != (ys.length : Int)) = false := by rw [hlen]; simp
  refine ACalls.of_aw (Ω := [(55, Ent.pure p_rSame10)]) (T := assoc [(6, [[], [], [], [], [], [], [], [], [3, 7]])]) mixed (TblOk.cons ok_rSame10 TblOk.nil) Tryz.func58 (by kernel_rfl) (by rfl) (rs := [.tmp 4]) (by rfl) (by kernel_rfl) (by simp only [Tryz.ntmps58, yaz, yba]; decide) (Nat.le_refl _) fun hcl hlt => ?_
  change aw _ _ _ (KI Tryz.prog [(55, Ent.pure p_rSame10)] (aEnd Tryz.prog [.tmp 4] H.nx _ _ (assoc [(6, [[], [], [], [], [], [], [], [], [3, 7]])])) []) _ _
  have hs1 := hlt (.slice m1 5 (xs.map entryAV)) (by simp)
  have hs2 := hlt (.slice m2 5 (ys.map entryAV)) (by simp)
  clear hlt
  simp only [go_sem, reduceCtorEq, Nat.reduceEqDiff, Nat.reduceAdd, Nat.reduceMul, Nat.reduceSub, Nat.reduceLeDiff, Nat.reduceLT, Int.reduceMul, Int.reduceAdd, Int.reduceSub, Int.reduceToNat, ybb, d0]
  refine loop_introW (A := Nat) (fun k => [(0, .slice m1 5 (xs.map entryAV)), (1, .slice m2 5 (ys.map entryAV)), (12, .int .i64 (xs.length : Int)), (13, .int .i64 (k : Int))]) (fun _ => H) (fun k => k ≤ xs.length ∧ eqL eqE (xs.drop k) (ys.drop k) = R) (fun k => xs.length - k) 0 ⟨by omega, hR⟩ ?_ fun k hk => ?_
  · refine ⟨by simp only [zjy, zkd]; omega, AHeap.Le.refl _, hcl, ?_, ?_⟩
    · simp only [ltF, zmn, and_true, true_and]
      exact ⟨hs1, hs2⟩
    · simp [subW, wk2, wk1, wkM, Fr.get]
  obtain ⟨hk, hq⟩ := hk
  simp only [go_sem, reduceCtorEq, Nat.reduceEqDiff, Nat.reduceAdd, Nat.reduceMul, Nat.reduceSub, Nat.reduceLeDiff, Nat.reduceLT, Int.reduceMul, Int.reduceAdd, Int.reduceSub, Int.reduceToNat]
  refine cond_split (fun hc => ?_) (fun hc => ?_)
  · have hk' : k < xs.length := by simp at hc; omega
    have hk2 : k < ys.length := by omega
    obtain ⟨x, hx⟩ : ∃ x, x = xs[k] := ⟨_, rfl⟩
    obtain ⟨y, hy⟩ : ∃ y, y = ys[k] := ⟨_, rfl⟩
    have hd : xs.drop k = x :: xs.drop (k + 1) := by rw [hx]; exact List.drop_eq_getElem_cons hk'
    have hd2 : ys.drop k = y :: ys.drop (k + 1) := by rw [hy]; exact List.drop_eq_getElem_cons hk2
    have hg := getD_map (f := entryAV) (l := xs) (k := k) (x := x) (by rw [List.getElem?_eq_getElem hk', hx])
    have hg2 := getD_map (f := entryAV) (l := ys) (k := k) (x := y) (by rw [List.getElem?_eq_getElem hk2, hy])
    have e5 : IntKind.i64.wrap ((k : Int) + 1) = ((k + 1 : Nat) : Int) := by rw [wrap_i64] <;> omega
    rw [hd, hd2] at hq
    unfold eqL at hq
    simp only [go_sem, reduceCtorEq, Nat.reduceEqDiff, Nat.reduceAdd, Nat.reduceMul, Nat.reduceSub, Nat.reduceLeDiff, Nat.reduceLT, Int.reduceMul, Int.reduceAdd, Int.reduceSub, Int.reduceToNat, Int.toNat_natCast, ybb, hg, hg2, entryAV, entryC, p_rSame10]
    (repeat with_reducible refine And.intro (by first | assumption | decide | omega) ?_)
    refine ⟨x, y, ⟨rfl, rfl, ho1 x (by rw [hx]; exact List.getElem_mem hk'), ho2 y (by rw [hy]; exact List.getElem_mem hk2)⟩, ?_⟩
    try simp only [go_sem, reduceCtorEq, Nat.reduceEqDiff, Nat.reduceAdd, Nat.reduceMul, Nat.reduceSub, Nat.reduceLeDiff, Nat.reduceLT, Int.reduceMul, Int.reduceAdd, Int.reduceSub, Int.reduceToNat]
    refine cond_split (fun hb => ?_) (fun hb => ?_)
    · have hb' : eqE x y = false := by first | (simpa using hb; done) | (simpa [eqE] using hb)
      rw [hb', Bool.false_and] at hq
      rw [← hq]
      try simp only [go_sem, reduceCtorEq, Nat.reduceEqDiff, Nat.reduceAdd, Nat.reduceMul, Nat.reduceSub, Nat.reduceLeDiff, Nat.reduceLT, Int.reduceMul, Int.reduceAdd, Int.reduceSub, Int.reduceToNat]
      simp (disch := first | assumption | omega | (simp; done) | (simp; omega) | (simp only [bt, and_true]; first | done | omega | (simp; done))) [↓zlw, beq, ybc, ybd, ybe, endOk, wk, wk2, wk1, wkM, wkL, wkLL, ybf, hcl]
      first | done | repeat (first | exact AHeap.Le.refl _ | refine AHeap.Le.push ?_ _)
    · have hb' : eqE x y = true := by first | (simpa using hb; done) | (simpa [eqE] using hb)
      rw [hb', Bool.true_and] at hq
      simp only [go_sem, reduceCtorEq, Nat.reduceEqDiff, Nat.reduceAdd, Nat.reduceMul, Nat.reduceSub, Nat.reduceLeDiff, Nat.reduceLT, Int.reduceMul, Int.reduceAdd, Int.reduceSub, Int.reduceToNat, e5]
      refine ⟨k + 1, ⟨by omega, hq⟩, by omega, by (try simp only [zkm]); omega, by repeat (first | exact AHeap.Le.refl _ | refine AHeap.Le.push ?_ _), hcl, ?_, ?_⟩
      · simp only [ltF, zmn, and_true, true_and]
        exact ⟨hs1, hs2⟩
      · simp [subW, wk2, wk1, wkM, Fr.get]
  · have hk' : k = xs.length := by simp at hc; omega
    subst hk'
    rw [List.drop_length, hlen, List.drop_length] at hq
    rw [← hq]
    simp only [go_sem, reduceCtorEq, Nat.reduceEqDiff, Nat.reduceAdd, Nat.reduceMul, Nat.reduceSub, Nat.reduceLeDiff, Nat.reduceLT, Int.reduceMul, Int.reduceAdd, Int.reduceSub, Int.reduceToNat, eqL]
    simp (disch := first | assumption | omega | (simp; done) | (simp; omega) | (simp only [bt, and_true]; first | done | omega | (simp; done))) [↓zlw, beq, ybc, ybd, ybe, endOk, wk, wk2, wk1, wkM, wkL, wkLL, ybf, hcl]
end Go.AL


open Go Go.AL Go.Proofs
namespace Go.AL
set_option linter.all false
set_option maxRecDepth 10000

structure SResp where
  code : Int
  fail : Int
  prim : Bool
  ents : List SEntry
  recs : List SRec
  drop : Bool
  reas : Int
  port : Int
  data : List UInt8
def respC (r : SResp) : List AV := [.int .i64 r.code, .int .i64 r.fail, .bool r.prim, .slice .any 5 (r.ents.map entryAV), .slice .any 7 (r.recs.map recAV), .bool r.drop, .int .i64 r.reas, .int .i64 r.port, .slice .any 1 (bys r.data)]
def respAV (r : SResp) : AV := .agg (respC r)
theorem lt_resp {n : Nat} (r : SResp) : AV.lt n (respAV r) := by
  have h1 : AV.lt n (.slice .any 5 (r.ents.map entryAV)) := lt_map lt_entry
  have h2 : AV.lt n (.slice .any 7 (r.recs.map recAV)) := lt_map lt_rec
  simp only [respAV, respC, zmz, znc, znd, zmn, zmo, h1, h2, zma, and_true, true_and]
  intro i e; cases e
/-- a response whose parts may be compared -/
structure PC (r : SResp) : Prop where
  el : r.ents.length ≤ 140737488355328
  rl : r.recs.length ≤ 140737488355328
  eo : ∀ e ∈ r.ents, COk e
def eqP (r s : SResp) : Bool := (r.code == s.code) && (r.fail == s.fail) && (r.prim == s.prim) && (eqL eqE r.ents s.ents) && (eqL eqRec r.recs s.recs) && (r.drop == s.drop) && (r.reas == s.reas) && (r.port == s.port) && (r.data == s.data)
def p_EqEnts : List AV → AHeap → (AV → Prop) → Prop
  | [.slice _ 5 l, .slice _ 5 k, .func (.func 52) [] []], _, K => ∃ xs ys : List (SEntry), (l = xs.map entryAV ∧ k = ys.map entryAV ∧ xs.length ≤ 140737488355328 ∧ ys.length ≤ 140737488355328 ∧ (∀ x ∈ xs, (COk) x) ∧ ∀ x ∈ ys, (COk) x) ∧ K (.bool (eqL eqE xs ys))
  | _, _, _ => False
set_option maxHeartbeats 2000000 in
theorem ok_EqEnts : EntOk Tryz.prog 56 (Ent.pure p_EqEnts) := by
  refine EntOk.pure fun args H K h => ?_
  unfold p_EqEnts at h
  split at h
  rotate_left
  · exact h.elim
  rename_i m1 l m2 k
  obtain ⟨xs, ys, ⟨rfl, rfl, hl1, hl2, ho1, ho2⟩, hK⟩ := h
  refine ⟨_, hK, ?_⟩
  clear hK
  obtain ⟨R, hR⟩ : ∃ R, eqL eqE xs ys = R := ⟨_, rfl⟩
  rw [hR]
  by_cases hlen : xs.length = ys.length
  case neg =>
    rw [eqL_len hlen] at hR
    subst hR
    have d0 : ((xs.length : Int) != (ys.length : Int)) = true := by rw [bne_iff_ne]; omega
    refine ACalls.of_aw (Ω := [(52, Ent.pure p_eSame)]) (T := assoc []) mixed (TblOk.cons ok_eSame TblOk.nil) Tryz.func56 (by kernel_rfl) (by rfl) (rs := [.tmp 6]) (by rfl) (by kernel_rfl) (by simp only [Tryz.ntmps56, yaz, yba]; decide) (Nat.le_refl _) fun hcl hlt => ?_
    change aw _ _ _ (KI Tryz.prog [(52, Ent.pure p_eSame)] (aEnd Tryz.prog [.tmp 6] H.nx _ _ (assoc [])) []) _ _
    clear hlt
    simp only [go_sem, reduceCtorEq, Nat.reduceEqDiff, Nat.reduceAdd, Nat.reduceMul, Nat.reduceSub, Nat.reduceLeDiff, Nat.reduceLT, Int.reduceMul, Int.reduceAdd, Int.reduceSub, Int.reduceToNat, ybb, d0]
    simp (disch := first | assumption | omega | (simp; done) | (simp; omega) | (simp only [bt, and_true]; first | done | omega | (simp; done))) [↓zlw, beq, ybc, ybd, ybe, endOk, wk, wk2, wk1, wkM, wkL, wkLL, ybf, hcl]
  have d0 : ((xs.length : Int) != (ys.length : Int)) = false := by rw [hlen]; simp
  refine ACalls.of_aw (Ω := [(52, Ent.pure p_eSame)]) (T := assoc []) mixed (TblOk.cons ok_eSame TblOk.nil) Tryz.func56 (by kernel_rfl) (by rfl) (rs := [.tmp 6]) (by rfl) (by kernel_rfl) (by simp only [Tryz.ntmps56, yaz, yba]; decide) (Nat.le_refl _) fun hcl hlt => ?_
  change aw _ _ _ (KI Tryz.prog [(52, Ent.pure p_eSame)] (aEnd Tryz.prog [.tmp 6] H.nx _ _ (assoc [])) []) _ _
  have hs1 := hlt (.slice m1 5 (xs.map entryAV)) (by simp)
  have hs2 := hlt (.slice m2 5 (ys.map entryAV)) (by simp)
  have hf : AV.lt H.nx (.func (.func 52) [] []) := hlt _ (by simp)
  clear hlt
  simp only [go_sem, reduceCtorEq, Nat.reduceEqDiff, Nat.reduceAdd, Nat.reduceMul, Nat.reduceSub, Nat.reduceLeDiff, Nat.reduceLT, Int.reduceMul, Int.reduceAdd, Int.reduceSub, Int.reduceToNat, ybb, d0]
  refine loop_introW (A := Nat) (fun k => [(1, .slice m2 5 (ys.map entryAV)), (2, .func (.func 52) [] []), (15, .slice m1 5 (xs.map entryAV)), (16, .int .i64 (xs.length : Int)), (17, .int .i64 (k : Int))]) (fun _ => H) (fun k => k ≤ xs.length ∧ eqL eqE (xs.drop k) (ys.drop k) = R) (fun k => xs.length - k) 0 ⟨by omega, hR⟩ ?_ fun k hk => ?_
  · refine ⟨by simp only [zjy, zkd]; omega, AHeap.Le.refl _, hcl, ?_, ?_⟩
    · simp only [ltF, zmn, and_true, true_and]
      exact ⟨hs2, hf, hs1⟩
    · simp [subW, wk2, wk1, wkM, Fr.get]
  obtain ⟨hk, hq⟩ := hk
  simp only [go_sem, reduceCtorEq, Nat.reduceEqDiff, Nat.reduceAdd, Nat.reduceMul, Nat.reduceSub, Nat.reduceLeDiff, Nat.reduceLT, Int.reduceMul, Int.reduceAdd, Int.reduceSub, Int.reduceToNat]
  refine cond_split (fun hc => ?_) (fun hc => ?_)
  · have hk' : k < xs.length := by simp at hc; omega
    have hk2 : k < ys.length := by omega
    obtain ⟨x, hx⟩ : ∃ x, x = xs[k] := ⟨_, rfl⟩
    obtain ⟨y, hy⟩ : ∃ y, y = ys[k] := ⟨_, rfl⟩
    have hd : xs.drop k = x :: xs.drop (k + 1) := by rw [hx]; exact List.drop_eq_getElem_cons hk'
    have hd2 : ys.drop k = y :: ys.drop (k + 1) := by rw [hy]; exact List.drop_eq_getElem_cons hk2
    have hg := getD_map (f := entryAV) (l := xs) (k := k) (x := x) (by rw [List.getElem?_eq_getElem hk', hx])
    have hg2 := getD_map (f := entryAV) (l := ys) (k := k) (x := y) (by rw [List.getElem?_eq_getElem hk2, hy])
    have e5 : IntKind.i64.wrap ((k : Int) + 1) = ((k + 1 : Nat) : Int) := by rw [wrap_i64] <;> omega
    have hox := ho1 x (by rw [hx]; exact List.getElem_mem hk')
    have hoy := ho2 y (by rw [hy]; exact List.getElem_mem hk2)
    rw [hd, hd2] at hq
    unfold eqL at hq
    simp only [go_sem, reduceCtorEq, Nat.reduceEqDiff, Nat.reduceAdd, Nat.reduceMul, Nat.reduceSub, Nat.reduceLeDiff, Nat.reduceLT, Int.reduceMul, Int.reduceAdd, Int.reduceSub, Int.reduceToNat, Int.toNat_natCast, ybb, hg, hg2, entryAV, entryC, entryC, p_eSame]
    (repeat with_reducible refine And.intro (by first | assumption | decide | omega) ?_)
    refine ⟨x, y, ⟨rfl, rfl, hox, hoy⟩, ?_⟩
    try simp only [same_cmp]
    try simp only [go_sem, reduceCtorEq, Nat.reduceEqDiff, Nat.reduceAdd, Nat.reduceMul, Nat.reduceSub, Nat.reduceLeDiff, Nat.reduceLT, Int.reduceMul, Int.reduceAdd, Int.reduceSub, Int.reduceToNat]
    refine cond_split (fun hb => ?_) (fun hb => ?_)
    · have hb' : eqE x y = false := by simpa [eqE] using hb
      rw [hb', Bool.false_and] at hq
      rw [← hq]
      try simp only [go_sem, reduceCtorEq, Nat.reduceEqDiff, Nat.reduceAdd, Nat.reduceMul, Nat.reduceSub, Nat.reduceLeDiff, Nat.reduceLT, Int.reduceMul, Int.reduceAdd, Int.reduceSub, Int.reduceToNat]
      simp (disch := first | assumption | omega | (simp; done) | (simp; omega) | (simp only [bt, and_true]; first | done | omega | (simp; done))) [↓zlw, beq, ybc, ybd, ybe, endOk, wk, wk2, wk1, wkM, wkL, wkLL, ybf, hcl]
      first | done | repeat (first | exact AHeap.Le.refl _ | refine AHeap.Le.push ?_ _)
    · have hb' : eqE x y = true := by simpa [eqE] using hb
      rw [hb', Bool.true_and] at hq
      simp only [go_sem, reduceCtorEq, Nat.reduceEqDiff, Nat.reduceAdd, Nat.reduceMul, Nat.reduceSub, Nat.reduceLeDiff, Nat.reduceLT, Int.reduceMul, Int.reduceAdd, Int.reduceSub, Int.reduceToNat, e5]
      refine ⟨k + 1, ⟨by omega, hq⟩, by omega, by (try simp only [zkm]); omega, by repeat (first | exact AHeap.Le.refl _ | refine AHeap.Le.push ?_ _), hcl, ?_, ?_⟩
      · simp only [ltF, zmn, and_true, true_and]
        exact ⟨hs2, hf, hs1⟩
      · simp [subW, wk2, wk1, wkM, Fr.get]
  · have hk' : k = xs.length := by simp at hc; omega
    subst hk'
    rw [List.drop_length, hlen, List.drop_length] at hq
    rw [← hq]
    simp only [go_sem, reduceCtorEq, Nat.reduceEqDiff, Nat.reduceAdd, Nat.reduceMul, Nat.reduceSub, Nat.reduceLeDiff, Nat.reduceLT, Int.reduceMul, Int.reduceAdd, Int.reduceSub, Int.reduceToNat, eqL]
    simp (disch := first | assumption | omega | (simp; done) | (simp; omega) | (simp only [bt, and_true]; first | done | omega | (simp; done))) [↓zlw, beq, ybc, ybd, ybe, endOk, wk, wk2, wk1, wkM, wkL, wkLL, ybf, hcl]
def p_xSameOut : List AV → AHeap → (AV → Prop) → Prop
  | [.agg [.bool d, .int .i64 e, .int .i64 f, .slice _ 1 l], .agg [.bool d', .int .i64 e', .int .i64 f', .slice _ 1 l']], _, K => ∃ a b : List UInt8, (l = bys a ∧ l' = bys b) ∧ K (.bool ((d == d') && ((e == e') && ((f == f') && (a == b)))))
  | _, _, _ => False
theorem ok_xSameOut : EntOk Tryz.prog 60 (Ent.pure p_xSameOut) := by
  refine EntOk.pure fun args H K h => ?_
  unfold p_xSameOut at h
  split at h
  rotate_left
  · exact h.elim
  rename_i d e f m1 l d' e' f' m2 l'
  obtain ⟨a, b, ⟨rfl, rfl⟩, hK⟩ := h
  refine ⟨_, hK, ?_⟩
  clear hK
  cases h1 : (d == d')
  case' true => cases h2 : (e == e')
  case' true.true => cases h3 : (f == f')
  all_goals
    simp only [Bool.false_and, Bool.true_and, Bool.and_false]
    refine ACalls.of_aw (Ω := []) (T := assoc []) mixed TblOk.nil Tryz.func60 (by kernel_rfl) (by rfl) (rs := [.tmp 4]) (by rfl) (by kernel_rfl) (by simp only [Tryz.ntmps60, yaz, yba]; decide) (Nat.le_refl _) fun hcl hlt => ?_
    change aw _ _ _ (KI Tryz.prog [] (aEnd Tryz.prog [.tmp 4] H.nx _ _ (assoc [])) []) _ _
    clear hlt
    first | simp only [go_sem, reduceCtorEq, Nat.reduceEqDiff, Nat.reduceAdd, Nat.reduceMul, Nat.reduceSub, Nat.reduceLeDiff, Nat.reduceLT, Int.reduceMul, Int.reduceAdd, Int.reduceSub, Int.reduceToNat, byq, Bool.bne_false, Bool.bne_true, h1, h2, h3] | simp only [go_sem, reduceCtorEq, Nat.reduceEqDiff, Nat.reduceAdd, Nat.reduceMul, Nat.reduceSub, Nat.reduceLeDiff, Nat.reduceLT, Int.reduceMul, Int.reduceAdd, Int.reduceSub, Int.reduceToNat, byq, Bool.bne_false, Bool.bne_true, h1, h2] | simp only [go_sem, reduceCtorEq, Nat.reduceEqDiff, Nat.reduceAdd, Nat.reduceMul, Nat.reduceSub, Nat.reduceLeDiff, Nat.reduceLT, Int.reduceMul, Int.reduceAdd, Int.reduceSub, Int.reduceToNat, byq, Bool.bne_false, Bool.bne_true, h1]
    simp (disch := first | assumption | omega | (simp; done) | (simp; omega) | (simp only [bt, and_true]; first | done | omega | (simp; done))) [↓zlw, beq, ybc, ybd, ybe, endOk, wk, wk2, wk1, wkM, wkL, wkLL, ybf, hcl]
    first | done | repeat (first | exact AHeap.Le.refl _ | refine AHeap.Le.push ?_ _)
def p_mSameP : List AV → AHeap → (AV → Prop) → Prop
  | [.agg l, .agg k], _, K => ∃ r s : SResp, (l = respC r ∧ k = respC s ∧ PC r ∧ PC s) ∧ K (.bool (eqP r s))
  | _, _, _ => False
set_option maxHeartbeats 4000000 in
theorem ok_mSameP : EntOk Tryz.prog 20 (Ent.pure p_mSameP) := by
  refine EntOk.pure fun args H K h => ?_
  unfold p_mSameP at h
  split at h
  rotate_left
  · exact h.elim
  rename_i l k
  obtain ⟨r, s, ⟨rfl, rfl, hr, hs⟩, hK⟩ := h
  refine ⟨_, hK, ?_⟩
  clear hK
  obtain ⟨R, hR⟩ : ∃ R, eqP r s = R := ⟨_, rfl⟩
  rw [hR]
  unfold eqP at hR
  cases h0 : (r.code == s.code)
  · simp only [h0, Bool.false_and, Bool.and_false, Bool.true_and] at hR
    subst hR
    refine ACalls.of_aw (Ω := [(56, Ent.pure p_EqEnts), (57, Ent.pure p_rEqual), (54, Ent.pure p_bEqual)]) (T := assoc [(1, [[], [], [], [], [], [], [1, 4, 5], [1, 3, 4, 5]]), (801, [[4, 54], [5, 54]])]) mixed (TblOk.cons ok_EqEnts (TblOk.cons ok_rEqual (TblOk.cons ok_bEqual TblOk.nil))) Tryz.func20 (by kernel_rfl) (by rfl) (rs := [.tmp 4]) (by rfl) (by kernel_rfl) (by simp only [Tryz.ntmps20, yaz, yba]; decide) (Nat.le_refl _) fun hcl hlt => ?_
    change aw _ _ _ (KI Tryz.prog [(56, Ent.pure p_EqEnts), (57, Ent.pure p_rEqual), (54, Ent.pure p_bEqual)] (aEnd Tryz.prog [.tmp 4] H.nx _ _ (assoc [(1, [[], [], [], [], [], [], [1, 4, 5], [1, 3, 4, 5]]), (801, [[4, 54], [5, 54]])])) []) _ _
    clear hlt
    try simp only [List.append_eq, yal, yak]
    simp only [go_sem, reduceCtorEq, Nat.reduceEqDiff, Nat.reduceAdd, Nat.reduceMul, Nat.reduceSub, Nat.reduceLeDiff, Nat.reduceLT, Int.reduceMul, Int.reduceAdd, Int.reduceSub, Int.reduceToNat, byq, Bool.bne_false, Bool.bne_true, p_EqEnts, p_rEqual, p_bEqual, respC, h0]
    simp (disch := first | assumption | omega | (simp; done) | (simp; omega) | (simp only [bt, and_true]; first | done | omega | (simp; done))) [↓zlw, beq, ybc, ybd, ybe, endOk, wk, wk2, wk1, wkM, wkL, wkLL, ybf, hcl]
    first | done | repeat (first | exact AHeap.Le.refl _ | refine AHeap.Le.push ?_ _)
  cases h1 : (r.fail == s.fail)
  · simp only [h0, h1, Bool.false_and, Bool.and_false, Bool.true_and] at hR
    subst hR
    refine ACalls.of_aw (Ω := [(56, Ent.pure p_EqEnts), (57, Ent.pure p_rEqual), (54, Ent.pure p_bEqual)]) (T := assoc [(1, [[], [], [], [], [], [], [1, 4, 5], [1, 3, 4, 5]]), (801, [[4, 54], [5, 54]])]) mixed (TblOk.cons ok_EqEnts (TblOk.cons ok_rEqual (TblOk.cons ok_bEqual TblOk.nil))) Tryz.func20 (by kernel_rfl) (by rfl) (rs := [.tmp 4]) (by rfl) (by kernel_rfl) (by simp only [Tryz.ntmps20, yaz, yba]; decide) (Nat.le_refl _) fun hcl hlt => ?_
    change aw _ _ _ (KI Tryz.prog [(56, Ent.pure p_EqEnts), (57, Ent.pure p_rEqual), (54, Ent.pure p_bEqual)] (aEnd Tryz.prog [.tmp 4] H.nx _ _ (assoc [(1, [[], [], [], [], [], [], [1, 4, 5], [1, 3, 4, 5]]), (801, [[4, 54], [5, 54]])])) []) _ _
    clear hlt
    try simp only [List.append_eq, yal, yak]
    simp only [go_sem, reduceCtorEq, Nat.reduceEqDiff, Nat.reduceAdd, Nat.reduceMul, Nat.reduceSub, Nat.reduceLeDiff, Nat.reduceLT, Int.reduceMul, Int.reduceAdd, Int.reduceSub, Int.reduceToNat, byq, Bool.bne_false, Bool.bne_true, p_EqEnts, p_rEqual, p_bEqual, respC, h0, h1]
    simp (disch := first | assumption | omega | (simp; done) | (simp; omega) | (simp only [bt, and_true]; first | done | omega | (simp; done))) [↓zlw, beq, ybc, ybd, ybe, endOk, wk, wk2, wk1, wkM, wkL, wkLL, ybf, hcl]
    first | done | repeat (first | exact AHeap.Le.refl _ | refine AHeap.Le.push ?_ _)
  cases h2 : (r.prim == s.prim)
  · simp only [h0, h1, h2, Bool.false_and, Bool.and_false, Bool.true_and] at hR
    subst hR
    refine ACalls.of_aw (Ω := [(56, Ent.pure p_EqEnts), (57, Ent.pure p_rEqual), (54, Ent.pure p_bEqual)]) (T := assoc [(1, [[], [], [], [], [], [], [1, 4, 5], [1, 3, 4, 5]]), (801, [[4, 54], [5, 54]])]) mixed (TblOk.cons ok_EqEnts (TblOk.cons ok_rEqual (TblOk.cons ok_bEqual TblOk.nil))) Tryz.func20 (by kernel_rfl) (by rfl) (rs := [.tmp 4]) (by rfl) (by kernel_rfl) (by simp only [Tryz.ntmps20, yaz, yba]; decide) (Nat.le_refl _) fun hcl hlt => ?_
    change aw _ _ _ (KI Tryz.prog [(56, Ent.pure p_EqEnts), (57, Ent.pure p_rEqual), (54, Ent.pure p_bEqual)] (aEnd Tryz.prog [.tmp 4] H.nx _ _ (assoc [(1, [[], [], [], [], [], [], [1, 4, 5], [1, 3, 4, 5]]), (801, [[4, 54], [5, 54]])])) []) _ _
    clear hlt
    try simp only [List.append_eq, yal, yak]
    simp only [go_sem, reduceCtorEq, Nat.reduceEqDiff, Nat.reduceAdd, Nat.reduceMul, Nat.reduceSub, Nat.reduceLeDiff, Nat.reduceLT, Int.reduceMul, Int.reduceAdd, Int.reduceSub, Int.reduceToNat, byq, Bool.bne_false, Bool.bne_true, p_EqEnts, p_rEqual, p_bEqual, respC, h0, h1, h2]
    simp (disch := first | assumption | omega | (simp; done) | (simp; omega) | (simp only [bt, and_true]; first | done | omega | (simp; done))) [↓zlw, beq, ybc, ybd, ybe, endOk, wk, wk2, wk1, wkM, wkL, wkLL, ybf, hcl]
    first | done | repeat (first | exact AHeap.Le.refl _ | refine AHeap.Le.push ?_ _)
  cases h3 : (eqL eqE r.ents s.ents)
  · simp only [h0, h1, h2, h3, Bool.false_and, Bool.and_false, Bool.true_and] at hR
    subst hR
    refine ACalls.of_aw (Ω := [(56, Ent.pure p_EqEnts), (57, Ent.pure p_rEqual), (54, Ent.pure p_bEqual)]) (T := assoc [(1, [[], [], [], [], [], [], [1, 4, 5], [1, 3, 4, 5]]), (801, [[4, 54], [5, 54]])]) mixed (TblOk.cons ok_EqEnts (TblOk.cons ok_rEqual (TblOk.cons ok_bEqual TblOk.nil))) Tryz.func20 (by kernel_rfl) (by rfl) (rs := [.tmp 4]) (by rfl) (by kernel_rfl) (by simp only [Tryz.ntmps20, yaz, yba]; decide) (Nat.le_refl _) fun hcl hlt => ?_
    change aw _ _ _ (KI Tryz.prog [(56, Ent.pure p_EqEnts), (57, Ent.pure p_rEqual), (54, Ent.pure p_bEqual)] (aEnd Tryz.prog [.tmp 4] H.nx _ _ (assoc [(1, [[], [], [], [], [], [], [1, 4, 5], [1, 3, 4, 5]]), (801, [[4, 54], [5, 54]])])) []) _ _
    clear hlt
    try simp only [List.append_eq, yal, yak]
    simp only [go_sem, reduceCtorEq, Nat.reduceEqDiff, Nat.reduceAdd, Nat.reduceMul, Nat.reduceSub, Nat.reduceLeDiff, Nat.reduceLT, Int.reduceMul, Int.reduceAdd, Int.reduceSub, Int.reduceToNat, byq, Bool.bne_false, Bool.bne_true, p_EqEnts, p_rEqual, p_bEqual, respC, h0, h1, h2, h3]
    refine ⟨r.ents, s.ents, ⟨rfl, rfl, hr.el, hs.el, hr.eo, hs.eo⟩, ?_⟩
    try simp only [go_sem, reduceCtorEq, Nat.reduceEqDiff, Nat.reduceAdd, Nat.reduceMul, Nat.reduceSub, Nat.reduceLeDiff, Nat.reduceLT, Int.reduceMul, Int.reduceAdd, Int.reduceSub, Int.reduceToNat, byq, Bool.bne_false, Bool.bne_true, p_EqEnts, p_rEqual, p_bEqual, h0, h1, h2, h3]
    simp (disch := first | assumption | omega | (simp; done) | (simp; omega) | (simp only [bt, and_true]; first | done | omega | (simp; done))) [↓zlw, beq, ybc, ybd, ybe, endOk, wk, wk2, wk1, wkM, wkL, wkLL, ybf, hcl]
    first | done | repeat (first | exact AHeap.Le.refl _ | refine AHeap.Le.push ?_ _)
  cases h4 : (eqL eqRec r.recs s.recs)
  · simp only [h0, h1, h2, h3, h4, Bool.false_and, Bool.and_false, Bool.true_and] at hR
    subst hR
    refine ACalls.of_aw (Ω := [(56, Ent.pure p_EqEnts), (57, Ent.pure p_rEqual), (54, Ent.pure p_bEqual)]) (T := assoc [(1, [[], [], [], [], [], [], [1, 4, 5], [1, 3, 4, 5]]), (801, [[4, 54], [5, 54]])]) mixed (TblOk.cons ok_EqEnts (TblOk.cons ok_rEqual (TblOk.cons ok_bEqual TblOk.nil))) Tryz.func20 (by kernel_rfl) (by rfl) (rs := [.tmp 4]) (by rfl) (by kernel_rfl) (by simp only [Tryz.ntmps20, yaz, yba]; decide) (Nat.le_refl _) fun hcl hlt => ?_
    change aw _ _ _ (KI Tryz.prog [(56, Ent.pure p_EqEnts), (57, Ent.pure p_rEqual), (54, Ent.pure p_bEqual)] (aEnd Tryz.prog [.tmp 4] H.nx _ _ (assoc [(1, [[], [], [], [], [], [], [1, 4, 5], [1, 3, 4, 5]]), (801, [[4, 54], [5, 54]])])) []) _ _
    clear hlt
    try simp only [List.append_eq, yal, yak]
    simp only [go_sem, reduceCtorEq, Nat.reduceEqDiff, Nat.reduceAdd, Nat.reduceMul, Nat.reduceSub, Nat.reduceLeDiff, Nat.reduceLT, Int.reduceMul, Int.reduceAdd, Int.reduceSub, Int.reduceToNat, byq, Bool.bne_false, Bool.bne_true, p_EqEnts, p_rEqual, p_bEqual, respC, h0, h1, h2, h3, h4]
    refine ⟨r.ents, s.ents, ⟨rfl, rfl, hr.el, hs.el, hr.eo, hs.eo⟩, ?_⟩
    try simp only [go_sem, reduceCtorEq, Nat.reduceEqDiff, Nat.reduceAdd, Nat.reduceMul, Nat.reduceSub, Nat.reduceLeDiff, Nat.reduceLT, Int.reduceMul, Int.reduceAdd, Int.reduceSub, Int.reduceToNat, byq, Bool.bne_false, Bool.bne_true, p_EqEnts, p_rEqual, p_bEqual, h0, h1, h2, h3, h4]
    refine ⟨r.recs, s.recs, by first | exact ⟨rfl, rfl, hr.rl, hs.rl, trivial⟩ | exact ⟨rfl, rfl, hr.rl, hs.rl⟩, ?_⟩
    try simp only [go_sem, reduceCtorEq, Nat.reduceEqDiff, Nat.reduceAdd, Nat.reduceMul, Nat.reduceSub, Nat.reduceLeDiff, Nat.reduceLT, Int.reduceMul, Int.reduceAdd, Int.reduceSub, Int.reduceToNat, byq, Bool.bne_false, Bool.bne_true, p_EqEnts, p_rEqual, p_bEqual, h0, h1, h2, h3, h4]
    simp (disch := first | assumption | omega | (simp; done) | (simp; omega) | (simp only [bt, and_true]; first | done | omega | (simp; done))) [↓zlw, beq, ybc, ybd, ybe, endOk, wk, wk2, wk1, wkM, wkL, wkLL, ybf, hcl]
    first | done | repeat (first | exact AHeap.Le.refl _ | refine AHeap.Le.push ?_ _)
  cases h5 : (r.drop == s.drop)
  · simp only [h0, h1, h2, h3, h4, h5, Bool.false_and, Bool.and_false, Bool.true_and] at hR
    subst hR
    refine ACalls.of_aw (Ω := [(56, Ent.pure p_EqEnts), (57, Ent.pure p_rEqual), (54, Ent.pure p_bEqual)]) (T := assoc [(1, [[], [], [], [], [], [], [1, 4, 5], [1, 3, 4, 5]]), (801, [[4, 54], [5, 54]])]) mixed (TblOk.cons ok_EqEnts (TblOk.cons ok_rEqual (TblOk.cons ok_bEqual TblOk.nil))) Tryz.func20 (by kernel_rfl) (by rfl) (rs := [.tmp 4]) (by rfl) (by kernel_rfl) (by simp only [Tryz.ntmps20, yaz, yba]; decide) (Nat.le_refl _) fun hcl hlt => ?_
    change aw _ _ _ (KI Tryz.prog [(56, Ent.pure p_EqEnts), (57, Ent.pure p_rEqual), (54, Ent.pure p_bEqual)] (aEnd Tryz.prog [.tmp 4] H.nx _ _ (assoc [(1, [[], [], [], [], [], [], [1, 4, 5], [1, 3, 4, 5]]), (801, [[4, 54], [5, 54]])])) []) _ _
    clear hlt
    try simp only [List.append_eq, yal, yak]
    simp only [go_sem, reduceCtorEq, Nat.reduceEqDiff, Nat.reduceAdd, Nat.reduceMul, Nat.reduceSub, Nat.reduceLeDiff, Nat.reduceLT, Int.reduceMul, Int.reduceAdd, Int.reduceSub, Int.reduceToNat, byq, Bool.bne_false, Bool.bne_true, p_EqEnts, p_rEqual, p_bEqual, respC, h0, h1, h2, h3, h4, h5]
    refine ⟨r.ents, s.ents, ⟨rfl, rfl, hr.el, hs.el, hr.eo, hs.eo⟩, ?_⟩
    try simp only [go_sem, reduceCtorEq, Nat.reduceEqDiff, Nat.reduceAdd, Nat.reduceMul, Nat.reduceSub, Nat.reduceLeDiff, Nat.reduceLT, Int.reduceMul, Int.reduceAdd, Int.reduceSub, Int.reduceToNat, byq, Bool.bne_false, Bool.bne_true, p_EqEnts, p_rEqual, p_bEqual, h0, h1, h2, h3, h4, h5]
    refine ⟨r.recs, s.recs, by first | exact ⟨rfl, rfl, hr.rl, hs.rl, trivial⟩ | exact ⟨rfl, rfl, hr.rl, hs.rl⟩, ?_⟩
    try simp only [go_sem, reduceCtorEq, Nat.reduceEqDiff, Nat.reduceAdd, Nat.reduceMul, Nat.reduceSub, Nat.reduceLeDiff, Nat.reduceLT, Int.reduceMul, Int.reduceAdd, Int.reduceSub, Int.reduceToNat, byq, Bool.bne_false, Bool.bne_true, p_EqEnts, p_rEqual, p_bEqual, h0, h1, h2, h3, h4, h5]
    simp (disch := first | assumption | omega | (simp; done) | (simp; omega) | (simp only [bt, and_true]; first | done | omega | (simp; done))) [↓zlw, beq, ybc, ybd, ybe, endOk, wk, wk2, wk1, wkM, wkL, wkLL, ybf, hcl]
    first | done | repeat (first | exact AHeap.Le.refl _ | refine AHeap.Le.push ?_ _)
  cases h6 : (r.reas == s.reas)
  · simp only [h0, h1, h2, h3, h4, h5, h6, Bool.false_and, Bool.and_false, Bool.true_and] at hR
    subst hR
    refine ACalls.of_aw (Ω := [(56, Ent.pure p_EqEnts), (57, Ent.pure p_rEqual), (54, Ent.pure p_bEqual)]) (T := assoc [(1, [[], [], [], [], [], [], [1, 4, 5], [1, 3, 4, 5]]), (801, [[4, 54], [5, 54]])]) mixed (TblOk.cons ok_EqEnts (TblOk.cons ok_rEqual (TblOk.cons ok_bEqual TblOk.nil))) Tryz.func20 (by kernel_rfl) (by rfl) (rs := [.tmp 4]) (by rfl) (by kernel_rfl) (by simp only [Tryz.ntmps20, yaz, yba]; decide) (Nat.le_refl _) fun hcl hlt => ?_
    change aw _ _ _ (KI Tryz.prog [(56, Ent.pure p_EqEnts), (57, Ent.pure p_rEqual), (54, Ent.pure p_bEqual)] (aEnd Tryz.prog [.tmp 4] H.nx _ _ (assoc [(1, [[], [], [], [], [], [], [1, 4, 5], [1, 3, 4, 5]]), (801, [[4, 54], [5, 54]])])) []) _ _
    clear hlt
    try simp only [List.append_eq, yal, yak]
    simp only [go_sem, reduceCtorEq, Nat.reduceEqDiff, Nat.reduceAdd, Nat.reduceMul, Nat.reduceSub, Nat.reduceLeDiff, Nat.reduceLT, Int.reduceMul, Int.reduceAdd, Int.reduceSub, Int.reduceToNat, byq, Bool.bne_false, Bool.bne_true, p_EqEnts, p_rEqual, p_bEqual, respC, h0, h1, h2, h3, h4, h5, h6]
    refine ⟨r.ents, s.ents, ⟨rfl, rfl, hr.el, hs.el, hr.eo, hs.eo⟩, ?_⟩
    try simp only [go_sem, reduceCtorEq, Nat.reduceEqDiff, Nat.reduceAdd, Nat.reduceMul, Nat.reduceSub, Nat.reduceLeDiff, Nat.reduceLT, Int.reduceMul, Int.reduceAdd, Int.reduceSub, Int.reduceToNat, byq, Bool.bne_false, Bool.bne_true, p_EqEnts, p_rEqual, p_bEqual, h0, h1, h2, h3, h4, h5, h6]
    refine ⟨r.recs, s.recs, by first | exact ⟨rfl, rfl, hr.rl, hs.rl, trivial⟩ | exact ⟨rfl, rfl, hr.rl, hs.rl⟩, ?_⟩
    try simp only [go_sem, reduceCtorEq, Nat.reduceEqDiff, Nat.reduceAdd, Nat.reduceMul, Nat.reduceSub, Nat.reduceLeDiff, Nat.reduceLT, Int.reduceMul, Int.reduceAdd, Int.reduceSub, Int.reduceToNat, byq, Bool.bne_false, Bool.bne_true, p_EqEnts, p_rEqual, p_bEqual, h0, h1, h2, h3, h4, h5, h6]
    simp (disch := first | assumption | omega | (simp; done) | (simp; omega) | (simp only [bt, and_true]; first | done | omega | (simp; done))) [↓zlw, beq, ybc, ybd, ybe, endOk, wk, wk2, wk1, wkM, wkL, wkLL, ybf, hcl]
    first | done | repeat (first | exact AHeap.Le.refl _ | refine AHeap.Le.push ?_ _)
  cases h7 : (r.port == s.port)
  · simp only [h0, h1, h2, h3, h4, h5, h6, h7, Bool.false_and, Bool.and_false, Bool.true_and] at hR
    subst hR
    refine ACalls.of_aw (Ω := [(56, Ent.pure p_EqEnts), (57, Ent.pure p_rEqual), (54, Ent.pure p_bEqual)]) (T := assoc [(1, [[], [], [], [], [], [], [1, 4, 5], [1, 3, 4, 5]]), (801, [[4, 54], [5, 54]])]) mixed (TblOk.cons ok_EqEnts (TblOk.cons ok_rEqual (TblOk.cons ok_bEqual TblOk.nil))) Tryz.func20 (by kernel_rfl) (by rfl) (rs := [.tmp 4]) (by rfl) (by kernel_rfl) (by simp only [Tryz.ntmps20, yaz, yba]; decide) (Nat.le_refl _) fun hcl hlt => ?_
    change aw _ _ _ (KI Tryz.prog [(56, Ent.pure p_EqEnts), (57, Ent.pure p_rEqual), (54, Ent.pure p_bEqual)] (aEnd Tryz.prog [.tmp 4] H.nx _ _ (assoc [(1, [[], [], [], [], [], [], [1, 4, 5], [1, 3, 4, 5]]), (801, [[4, 54], [5, 54]])])) []) _ _
    clear hlt
    try simp only [List.append_eq, yal, yak]
    simp only [go_sem, reduceCtorEq, Nat.reduceEqDiff, Nat.reduceAdd, Nat.reduceMul, Nat.reduceSub, Nat.reduceLeDiff, Nat.reduceLT, Int.reduceMul, Int.reduceAdd, Int.reduceSub, Int.reduceToNat, byq, Bool.bne_false, Bool.bne_true, p_EqEnts, p_rEqual, p_bEqual, respC, h0, h1, h2, h3, h4, h5, h6, h7]
    refine ⟨r.ents, s.ents, ⟨rfl, rfl, hr.el, hs.el, hr.eo, hs.eo⟩, ?_⟩
    try simp only [go_sem, reduceCtorEq, Nat.reduceEqDiff, Nat.reduceAdd, Nat.reduceMul, Nat.reduceSub, Nat.reduceLeDiff, Nat.reduceLT, Int.reduceMul, Int.reduceAdd, Int.reduceSub, Int.reduceToNat, byq, Bool.bne_false, Bool.bne_true, p_EqEnts, p_rEqual, p_bEqual, h0, h1, h2, h3, h4, h5, h6, h7]
    refine ⟨r.recs, s.recs, by first | exact ⟨rfl, rfl, hr.rl, hs.rl, trivial⟩ | exact ⟨rfl, rfl, hr.rl, hs.rl⟩, ?_⟩
    try simp only [go_sem, reduceCtorEq, Nat.reduceEqDiff, Nat.reduceAdd, Nat.reduceMul, Nat.reduceSub, Nat.reduceLeDiff, Nat.reduceLT, Int.reduceMul, Int.reduceAdd, Int.reduceSub, Int.reduceToNat, byq, Bool.bne_false, Bool.bne_true, p_EqEnts, p_rEqual, p_bEqual, h0, h1, h2, h3, h4, h5, h6, h7]
    simp (disch := first | assumption | omega | (simp; done) | (simp; omega) | (simp only [bt, and_true]; first | done | omega | (simp; done))) [↓zlw, beq, ybc, ybd, ybe, endOk, wk, wk2, wk1, wkM, wkL, wkLL, ybf, hcl]
    first | done | repeat (first | exact AHeap.Le.refl _ | refine AHeap.Le.push ?_ _)
  cases h8 : (r.data == s.data)
  · simp only [h0, h1, h2, h3, h4, h5, h6, h7, h8, Bool.false_and, Bool.and_false, Bool.true_and] at hR
    subst hR
    refine ACalls.of_aw (Ω := [(56, Ent.pure p_EqEnts), (57, Ent.pure p_rEqual), (54, Ent.pure p_bEqual)]) (T := assoc [(1, [[], [], [], [], [], [], [1, 4, 5], [1, 3, 4, 5]]), (801, [[4, 54], [5, 54]])]) mixed (TblOk.cons ok_EqEnts (TblOk.cons ok_rEqual (TblOk.cons ok_bEqual TblOk.nil))) Tryz.func20 (by kernel_rfl) (by rfl) (rs := [.tmp 4]) (by rfl) (by kernel_rfl) (by simp only [Tryz.ntmps20, yaz, yba]; decide) (Nat.le_refl _) fun hcl hlt => ?_
    change aw _ _ _ (KI Tryz.prog [(56, Ent.pure p_EqEnts), (57, Ent.pure p_rEqual), (54, Ent.pure p_bEqual)] (aEnd Tryz.prog [.tmp 4] H.nx _ _ (assoc [(1, [[], [], [], [], [], [], [1, 4, 5], [1, 3, 4, 5]]), (801, [[4, 54], [5, 54]])])) []) _ _
    clear hlt
    try simp only [List.append_eq, yal, yak]
    simp only [go_sem, reduceCtorEq, Nat.reduceEqDiff, Nat.reduceAdd, Nat.reduceMul, Nat.reduceSub, Nat.reduceLeDiff, Nat.reduceLT, Int.reduceMul, Int.reduceAdd, Int.reduceSub, Int.reduceToNat, byq, Bool.bne_false, Bool.bne_true, p_EqEnts, p_rEqual, p_bEqual, respC, h0, h1, h2, h3, h4, h5, h6, h7, h8]
    refine ⟨r.ents, s.ents, ⟨rfl, rfl, hr.el, hs.el, hr.eo, hs.eo⟩, ?_⟩
    try simp only [go_sem, reduceCtorEq, Nat.reduceEqDiff, Nat.reduceAdd, Nat.reduceMul, Nat.reduceSub, Nat.reduceLeDiff, Nat.reduceLT, Int.reduceMul, Int.reduceAdd, Int.reduceSub, Int.reduceToNat, byq, Bool.bne_false, Bool.bne_true, p_EqEnts, p_rEqual, p_bEqual, h0, h1, h2, h3, h4, h5, h6, h7, h8]
    refine ⟨r.recs, s.recs, by first | exact ⟨rfl, rfl, hr.rl, hs.rl, trivial⟩ | exact ⟨rfl, rfl, hr.rl, hs.rl⟩, ?_⟩
    try simp only [go_sem, reduceCtorEq, Nat.reduceEqDiff, Nat.reduceAdd, Nat.reduceMul, Nat.reduceSub, Nat.reduceLeDiff, Nat.reduceLT, Int.reduceMul, Int.reduceAdd, Int.reduceSub, Int.reduceToNat, byq, Bool.bne_false, Bool.bne_true, p_EqEnts, p_rEqual, p_bEqual, h0, h1, h2, h3, h4, h5, h6, h7, h8]
    refine ⟨r.data, s.data, ⟨rfl, rfl⟩, ?_⟩
    try simp only [go_sem, reduceCtorEq, Nat.reduceEqDiff, Nat.reduceAdd, Nat.reduceMul, Nat.reduceSub, Nat.reduceLeDiff, Nat.reduceLT, Int.reduceMul, Int.reduceAdd, Int.reduceSub, Int.reduceToNat, byq, Bool.bne_false, Bool.bne_true, p_EqEnts, p_rEqual, p_bEqual, h0, h1, h2, h3, h4, h5, h6, h7, h8]
    simp (disch := first | assumption | omega | (simp; done) | (simp; omega) | (simp only [bt, and_true]; first | done | omega | (simp; done))) [↓zlw, beq, ybc, ybd, ybe, endOk, wk, wk2, wk1, wkM, wkL, wkLL, ybf, hcl]
    first | done | repeat (first | exact AHeap.Le.refl _ | refine AHeap.Le.push ?_ _)
  simp only [h0, h1, h2, h3, h4, h5, h6, h7, h8, Bool.true_and] at hR
  subst hR
  refine ACalls.of_aw (Ω := [(56, Ent.pure p_EqEnts), (57, Ent.pure p_rEqual), (54, Ent.pure p_bEqual)]) (T := assoc [(1, [[], [], [], [], [], [], [1, 4, 5], [1, 3, 4, 5]]), (801, [[4, 54], [5, 54]])]) mixed (TblOk.cons ok_EqEnts (TblOk.cons ok_rEqual (TblOk.cons ok_bEqual TblOk.nil))) Tryz.func20 (by kernel_rfl) (by rfl) (rs := [.tmp 4]) (by rfl) (by kernel_rfl) (by simp only [Tryz.ntmps20, yaz, yba]; decide) (Nat.le_refl _) fun hcl hlt => ?_
  change aw _ _ _ (KI Tryz.prog [(56, Ent.pure p_EqEnts), (57, Ent.pure p_rEqual), (54, Ent.pure p_bEqual)] (aEnd Tryz.prog [.tmp 4] H.nx _ _ (assoc [(1, [[], [], [], [], [], [], [1, 4, 5], [1, 3, 4, 5]]), (801, [[4, 54], [5, 54]])])) []) _ _
  clear hlt
  try simp only [List.append_eq, yal, yak]
  simp only [go_sem, reduceCtorEq, Nat.reduceEqDiff, Nat.reduceAdd, Nat.reduceMul, Nat.reduceSub, Nat.reduceLeDiff, Nat.reduceLT, Int.reduceMul, Int.reduceAdd, Int.reduceSub, Int.reduceToNat, byq, Bool.bne_false, Bool.bne_true, p_EqEnts, p_rEqual, p_bEqual, respC, h0, h1, h2, h3, h4, h5, h6, h7, h8]
  refine ⟨r.ents, s.ents, ⟨rfl, rfl, hr.el, hs.el, hr.eo, hs.eo⟩, ?_⟩
  try simp only [go_sem, reduceCtorEq, Nat.reduceEqDiff, Nat.reduceAdd, Nat.reduceMul, Nat.reduceSub, Nat.reduceLeDiff, Nat.reduceLT, Int.reduceMul, Int.reduceAdd, Int.reduceSub, Int.reduceToNat, byq, Bool.bne_false, Bool.bne_true, p_EqEnts, p_rEqual, p_bEqual, h0, h1, h2, h3, h4, h5, h6, h7, h8]
  refine ⟨r.recs, s.recs, by first | exact ⟨rfl, rfl, hr.rl, hs.rl, trivial⟩ | exact ⟨rfl, rfl, hr.rl, hs.rl⟩, ?_⟩
  try simp only [go_sem, reduceCtorEq, Nat.reduceEqDiff, Nat.reduceAdd, Nat.reduceMul, Nat.reduceSub, Nat.reduceLeDiff, Nat.reduceLT, Int.reduceMul, Int.reduceAdd, Int.reduceSub, Int.reduceToNat, byq, Bool.bne_false, Bool.bne_true, p_EqEnts, p_rEqual, p_bEqual, h0, h1, h2, h3, h4, h5, h6, h7, h8]
  refine ⟨r.data, s.data, ⟨rfl, rfl⟩, ?_⟩
  try simp only [go_sem, reduceCtorEq, Nat.reduceEqDiff, Nat.reduceAdd, Nat.reduceMul, Nat.reduceSub, Nat.reduceLeDiff, Nat.reduceLT, Int.reduceMul, Int.reduceAdd, Int.reduceSub, Int.reduceToNat, byq, Bool.bne_false, Bool.bne_true, p_EqEnts, p_rEqual, p_bEqual, h0, h1, h2, h3, h4, h5, h6, h7, h8]
  simp (disch := first | assumption | omega | (simp; done) | (simp; omega) | (simp only [bt, and_true]; first | done | omega | (simp; done))) [↓zlw, beq, ybc, ybd, ybe, endOk, wk, wk2, wk1, wkM, wkL, wkLL, ybf, hcl]
  first | done | repeat (first | exact AHeap.Le.refl _ | refine AHeap.Le.push ?_ _)
def p_xSameP : List AV → AHeap → (AV → Prop) → Prop
  | [.agg l, .agg k], _, K => ∃ r s : SResp, (l = respC r ∧ k = respC s ∧ PC r ∧ PC s) ∧ K (.bool (eqP r s))
  | _, _, _ => False
set_option maxHeartbeats 4000000 in
theorem ok_xSameP : EntOk Tryz.prog 21 (Ent.pure p_xSameP) := by
  refine EntOk.pure fun args H K h => ?_
  unfold p_xSameP at h
  split at h
  rotate_left
  · exact h.elim
  rename_i l k
  obtain ⟨r, s, ⟨rfl, rfl, hr, hs⟩, hK⟩ := h
  refine ⟨_, hK, ?_⟩
  clear hK
  obtain ⟨R, hR⟩ : ∃ R, eqP r s = R := ⟨_, rfl⟩
  rw [hR]
  unfold eqP at hR
  cases h0 : (r.code == s.code)
  · simp only [h0, Bool.false_and, Bool.and_false, Bool.true_and] at hR
    subst hR
    refine ACalls.of_aw (Ω := [(58, Ent.pure p_xSameAll), (59, Ent.pure p_xSameRecs), (60, Ent.pure p_xSameOut)]) (T := assoc []) mixed (TblOk.cons ok_xSameAll (TblOk.cons ok_xSameRecs (TblOk.cons ok_xSameOut TblOk.nil))) Tryz.func21 (by kernel_rfl) (by rfl) (rs := [.tmp 4]) (by rfl) (by kernel_rfl) (by simp only [Tryz.ntmps21, yaz, yba]; decide) (Nat.le_refl _) fun hcl hlt => ?_
    change aw _ _ _ (KI Tryz.prog [(58, Ent.pure p_xSameAll), (59, Ent.pure p_xSameRecs), (60, Ent.pure p_xSameOut)] (aEnd Tryz.prog [.tmp 4] H.nx _ _ (assoc [])) []) _ _
    clear hlt
    try simp only [List.append_eq, yal, yak]
    simp only [go_sem, reduceCtorEq, Nat.reduceEqDiff, Nat.reduceAdd, Nat.reduceMul, Nat.reduceSub, Nat.reduceLeDiff, Nat.reduceLT, Int.reduceMul, Int.reduceAdd, Int.reduceSub, Int.reduceToNat, byq, Bool.bne_false, Bool.bne_true, p_xSameAll, p_xSameRecs, p_xSameOut, Bool.true_and, Bool.false_and, Bool.and_false, Bool.and_true, respC, h0]
    simp (disch := first | assumption | omega | (simp; done) | (simp; omega) | (simp only [bt, and_true]; first | done | omega | (simp; done))) [↓zlw, beq, ybc, ybd, ybe, endOk, wk, wk2, wk1, wkM, wkL, wkLL, ybf, hcl]
    first | done | repeat (first | exact AHeap.Le.refl _ | refine AHeap.Le.push ?_ _)
  cases h1 : (r.fail == s.fail)
  · simp only [h0, h1, Bool.false_and, Bool.and_false, Bool.true_and] at hR
    subst hR
    refine ACalls.of_aw (Ω := [(58, Ent.pure p_xSameAll), (59, Ent.pure p_xSameRecs), (60, Ent.pure p_xSameOut)]) (T := assoc []) mixed (TblOk.cons ok_xSameAll (TblOk.cons ok_xSameRecs (TblOk.cons ok_xSameOut TblOk.nil))) Tryz.func21 (by kernel_rfl) (by rfl) (rs := [.tmp 4]) (by rfl) (by kernel_rfl) (by simp only [Tryz.ntmps21, yaz, yba]; decide) (Nat.le_refl _) fun hcl hlt => ?_
    change aw _ _ _ (KI Tryz.prog [(58, Ent.pure p_xSameAll), (59, Ent.pure p_xSameRecs), (60, Ent.pure p_xSameOut)] (aEnd Tryz.prog [.tmp 4] H.nx _ _ (assoc [])) []) _ _
    clear hlt
    try simp only [List.append_eq, yal, yak]
    simp only [go_sem, reduceCtorEq, Nat.reduceEqDiff, Nat.reduceAdd, Nat.reduceMul, Nat.reduceSub, Nat.reduceLeDiff, Nat.reduceLT, Int.reduceMul, Int.reduceAdd, Int.reduceSub, Int.reduceToNat, byq, Bool.bne_false, Bool.bne_true, p_xSameAll, p_xSameRecs, p_xSameOut, Bool.true_and, Bool.false_and, Bool.and_false, Bool.and_true, respC, h0, h1]
    simp (disch := first | assumption | omega | (simp; done) | (simp; omega) | (simp only [bt, and_true]; first | done | omega | (simp; done))) [↓zlw, beq, ybc, ybd, ybe, endOk, wk, wk2, wk1, wkM, wkL, wkLL, ybf, hcl]
    first | done | repeat (first | exact AHeap.Le.refl _ | refine AHeap.Le.push ?_ _)
  cases h2 : (r.prim == s.prim)
  · simp only [h0, h1, h2, Bool.false_and, Bool.and_false, Bool.true_and] at hR
    subst hR
    refine ACalls.of_aw (Ω := [(58, Ent.pure p_xSameAll), (59, Ent.pure p_xSameRecs), (60, Ent.pure p_xSameOut)]) (T := assoc []) mixed (TblOk.cons ok_xSameAll (TblOk.cons ok_xSameRecs (TblOk.cons ok_xSameOut TblOk.nil))) Tryz.func21 (by kernel_rfl) (by rfl) (rs := [.tmp 4]) (by rfl) (by kernel_rfl) (by simp only [Tryz.ntmps21, yaz, yba]; decide) (Nat.le_refl _) fun hcl hlt => ?_
    change aw _ _ _ (KI Tryz.prog [(58, Ent.pure p_xSameAll), (59, Ent.pure p_xSameRecs), (60, Ent.pure p_xSameOut)] (aEnd Tryz.prog [.tmp 4] H.nx _ _ (assoc [])) []) _ _
    clear hlt
    try simp only [List.append_eq, yal, yak]
    simp only [go_sem, reduceCtorEq, Nat.reduceEqDiff, Nat.reduceAdd, Nat.reduceMul, Nat.reduceSub, Nat.reduceLeDiff, Nat.reduceLT, Int.reduceMul, Int.reduceAdd, Int.reduceSub, Int.reduceToNat, byq, Bool.bne_false, Bool.bne_true, p_xSameAll, p_xSameRecs, p_xSameOut, Bool.true_and, Bool.false_and, Bool.and_false, Bool.and_true, respC, h0, h1, h2]
    simp (disch := first | assumption | omega | (simp; done) | (simp; omega) | (simp only [bt, and_true]; first | done | omega | (simp; done))) [↓zlw, beq, ybc, ybd, ybe, endOk, wk, wk2, wk1, wkM, wkL, wkLL, ybf, hcl]
    first | done | repeat (first | exact AHeap.Le.refl _ | refine AHeap.Le.push ?_ _)
  cases h3 : (eqL eqE r.ents s.ents)
  · simp only [h0, h1, h2, h3, Bool.false_and, Bool.and_false, Bool.true_and] at hR
    subst hR
    refine ACalls.of_aw (Ω := [(58, Ent.pure p_xSameAll), (59, Ent.pure p_xSameRecs), (60, Ent.pure p_xSameOut)]) (T := assoc []) mixed (TblOk.cons ok_xSameAll (TblOk.cons ok_xSameRecs (TblOk.cons ok_xSameOut TblOk.nil))) Tryz.func21 (by kernel_rfl) (by rfl) (rs := [.tmp 4]) (by rfl) (by kernel_rfl) (by simp only [Tryz.ntmps21, yaz, yba]; decide) (Nat.le_refl _) fun hcl hlt => ?_
    change aw _ _ _ (KI Tryz.prog [(58, Ent.pure p_xSameAll), (59, Ent.pure p_xSameRecs), (60, Ent.pure p_xSameOut)] (aEnd Tryz.prog [.tmp 4] H.nx _ _ (assoc [])) []) _ _
    clear hlt
    try simp only [List.append_eq, yal, yak]
    simp only [go_sem, reduceCtorEq, Nat.reduceEqDiff, Nat.reduceAdd, Nat.reduceMul, Nat.reduceSub, Nat.reduceLeDiff, Nat.reduceLT, Int.reduceMul, Int.reduceAdd, Int.reduceSub, Int.reduceToNat, byq, Bool.bne_false, Bool.bne_true, p_xSameAll, p_xSameRecs, p_xSameOut, Bool.true_and, Bool.false_and, Bool.and_false, Bool.and_true, respC, h0, h1, h2, h3]
    refine ⟨r.ents, s.ents, ⟨rfl, rfl, hr.el, hs.el, hr.eo, hs.eo⟩, ?_⟩
    try simp only [go_sem, reduceCtorEq, Nat.reduceEqDiff, Nat.reduceAdd, Nat.reduceMul, Nat.reduceSub, Nat.reduceLeDiff, Nat.reduceLT, Int.reduceMul, Int.reduceAdd, Int.reduceSub, Int.reduceToNat, byq, Bool.bne_false, Bool.bne_true, p_xSameAll, p_xSameRecs, p_xSameOut, Bool.true_and, Bool.false_and, Bool.and_false, Bool.and_true, h0, h1, h2, h3]
    simp (disch := first | assumption | omega | (simp; done) | (simp; omega) | (simp only [bt, and_true]; first | done | omega | (simp; done))) [↓zlw, beq, ybc, ybd, ybe, endOk, wk, wk2, wk1, wkM, wkL, wkLL, ybf, hcl]
    first | done | repeat (first | exact AHeap.Le.refl _ | refine AHeap.Le.push ?_ _)
  cases h4 : (eqL eqRec r.recs s.recs)
  · simp only [h0, h1, h2, h3, h4, Bool.false_and, Bool.and_false, Bool.true_and] at hR
    subst hR
    refine ACalls.of_aw (Ω := [(58, Ent.pure p_xSameAll), (59, Ent.pure p_xSameRecs), (60, Ent.pure p_xSameOut)]) (T := assoc []) mixed (TblOk.cons ok_xSameAll (TblOk.cons ok_xSameRecs (TblOk.cons ok_xSameOut TblOk.nil))) Tryz.func21 (by kernel_rfl) (by rfl) (rs := [.tmp 4]) (by rfl) (by kernel_rfl) (by simp only [Tryz.ntmps21, yaz, yba]; decide) (Nat.le_refl _) fun hcl hlt => ?_
    change aw _ _ _ (KI Tryz.prog [(58, Ent.pure p_xSameAll), (59, Ent.pure p_xSameRecs), (60, Ent.pure p_xSameOut)] (aEnd Tryz.prog [.tmp 4] H.nx _ _ (assoc [])) []) _ _
    clear hlt
    try simp only [List.append_eq, yal, yak]
    simp only [go_sem, reduceCtorEq, Nat.reduceEqDiff, Nat.reduceAdd, Nat.reduceMul, Nat.reduceSub, Nat.reduceLeDiff, Nat.reduceLT, Int.reduceMul, Int.reduceAdd, Int.reduceSub, Int.reduceToNat, byq, Bool.bne_false, Bool.bne_true, p_xSameAll, p_xSameRecs, p_xSameOut, Bool.true_and, Bool.false_and, Bool.and_false, Bool.and_true, respC, h0, h1, h2, h3, h4]
    refine ⟨r.ents, s.ents, ⟨rfl, rfl, hr.el, hs.el, hr.eo, hs.eo⟩, ?_⟩
    try simp only [go_sem, reduceCtorEq, Nat.reduceEqDiff, Nat.reduceAdd, Nat.reduceMul, Nat.reduceSub, Nat.reduceLeDiff, Nat.reduceLT, Int.reduceMul, Int.reduceAdd, Int.reduceSub, Int.reduceToNat, byq, Bool.bne_false, Bool.bne_true, p_xSameAll, p_xSameRecs, p_xSameOut, Bool.true_and, Bool.false_and, Bool.and_false, Bool.and_true, h0, h1, h2, h3, h4]
    refine ⟨r.recs, s.recs, by first | exact ⟨rfl, rfl, hr.rl, hs.rl, trivial⟩ | exact ⟨rfl, rfl, hr.rl, hs.rl⟩, ?_⟩
    try simp only [go_sem, reduceCtorEq, Nat.reduceEqDiff, Nat.reduceAdd, Nat.reduceMul, Nat.reduceSub, Nat.reduceLeDiff, Nat.reduceLT, Int.reduceMul, Int.reduceAdd, Int.reduceSub, Int.reduceToNat, byq, Bool.bne_false, Bool.bne_true, p_xSameAll, p_xSameRecs, p_xSameOut, Bool.true_and, Bool.false_and, Bool.and_false, Bool.and_true, h0, h1, h2, h3, h4]
    simp (disch := first | assumption | omega | (simp; done) | (simp; omega) | (simp only [bt, and_true]; first | done | omega | (simp; done))) [↓zlw, beq, ybc, ybd, ybe, endOk, wk, wk2, wk1, wkM, wkL, wkLL, ybf, hcl]
    first | done | repeat (first | exact AHeap.Le.refl _ | refine AHeap.Le.push ?_ _)
  cases h5 : (r.drop == s.drop)
  · simp only [h0, h1, h2, h3, h4, h5, Bool.false_and, Bool.and_false, Bool.true_and] at hR
    subst hR
    refine ACalls.of_aw (Ω := [(58, Ent.pure p_xSameAll), (59, Ent.pure p_xSameRecs), (60, Ent.pure p_xSameOut)]) (T := assoc []) mixed (TblOk.cons ok_xSameAll (TblOk.cons ok_xSameRecs (TblOk.cons ok_xSameOut TblOk.nil))) Tryz.func21 (by kernel_rfl) (by rfl) (rs := [.tmp 4]) (by rfl) (by kernel_rfl) (by simp only [Tryz.ntmps21, yaz, yba]; decide) (Nat.le_refl _) fun hcl hlt => ?_
    change aw _ _ _ (KI Tryz.prog [(58, Ent.pure p_xSameAll), (59, Ent.pure p_xSameRecs), (60, Ent.pure p_xSameOut)] (aEnd Tryz.prog [.tmp 4] H.nx _ _ (assoc [])) []) _ _
    clear hlt
    try simp only [List.append_eq, yal, yak]
    simp only [go_sem, reduceCtorEq, Nat.reduceEqDiff, Nat.reduceAdd, Nat.reduceMul, Nat.reduceSub, Nat.reduceLeDiff, Nat.reduceLT, Int.reduceMul, Int.reduceAdd, Int.reduceSub, Int.reduceToNat, byq, Bool.bne_false, Bool.bne_true, p_xSameAll, p_xSameRecs, p_xSameOut, Bool.true_and, Bool.false_and, Bool.and_false, Bool.and_true, respC, h0, h1, h2, h3, h4, h5]
    refine ⟨r.ents, s.ents, ⟨rfl, rfl, hr.el, hs.el, hr.eo, hs.eo⟩, ?_⟩
    try simp only [go_sem, reduceCtorEq, Nat.reduceEqDiff, Nat.reduceAdd, Nat.reduceMul, Nat.reduceSub, Nat.reduceLeDiff, Nat.reduceLT, Int.reduceMul, Int.reduceAdd, Int.reduceSub, Int.reduceToNat, byq, Bool.bne_false, Bool.bne_true, p_xSameAll, p_xSameRecs, p_xSameOut, Bool.true_and, Bool.false_and, Bool.and_false, Bool.and_true, h0, h1, h2, h3, h4, h5]
    refine ⟨r.recs, s.recs, by first | exact ⟨rfl, rfl, hr.rl, hs.rl, trivial⟩ | exact ⟨rfl, rfl, hr.rl, hs.rl⟩, ?_⟩
    try simp only [go_sem, reduceCtorEq, Nat.reduceEqDiff, Nat.reduceAdd, Nat.reduceMul, Nat.reduceSub, Nat.reduceLeDiff, Nat.reduceLT, Int.reduceMul, Int.reduceAdd, Int.reduceSub, Int.reduceToNat, byq, Bool.bne_false, Bool.bne_true, p_xSameAll, p_xSameRecs, p_xSameOut, Bool.true_and, Bool.false_and, Bool.and_false, Bool.and_true, h0, h1, h2, h3, h4, h5]
    refine ⟨r.data, s.data, ⟨rfl, rfl⟩, ?_⟩
    try simp only [go_sem, reduceCtorEq, Nat.reduceEqDiff, Nat.reduceAdd, Nat.reduceMul, Nat.reduceSub, Nat.reduceLeDiff, Nat.reduceLT, Int.reduceMul, Int.reduceAdd, Int.reduceSub, Int.reduceToNat, byq, Bool.bne_false, Bool.bne_true, p_xSameAll, p_xSameRecs, p_xSameOut, Bool.true_and, Bool.false_and, Bool.and_false, Bool.and_true, h0, h1, h2, h3, h4, h5]
    simp (disch := first | assumption | omega | (simp; done) | (simp; omega) | (simp only [bt, and_true]; first | done | omega | (simp; done))) [↓zlw, beq, ybc, ybd, ybe, endOk, wk, wk2, wk1, wkM, wkL, wkLL, ybf, hcl]
    first | done | repeat (first | exact AHeap.Le.refl _ | refine AHeap.Le.push ?_ _)
  cases h6 : (r.reas == s.reas)
  · simp only [h0, h1, h2, h3, h4, h5, h6, Bool.false_and, Bool.and_false, Bool.true_and] at hR
    subst hR
    refine ACalls.of_aw (Ω := [(58, Ent.pure p_xSameAll), (59, Ent.pure p_xSameRecs), (60, Ent.pure p_xSameOut)]) (T := assoc []) mixed (TblOk.cons ok_xSameAll (TblOk.cons ok_xSameRecs (TblOk.cons ok_xSameOut TblOk.nil))) Tryz.func21 (by kernel_rfl) (by rfl) (rs := [.tmp 4]) (by rfl) (by kernel_rfl) (by simp only [Tryz.ntmps21, yaz, yba]; decide) (Nat.le_refl _) fun hcl hlt => ?_
    change aw _ _ _ (KI Tryz.prog [(58, Ent.pure p_xSameAll), (59, Ent.pure p_xSameRecs), (60, Ent.pure p_xSameOut)] (aEnd Tryz.prog [.tmp 4] H.nx _ _ (assoc [])) []) _ _
    clear hlt
    try simp only [List.append_eq, yal, yak]
    simp only [go_sem, reduceCtorEq, Nat.reduceEqDiff, Nat.reduceAdd, Nat.reduceMul, Nat.reduceSub, Nat.reduceLeDiff, Nat.reduceLT, Int.reduceMul, Int.reduceAdd, Int.reduceSub, Int.reduceToNat, byq, Bool.bne_false, Bool.bne_true, p_xSameAll, p_xSameRecs, p_xSameOut, Bool.true_and, Bool.false_and, Bool.and_false, Bool.and_true, respC, h0, h1, h2, h3, h4, h5, h6]
    refine ⟨r.ents, s.ents, ⟨rfl, rfl, hr.el, hs.el, hr.eo, hs.eo⟩, ?_⟩
    try simp only [go_sem, reduceCtorEq, Nat.reduceEqDiff, Nat.reduceAdd, Nat.reduceMul, Nat.reduceSub, Nat.reduceLeDiff, Nat.reduceLT, Int.reduceMul, Int.reduceAdd, Int.reduceSub, Int.reduceToNat, byq, Bool.bne_false, Bool.bne_true, p_xSameAll, p_xSameRecs, p_xSameOut, Bool.true_and, Bool.false_and, Bool.and_false, Bool.and_true, h0, h1, h2, h3, h4, h5, h6]
    refine ⟨r.recs, s.recs, by first | exact ⟨rfl, rfl, hr.rl, hs.rl, trivial⟩ | exact ⟨rfl, rfl, hr.rl, hs.rl⟩, ?_⟩
    try simp only [go_sem, reduceCtorEq, Nat.reduceEqDiff, Nat.reduceAdd, Nat.reduceMul, Nat.reduceSub, Nat.reduceLeDiff, Nat.reduceLT, Int.reduceMul, Int.reduceAdd, Int.reduceSub, Int.reduceToNat, byq, Bool.bne_false, Bool.bne_true, p_xSameAll, p_xSameRecs, p_xSameOut, Bool.true_and, Bool.false_and, Bool.and_false, Bool.and_true, h0, h1, h2, h3, h4, h5, h6]
    refine ⟨r.data, s.data, ⟨rfl, rfl⟩, ?_⟩
    try simp only [go_sem, reduceCtorEq, Nat.reduceEqDiff, Nat.reduceAdd, Nat.reduceMul, Nat.reduceSub, Nat.reduceLeDiff, Nat.reduceLT, Int.reduceMul, Int.reduceAdd, Int.reduceSub, Int.reduceToNat, byq, Bool.bne_false, Bool.bne_true, p_xSameAll, p_xSameRecs, p_xSameOut, Bool.true_and, Bool.false_and, Bool.and_false, Bool.and_true, h0, h1, h2, h3, h4, h5, h6]
    simp (disch := first | assumption | omega | (simp; done) | (simp; omega) | (simp only [bt, and_true]; first | done | omega | (simp; done))) [↓zlw, beq, ybc, ybd, ybe, endOk, wk, wk2, wk1, wkM, wkL, wkLL, ybf, hcl]
    first | done | repeat (first | exact AHeap.Le.refl _ | refine AHeap.Le.push ?_ _)
  cases h7 : (r.port == s.port)
  · simp only [h0, h1, h2, h3, h4, h5, h6, h7, Bool.false_and, Bool.and_false, Bool.true_and] at hR
    subst hR
    refine ACalls.of_aw (Ω := [(58, Ent.pure p_xSameAll), (59, Ent.pure p_xSameRecs), (60, Ent.pure p_xSameOut)]) (T := assoc []) mixed (TblOk.cons ok_xSameAll (TblOk.cons ok_xSameRecs (TblOk.cons ok_xSameOut TblOk.nil))) Tryz.func21 (by kernel_rfl) (by rfl) (rs := [.tmp 4]) (by rfl) (by kernel_rfl) (by simp only [Tryz.ntmps21, yaz, yba]; decide) (Nat.le_refl _) fun hcl hlt => ?_
    change aw _ _ _ (KI Tryz.prog [(58, Ent.pure p_xSameAll), (59, Ent.pure p_xSameRecs), (60, Ent.pure p_xSameOut)] (aEnd Tryz.prog [.tmp 4] H.nx _ _ (assoc [])) []) _ _
    clear hlt
    try simp only [List.append_eq, yal, yak]
    simp only [go_sem, reduceCtorEq, Nat.reduceEqDiff, Nat.reduceAdd, Nat.reduceMul, Nat.reduceSub, Nat.reduceLeDiff, Nat.reduceLT, Int.reduceMul, Int.reduceAdd, Int.reduceSub, Int.reduceToNat, byq, Bool.bne_false, Bool.bne_true, p_xSameAll, p_xSameRecs, p_xSameOut, Bool.true_and, Bool.false_and, Bool.and_false, Bool.and_true, respC, h0, h1, h2, h3, h4, h5, h6, h7]
    refine ⟨r.ents, s.ents, ⟨rfl, rfl, hr.el, hs.el, hr.eo, hs.eo⟩, ?_⟩
    try simp only [go_sem, reduceCtorEq, Nat.reduceEqDiff, Nat.reduceAdd, Nat.reduceMul, Nat.reduceSub, Nat.reduceLeDiff, Nat.reduceLT, Int.reduceMul, Int.reduceAdd, Int.reduceSub, Int.reduceToNat, byq, Bool.bne_false, Bool.bne_true, p_xSameAll, p_xSameRecs, p_xSameOut, Bool.true_and, Bool.false_and, Bool.and_false, Bool.and_true, h0, h1, h2, h3, h4, h5, h6, h7]
    refine ⟨r.recs, s.recs, by first | exact ⟨rfl, rfl, hr.rl, hs.rl, trivial⟩ | exact ⟨rfl, rfl, hr.rl, hs.rl⟩, ?_⟩
    try simp only [go_sem, reduceCtorEq, Nat.reduceEqDiff, Nat.reduceAdd, Nat.reduceMul, Nat.reduceSub, Nat.reduceLeDiff, Nat.reduceLT, Int.reduceMul, Int.reduceAdd, Int.reduceSub, Int.reduceToNat, byq, Bool.bne_false, Bool.bne_true, p_xSameAll, p_xSameRecs, p_xSameOut, Bool.true_and, Bool.false_and, Bool.and_false, Bool.and_true, h0, h1, h2, h3, h4, h5, h6, h7]
    refine ⟨r.data, s.data, ⟨rfl, rfl⟩, ?_⟩
    try simp only [go_sem, reduceCtorEq, Nat.reduceEqDiff, Nat.reduceAdd, Nat.reduceMul, Nat.reduceSub, Nat.reduceLeDiff, Nat.reduceLT, Int.reduceMul, Int.reduceAdd, Int.reduceSub, Int.reduceToNat, byq, Bool.bne_false, Bool.bne_true, p_xSameAll, p_xSameRecs, p_xSameOut, Bool.true_and, Bool.false_and, Bool.and_false, Bool.and_true, h0, h1, h2, h3, h4, h5, h6, h7]
    simp (disch := first | assumption | omega | (simp; done) | (simp; omega) | (simp only [bt, and_true]; first | done | omega | (simp; done))) [↓zlw, beq, ybc, ybd, ybe, endOk, wk, wk2, wk1, wkM, wkL, wkLL, ybf, hcl]
    first | done | repeat (first | exact AHeap.Le.refl _ | refine AHeap.Le.push ?_ _)
  cases h8 : (r.data == s.data)
  · simp only [h0, h1, h2, h3, h4, h5, h6, h7, h8, Bool.false_and, Bool.and_false, Bool.true_and] at hR
    subst hR
    refine ACalls.of_aw (Ω := [(58, Ent.pure p_xSameAll), (59, Ent.pure p_xSameRecs), (60, Ent.pure p_xSameOut)]) (T := assoc []) mixed (TblOk.cons ok_xSameAll (TblOk.cons ok_xSameRecs (TblOk.cons ok_xSameOut TblOk.nil))) Tryz.func21 (by kernel_rfl) (by rfl) (rs := [.tmp 4]) (by rfl) (by kernel_rfl) (by simp only [Tryz.ntmps21, yaz, yba]; decide) (Nat.le_refl _) fun hcl hlt => ?_
    change aw _ _ _ (KI Tryz.prog [(58, Ent.pure p_xSameAll), (59, Ent.pure p_xSameRecs), (60, Ent.pure p_xSameOut)] (aEnd Tryz.prog [.tmp 4] H.nx _ _ (assoc [])) []) _ _
    clear hlt
    try simp only [List.append_eq, yal, yak]
    simp only [go_sem, reduceCtorEq, Nat.reduceEqDiff, Nat.reduceAdd, Nat.reduceMul, Nat.reduceSub, Nat.reduceLeDiff, Nat.reduceLT, Int.reduceMul, Int.reduceAdd, Int.reduceSub, Int.reduceToNat, byq, Bool.bne_false, Bool.bne_true, p_xSameAll, p_xSameRecs, p_xSameOut, Bool.true_and, Bool.false_and, Bool.and_false, Bool.and_true, respC, h0, h1, h2, h3, h4, h5, h6, h7, h8]
    refine ⟨r.ents, s.ents, ⟨rfl, rfl, hr.el, hs.el, hr.eo, hs.eo⟩, ?_⟩
    try simp only [go_sem, reduceCtorEq, Nat.reduceEqDiff, Nat.reduceAdd, Nat.reduceMul, Nat.reduceSub, Nat.reduceLeDiff, Nat.reduceLT, Int.reduceMul, Int.reduceAdd, Int.reduceSub, Int.reduceToNat, byq, Bool.bne_false, Bool.bne_true, p_xSameAll, p_xSameRecs, p_xSameOut, Bool.true_and, Bool.false_and, Bool.and_false, Bool.and_true, h0, h1, h2, h3, h4, h5, h6, h7, h8]
    refine ⟨r.recs, s.recs, by first | exact ⟨rfl, rfl, hr.rl, hs.rl, trivial⟩ | exact ⟨rfl, rfl, hr.rl, hs.rl⟩, ?_⟩
    try simp only [go_sem, reduceCtorEq, Nat.reduceEqDiff, Nat.reduceAdd, Nat.reduceMul, Nat.reduceSub, Nat.reduceLeDiff, Nat.reduceLT, Int.reduceMul, Int.reduceAdd, Int.reduceSub, Int.reduceToNat, byq, Bool.bne_false, Bool.bne_true, p_xSameAll, p_xSameRecs, p_xSameOut, Bool.true_and, Bool.false_and, Bool.and_false, Bool.and_true, h0, h1, h2, h3, h4, h5, h6, h7, h8]
    refine ⟨r.data, s.data, ⟨rfl, rfl⟩, ?_⟩
    try simp only [go_sem, reduceCtorEq, Nat.reduceEqDiff, Nat.reduceAdd, Nat.reduceMul, Nat.reduceSub, Nat.reduceLeDiff, Nat.reduceLT, Int.reduceMul, Int.reduceAdd, Int.reduceSub, Int.reduceToNat, byq, Bool.bne_false, Bool.bne_true, p_xSameAll, p_xSameRecs, p_xSameOut, Bool.true_and, Bool.false_and, Bool.and_false, Bool.and_true, h0, h1, h2, h3, h4, h5, h6, h7, h8]
    simp (disch := first | assumption | omega | (simp; done) | (simp; omega) | (simp only [bt, and_true]; first | done | omega | (simp; done))) [↓zlw, beq, ybc, ybd, ybe, endOk, wk, wk2, wk1, wkM, wkL, wkLL, ybf, hcl]
    first | done | repeat (first | exact AHeap.Le.refl _ | refine AHeap.Le.push ?_ _)
  simp only [h0, h1, h2, h3, h4, h5, h6, h7, h8, Bool.true_and] at hR
  subst hR
  refine ACalls.of_aw (Ω := [(58, Ent.pure p_xSameAll), (59, Ent.pure p_xSameRecs), (60, Ent.pure p_xSameOut)]) (T := assoc []) mixed (TblOk.cons ok_xSameAll (TblOk.cons ok_xSameRecs (TblOk.cons ok_xSameOut TblOk.nil))) Tryz.func21 (by kernel_rfl) (by rfl) (rs := [.tmp 4]) (by rfl) (by kernel_rfl) (by simp only [Tryz.ntmps21, yaz, yba]; decide) (Nat.le_refl _) fun hcl hlt => ?_
  change aw _ _ _ (KI Tryz.prog [(58, Ent.pure p_xSameAll), (59, Ent.pure p_xSameRecs), (60, Ent.pure p_xSameOut)] (aEnd Tryz.prog [.tmp 4] H.nx _ _ (assoc [])) []) _ _
  clear hlt
  try simp only [List.append_eq, yal, yak]
  simp only [go_sem, reduceCtorEq, Nat.reduceEqDiff, Nat.reduceAdd, Nat.reduceMul, Nat.reduceSub, Nat.reduceLeDiff, Nat.reduceLT, Int.reduceMul, Int.reduceAdd, Int.reduceSub, Int.reduceToNat, byq, Bool.bne_false, Bool.bne_true, p_xSameAll, p_xSameRecs, p_xSameOut, Bool.true_and, Bool.false_and, Bool.and_false, Bool.and_true, respC, h0, h1, h2, h3, h4, h5, h6, h7, h8]
  refine ⟨r.ents, s.ents, ⟨rfl, rfl, hr.el, hs.el, hr.eo, hs.eo⟩, ?_⟩
  try simp only [go_sem, reduceCtorEq, Nat.reduceEqDiff, Nat.reduceAdd, Nat.reduceMul, Nat.reduceSub, Nat.reduceLeDiff, Nat.reduceLT, Int.reduceMul, Int.reduceAdd, Int.reduceSub, Int.reduceToNat, byq, Bool.bne_false, Bool.bne_true, p_xSameAll, p_xSameRecs, p_xSameOut, Bool.true_and, Bool.false_and, Bool.and_false, Bool.and_true, h0, h1, h2, h3, h4, h5, h6, h7, h8]
  refine ⟨r.recs, s.recs, by first | exact ⟨rfl, rfl, hr.rl, hs.rl, trivial⟩ | exact ⟨rfl, rfl, hr.rl, hs.rl⟩, ?_⟩
  try simp only [go_sem, reduceCtorEq, Nat.reduceEqDiff, Nat.reduceAdd, Nat.reduceMul, Nat.reduceSub, Nat.reduceLeDiff, Nat.reduceLT, Int.reduceMul, Int.reduceAdd, Int.reduceSub, Int.reduceToNat, byq, Bool.bne_false, Bool.bne_true, p_xSameAll, p_xSameRecs, p_xSameOut, Bool.true_and, Bool.false_and, Bool.and_false, Bool.and_true, h0, h1, h2, h3, h4, h5, h6, h7, h8]
  refine ⟨r.data, s.data, ⟨rfl, rfl⟩, ?_⟩
  try simp only [go_sem, reduceCtorEq, Nat.reduceEqDiff, Nat.reduceAdd, Nat.reduceMul, Nat.reduceSub, Nat.reduceLeDiff, Nat.reduceLT, Int.reduceMul, Int.reduceAdd, Int.reduceSub, Int.reduceToNat, byq, Bool.bne_false, Bool.bne_true, p_xSameAll, p_xSameRecs, p_xSameOut, Bool.true_and, Bool.false_and, Bool.and_false, Bool.and_true, h0, h1, h2, h3, h4, h5, h6, h7, h8]
  simp (disch := first | assumption | omega | (simp; done) | (simp; omega) | (simp only [bt, and_true]; first | done | omega | (simp; done))) [↓zlw, beq, ybc, ybd, ybe, endOk, wk, wk2, wk1, wkM, wkL, wkLL, ybf, hcl]
  first | done | repeat (first | exact AHeap.Le.refl _ | refine AHeap.Le.push ?_ _)
end Go.AL

