/- Contracts and plain laws, a part of the proof; no condition of its own. -/
import Derived.Test.YtepgdamgklfnmaaS10i
import Derived.Test.YtepgdamgklfnmaaS10v
open List renaming length_cons → yaz, length_nil → yba, take_of_length_le → ybc, drop_append → ybd, take_append → ybe, drop_eq_nil_of_le → ybf, length_map → ybb, map_nil → yaf
open Go Go.AL Go.Proofs
namespace Go.AL
set_option linter.all false
set_option maxRecDepth 10000

/-- the index of the first element with a property -/
def ixP {α : Type} (q : α → Bool) : List α → Nat → Int
  | [], _ => -1
  | x :: xs, k => if q x = true then (k : Int) else ixP q xs (k + 1)
theorem ixP_lt {α : Type} {q : α → Bool} : ∀ {l : List α} {k : Nat}, ixP q l k < (k : Int) + l.length ∧ (ixP q l k = -1 ∨ (k : Int) ≤ ixP q l k)
  | [], k => by simp [ixP]; omega
  | x :: l, k => by
    unfold ixP
    split
    · simp; omega
    · have := ixP_lt (q := q) (l := l) (k := k + 1)
      simp only [yaz]
      omega
theorem ixP_get {α : Type} {q : α → Bool} : ∀ {l : List α} {k i : Nat}, ixP q l k = ((k + i : Nat) : Int) → ∃ x, l[i]? = some x ∧ q x = true ∧ l.find? q = some x
  | [], k, i, h => by simp [ixP] at h; omega
  | x :: l, k, i, h => by
    unfold ixP at h
    split at h
    · rename_i hq
      have : i = 0 := by omega
      subst this
      exact ⟨x, rfl, hq, by simp [hq]⟩
    · rename_i hq
      have hi := (ixP_lt (q := q) (l := l) (k := k + 1)).2
      obtain ⟨j, rfl⟩ : ∃ j, i = j + 1 := ⟨i - 1, by omega⟩
      obtain ⟨y, h1, h2, h3⟩ := ixP_get (l := l) (k := k + 1) (i := j) (by rw [h]; congr 1; omega)
      exact ⟨y, by simpa using h1, h2, by rw [List.find?_cons_of_neg hq]; exact h3⟩
theorem ixP_none {α : Type} {q : α → Bool} : ∀ {l : List α} {k : Nat}, ixP q l k = -1 → l.find? q = none
  | [], k, h => rfl
  | x :: l, k, h => by
    unfold ixP at h
    split at h
    · omega
    · rename_i hq
      rw [List.find?_cons_of_neg hq]
      exact ixP_none h
def p_TabC : List AV → AHeap → (AV → Prop) → Prop
  | [x, .ptr c 0], H, K => ∃ t n, (x = tableAV t ∧ H.get c = some (.cells [.int .i64 n])) ∧ K (.bool (t.id == n))
  | _, _, _ => False
theorem ok_TabC : EntOk Try.prog 109 (Ent.pure p_TabC) := by
  refine EntOk.pure fun args H K h => ?_
  unfold p_TabC at h
  split at h
  rotate_left
  · exact h.elim
  rename_i x c
  obtain ⟨t, n, ⟨rfl, hg⟩, hK⟩ := h
  refine ⟨_, hK, ?_⟩
  clear hK
  unfold tableAV
  refine ACalls.of_aw (Ω := []) (T := assoc []) mixed TblOk.nil Try.func109 (by kernel_rfl) (by rfl) (rs := [.tmp 3]) (by rfl) (by kernel_rfl) (by simp only [Try.ntmps109, yaz, yba]; decide) (Nat.le_refl _) fun hcl hlt => ?_
  change aw _ _ _ (KI Try.prog [] (aEnd Try.prog [.tmp 3] H.nx _ _) []) _ _
  clear hlt
  have hcs := cells_some hg
  have hl := AHeap.get_lt hg
  have hne : (c = H.nx) = False := eq_false (by omega)
  simp only [go_sem, reduceCtorEq, Nat.reduceEqDiff, Nat.reduceAdd, Nat.reduceMul, Nat.reduceSub, Nat.reduceLeDiff, Nat.reduceLT, Int.reduceMul, Int.reduceAdd, Int.reduceSub, Int.reduceToNat, hcs, hne]
  (repeat with_reducible refine And.intro (by first | exact True.intro | decide | omega | (simp [zib, zge, zgf, zgg, zgi, zgh, zgm]; first | done | omega)) ?_)
  simp (disch := first | assumption | omega | (simp; done) | (simp; omega) | (simp only [bt, and_true]; first | done | omega | (simp; done))) [↓zlu, beq, ybc, ybd, ybe, endOk, wk, wk2, wk1, wkM, wkL, wkLL, ybf, hcl]
def p_FldC : List AV → AHeap → (AV → Prop) → Prop
  | [x, .ptr c 0], H, K => ∃ t n, (x = fieldAV t ∧ H.get c = some (.cells [.int .i64 n])) ∧ K (.bool (t.id == n))
  | _, _, _ => False
theorem ok_FldC : EntOk Try.prog 112 (Ent.pure p_FldC) := by
  refine EntOk.pure fun args H K h => ?_
  unfold p_FldC at h
  split at h
  rotate_left
  · exact h.elim
  rename_i x c
  obtain ⟨t, n, ⟨rfl, hg⟩, hK⟩ := h
  refine ⟨_, hK, ?_⟩
  clear hK
  unfold fieldAV
  refine ACalls.of_aw (Ω := []) (T := assoc []) mixed TblOk.nil Try.func112 (by kernel_rfl) (by rfl) (rs := [.tmp 3]) (by rfl) (by kernel_rfl) (by simp only [Try.ntmps112, yaz, yba]; decide) (Nat.le_refl _) fun hcl hlt => ?_
  change aw _ _ _ (KI Try.prog [] (aEnd Try.prog [.tmp 3] H.nx _ _) []) _ _
  clear hlt
  have hcs := cells_some hg
  have hl := AHeap.get_lt hg
  have hne : (c = H.nx) = False := eq_false (by omega)
  simp only [go_sem, reduceCtorEq, Nat.reduceEqDiff, Nat.reduceAdd, Nat.reduceMul, Nat.reduceSub, Nat.reduceLeDiff, Nat.reduceLT, Int.reduceMul, Int.reduceAdd, Int.reduceSub, Int.reduceToNat, hcs, hne]
  (repeat with_reducible refine And.intro (by first | exact True.intro | decide | omega | (simp [zib, zge, zgf, zgg, zgi, zgh, zgm]; first | done | omega)) ?_)
  simp (disch := first | assumption | omega | (simp; done) | (simp; omega) | (simp only [bt, and_true]; first | done | omega | (simp; done))) [↓zlu, beq, ybc, ybd, ybe, endOk, wk, wk2, wk1, wkM, wkL, wkLL, ybf, hcl]
def p_IdxT : List AV → AHeap → (AV → Prop) → Prop
  | [.slice _ 8 l, .func (.func 109) [] [.ptr c 0]], H, K => ∃ (ts : List STable) (n : Int), (l = ts.map tableAV ∧ H.get c = some (.cells [.int .i64 n]) ∧ ts.length ≤ 1000000) ∧ K (.int .i64 (ixP (fun t : STable => t.id == n) ts 0))
  | _, _, _ => False
theorem ok_IdxT : EntOk Try.prog 108 (Ent.pure p_IdxT) := by
  refine EntOk.pure fun args H K h => ?_
  unfold p_IdxT at h
  split at h
  rotate_left
  · exact h.elim
  rename_i m l c
  obtain ⟨ts, n, ⟨rfl, hg, hl⟩, hK⟩ := h
  refine ⟨_, hK, ?_⟩
  clear hK
  generalize hR : ixP (fun t : STable => t.id == n) ts 0 = R
  refine ACalls.of_aw (Ω := [(109, Ent.pure p_TabC)]) (T := assoc []) mixed (TblOk.cons ok_TabC TblOk.nil) Try.func108 (by kernel_rfl) (by rfl) (rs := [.tmp 4]) (by rfl) (by kernel_rfl) (by simp only [Try.ntmps108, yaz, yba]; decide) (Nat.le_refl _) fun hcl hlt => ?_
  change aw _ _ _ (KI Try.prog [(109, Ent.pure p_TabC)] (aEnd Try.prog [.tmp 4] H.nx _ _ (assoc [])) []) _ _
  have hm : AV.lt H.nx (.slice m 8 (ts.map tableAV)) := hlt _ (by simp)
  have hf : AV.lt H.nx (.func (.func 109) [] [.ptr c 0]) := hlt _ (by simp)
  clear hlt
  simp only [go_sem, reduceCtorEq, Nat.reduceEqDiff, Nat.reduceAdd, Nat.reduceMul, Nat.reduceSub, Nat.reduceLeDiff, Nat.reduceLT, Int.reduceMul, Int.reduceAdd, Int.reduceSub, Int.reduceToNat, ybb]
  refine loop_introW (A := Nat) (fun k => [(0, .slice m 8 (ts.map tableAV)), (1, .func (.func 109) [] [.ptr c 0]), (7, .int .i64 (ts.length : Int)), (8, .int .i64 (k : Int))]) (fun _ => H) (fun k => k ≤ ts.length ∧ ixP (fun t : STable => t.id == n) (ts.drop k) k = R) (fun k => ts.length - k) 0 ⟨by omega, hR⟩ ?_ fun k hk => ?_
  · refine ⟨Nat.le_refl _, AHeap.Le.refl _, hcl, ?_, ?_⟩
    · simp [ltF, zml, hm, hf]
    · simp [subW, wk2, wk1, wkM, Fr.get]
  clear hR
  obtain ⟨hk, hR⟩ := hk
  simp only [go_sem, reduceCtorEq, Nat.reduceEqDiff, Nat.reduceAdd, Nat.reduceMul, Nat.reduceSub, Nat.reduceLeDiff, Nat.reduceLT, Int.reduceMul, Int.reduceAdd, Int.reduceSub, Int.reduceToNat]
  refine cond_split (fun hc => ?_) (fun hc => ?_)
  · have hk' : k < ts.length := by simp at hc; omega
    obtain ⟨x, hx⟩ : ∃ x, x = ts[k] := ⟨_, rfl⟩
    have hd : ts.drop k = x :: ts.drop (k + 1) := by rw [hx]; exact List.drop_eq_getElem_cons hk'
    have hg' := getD_map (f := tableAV) (l := ts) (k := k) (x := x) (by rw [List.getElem?_eq_getElem hk', hx])
    have e5 : IntKind.i64.wrap ((k : Int) + 1) = ((k + 1 : Nat) : Int) := by rw [wrap_i64] <;> omega
    have hcell : (tableAV x).cells.length = 8 := rfl
    rw [hd] at hR
    unfold ixP at hR
    have hag : ∃ cs, tableAV x = .agg cs ∧ cs.length = 8 := ⟨_, rfl, rfl⟩
    obtain ⟨cs, hcs, hcl3⟩ := hag
    have hts : List.take 8 cs = cs := ybc (by omega)
    simp only [go_sem, reduceCtorEq, Nat.reduceEqDiff, Nat.reduceAdd, Nat.reduceMul, Nat.reduceSub, Nat.reduceLeDiff, Nat.reduceLT, Int.reduceMul, Int.reduceAdd, Int.reduceSub, Int.reduceToNat, Int.toNat_natCast, ybb, hg', hcs, hcl3, hts, p_TabC]
    (repeat with_reducible refine And.intro (by first | exact True.intro | decide | omega | (simp [zib, zge, zgf, zgg, zgi, zgh, zgm]; first | done | omega)) ?_)
    refine ⟨x, n, ⟨hcs.symm, hg⟩, ?_⟩
    try simp only [blkP, go_sem, reduceCtorEq, Nat.reduceEqDiff, Nat.reduceAdd, Nat.reduceMul, Nat.reduceSub, Nat.reduceLeDiff, Nat.reduceLT, Int.reduceMul, Int.reduceAdd, Int.reduceSub, Int.reduceToNat]
    (repeat with_reducible refine And.intro (by first | exact True.intro | decide | omega | (simp [zib, zge, zgf, zgg, zgi, zgh, zgm]; first | done | omega)) ?_)
    refine cond_split (fun hq => ?_) (fun hq => ?_)
    · rw [if_pos hq] at hR
      subst hR
      simp only [go_sem, reduceCtorEq, Nat.reduceEqDiff, Nat.reduceAdd, Nat.reduceMul, Nat.reduceSub, Nat.reduceLeDiff, Nat.reduceLT, Int.reduceMul, Int.reduceAdd, Int.reduceSub, Int.reduceToNat]
      simp (disch := first | assumption | omega | (simp; done) | (simp; omega) | (simp only [bt, and_true]; first | done | omega | (simp; done))) [↓zlu, beq, ybc, ybd, ybe, endOk, wk, wk2, wk1, wkM, wkL, wkLL, ybf, hcl]
    · rw [if_neg (by rw [hq]; decide)] at hR
      simp only [go_sem, reduceCtorEq, Nat.reduceEqDiff, Nat.reduceAdd, Nat.reduceMul, Nat.reduceSub, Nat.reduceLeDiff, Nat.reduceLT, Int.reduceMul, Int.reduceAdd, Int.reduceSub, Int.reduceToNat, e5]
      refine ⟨k + 1, ⟨by omega, hR⟩, by omega, Nat.le_refl _, AHeap.Le.refl _, hcl, ?_, ?_⟩
      · simp [ltF, zml, hm, hf]
      · simp [subW, wk2, wk1, wkM, Fr.get]
  · have hk' : k = ts.length := by simp at hc; omega
    subst hk'
    rw [List.drop_length] at hR
    unfold ixP at hR
    subst hR
    simp only [go_sem, reduceCtorEq, Nat.reduceEqDiff, Nat.reduceAdd, Nat.reduceMul, Nat.reduceSub, Nat.reduceLeDiff, Nat.reduceLT, Int.reduceMul, Int.reduceAdd, Int.reduceSub, Int.reduceToNat]
    simp (disch := first | assumption | omega | (simp; done) | (simp; omega) | (simp only [bt, and_true]; first | done | omega | (simp; done))) [↓zlu, beq, ybc, ybd, ybe, endOk, wk, wk2, wk1, wkM, wkL, wkLL, ybf, hcl]
def p_IdxF : List AV → AHeap → (AV → Prop) → Prop
  | [.slice _ 3 l, .func (.func 112) [] [.ptr c 0]], H, K => ∃ (ts : List SField) (n : Int), (l = ts.map fieldAV ∧ H.get c = some (.cells [.int .i64 n]) ∧ ts.length ≤ 1000000) ∧ K (.int .i64 (ixP (fun t : SField => t.id == n) ts 0))
  | _, _, _ => False
theorem ok_IdxF : EntOk Try.prog 111 (Ent.pure p_IdxF) := by
  refine EntOk.pure fun args H K h => ?_
  unfold p_IdxF at h
  split at h
  rotate_left
  · exact h.elim
  rename_i m l c
  obtain ⟨ts, n, ⟨rfl, hg, hl⟩, hK⟩ := h
  refine ⟨_, hK, ?_⟩
  clear hK
  generalize hR : ixP (fun t : SField => t.id == n) ts 0 = R
  refine ACalls.of_aw (Ω := [(112, Ent.pure p_FldC)]) (T := assoc []) mixed (TblOk.cons ok_FldC TblOk.nil) Try.func111 (by kernel_rfl) (by rfl) (rs := [.tmp 4]) (by rfl) (by kernel_rfl) (by simp only [Try.ntmps111, yaz, yba]; decide) (Nat.le_refl _) fun hcl hlt => ?_
  change aw _ _ _ (KI Try.prog [(112, Ent.pure p_FldC)] (aEnd Try.prog [.tmp 4] H.nx _ _ (assoc [])) []) _ _
  have hm : AV.lt H.nx (.slice m 3 (ts.map fieldAV)) := hlt _ (by simp)
  have hf : AV.lt H.nx (.func (.func 112) [] [.ptr c 0]) := hlt _ (by simp)
  clear hlt
  simp only [go_sem, reduceCtorEq, Nat.reduceEqDiff, Nat.reduceAdd, Nat.reduceMul, Nat.reduceSub, Nat.reduceLeDiff, Nat.reduceLT, Int.reduceMul, Int.reduceAdd, Int.reduceSub, Int.reduceToNat, ybb]
  refine loop_introW (A := Nat) (fun k => [(0, .slice m 3 (ts.map fieldAV)), (1, .func (.func 112) [] [.ptr c 0]), (7, .int .i64 (ts.length : Int)), (8, .int .i64 (k : Int))]) (fun _ => H) (fun k => k ≤ ts.length ∧ ixP (fun t : SField => t.id == n) (ts.drop k) k = R) (fun k => ts.length - k) 0 ⟨by omega, hR⟩ ?_ fun k hk => ?_
  · refine ⟨Nat.le_refl _, AHeap.Le.refl _, hcl, ?_, ?_⟩
    · simp [ltF, zml, hm, hf]
    · simp [subW, wk2, wk1, wkM, Fr.get]
  clear hR
  obtain ⟨hk, hR⟩ := hk
  simp only [go_sem, reduceCtorEq, Nat.reduceEqDiff, Nat.reduceAdd, Nat.reduceMul, Nat.reduceSub, Nat.reduceLeDiff, Nat.reduceLT, Int.reduceMul, Int.reduceAdd, Int.reduceSub, Int.reduceToNat]
  refine cond_split (fun hc => ?_) (fun hc => ?_)
  · have hk' : k < ts.length := by simp at hc; omega
    obtain ⟨x, hx⟩ : ∃ x, x = ts[k] := ⟨_, rfl⟩
    have hd : ts.drop k = x :: ts.drop (k + 1) := by rw [hx]; exact List.drop_eq_getElem_cons hk'
    have hg' := getD_map (f := fieldAV) (l := ts) (k := k) (x := x) (by rw [List.getElem?_eq_getElem hk', hx])
    have e5 : IntKind.i64.wrap ((k : Int) + 1) = ((k + 1 : Nat) : Int) := by rw [wrap_i64] <;> omega
    have hcell : (fieldAV x).cells.length = 3 := rfl
    rw [hd] at hR
    unfold ixP at hR
    have hag : ∃ cs, fieldAV x = .agg cs ∧ cs.length = 3 := ⟨_, rfl, rfl⟩
    obtain ⟨cs, hcs, hcl3⟩ := hag
    have hts : List.take 3 cs = cs := ybc (by omega)
    simp only [go_sem, reduceCtorEq, Nat.reduceEqDiff, Nat.reduceAdd, Nat.reduceMul, Nat.reduceSub, Nat.reduceLeDiff, Nat.reduceLT, Int.reduceMul, Int.reduceAdd, Int.reduceSub, Int.reduceToNat, Int.toNat_natCast, ybb, hg', hcs, hcl3, hts, p_FldC]
    (repeat with_reducible refine And.intro (by first | exact True.intro | decide | omega | (simp [zib, zge, zgf, zgg, zgi, zgh, zgm]; first | done | omega)) ?_)
    refine ⟨x, n, ⟨hcs.symm, hg⟩, ?_⟩
    try simp only [blkP, go_sem, reduceCtorEq, Nat.reduceEqDiff, Nat.reduceAdd, Nat.reduceMul, Nat.reduceSub, Nat.reduceLeDiff, Nat.reduceLT, Int.reduceMul, Int.reduceAdd, Int.reduceSub, Int.reduceToNat]
    (repeat with_reducible refine And.intro (by first | exact True.intro | decide | omega | (simp [zib, zge, zgf, zgg, zgi, zgh, zgm]; first | done | omega)) ?_)
    refine cond_split (fun hq => ?_) (fun hq => ?_)
    · rw [if_pos hq] at hR
      subst hR
      simp only [go_sem, reduceCtorEq, Nat.reduceEqDiff, Nat.reduceAdd, Nat.reduceMul, Nat.reduceSub, Nat.reduceLeDiff, Nat.reduceLT, Int.reduceMul, Int.reduceAdd, Int.reduceSub, Int.reduceToNat]
      simp (disch := first | assumption | omega | (simp; done) | (simp; omega) | (simp only [bt, and_true]; first | done | omega | (simp; done))) [↓zlu, beq, ybc, ybd, ybe, endOk, wk, wk2, wk1, wkM, wkL, wkLL, ybf, hcl]
    · rw [if_neg (by rw [hq]; decide)] at hR
      simp only [go_sem, reduceCtorEq, Nat.reduceEqDiff, Nat.reduceAdd, Nat.reduceMul, Nat.reduceSub, Nat.reduceLeDiff, Nat.reduceLT, Int.reduceMul, Int.reduceAdd, Int.reduceSub, Int.reduceToNat, e5]
      refine ⟨k + 1, ⟨by omega, hR⟩, by omega, Nat.le_refl _, AHeap.Le.refl _, hcl, ?_, ?_⟩
      · simp [ltF, zml, hm, hf]
      · simp [subW, wk2, wk1, wkM, Fr.get]
  · have hk' : k = ts.length := by simp at hc; omega
    subst hk'
    rw [List.drop_length] at hR
    unfold ixP at hR
    subst hR
    simp only [go_sem, reduceCtorEq, Nat.reduceEqDiff, Nat.reduceAdd, Nat.reduceMul, Nat.reduceSub, Nat.reduceLeDiff, Nat.reduceLT, Int.reduceMul, Int.reduceAdd, Int.reduceSub, Int.reduceToNat]
    simp (disch := first | assumption | omega | (simp; done) | (simp; omega) | (simp only [bt, and_true]; first | done | omega | (simp; done))) [↓zlu, beq, ybc, ybd, ybe, endOk, wk, wk2, wk1, wkM, wkL, wkLL, ybf, hcl]
def p_RnkC : List AV → AHeap → (AV → Prop) → Prop
  | [x], H, K => ∃ t, x = keyAV t ∧ K (.bool (t.kind == 3 || t.kind == 4))
  | _, _, _ => False
theorem ok_RnkC : EntOk Try.prog 99 (Ent.pure p_RnkC) := by
  refine EntOk.pure fun args H K h => ?_
  unfold p_RnkC at h
  split at h
  rotate_left
  · exact h.elim
  rename_i x
  obtain ⟨t, rfl, hK⟩ := h
  refine ⟨_, hK, ?_⟩
  clear hK
  unfold keyAV
  cases h3 : (t.kind == 3)
  · rw [Bool.false_or]
    refine ACalls.of_aw (Ω := []) (T := assoc []) mixed TblOk.nil Try.func99 (by kernel_rfl) (by rfl) (rs := [.tmp 2]) (by rfl) (by kernel_rfl) (by simp only [Try.ntmps99, yaz, yba]; decide) (Nat.le_refl _) fun hcl hlt => ?_
    change aw _ _ _ (KI Try.prog [] (aEnd Try.prog [.tmp 2] H.nx _ _) []) _ _
    clear hlt
    simp only [go_sem, reduceCtorEq, Nat.reduceEqDiff, Nat.reduceAdd, Nat.reduceMul, Nat.reduceSub, Nat.reduceLeDiff, Nat.reduceLT, Int.reduceMul, Int.reduceAdd, Int.reduceSub, Int.reduceToNat, h3]
    (repeat with_reducible refine And.intro (by first | exact True.intro | decide | omega | (simp [zib, zge, zgf, zgg, zgi, zgh, zgm]; first | done | omega)) ?_)
    simp (disch := first | assumption | omega | (simp; done) | (simp; omega) | (simp only [bt, and_true]; first | done | omega | (simp; done))) [↓zlu, beq, ybc, ybd, ybe, endOk, wk, wk2, wk1, wkM, wkL, wkLL, ybf, hcl]
  · rw [Bool.true_or]
    refine ACalls.of_aw (Ω := []) (T := assoc []) mixed TblOk.nil Try.func99 (by kernel_rfl) (by rfl) (rs := [.tmp 2]) (by rfl) (by kernel_rfl) (by simp only [Try.ntmps99, yaz, yba]; decide) (Nat.le_refl _) fun hcl hlt => ?_
    change aw _ _ _ (KI Try.prog [] (aEnd Try.prog [.tmp 2] H.nx _ _) []) _ _
    clear hlt
    simp only [go_sem, reduceCtorEq, Nat.reduceEqDiff, Nat.reduceAdd, Nat.reduceMul, Nat.reduceSub, Nat.reduceLeDiff, Nat.reduceLT, Int.reduceMul, Int.reduceAdd, Int.reduceSub, Int.reduceToNat, h3]
    (repeat with_reducible refine And.intro (by first | exact True.intro | decide | omega | (simp [zib, zge, zgf, zgg, zgi, zgh, zgm]; first | done | omega)) ?_)
    simp (disch := first | assumption | omega | (simp; done) | (simp; omega) | (simp only [bt, and_true]; first | done | omega | (simp; done))) [↓zlu, beq, ybc, ybd, ybe, endOk, wk, wk2, wk1, wkM, wkL, wkLL, ybf, hcl]
def p_IdxK : List AV → AHeap → (AV → Prop) → Prop
  | [.slice _ 3 l, .func (.func 99) [] []], H, K => ∃ ts : List SKey, (l = ts.map keyAV ∧ ts.length ≤ 1000000) ∧ K (.int .i64 (ixP (fun t : SKey => t.kind == 3 || t.kind == 4) ts 0))
  | _, _, _ => False
theorem ok_IdxK : EntOk Try.prog 113 (Ent.pure p_IdxK) := by
  refine EntOk.pure fun args H K h => ?_
  unfold p_IdxK at h
  split at h
  rotate_left
  · exact h.elim
  rename_i m l
  obtain ⟨ts, ⟨rfl, hl⟩, hK⟩ := h
  refine ⟨_, hK, ?_⟩
  clear hK
  generalize hR : ixP (fun t : SKey => t.kind == 3 || t.kind == 4) ts 0 = R
  refine ACalls.of_aw (Ω := [(99, Ent.pure p_RnkC)]) (T := assoc []) mixed (TblOk.cons ok_RnkC TblOk.nil) Try.func113 (by kernel_rfl) (by rfl) (rs := [.tmp 4]) (by rfl) (by kernel_rfl) (by simp only [Try.ntmps113, yaz, yba]; decide) (Nat.le_refl _) fun hcl hlt => ?_
  change aw _ _ _ (KI Try.prog [(99, Ent.pure p_RnkC)] (aEnd Try.prog [.tmp 4] H.nx _ _ (assoc [])) []) _ _
  have hm : AV.lt H.nx (.slice m 3 (ts.map keyAV)) := hlt _ (by simp)
  have hf : AV.lt H.nx (.func (.func 99) [] []) := hlt _ (by simp)
  clear hlt
  simp only [go_sem, reduceCtorEq, Nat.reduceEqDiff, Nat.reduceAdd, Nat.reduceMul, Nat.reduceSub, Nat.reduceLeDiff, Nat.reduceLT, Int.reduceMul, Int.reduceAdd, Int.reduceSub, Int.reduceToNat, ybb]
  refine loop_introW (A := Nat) (fun k => [(0, .slice m 3 (ts.map keyAV)), (1, .func (.func 99) [] []), (7, .int .i64 (ts.length : Int)), (8, .int .i64 (k : Int))]) (fun _ => H) (fun k => k ≤ ts.length ∧ ixP (fun t : SKey => t.kind == 3 || t.kind == 4) (ts.drop k) k = R) (fun k => ts.length - k) 0 ⟨by omega, hR⟩ ?_ fun k hk => ?_
  · refine ⟨Nat.le_refl _, AHeap.Le.refl _, hcl, ?_, ?_⟩
    · simp [ltF, zml, hm, hf]
    · simp [subW, wk2, wk1, wkM, Fr.get]
  clear hR
  obtain ⟨hk, hR⟩ := hk
  simp only [go_sem, reduceCtorEq, Nat.reduceEqDiff, Nat.reduceAdd, Nat.reduceMul, Nat.reduceSub, Nat.reduceLeDiff, Nat.reduceLT, Int.reduceMul, Int.reduceAdd, Int.reduceSub, Int.reduceToNat]
  refine cond_split (fun hc => ?_) (fun hc => ?_)
  · have hk' : k < ts.length := by simp at hc; omega
    obtain ⟨x, hx⟩ : ∃ x, x = ts[k] := ⟨_, rfl⟩
    have hd : ts.drop k = x :: ts.drop (k + 1) := by rw [hx]; exact List.drop_eq_getElem_cons hk'
    have hg' := getD_map (f := keyAV) (l := ts) (k := k) (x := x) (by rw [List.getElem?_eq_getElem hk', hx])
    have e5 : IntKind.i64.wrap ((k : Int) + 1) = ((k + 1 : Nat) : Int) := by rw [wrap_i64] <;> omega
    have hcell : (keyAV x).cells.length = 3 := rfl
    rw [hd] at hR
    unfold ixP at hR
    have hag : ∃ cs, keyAV x = .agg cs ∧ cs.length = 3 := ⟨_, rfl, rfl⟩
    obtain ⟨cs, hcs, hcl3⟩ := hag
    have hts : List.take 3 cs = cs := ybc (by omega)
    simp only [go_sem, reduceCtorEq, Nat.reduceEqDiff, Nat.reduceAdd, Nat.reduceMul, Nat.reduceSub, Nat.reduceLeDiff, Nat.reduceLT, Int.reduceMul, Int.reduceAdd, Int.reduceSub, Int.reduceToNat, Int.toNat_natCast, ybb, hg', hcs, hcl3, hts, p_RnkC]
    (repeat with_reducible refine And.intro (by first | exact True.intro | decide | omega | (simp [zib, zge, zgf, zgg, zgi, zgh, zgm]; first | done | omega)) ?_)
    refine ⟨x, hcs.symm, ?_⟩
    try simp only [blkP, go_sem, reduceCtorEq, Nat.reduceEqDiff, Nat.reduceAdd, Nat.reduceMul, Nat.reduceSub, Nat.reduceLeDiff, Nat.reduceLT, Int.reduceMul, Int.reduceAdd, Int.reduceSub, Int.reduceToNat]
    (repeat with_reducible refine And.intro (by first | exact True.intro | decide | omega | (simp [zib, zge, zgf, zgg, zgi, zgh, zgm]; first | done | omega)) ?_)
    refine cond_split (fun hq => ?_) (fun hq => ?_)
    · rw [if_pos hq] at hR
      subst hR
      simp only [go_sem, reduceCtorEq, Nat.reduceEqDiff, Nat.reduceAdd, Nat.reduceMul, Nat.reduceSub, Nat.reduceLeDiff, Nat.reduceLT, Int.reduceMul, Int.reduceAdd, Int.reduceSub, Int.reduceToNat]
      simp (disch := first | assumption | omega | (simp; done) | (simp; omega) | (simp only [bt, and_true]; first | done | omega | (simp; done))) [↓zlu, beq, ybc, ybd, ybe, endOk, wk, wk2, wk1, wkM, wkL, wkLL, ybf, hcl]
    · rw [if_neg (by rw [hq]; decide)] at hR
      simp only [go_sem, reduceCtorEq, Nat.reduceEqDiff, Nat.reduceAdd, Nat.reduceMul, Nat.reduceSub, Nat.reduceLeDiff, Nat.reduceLT, Int.reduceMul, Int.reduceAdd, Int.reduceSub, Int.reduceToNat, e5]
      refine ⟨k + 1, ⟨by omega, hR⟩, by omega, Nat.le_refl _, AHeap.Le.refl _, hcl, ?_, ?_⟩
      · simp [ltF, zml, hm, hf]
      · simp [subW, wk2, wk1, wkM, Fr.get]
  · have hk' : k = ts.length := by simp at hc; omega
    subst hk'
    rw [List.drop_length] at hR
    unfold ixP at hR
    subst hR
    simp only [go_sem, reduceCtorEq, Nat.reduceEqDiff, Nat.reduceAdd, Nat.reduceMul, Nat.reduceSub, Nat.reduceLeDiff, Nat.reduceLT, Int.reduceMul, Int.reduceAdd, Int.reduceSub, Int.reduceToNat]
    simp (disch := first | assumption | omega | (simp; done) | (simp; omega) | (simp only [bt, and_true]; first | done | omega | (simp; done))) [↓zlu, beq, ybc, ybd, ybe, endOk, wk, wk2, wk1, wkM, wkL, wkLL, ybf, hcl]
def p_cTableOf : List AV → AHeap → (AV → Prop) → Prop
  | [.agg l, .int .i64 n], _, K => ∃ S : Sch, (l = schC S ∧ S.tables.length ≤ 1000000) ∧ K (.int .i64 (ixP (fun t : STable => t.id == n) S.tables 0))
  | _, _, _ => False
theorem ok_cTableOf : EntOk Try.prog 93 (Ent.pure p_cTableOf) := by
  refine EntOk.pure fun args H K h => ?_
  unfold p_cTableOf at h
  split at h
  rotate_left
  · exact h.elim
  rename_i l n
  obtain ⟨S, ⟨rfl, hl⟩, hK⟩ := h
  refine ⟨_, hK, ?_⟩
  clear hK
  refine ACalls.of_aw (Ω := [(108, Ent.pure p_IdxT)]) (T := assoc []) mixed (TblOk.cons ok_IdxT TblOk.nil) Try.func93 (by kernel_rfl) (by rfl) (rs := [.tmp 4]) (by rfl) (by kernel_rfl) (by simp only [Try.ntmps93, yaz, yba]; decide) (Nat.le_refl _) fun hcl hlt => ?_
  change aw _ _ _ (KI Try.prog [(108, Ent.pure p_IdxT)] (aEnd Try.prog [.tmp 4] H.nx _ _) []) _ _
  clear hlt
  simp only [go_sem, reduceCtorEq, Nat.reduceEqDiff, Nat.reduceAdd, Nat.reduceMul, Nat.reduceSub, Nat.reduceLeDiff, Nat.reduceLT, Int.reduceMul, Int.reduceAdd, Int.reduceSub, Int.reduceToNat, schC, p_IdxT]
  (repeat with_reducible refine And.intro (by first | exact True.intro | decide | omega | (simp [zib, zge, zgf, zgg, zgi, zgh, zgm]; first | done | omega)) ?_)
  refine ⟨S.tables, n, ⟨rfl, by simp only [go_sem, reduceCtorEq, Nat.reduceEqDiff, Nat.reduceAdd, Nat.reduceMul, Nat.reduceSub, Nat.reduceLeDiff, Nat.reduceLT, Int.reduceMul, Int.reduceAdd, Int.reduceSub, Int.reduceToNat], hl⟩, ?_⟩
  try simp only [blkP, go_sem, reduceCtorEq, Nat.reduceEqDiff, Nat.reduceAdd, Nat.reduceMul, Nat.reduceSub, Nat.reduceLeDiff, Nat.reduceLT, Int.reduceMul, Int.reduceAdd, Int.reduceSub, Int.reduceToNat]
  simp (disch := first | assumption | omega | (simp; done) | (simp; omega) | (simp only [bt, and_true]; first | done | omega | (simp; done))) [↓zlu, beq, ybc, ybd, ybe, endOk, wk, wk2, wk1, wkM, wkL, wkLL, ybf, hcl]
def p_cFieldOf : List AV → AHeap → (AV → Prop) → Prop
  | [.agg l, .int .i64 n], _, K => ∃ S : Sch, (l = schC S ∧ S.fields.length ≤ 1000000) ∧ K (.int .i64 (ixP (fun t : SField => t.id == n) S.fields 0))
  | _, _, _ => False
theorem ok_cFieldOf : EntOk Try.prog 97 (Ent.pure p_cFieldOf) := by
  refine EntOk.pure fun args H K h => ?_
  unfold p_cFieldOf at h
  split at h
  rotate_left
  · exact h.elim
  rename_i l n
  obtain ⟨S, ⟨rfl, hl⟩, hK⟩ := h
  refine ⟨_, hK, ?_⟩
  clear hK
  refine ACalls.of_aw (Ω := [(111, Ent.pure p_IdxF)]) (T := assoc []) mixed (TblOk.cons ok_IdxF TblOk.nil) Try.func97 (by kernel_rfl) (by rfl) (rs := [.tmp 4]) (by rfl) (by kernel_rfl) (by simp only [Try.ntmps97, yaz, yba]; decide) (Nat.le_refl _) fun hcl hlt => ?_
  change aw _ _ _ (KI Try.prog [(111, Ent.pure p_IdxF)] (aEnd Try.prog [.tmp 4] H.nx _ _) []) _ _
  clear hlt
  simp only [go_sem, reduceCtorEq, Nat.reduceEqDiff, Nat.reduceAdd, Nat.reduceMul, Nat.reduceSub, Nat.reduceLeDiff, Nat.reduceLT, Int.reduceMul, Int.reduceAdd, Int.reduceSub, Int.reduceToNat, schC, p_IdxF]
  (repeat with_reducible refine And.intro (by first | exact True.intro | decide | omega | (simp [zib, zge, zgf, zgg, zgi, zgh, zgm]; first | done | omega)) ?_)
  refine ⟨S.fields, n, ⟨rfl, by simp only [go_sem, reduceCtorEq, Nat.reduceEqDiff, Nat.reduceAdd, Nat.reduceMul, Nat.reduceSub, Nat.reduceLeDiff, Nat.reduceLT, Int.reduceMul, Int.reduceAdd, Int.reduceSub, Int.reduceToNat], hl⟩, ?_⟩
  try simp only [blkP, go_sem, reduceCtorEq, Nat.reduceEqDiff, Nat.reduceAdd, Nat.reduceMul, Nat.reduceSub, Nat.reduceLeDiff, Nat.reduceLT, Int.reduceMul, Int.reduceAdd, Int.reduceSub, Int.reduceToNat]
  simp (disch := first | assumption | omega | (simp; done) | (simp; omega) | (simp only [bt, and_true]; first | done | omega | (simp; done))) [↓zlu, beq, ybc, ybd, ybe, endOk, wk, wk2, wk1, wkM, wkL, wkLL, ybf, hcl]
/-- the bits of a field, by its index -/
theorem bitsL_ix {fs : List SField} {id : Int} : bitsL fs id = match fs.find? (fun f => f.id == id) with | some f => f.bits | none => 0 := by
  induction fs with
  | nil => rfl
  | cons f fs ih =>
    unfold bitsL
    by_cases h : f.id = id
    · rw [if_pos h, List.find?_cons_of_pos (by simp [h])]
    · rw [if_neg h, List.find?_cons_of_neg (by simp [h])]; exact ih
def p_eBitsOf : List AV → AHeap → (AV → Prop) → Prop
  | [.agg l, .agg [.str nm, .int .i64 fld, .int .i64 kind]], _, K => ∃ S : Sch, (l = schC S ∧ S.fields.length ≤ 1000000) ∧ K (.int .i64 (bitsF S fld))
  | _, _, _ => False
theorem ok_eBitsOf : EntOk Try.prog 77 (Ent.pure p_eBitsOf) := by
  refine EntOk.pure fun args H K h => ?_
  unfold p_eBitsOf at h
  split at h
  rotate_left
  · exact h.elim
  rename_i l nm fld kind
  obtain ⟨S, ⟨rfl, hl⟩, hK⟩ := h
  refine ⟨_, hK, ?_⟩
  clear hK
  unfold bitsF
  rw [bitsL_ix]
  obtain ⟨b1, b2⟩ := ixP_lt (q := fun f : SField => f.id == fld) (l := S.fields) (k := 0)
  rcases b2 with b2 | b2
  · rw [ixP_none b2]
    refine ACalls.of_aw (Ω := [(97, Ent.pure p_cFieldOf)]) (T := assoc []) mixed (TblOk.cons ok_cFieldOf TblOk.nil) Try.func77 (by kernel_rfl) (by rfl) (rs := [.tmp 4]) (by rfl) (by kernel_rfl) (by simp only [Try.ntmps77, yaz, yba]; decide) (Nat.le_refl _) fun hcl hlt => ?_
    change aw _ _ _ (KI Try.prog [(97, Ent.pure p_cFieldOf)] (aEnd Try.prog [.tmp 4] H.nx _ _) []) _ _
    clear hlt
    simp only [go_sem, reduceCtorEq, Nat.reduceEqDiff, Nat.reduceAdd, Nat.reduceMul, Nat.reduceSub, Nat.reduceLeDiff, Nat.reduceLT, Int.reduceMul, Int.reduceAdd, Int.reduceSub, Int.reduceToNat, schC, p_cFieldOf]
    (repeat with_reducible refine And.intro (by first | exact True.intro | decide | omega | (simp [zib, zge, zgf, zgg, zgi, zgh, zgm]; first | done | omega)) ?_)
    refine ⟨S, ⟨rfl, hl⟩, ?_⟩
    rw [b2]
    have d : decide ((-1 : Int) < 0) = true := rfl
    simp only [blkP, go_sem, reduceCtorEq, Nat.reduceEqDiff, Nat.reduceAdd, Nat.reduceMul, Nat.reduceSub, Nat.reduceLeDiff, Nat.reduceLT, Int.reduceMul, Int.reduceAdd, Int.reduceSub, Int.reduceToNat, d]
    simp (disch := first | assumption | omega | (simp; done) | (simp; omega) | (simp only [bt, and_true]; first | done | omega | (simp; done))) [↓zlu, beq, ybc, ybd, ybe, endOk, wk, wk2, wk1, wkM, wkL, wkLL, ybf, hcl]
  · obtain ⟨i, hi⟩ : ∃ i : Nat, ixP (fun f : SField => f.id == fld) S.fields 0 = ((0 + i : Nat) : Int) := ⟨(ixP (fun f : SField => f.id == fld) S.fields 0).toNat, by omega⟩
    obtain ⟨x, h1, h2, h3⟩ := ixP_get hi
    rw [h3]
    rw [Nat.zero_add] at hi
    have hil : i < S.fields.length := by
      rcases Nat.lt_or_ge i S.fields.length with h | h
      · exact h
      · rw [List.getElem?_eq_none h] at h1; cases h1
    have hg' := getD_map (f := fieldAV) (l := S.fields) (k := i) (x := x) h1
    have d : decide ((i : Int) < 0) = false := by simp
    refine ACalls.of_aw (Ω := [(97, Ent.pure p_cFieldOf)]) (T := assoc []) mixed (TblOk.cons ok_cFieldOf TblOk.nil) Try.func77 (by kernel_rfl) (by rfl) (rs := [.tmp 4]) (by rfl) (by kernel_rfl) (by simp only [Try.ntmps77, yaz, yba]; decide) (Nat.le_refl _) fun hcl hlt => ?_
    change aw _ _ _ (KI Try.prog [(97, Ent.pure p_cFieldOf)] (aEnd Try.prog [.tmp 4] H.nx _ _) []) _ _
    clear hlt
    simp only [go_sem, reduceCtorEq, Nat.reduceEqDiff, Nat.reduceAdd, Nat.reduceMul, Nat.reduceSub, Nat.reduceLeDiff, Nat.reduceLT, Int.reduceMul, Int.reduceAdd, Int.reduceSub, Int.reduceToNat, schC, p_cFieldOf]
    (repeat with_reducible refine And.intro (by first | exact True.intro | decide | omega | (simp [zib, zge, zgf, zgg, zgi, zgh, zgm]; first | done | omega)) ?_)
    refine ⟨S, ⟨rfl, hl⟩, ?_⟩
    rw [hi]
    simp only [blkP, go_sem, reduceCtorEq, Nat.reduceEqDiff, Nat.reduceAdd, Nat.reduceMul, Nat.reduceSub, Nat.reduceLeDiff, Nat.reduceLT, Int.reduceMul, Int.reduceAdd, Int.reduceSub, Int.reduceToNat, schC, d, Int.toNat_natCast, hg', fieldAV, ybb]
    (repeat with_reducible refine And.intro (by first | exact True.intro | decide | omega | (simp [zib, zge, zgf, zgg, zgi, zgh, zgm]; first | done | omega)) ?_)
    simp (disch := first | assumption | omega | (simp; done) | (simp; omega) | (simp only [bt, and_true]; first | done | omega | (simp; done))) [↓zlu, beq, ybc, ybd, ybe, endOk, wk, wk2, wk1, wkM, wkL, wkLL, ybf, hcl]
def tabF (S : Sch) (id : Int) : Option STable := S.tables.find? fun t => t.id == id
def p_eTable : List AV → AHeap → (AV → Prop) → Prop
  | [.agg l, .agg [.int .i64 id, .slice _ 8 ms, .int .i64 pr, .int .i64 ac, .slice _ 2 ar]], _, K => ∃ S : Sch, (l = schC S ∧ S.tables.length ≤ 1000000) ∧
      K (match tabF S id with | some t => .tup [tableAV t, .bool true] | none => .tup [tableAV noTable, .bool false])
  | _, _, _ => False
theorem ok_eTable : EntOk Try.prog 74 (Ent.pure p_eTable) := by
  refine EntOk.pure fun args H K h => ?_
  unfold p_eTable at h
  split at h
  rotate_left
  · exact h.elim
  rename_i l id m1 ms pr ac m2 ar
  obtain ⟨S, ⟨rfl, hl⟩, hK⟩ := h
  refine ⟨_, hK, ?_⟩
  clear hK
  unfold tabF
  obtain ⟨b1, b2⟩ := ixP_lt (q := fun f : STable => f.id == id) (l := S.tables) (k := 0)
  rcases b2 with b2 | b2
  · rw [ixP_none b2]
    refine ACalls.of_aw (Ω := [(93, Ent.pure p_cTableOf)]) (T := assoc []) mixed (TblOk.cons ok_cTableOf TblOk.nil) Try.func74 (by kernel_rfl) (by rfl) (rs := [.cell 4 84,.tmp 5]) (by rfl) (by kernel_rfl) (by simp only [Try.ntmps74, yaz, yba]; decide) (Nat.le_refl _) fun hcl hlt => ?_
    change aw _ _ _ (KI Try.prog [(93, Ent.pure p_cTableOf)] (aEnd Try.prog [.cell 4 84,.tmp 5] H.nx _ _) []) _ _
    clear hlt
    simp only [go_sem, reduceCtorEq, Nat.reduceEqDiff, Nat.reduceAdd, Nat.reduceMul, Nat.reduceSub, Nat.reduceLeDiff, Nat.reduceLT, Int.reduceMul, Int.reduceAdd, Int.reduceSub, Int.reduceToNat, schC, p_cTableOf]
    (repeat with_reducible refine And.intro (by first | exact True.intro | decide | omega | (simp [zib, zge, zgf, zgg, zgi, zgh, zgm]; first | done | omega)) ?_)
    refine ⟨S, ⟨rfl, hl⟩, ?_⟩
    rw [b2]
    have d : decide ((-1 : Int) < 0) = true := rfl
    simp only [blkP, go_sem, reduceCtorEq, Nat.reduceEqDiff, Nat.reduceAdd, Nat.reduceMul, Nat.reduceSub, Nat.reduceLeDiff, Nat.reduceLT, Int.reduceMul, Int.reduceAdd, Int.reduceSub, Int.reduceToNat, d, tableAV, noTable, yaf, inL]
    simp (disch := first | assumption | omega | (simp; done) | (simp; omega) | (simp only [bt, and_true]; first | done | omega | (simp; done))) [↓zlu, beq, ybc, ybd, ybe, endOk, wk, wk2, wk1, wkM, wkL, wkLL, ybf, hcl]
  · obtain ⟨i, hi⟩ : ∃ i : Nat, ixP (fun f : STable => f.id == id) S.tables 0 = ((0 + i : Nat) : Int) := ⟨(ixP (fun f : STable => f.id == id) S.tables 0).toNat, by omega⟩
    obtain ⟨x, h1, h2, h3⟩ := ixP_get hi
    rw [h3]
    rw [Nat.zero_add] at hi
    have hil : i < S.tables.length := by
      rcases Nat.lt_or_ge i S.tables.length with h | h
      · exact h
      · rw [List.getElem?_eq_none h] at h1; cases h1
    have hg' := getD_map (f := tableAV) (l := S.tables) (k := i) (x := x) h1
    have d : decide ((i : Int) < 0) = false := by simp
    have hlx := lt_table (n := H.nx) x
    simp only [tableAV] at hlx
    refine ACalls.of_aw (Ω := [(93, Ent.pure p_cTableOf)]) (T := assoc []) mixed (TblOk.cons ok_cTableOf TblOk.nil) Try.func74 (by kernel_rfl) (by rfl) (rs := [.cell 4 84,.tmp 5]) (by rfl) (by kernel_rfl) (by simp only [Try.ntmps74, yaz, yba]; decide) (Nat.le_refl _) fun hcl hlt => ?_
    change aw _ _ _ (KI Try.prog [(93, Ent.pure p_cTableOf)] (aEnd Try.prog [.cell 4 84,.tmp 5] H.nx _ _) []) _ _
    clear hlt
    simp only [go_sem, reduceCtorEq, Nat.reduceEqDiff, Nat.reduceAdd, Nat.reduceMul, Nat.reduceSub, Nat.reduceLeDiff, Nat.reduceLT, Int.reduceMul, Int.reduceAdd, Int.reduceSub, Int.reduceToNat, schC, p_cTableOf]
    (repeat with_reducible refine And.intro (by first | exact True.intro | decide | omega | (simp [zib, zge, zgf, zgg, zgi, zgh, zgm]; first | done | omega)) ?_)
    refine ⟨S, ⟨rfl, hl⟩, ?_⟩
    rw [hi]
    simp only [blkP, go_sem, reduceCtorEq, Nat.reduceEqDiff, Nat.reduceAdd, Nat.reduceMul, Nat.reduceSub, Nat.reduceLeDiff, Nat.reduceLT, Int.reduceMul, Int.reduceAdd, Int.reduceSub, Int.reduceToNat, schC, d, Int.toNat_natCast, hg', tableAV, ybb]
    (repeat with_reducible refine And.intro (by first | exact True.intro | decide | omega | (simp [zib, zge, zgf, zgg, zgi, zgh, zgm]; first | done | omega)) ?_)
    simp (disch := first | assumption | omega | (simp; done) | (simp; omega) | (simp only [bt, and_true]; first | done | omega | (simp; done))) [↓zlu, beq, ybc, ybd, ybe, endOk, wk, wk2, wk1, wkM, wkL, wkLL, ybf, hcl, hlx]
end Go.AL

