/- Contracts and plain laws, a part of the proof; no condition of its own. -/
import Derived.Test.YtknhoembfohbiaaC06
open List renaming length_cons → yaz, length_nil → yba, take_of_length_le → ybc, drop_append → ybd, take_append → ybe, drop_eq_nil_of_le → ybf, append_nil → yaj
open Go Go.AL Go.Proofs
namespace Go.AL
set_option linter.all false
set_option maxRecDepth 10000
def p_fPart : List AV → AHeap → (AV → Prop) → Prop
  | [x], _, K => ∃ c, x = ofByte c ∧ K (.bool (isPart c))
  | _, _, _ => False
theorem ok_fPart : EntOk Try.prog 145 (Ent.pure p_fPart) := by
  refine EntOk.pure fun args H K h => ?_
  unfold p_fPart at h
  split at h
  rotate_left
  · exact h.elim
  obtain ⟨c, rfl, hK⟩ := h
  refine ⟨_, hK, ?_⟩
  clear hK
  refine ACalls.of_aw (Ω := []) (T := assoc []) mixed TblOk.nil Try.func145 (by kernel_rfl) (by rfl) (rs := [.tmp 2]) (by rfl) (by kernel_rfl) (by simp only [Try.ntmps145, yaz, yba]; decide) (Nat.le_refl _) fun hcl hlt => ?_
  change aw _ _ _ (KI Try.prog [] (aEnd Try.prog [.tmp 2] H.nx _ _) []) _ _
  clear hlt
  simp only [go_sem, reduceCtorEq, Nat.reduceEqDiff, Nat.reduceAdd, Nat.reduceMul, Nat.reduceSub, Nat.reduceLeDiff, Nat.reduceLT, Int.reduceMul, Int.reduceAdd, Int.reduceSub, Int.reduceToNat, ofByte]
  have e95 : (((c.toNat : Nat) : Int) == 95) = (c == 95) := by rw [Bool.eq_iff_iff]; simp [← UInt8.toNat_inj]; omega
  rw [e95]
  have fin : ∀ {t : Bool}, isPart c = t → endOk H (AV.bool t) H (AV.bool (isPart c)) := fun e => by
    rw [e]
    simp (disch := first | assumption | omega | (simp; done) | (simp; omega) | (simp only [bt, and_true]; first | done | omega | (simp; done))) [↓zlf, beq, ybc, ybd, ybe, endOk, wk, wk2, wk1, wkM, wkL, wkLL, ybf, hcl]
  have tl : isLetter c = false → both (decide ((c.toNat : Int) ≥ 48)) (both (decide ((c.toNat : Int) ≤ 57)) (endOk H (AV.bool true) H (AV.bool (isPart c))) (endOk H (AV.bool (c == 95)) H (AV.bool (isPart c)))) (endOk H (AV.bool (c == 95)) H (AV.bool (isPart c))) := fun h1 => by
    refine both_split (fun h2 => ?_) (fun h2 => ?_)
    · have h2' : 48 ≤ c.toNat := by simp at h2; omega
      refine both_split (fun h3 => ?_) (fun h3 => ?_)
      · have h3' : c.toNat ≤ 57 := by simp at h3; omega
        exact fin (by unfold isPart; rw [decide_eq_true h2', decide_eq_true h3']; simp)
      · have h3' : ¬ c.toNat ≤ 57 := by simp at h3; omega
        exact fin (by unfold isPart; rw [decide_eq_false h3', h1]; simp)
    · have h2' : ¬ 48 ≤ c.toNat := by simp at h2; omega
      exact fin (by unfold isPart; rw [decide_eq_false h2', h1]; simp)
  refine both_split (fun h1 => both_split (fun h2 => ?_) (fun h2 => tl ?_)) (fun h1 => tl ?_)
  · exact fin (by unfold isPart isLetter; simp at h1 h2; rw [decide_eq_true (by omega), decide_eq_true (by omega)]; simp)
  · unfold isLetter; simp at h2; rw [decide_eq_false (p := c.toNat ≤ 122) (by omega)]; simp
  · unfold isLetter; simp at h1; rw [decide_eq_false (p := 97 ≤ c.toNat) (by omega)]; simp
def p_fWord : List AV → AHeap → (AV → Prop) → Prop
  | [.str s], _, K => s.length ≤ 140737488355328 ∧ K (.int .i64 ((wordOf s).length : Int))
  | _, _, _ => False
theorem ok_fWord : EntOk Try.prog 76 (Ent.pure p_fWord) := by
  refine EntOk.pure fun args H K h => ?_
  unfold p_fWord at h
  split at h
  rotate_left
  · exact h.elim
  rename_i s
  obtain ⟨hsl, hK⟩ := h
  refine ⟨_, hK, ?_⟩
  clear hK
  refine ACalls.of_aw (Ω := [(145, Ent.pure p_fPart)]) (T := assoc []) mixed (TblOk.cons ok_fPart TblOk.nil) Try.func76 (by kernel_rfl) (by rfl) (rs := [.tmp 2]) (by rfl) (by kernel_rfl) (by simp only [Try.ntmps76, yaz, yba]; decide) (Nat.le_refl _) fun hcl hlt => ?_
  change aw _ _ _ (KI Try.prog [(145, Ent.pure p_fPart)] (aEnd Try.prog [.tmp 2] H.nx _ _) []) _ _
  clear hlt
  simp only [go_sem, reduceCtorEq, Nat.reduceEqDiff, Nat.reduceAdd, Nat.reduceMul, Nat.reduceSub, Nat.reduceLeDiff, Nat.reduceLT, Int.reduceMul, Int.reduceAdd, Int.reduceSub, Int.reduceToNat]
  refine loop_introW (A := Nat) (fun k => [(0, .str s), (3, .int .i64 (k : Int))]) (fun k => H) (fun k => k ≤ s.length ∧ wordOf s = s.take k ++ wordOf (s.drop k)) (fun k => s.length - k) 0 ⟨by omega, by simp⟩ ?_ fun k hk => ?_
  · (simp only [bkq, enterW, subW, ltF, ne_eq, Nat.reduceEqDiff, reduceCtorEq]; try simp (disch := first | assumption | omega | (simp; done) | (simp; omega) | (simp only [bt, and_true]; first | done | omega | (simp; done))) [↓zlf, beq, ybc, ybd, ybe, endOk, wk, wk2, wk1, wkM, wkL, wkLL, ybf, byq, biq, isDs_ints, hcl]; try (repeat' (first | assumption | omega | exact True.intro | refine And.intro ?_ ?_ | refine closed_buf ?_ | refine closed_set_buf ?_ | refine closed_cells ?_ ?_ | refine closed_set ?_ ?_ | refine closed_del ?_ | exact AHeap.Le.refl _ | refine AHeap.Le.push ?_ _ | refine AHeap.Le.del ?_ ?_ | (simp only [bt, and_true, true_and]; first | done | omega | (simp; done)))))
  obtain ⟨hk, hs⟩ := hk
  have hmin : (s.take k).length = k := by rw [List.length_take]; omega
  simp only [go_sem, reduceCtorEq, Nat.reduceEqDiff, Nat.reduceAdd, Nat.reduceMul, Nat.reduceSub, Nat.reduceLeDiff, Nat.reduceLT, Int.reduceMul, Int.reduceAdd, Int.reduceSub, Int.reduceToNat]
  refine both_split (fun h1 => ?_) (fun h1 => ?_)
  · have hk1 : k < s.length := by simp at h1; omega
    have e5 : IntKind.i64.wrap ((k : Int) + 1) = ((k + 1 : Nat) : Int) := by rw [wrap_i64] <;> omega
    simp only [go_sem, reduceCtorEq, Nat.reduceEqDiff, Nat.reduceAdd, Nat.reduceMul, Nat.reduceSub, Nat.reduceLeDiff, Nat.reduceLT, Int.reduceMul, Int.reduceAdd, Int.reduceSub, Int.reduceToNat, p_fPart, Int.toNat_natCast]
    refine ⟨by omega, s.getD k 0, rfl, ?_⟩
    refine cond_split (fun h2 => ?_) (fun h2 => ?_)
    · simp only [go_sem, reduceCtorEq, Nat.reduceEqDiff, Nat.reduceAdd, Nat.reduceMul, Nat.reduceSub, Nat.reduceLeDiff, Nat.reduceLT, Int.reduceMul, Int.reduceAdd, Int.reduceSub, Int.reduceToNat, e5]
      refine ⟨k + 1, ⟨by omega, wordOf_go hk1 h2 hs⟩, by omega, ?_⟩
      (simp only [bkq, enterW, subW, ltF, ne_eq, Nat.reduceEqDiff, reduceCtorEq]; try simp (disch := first | assumption | omega | (simp; done) | (simp; omega) | (simp only [bt, and_true]; first | done | omega | (simp; done))) [↓zlf, beq, ybc, ybd, ybe, endOk, wk, wk2, wk1, wkM, wkL, wkLL, ybf, byq, biq, isDs_ints, hcl]; try (repeat' (first | assumption | omega | exact True.intro | refine And.intro ?_ ?_ | refine closed_buf ?_ | refine closed_set_buf ?_ | refine closed_cells ?_ ?_ | refine closed_set ?_ ?_ | refine closed_del ?_ | exact AHeap.Le.refl _ | refine AHeap.Le.push ?_ _ | refine AHeap.Le.del ?_ ?_ | (simp only [bt, and_true, true_and]; first | done | omega | (simp; done)))))
    · have hw := wordOf_stop hk1 h2 hs
      simp only [go_sem, reduceCtorEq, Nat.reduceEqDiff, Nat.reduceAdd, Nat.reduceMul, Nat.reduceSub, Nat.reduceLeDiff, Nat.reduceLT, Int.reduceMul, Int.reduceAdd, Int.reduceSub, Int.reduceToNat, Int.toNat_natCast, hw, hmin]
      simp (disch := first | assumption | omega | (simp; done) | (simp; omega) | (simp only [bt, and_true]; first | done | omega | (simp; done))) [↓zlf, beq, ybc, ybd, ybe, endOk, wk, wk2, wk1, wkM, wkL, wkLL, ybf, hcl]
  · have hk1 : ¬ k < s.length := by simp at h1; omega
    have hw := wordOf_end hk1 hs
    try simp only [go_sem, reduceCtorEq, Nat.reduceEqDiff, Nat.reduceAdd, Nat.reduceMul, Nat.reduceSub, Nat.reduceLeDiff, Nat.reduceLT, Int.reduceMul, Int.reduceAdd, Int.reduceSub, Int.reduceToNat, Int.toNat_natCast, hw, hmin, zau]
    simp (disch := first | assumption | omega | (simp; done) | (simp; omega) | (simp only [bt, and_true]; first | done | omega | (simp; done))) [↓zlf, beq, ybc, ybd, ybe, endOk, wk, wk2, wk1, wkM, wkL, wkLL, ybf, hcl]
theorem hasP_split {s p : List UInt8} : hasP s p = (decide (p.length ≤ s.length) && (s.take p.length == p)) := by
  unfold hasP
  rw [Bool.eq_iff_iff]
  simp
  intro h
  have := congrArg List.length h
  rw [List.length_take] at this
  omega
def p_fSymbol : List AV → AHeap → (AV → Prop) → Prop
  | [.str s], _, K => K (.int .i64 ((symOf s).length : Int))
  | _, _, _ => False
theorem ok_fSymbol : EntOk Try.prog 75 (Ent.pure p_fSymbol) := by
  refine EntOk.pure fun args H K h => ?_
  unfold p_fSymbol at h
  split at h
  rotate_left
  · exact h.elim
  rename_i s
  refine ⟨_, h, ?_⟩
  clear h
  refine ACalls.of_aw (Ω := []) (T := assoc []) mixed TblOk.nil Try.func75 (by kernel_rfl) (by rfl) (rs := [.tmp 2]) (by rfl) (by kernel_rfl) (by simp only [Try.ntmps75, yaz, yba]; decide) (Nat.le_refl _) fun hcl hlt => ?_
  change aw _ _ _ (KI Try.prog [] (aEnd Try.prog [.tmp 2] H.nx _ _) []) _ _
  clear hlt
  simp only [go_sem, reduceCtorEq, Nat.reduceEqDiff, Nat.reduceAdd, Nat.reduceMul, Nat.reduceSub, Nat.reduceLeDiff, Nat.reduceLT, Int.reduceMul, Int.reduceAdd, Int.reduceSub, Int.reduceToNat, symsAV, sAV_length]
  refine loop_introW (A := Nat) (fun k => [(0, .str s), (5, .slice .any 1 (sAV syms)), (6, .int .i64 15), (7, .int .i64 (k : Int))]) (fun k => H) (fun k => k ≤ 15 ∧ symOf s = symL (syms.drop k) s) (fun k => 15 - k) 0 ⟨by omega, rfl⟩ ?_ fun k hk => ?_
  · (simp only [bkq, enterW, subW, ltF, ne_eq, Nat.reduceEqDiff, reduceCtorEq, sAV_lt, syms_len]; try simp (disch := first | assumption | omega | (simp; done) | (simp; omega) | (simp only [bt, and_true]; first | done | omega | (simp; done))) [↓zlf, beq, ybc, ybd, ybe, endOk, wk, wk2, wk1, wkM, wkL, wkLL, ybf, byq, biq, isDs_ints, hcl, sAV_lt, syms_len]; try (repeat' (first | assumption | omega | exact True.intro | refine And.intro ?_ ?_ | refine closed_buf ?_ | refine closed_set_buf ?_ | refine closed_cells ?_ ?_ | refine closed_set ?_ ?_ | refine closed_del ?_ | exact AHeap.Le.refl _ | refine AHeap.Le.push ?_ _ | refine AHeap.Le.del ?_ ?_ | (simp only [bt, and_true, true_and, sAV_lt, syms_len]; first | done | omega | (simp; done)))))
    trace_state
  obtain ⟨hk, hs⟩ := hk
  simp only [go_sem, reduceCtorEq, Nat.reduceEqDiff, Nat.reduceAdd, Nat.reduceMul, Nat.reduceSub, Nat.reduceLeDiff, Nat.reduceLT, Int.reduceMul, Int.reduceAdd, Int.reduceSub, Int.reduceToNat]
  refine cond_split (fun h1 => ?_) (fun h1 => ?_)
  · have hk2 : k < 15 := by simp at h1; omega
    have hk1 : k < syms.length := by rw [syms_len]; exact hk2
    have hg : (sAV syms).getD k .junk = .str (syms.getD k []) := sAV_get hk1
    have e5 : IntKind.i64.wrap ((k : Int) + 1) = ((k + 1 : Nat) : Int) := by rw [wrap_i64] <;> omega
    have hgk : syms.getD k [] = syms[k] := by simp [List.getD_eq_getElem?_getD, hk1]
    rw [List.drop_eq_getElem_cons hk1, symL_cons] at hs
    rw [hgk] at hg
    generalize syms[k] = x at *
    simp only [go_sem, reduceCtorEq, Nat.reduceEqDiff, Nat.reduceAdd, Nat.reduceMul, Nat.reduceSub, Nat.reduceLeDiff, Nat.reduceLT, Int.reduceMul, Int.reduceAdd, Int.reduceSub, Int.reduceToNat, Int.toNat_natCast, sAV_length, syms_len, hg, e5]
    refine ⟨by omega, ?_⟩
    refine both_split (fun h2 => ?_) (fun h2 => ?_)
    · have h2' : x.length ≤ s.length := by simp at h2; omega
      refine ⟨by omega, cond_split (fun h3 => ?_) (fun h3 => ?_)⟩
      · rw [if_pos (by rw [hasP_split, decide_eq_true h2']; simpa using h3)] at hs
        simp only [go_sem, reduceCtorEq, Nat.reduceEqDiff, Nat.reduceAdd, Nat.reduceMul, Nat.reduceSub, Nat.reduceLeDiff, Nat.reduceLT, Int.reduceMul, Int.reduceAdd, Int.reduceSub, Int.reduceToNat, hs]
        simp (disch := first | assumption | omega | (simp; done) | (simp; omega) | (simp only [bt, and_true]; first | done | omega | (simp; done))) [↓zlf, beq, ybc, ybd, ybe, endOk, wk, wk2, wk1, wkM, wkL, wkLL, ybf, hcl]
      · rw [if_neg (by rw [hasP_split, decide_eq_true h2']; simpa using h3)] at hs
        simp only [go_sem, reduceCtorEq, Nat.reduceEqDiff, Nat.reduceAdd, Nat.reduceMul, Nat.reduceSub, Nat.reduceLeDiff, Nat.reduceLT, Int.reduceMul, Int.reduceAdd, Int.reduceSub, Int.reduceToNat, e5]
        refine ⟨k + 1, ⟨by omega, hs⟩, by omega, ?_⟩
        (simp only [bkq, enterW, subW, ltF, ne_eq, Nat.reduceEqDiff, reduceCtorEq, sAV_lt]; try simp (disch := first | assumption | omega | (simp; done) | (simp; omega) | (simp only [bt, and_true]; first | done | omega | (simp; done))) [↓zlf, beq, ybc, ybd, ybe, endOk, wk, wk2, wk1, wkM, wkL, wkLL, ybf, byq, biq, isDs_ints, hcl, sAV_lt]; try (repeat' (first | assumption | omega | exact True.intro | refine And.intro ?_ ?_ | refine closed_buf ?_ | refine closed_set_buf ?_ | refine closed_cells ?_ ?_ | refine closed_set ?_ ?_ | refine closed_del ?_ | exact AHeap.Le.refl _ | refine AHeap.Le.push ?_ _ | refine AHeap.Le.del ?_ ?_ | (simp only [bt, and_true, true_and, sAV_lt]; first | done | omega | (simp; done)))))
    · have h2' : ¬ x.length ≤ s.length := by simp at h2; omega
      rw [if_neg (by rw [hasP_split, decide_eq_false h2']; simp)] at hs
      try simp only [go_sem, reduceCtorEq, Nat.reduceEqDiff, Nat.reduceAdd, Nat.reduceMul, Nat.reduceSub, Nat.reduceLeDiff, Nat.reduceLT, Int.reduceMul, Int.reduceAdd, Int.reduceSub, Int.reduceToNat, e5, zau]
      refine ⟨k + 1, ⟨by omega, hs⟩, by omega, ?_⟩
      (simp only [bkq, enterW, subW, ltF, ne_eq, Nat.reduceEqDiff, reduceCtorEq, sAV_lt]; try simp (disch := first | assumption | omega | (simp; done) | (simp; omega) | (simp only [bt, and_true]; first | done | omega | (simp; done))) [↓zlf, beq, ybc, ybd, ybe, endOk, wk, wk2, wk1, wkM, wkL, wkLL, ybf, byq, biq, isDs_ints, hcl, sAV_lt]; try (repeat' (first | assumption | omega | exact True.intro | refine And.intro ?_ ?_ | refine closed_buf ?_ | refine closed_set_buf ?_ | refine closed_cells ?_ ?_ | refine closed_set ?_ ?_ | refine closed_del ?_ | exact AHeap.Le.refl _ | refine AHeap.Le.push ?_ _ | refine AHeap.Le.del ?_ ?_ | (simp only [bt, and_true, true_and, sAV_lt]; first | done | omega | (simp; done)))))
  · have hk1 : k = 15 := by simp at h1; omega
    subst hk1
    have h0 : symOf s = [] := by rw [hs]; rfl
    simp only [go_sem, reduceCtorEq, Nat.reduceEqDiff, Nat.reduceAdd, Nat.reduceMul, Nat.reduceSub, Nat.reduceLeDiff, Nat.reduceLT, Int.reduceMul, Int.reduceAdd, Int.reduceSub, Int.reduceToNat, h0]
    simp (disch := first | assumption | omega | (simp; done) | (simp; omega) | (simp only [bt, and_true]; first | done | omega | (simp; done))) [↓zlf, beq, ybc, ybd, ybe, endOk, wk, wk2, wk1, wkM, wkL, wkLL, ybf, hcl]
def p_fScan : List AV → AHeap → (AV → Prop) → Prop
  | [.str s], _, K => s.length ≤ 140737488355328 ∧ K (scanAV s)
  | _, _, _ => False
theorem take_drop_tok {s : List UInt8} {k kd : Nat} {x : List UInt8} (h : tok1 (s.drop k) = some (kd, x)) : (s.take (k + x.length)).drop k = x := by
  rw [List.drop_take, Nat.add_sub_cancel_left]
  exact (tok1_text h).2.2
theorem lit_95 {w : List UInt8} : lit (95 :: w) = none := by
  unfold lit
  rw [if_neg (by simp [hasP]), if_neg (by simp)]
  rfl
theorem word_head {s w : List UInt8} {c : UInt8} {k : Nat} (h : k < s.length) (hw : wordOf (s.drop k) = c :: w) : s[k] = c ∧ isPart c = true := by
  have e : s.getD k 0 = s[k] := by simp [List.getD_eq_getElem?_getD, h]
  rw [wordOf_step h] at hw
  split at hw
  · rename_i hp
    rw [e] at hw hp
    injection hw with h1 h2
    subst h1
    exact ⟨rfl, hp⟩
  · cases hw
set_option maxHeartbeats 2000000 in
theorem ok_fScan : EntOk Try.prog 22 (Ent.pure p_fScan) := by
  refine EntOk.pure fun args H K h => ?_
  unfold p_fScan at h
  split at h
  rotate_left
  · exact h.elim
  rename_i s
  obtain ⟨hsl, hK⟩ := h
  refine ⟨_, hK, ?_⟩
  clear hK
  refine ACalls.of_aw (Ω := [(75, Ent.pure p_fSymbol), (76, Ent.pure p_fWord), (77, Ent.pure p_rLiteral)]) (T := assoc []) mixed (TblOk.cons ok_fSymbol (TblOk.cons ok_fWord (TblOk.cons ok_rLiteral TblOk.nil))) Try.func22 (by kernel_rfl) (by rfl) (rs := [.tmp 2,.tmp 3,.tmp 4]) (by rfl) (by kernel_rfl) (by simp only [Try.ntmps22, yaz, yba]; decide) (Nat.le_refl _) fun hcl hlt => ?_
  change aw _ _ _ (KI Try.prog [(75, Ent.pure p_fSymbol), (76, Ent.pure p_fWord), (77, Ent.pure p_rLiteral)] (aEnd Try.prog [.tmp 2,.tmp 3,.tmp 4] H.nx _ _) []) _ _
  clear hlt
  simp only [go_sem, reduceCtorEq, Nat.reduceEqDiff, Nat.reduceAdd, Nat.reduceMul, Nat.reduceSub, Nat.reduceLeDiff, Nat.reduceLT, Int.reduceMul, Int.reduceAdd, Int.reduceSub, Int.reduceToNat, scanAV]
  refine cond_split (fun h1 => ?_) (fun h1 => ?_)
  · have h1' : 400 < s.length := by simp at h1; omega
    have e : scanned s = ([], 0, 3) := by unfold scanned; rw [if_pos h1']
    simp only [go_sem, reduceCtorEq, Nat.reduceEqDiff, Nat.reduceAdd, Nat.reduceMul, Nat.reduceSub, Nat.reduceLeDiff, Nat.reduceLT, Int.reduceMul, Int.reduceAdd, Int.reduceSub, Int.reduceToNat, e, toks_nil]
    simp (disch := first | assumption | omega | (simp; done) | (simp; omega) | (simp only [bt, and_true]; first | done | omega | (simp; done))) [↓zlf, beq, ybc, ybd, ybe, endOk, wk, wk2, wk1, wkM, wkL, wkLL, ybf, hcl, lt_slice]
  have h1' : ¬ 400 < s.length := by simp at h1; omega
  simp only [go_sem, reduceCtorEq, Nat.reduceEqDiff, Nat.reduceAdd, Nat.reduceMul, Nat.reduceSub, Nat.reduceLeDiff, Nat.reduceLT, Int.reduceMul, Int.reduceAdd, Int.reduceSub, Int.reduceToNat]
  refine loop_introW (A := Nat × List Tok × Nat × AHeap) (fun a => [(0, .str s), (5, .slice (.own a.2.2.1) 3 (toks a.2.1)), (6, .int .i64 (a.1 : Int))]) (fun a => a.2.2.2)
    (fun a => (a.1 ≤ s.length ∧ a.2.1.length ≤ a.1 ∧ rest s 0 = (a.2.1 ++ (rest s a.1).1, (rest s a.1).2)) ∧ H.Le a.2.2.2 ∧ a.2.2.2.Closed ∧ H.nx ≤ a.2.2.1 ∧ a.2.2.2.get a.2.2.1 = some (.buf 3 a.2.1.length))
    (fun a => s.length - a.1) (0, [], H.nx + 1, (H.push (.buf 3 0)).push (.buf 3 0)) ⟨⟨by omega, by simp, by simp⟩, ?_, ?_, by simp, ?_⟩ ?_ fun a ha => ?_
  · simp (disch := first | assumption | omega | (simp; done) | (simp; omega) | (simp only [bt, and_true]; first | done | omega | (simp; done))) [↓zlf, beq, ybc, ybd, ybe, endOk, wk, wk2, wk1, wkM, wkL, wkLL, ybf, hcl]
  · (repeat' (first | assumption | omega | exact True.intro | refine And.intro ?_ ?_ | refine closed_buf ?_ | refine closed_set_buf ?_ | refine closed_cells ?_ ?_ | refine closed_set ?_ ?_ | refine closed_del ?_ | exact AHeap.Le.refl _ | refine AHeap.Le.push ?_ _ | refine AHeap.Le.del ?_ ?_ | (simp only [bt, and_true, true_and]; first | done | omega | (simp; done))))
  · exact AHeap.get_push_new _ _
  · (simp only [bkq, enterW, subW, ltF, ne_eq, Nat.reduceEqDiff, reduceCtorEq, toks_nil]; try simp (disch := first | assumption | omega | (simp; done) | (simp; omega) | (simp only [bt, and_true]; first | done | omega | (simp; done))) [↓zlf, beq, ybc, ybd, ybe, endOk, wk, wk2, wk1, wkM, wkL, wkLL, ybf, byq, biq, isDs_ints, hcl, toks_nil]; try (repeat' (first | assumption | omega | exact True.intro | refine And.intro ?_ ?_ | refine closed_buf ?_ | refine closed_set_buf ?_ | refine closed_cells ?_ ?_ | refine closed_set ?_ ?_ | refine closed_del ?_ | exact AHeap.Le.refl _ | refine AHeap.Le.push ?_ _ | refine AHeap.Le.del ?_ ?_ | (simp only [bt, and_true, true_and, toks_nil]; first | done | omega | (simp; done)))))
  obtain ⟨k, pre, id, Hc⟩ := a
  obtain ⟨⟨hk, hpl, hr⟩, hle, hcc, hid, hst⟩ := ha
  dsimp only at hk hpl hr hle hcc hid hst ⊢
  have hnx : H.nx ≤ Hc.nx := hle.nx
  have hid2 : id < Hc.nx := AHeap.get_lt hst
  simp only [go_sem, reduceCtorEq, Nat.reduceEqDiff, Nat.reduceAdd, Nat.reduceMul, Nat.reduceSub, Nat.reduceLeDiff, Nat.reduceLT, Int.reduceMul, Int.reduceAdd, Int.reduceSub, Int.reduceToNat]
  refine cond_split (fun h2 => ?_) (fun h2 => ?_)
  · have hk1 : k < s.length := by simp at h2; omega
    have e5 : IntKind.i64.wrap ((k : Int) + 1) = ((k + 1 : Nat) : Int) := by rw [wrap_i64] <;> omega
    have hsg : s.getD k 0 = s[k] := by simp [List.getD_eq_getElem?_getD, hk1]
    simp only [go_sem, reduceCtorEq, Nat.reduceEqDiff, Nat.reduceAdd, Nat.reduceMul, Nat.reduceSub, Nat.reduceLeDiff, Nat.reduceLT, Int.reduceMul, Int.reduceAdd, Int.reduceSub, Int.reduceToNat, Int.toNat_natCast, List.take_length, hsg]
    refine ⟨by omega, cond_split (fun h3 => ?_) (fun h3 => ?_)⟩
    · have hc : s[k] = 32 := by simp at h3; rw [← UInt8.toNat_inj]; simp; omega
      rw [rest_space hk1 hc] at hr
      simp only [go_sem, reduceCtorEq, Nat.reduceEqDiff, Nat.reduceAdd, Nat.reduceMul, Nat.reduceSub, Nat.reduceLeDiff, Nat.reduceLT, Int.reduceMul, Int.reduceAdd, Int.reduceSub, Int.reduceToNat, e5]
      refine ⟨(k + 1, pre, id, Hc), ⟨⟨by dsimp only; omega, by dsimp only; omega, hr⟩, hle, hcc, hid, hst⟩, by dsimp only; omega, ?_⟩
      (simp only [bkq, enterW, subW, ltF, ne_eq, Nat.reduceEqDiff, reduceCtorEq, hcc, hnx, hid2]; try simp (disch := first | assumption | omega | (simp; done) | (simp; omega) | (simp only [bt, and_true]; first | done | omega | (simp; done))) [↓zlf, beq, ybc, ybd, ybe, endOk, wk, wk2, wk1, wkM, wkL, wkLL, ybf, byq, biq, isDs_ints, hcl, hcc, hnx, hid2]; try (repeat' (first | assumption | omega | exact True.intro | refine And.intro ?_ ?_ | refine closed_buf ?_ | refine closed_set_buf ?_ | refine closed_cells ?_ ?_ | refine closed_set ?_ ?_ | refine closed_del ?_ | exact AHeap.Le.refl _ | refine AHeap.Le.push ?_ _ | refine AHeap.Le.del ?_ ?_ | (simp only [bt, and_true, true_and, hcc, hnx, hid2]; first | done | omega | (simp; done)))))
      exact toks_lt_own hid2
    have n1 : (id = Hc.nx) = False := eq_false (by omega)
    have n2 : (id = Hc.nx + 1) = False := eq_false (by omega)
    have n3 : (id = Hc.nx + 1 + 1) = False := eq_false (by omega)
    have hc : s[k] ≠ 32 := fun e => by rw [e] at h3; simp at h3
    have hsd : (s.drop k).length ≤ 400 := by rw [List.length_drop]; omega
    simp only [go_sem, reduceCtorEq, Nat.reduceEqDiff, Nat.reduceAdd, Nat.reduceMul, Nat.reduceSub, Nat.reduceLeDiff, Nat.reduceLT, Int.reduceMul, Int.reduceAdd, Int.reduceSub, Int.reduceToNat, p_fSymbol, p_fWord, List.take_length, Int.toNat_natCast]
    refine ⟨by omega, by omega, by omega, ?_⟩
    cases hw : wordOf (s.drop k) with
    | nil =>
      refine cond_split (fun h4 => by simp at h4) (fun _ => ?_)
      simp only [go_sem, reduceCtorEq, Nat.reduceEqDiff, Nat.reduceAdd, Nat.reduceMul, Nat.reduceSub, Nat.reduceLeDiff, Nat.reduceLT, Int.reduceMul, Int.reduceAdd, Int.reduceSub, Int.reduceToNat]
      refine cond_split (fun h5 => ?_) (fun h5 => ?_)
      · have hy : symOf (s.drop k) = [] := by simp at h5; exact h5
        have htk := tok1_none hw hy
        rw [rest_bad hk1 hc htk, yaj] at hr
        have hsc := scan_some h1' hr
        simp only [go_sem, reduceCtorEq, Nat.reduceEqDiff, Nat.reduceAdd, Nat.reduceMul, Nat.reduceSub, Nat.reduceLeDiff, Nat.reduceLT, Int.reduceMul, Int.reduceAdd, Int.reduceSub, Int.reduceToNat, hsc, hy, toks_nil]
        simp (disch := first | assumption | omega | (simp; done) | (simp; omega) | (simp only [bt, and_true]; first | done | omega | (simp; done))) [↓zlf, beq, ybc, ybd, ybe, endOk, wk, wk2, wk1, wkM, wkL, wkLL, ybf, hcc, hle, hcl]
        exact (hle.push _).push _
      · have hy : symOf (s.drop k) ≠ [] := by intro e; rw [e] at h5; simp at h5
        have htk := tok1_sym hw rfl hy
        obtain ⟨hy1, hy2⟩ := rest_le hk1 htk
        have hx := take_drop_tok htk
        generalize symOf (s.drop k) = y at *
        have e6 : IntKind.i64.wrap ((k : Int) + (y.length : Int)) = ((k + y.length : Nat) : Int) := by rw [wrap_i64] <;> omega
        simp only [go_sem, reduceCtorEq, Nat.reduceEqDiff, Nat.reduceAdd, Nat.reduceMul, Nat.reduceSub, Nat.reduceLeDiff, Nat.reduceLT, Int.reduceMul, Int.reduceAdd, Int.reduceSub, Int.reduceToNat, Int.toNat_natCast, n1, n2, hst, hx, toks_length, toks_3, e6, one_tk]
        refine ⟨by omega, by omega, fin_tok hk1 hc htk hpl hr (((le_set_ge hle hid).push _).push _) ?_ hid ?_ rfl rfl rfl⟩
        · exact closed_buf (closed_cells (closed_set_buf hcc) (by simp [zml, zmm, zlw, zly]))
        · rw [AHeap.get_push_lt _ _ (by simp [AHeap.push, AHeap.set]; omega), AHeap.get_push_lt _ _ (by simp [AHeap.set]; omega), AHeap.get_set_same _ _ hid2]
    | cons c w =>
      obtain ⟨hsc0, hpt⟩ := word_head hk1 hw
      have hcw : (c :: w).length ≤ 400 := by rw [← hw]; exact Nat.le_trans (List.takeWhile_sublist _).length_le hsd
      have hx : (s.take (k + (w.length + 1))).drop k = c :: w := by
        rw [show w.length + 1 = (c :: w).length from rfl, List.drop_take, Nat.add_sub_cancel_left, ← hw]; exact takeWhile_take _
      have hy2 : k + (c :: w).length ≤ s.length := by
        have := (List.takeWhile_sublist (p := isPart) (l := s.drop k)).length_le
        rw [show (s.drop k).takeWhile isPart = c :: w from hw, List.length_drop] at this
        simp only [yaz] at this ⊢; omega
      have e6 : IntKind.i64.wrap ((k : Int) + ((w.length + 1 : Nat) : Int)) = ((k + (c :: w).length : Nat) : Int) := by
        rw [yaz] at hy2 ⊢
        rw [wrap_i64] <;> omega
      refine cond_split (fun _ => ?_) (fun h4 => by simp at h4)
      simp only [go_sem, reduceCtorEq, Nat.reduceEqDiff, Nat.reduceAdd, Nat.reduceMul, Nat.reduceSub, Nat.reduceLeDiff, Nat.reduceLT, Int.reduceMul, Int.reduceAdd, Int.reduceSub, Int.reduceToNat, Int.toNat_natCast, hsg, hsc0]
      refine ⟨by omega, cond_split (fun h5 => ?_) (fun h5 => ?_)⟩
      · have hc95 : c = 95 := by simp at h5; rw [← UInt8.toNat_inj]; simp; omega
        subst hc95
        have htk := tok1_bad hw (by decide) lit_95
        rw [rest_bad hk1 hc htk, yaj] at hr
        have hsc := scan_some h1' hr
        simp only [go_sem, reduceCtorEq, Nat.reduceEqDiff, Nat.reduceAdd, Nat.reduceMul, Nat.reduceSub, Nat.reduceLeDiff, Nat.reduceLT, Int.reduceMul, Int.reduceAdd, Int.reduceSub, Int.reduceToNat, hsc, toks_nil]
        simp (disch := first | assumption | omega | (simp; done) | (simp; omega) | (simp only [bt, and_true]; first | done | omega | (simp; done))) [↓zlf, beq, ybc, ybd, ybe, endOk, wk, wk2, wk1, wkM, wkL, wkLL, ybf, hcc, hle, hcl]
        exact (hle.push _).push _
      have hc95 : c ≠ 95 := fun e => by rw [e] at h5; simp at h5
      simp only [go_sem, reduceCtorEq, Nat.reduceEqDiff, Nat.reduceAdd, Nat.reduceMul, Nat.reduceSub, Nat.reduceLeDiff, Nat.reduceLT, Int.reduceMul, Int.reduceAdd, Int.reduceSub, Int.reduceToNat, Int.toNat_natCast, hsg, hsc0]
      refine ⟨by omega, cond_split (fun h6 => ?_) (fun h6 => ?_)⟩
      · have hlc : isLetter c = false := by unfold isLetter; simp at h6; rw [decide_eq_false (p := 97 ≤ c.toNat) (by omega)]; simp
        simp only [go_sem, reduceCtorEq, Nat.reduceEqDiff, Nat.reduceAdd, Nat.reduceMul, Nat.reduceSub, Nat.reduceLeDiff, Nat.reduceLT, Int.reduceMul, Int.reduceAdd, Int.reduceSub, Int.reduceToNat, Int.toNat_natCast, p_rLiteral, e6, hx]
        cases hli : lit (c :: w) with
        | none =>
          have htk := tok1_bad hw hlc hli
          rw [rest_bad hk1 hc htk, yaj] at hr
          have hsc := scan_some h1' hr
          simp only [go_sem, reduceCtorEq, Nat.reduceEqDiff, Nat.reduceAdd, Nat.reduceMul, Nat.reduceSub, Nat.reduceLeDiff, Nat.reduceLT, Int.reduceMul, Int.reduceAdd, Int.reduceSub, Int.reduceToNat, hsc, zLit, zAV, zau, zat, toks_nil]
          refine ⟨by simp only [yaz] at hy2; omega, by simp only [yaz] at hcw; omega, ?_⟩
          simp (disch := first | assumption | omega | (simp; done) | (simp; omega) | (simp only [bt, and_true]; first | done | omega | (simp; done))) [↓zlf, beq, ybc, ybd, ybe, endOk, wk, wk2, wk1, wkM, wkL, wkLL, ybf, hcc, hle, hcl]
          exact ((hle.push _).push _).push _
        | some n =>
          have htk := tok1_num hw hlc hli
          simp only [go_sem, reduceCtorEq, Nat.reduceEqDiff, Nat.reduceAdd, Nat.reduceMul, Nat.reduceSub, Nat.reduceLeDiff, Nat.reduceLT, Int.reduceMul, Int.reduceAdd, Int.reduceSub, Int.reduceToNat, zLit, zAV, zau, zat]
          refine ⟨by simp only [yaz] at hy2; omega, by simp only [yaz] at hcw; omega, cond_split (fun h7 => by simp at h7; omega) (fun _ => ?_)⟩
          simp only [go_sem, reduceCtorEq, Nat.reduceEqDiff, Nat.reduceAdd, Nat.reduceMul, Nat.reduceSub, Nat.reduceLeDiff, Nat.reduceLT, Int.reduceMul, Int.reduceAdd, Int.reduceSub, Int.reduceToNat, Int.toNat_natCast, n1, n2, n3, hst, hx, toks_length, toks_1, e6, one_tk]
          refine ⟨by simp only [yaz] at hy2; omega, by omega, fin_tok hk1 hc htk hpl hr ((((le_set_ge hle hid).push _).push _).push _) ?_ hid ?_ rfl rfl rfl⟩
          · exact closed_buf (closed_cells (closed_cells (closed_set_buf hcc) (by simp [zml, zmm, zlw, zly])) (by simp [zml, zmm, zlx, zld]))
          · rw [AHeap.get_push_lt _ _ (by simp [AHeap.push, AHeap.set]; omega), AHeap.get_push_lt _ _ (by simp [AHeap.push, AHeap.set]; omega), AHeap.get_push_lt _ _ (by simp [AHeap.set]; omega), AHeap.get_set_same _ _ hid2]
      · have hlc : isLetter c = true := by
          unfold isPart at hpt
          simp at h6
          rw [decide_eq_false (p := c.toNat ≤ 57) (by omega), beq_eq_false_iff_ne.2 hc95] at hpt
          simpa using hpt
        have htk := tok1_let hw hlc
        simp only [go_sem, reduceCtorEq, Nat.reduceEqDiff, Nat.reduceAdd, Nat.reduceMul, Nat.reduceSub, Nat.reduceLeDiff, Nat.reduceLT, Int.reduceMul, Int.reduceAdd, Int.reduceSub, Int.reduceToNat, Int.toNat_natCast]
        refine cond_split (fun h7 => by simp at h7; omega) (fun _ => ?_)
        simp only [go_sem, reduceCtorEq, Nat.reduceEqDiff, Nat.reduceAdd, Nat.reduceMul, Nat.reduceSub, Nat.reduceLeDiff, Nat.reduceLT, Int.reduceMul, Int.reduceAdd, Int.reduceSub, Int.reduceToNat, Int.toNat_natCast, n1, n2, hst, hx, toks_length, toks_2, e6, one_tk]
        refine ⟨by simp only [yaz] at hy2; omega, by omega, fin_tok hk1 hc htk hpl hr (((le_set_ge hle hid).push _).push _) ?_ hid ?_ rfl rfl rfl⟩
        · exact closed_buf (closed_cells (closed_set_buf hcc) (by simp [zml, zmm, zlw, zly]))
        · rw [AHeap.get_push_lt _ _ (by simp [AHeap.push, AHeap.set]; omega), AHeap.get_push_lt _ _ (by simp [AHeap.set]; omega), AHeap.get_set_same _ _ hid2]
  · have hk1 : s.length ≤ k := by simp at h2; omega
    rw [rest_end hk1, yaj] at hr
    have hsc := scan_none h1' hr
    simp only [go_sem, reduceCtorEq, Nat.reduceEqDiff, Nat.reduceAdd, Nat.reduceMul, Nat.reduceSub, Nat.reduceLeDiff, Nat.reduceLT, Int.reduceMul, Int.reduceAdd, Int.reduceSub, Int.reduceToNat, hsc]
    simp (disch := first | assumption | omega | (simp; done) | (simp; omega) | (simp only [bt, and_true]; first | done | omega | (simp; done))) [↓zlf, beq, ybc, ybd, ybe, endOk, wk, wk2, wk1, wkM, wkL, wkLL, ybf, hcc, hle, toks_lt, hcl]
end Go.AL

