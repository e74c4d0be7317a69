/- Contracts and plain laws, a part of the proof; no condition of its own. -/
import Derived.Test.YtknhoembfohbiaaJL
import Derived.Test.YtknhoembfohbiaaF06
open Go Go.AL Go.Proofs
namespace Go.AL
set_option linter.all false
set_option maxRecDepth 10000
def texts (l : List Tok) : List (List UInt8) := l.map (·.2.1)
theorem texts_length {l : List Tok} : (texts l).length = l.length := by simp [texts]
theorem texts_snoc {l : List Tok} {k : Nat} (h : k < l.length) : sAV ((texts l).take k) ++ [.str l[k].2.1] = sAV ((texts l).take (k + 1)) := by
  have h' : k < (texts l).length := by rw [texts_length]; exact h
  rw [List.take_succ_eq_append_getElem h']
  simp [sAV, texts]
theorem sAV_lto {n id : Nat} {l : List (List UInt8)} (h : id < n) : AV.lt n (.slice (.own id) 1 (sAV l)) := by
  rw [lt_sliceL]
  refine ⟨fun i e => by cases e; exact h, ltL_iff.2 fun j hj => ?_⟩
  simp only [sAV, List.getElem_map, zly]
def p_LJoinF : List AV → AHeap → (AV → Prop) → Prop
  | [.slice _ 3 x], _, K => ∃ l, (x = toks l ∧ l.length ≤ 100000 ∧ (spaced (texts l)).length ≤ 140737488355328) ∧ K (.str (spaced (texts l)))
  | _, _, _ => False
theorem entJ {l : List Tok} {m : Mark} {H Hd : AHeap} {fr : Fr} (k : Nat) (hcl : H.Closed) (hle : (H.push (.buf 1 k)).Le Hd)
    (f3 : Fr.get fr 3 = .slice (.own H.nx) 1 (sAV ((texts l).take k))) (f6 : Fr.get fr 6 = .slice m 3 (toks l)) (f7 : Fr.get fr 7 = .int .i64 (l.length : Int)) (f8 : Fr.get fr 8 = .int .i64 (k : Int)) :
    enterW H.nx fr Hd [(3, .slice (.own H.nx) 1 (sAV ((texts l).take k))), (6, .slice .any 3 (toks l)), (7, .int .i64 (l.length : Int)), (8, .int .i64 (k : Int))] (H.push (.buf 1 k)) := by
  refine ⟨by simp [AHeap.push], hle, closed_buf hcl, ?_, ?_⟩
  · simp only [ltF, zlw, true_and, and_true]
    exact ⟨sAV_lto (by simp [AHeap.push]), toks_lt⟩
  · simp [subW, wk2, wk1, wkM, f3, f6, f7, f8]
set_option maxHeartbeats 4000000 in
theorem ok_LJoinF : EntOk Try.prog 17 (Ent.pure p_LJoinF) := by
  refine EntOk.pure fun args H K h => ?_
  unfold p_LJoinF at h
  split at h
  rotate_left
  · exact h.elim
  rename_i m x
  obtain ⟨l, ⟨rfl, hl, hj⟩, hK⟩ := h
  refine ⟨_, hK, ?_⟩
  clear hK
  refine ACalls.of_aw (Ω := [(72, Ent.pure p_SJoin)]) (T := assoc []) mixed (TblOk.cons ok_SJoin TblOk.nil) Try.func17 (by kernel_rfl) (by rfl) (rs := [.tmp 2]) (by rfl) (by kernel_rfl) (by simp only [Try.ntmps17, List.length_cons, List.length_nil]; decide) (Nat.le_refl _) fun hcl hlt => ?_
  change aw _ _ _ (KI Try.prog [(72, Ent.pure p_SJoin)] (aEnd Try.prog [.tmp 2] H.nx _ _) []) _ _
  clear hlt
  simp only [go_sem, reduceCtorEq, Nat.reduceEqDiff, Nat.reduceAdd, Nat.reduceMul, Nat.reduceSub, Nat.reduceLeDiff, Nat.reduceLT, Int.reduceMul, Int.reduceAdd, Int.reduceSub, Int.reduceToNat, toks_length]
  refine loop_introW (A := Nat) (fun k => [(3, .slice (.own H.nx) 1 (sAV ((texts l).take k))), (6, .slice .any 3 (toks l)), (7, .int .i64 (l.length : Int)), (8, .int .i64 (k : Int))]) (fun k => H.push (.buf 1 k)) (fun k => k ≤ l.length) (fun k => l.length - k) 0 (by omega) ?_ fun k hk => ?_
  · exact entJ 0 hcl (AHeap.Le.refl _) rfl rfl rfl rfl
  simp only [go_sem, reduceCtorEq, Nat.reduceEqDiff, Nat.reduceAdd, Nat.reduceMul, Nat.reduceSub, Nat.reduceLeDiff, Nat.reduceLT, Int.reduceMul, Int.reduceAdd, Int.reduceSub, Int.reduceToNat]
  refine cond_split (fun h1 => ?_) (fun h1 => ?_)
  · have hk1 : k < l.length := by simp at h1; omega
    have e5 : IntKind.i64.wrap ((k : Int) + 1) = ((k + 1 : Nat) : Int) := by rw [wrap_i64] <;> omega
    have hg := toks_get hk1
    have hsn := texts_snoc hk1
    rcases hl2 : l[k] with ⟨a, b, c⟩
    rw [hl2] at hg hsn
    dsimp only at hsn
    simp only [go_sem, reduceCtorEq, Nat.reduceEqDiff, Nat.reduceAdd, Nat.reduceMul, Nat.reduceSub, Nat.reduceLeDiff, Nat.reduceLT, Int.reduceMul, Int.reduceAdd, Int.reduceSub, Int.reduceToNat, Int.toNat_natCast, toks_length, hg, tkAV, e5, hsn]
    have hlk : (sAV ((texts l).take k)).length = k := by rw [sAV_length, List.length_take, texts_length]; omega
    rw [hlk]
    refine ⟨⟨by omega, by omega⟩, ⟨rfl, by omega, by omega, by simp [zir, zge, zgf, zgi]⟩, k + 1, by omega, by omega, ?_⟩
    exact entJ (k + 1) hcl (((AHeap.Le.refl _).push _).push _) rfl rfl rfl rfl
  · have hk2 : k = l.length := by simp at h1; omega
    subst hk2
    have ht : (texts l).take l.length = texts l := List.take_of_length_le (by rw [texts_length]; exact Nat.le_refl _)
    simp only [go_sem, reduceCtorEq, Nat.reduceEqDiff, Nat.reduceAdd, Nat.reduceMul, Nat.reduceSub, Nat.reduceLeDiff, Nat.reduceLT, Int.reduceMul, Int.reduceAdd, Int.reduceSub, Int.reduceToNat, ht, p_SJoin]
    refine ⟨texts l, ⟨rfl, by rw [texts_length]; omega, by rw [spaced_join]; exact hj⟩, ?_⟩
    rw [spaced_join]
    simp (disch := first | assumption | omega | (simp; done) | (simp; omega) | (simp only [bt, and_true]; first | done | omega | (simp; done))) [↓zlf, beq, List.take_of_length_le, List.drop_append, List.take_append, endOk, wk, wk2, wk1, wkM, wkL, wkLL, List.drop_eq_nil_of_le, hcl]
theorem spaced_cons {x : List UInt8} {l : List (List UInt8)} : (spaced (x :: l)).length ≤ x.length + 1 + (spaced l).length := by
  cases l with
  | nil => simp [spaced]
  | cons y r => simp [spaced]; omega
theorem scanT_spaced : ∀ (f : Nat) (s : List UInt8) (k : Nat), (spaced (texts (scanT f s k).1)).length ≤ 2 * s.length
  | 0, _, _ => by simp [scanT, texts, spaced]
  | f + 1, [], _ => by simp [scanT, texts, spaced]
  | f + 1, c :: r, k => by
    unfold scanT
    split
    · have := scanT_spaced f r (k + 1)
      rw [List.length_cons]; omega
    · split
      · simp [texts, spaced]
      · rename_i kd x hx
        obtain ⟨h1, _, h2⟩ := tok1_text hx
        have h3 := congrArg List.length h2
        rw [List.length_take] at h3
        have h4 := List.length_pos_iff.2 h1
        have h5 := scanT_spaced f ((c :: r).drop x.length) (k + x.length)
        rw [List.length_drop] at h5
        have h6 := @spaced_cons x (texts (scanT f ((c :: r).drop x.length) (k + x.length)).1)
        simp only [texts, List.map_cons] at h5 h6 ⊢
        omega
theorem scanned_len {s : List UInt8} : (spaced (texts (scanned s).1)).length ≤ 2 * s.length := by
  unfold scanned
  split
  · simp [texts, spaced]
  · split
    · rename_i l hl
      have := scanT_spaced s.length s 0
      unfold rest at hl
      rw [List.drop_zero] at hl
      rw [hl] at this
      exact this
    · simp [texts, spaced]
theorem scanned_long {s : List UInt8} (h : 400 < s.length) : (scanned s).2.2 = 3 := by
  unfold scanned
  rw [if_pos h]
def p_LexerJoins : List AV → AHeap → (AV → Prop) → Prop
  | [.slice _ 1 l], _, K => isB l ∧ K (.bool true)
  | _, _, _ => False
set_option maxHeartbeats 4000000 in
theorem ok_LexerJoins : EntOk Try.prog 3 (Ent.pure p_LexerJoins) := by
  refine EntOk.pure fun args H K h => ?_
  unfold p_LexerJoins at h
  split at h
  rotate_left
  · exact h.elim
  rename_i m l
  obtain ⟨hB, hK⟩ := h
  obtain ⟨b, rfl⟩ := isB_out hB
  clear hB
  refine ⟨_, hK, ?_⟩
  clear hK
  refine ACalls.of_aw (Ω := [(13, Ent.effect e_CNew), (14, Ent.some s_CPieces), (15, Ent.pure p_xScan), (17, Ent.pure p_LJoinF), (16, Ent.pure p_begun06)]) (T := assoc []) mixed (TblOk.cons ok_CNew (TblOk.cons ok_CPieces (TblOk.cons ok_xScan (TblOk.cons ok_LJoinF (TblOk.cons ok_begun06 TblOk.nil))))) Try.func3 (by kernel_rfl) (by rfl) (rs := [.tmp 2]) (by rfl) (by kernel_rfl) (by simp only [Try.ntmps3, List.length_cons, List.length_nil]; decide) (Nat.le_refl _) fun hcl hlt => ?_
  change aw _ _ _ (KI Try.prog [(13, Ent.effect e_CNew), (14, Ent.some s_CPieces), (15, Ent.pure p_xScan), (17, Ent.pure p_LJoinF), (16, Ent.pure p_begun06)] (aEnd Try.prog [.tmp 2] H.nx _ _ (assoc [])) []) _ _
  clear hlt
  simp only [go_sem, reduceCtorEq, Nat.reduceEqDiff, Nat.reduceAdd, Nat.reduceMul, Nat.reduceSub, Nat.reduceLeDiff, Nat.reduceLT, Int.reduceMul, Int.reduceAdd, Int.reduceSub, Int.reduceToNat, e_CNew]
  refine ⟨b, ⟨rfl, by omega⟩, ?_⟩
  have hbt : (b.take (min (b.length : Int) 40).toNat).length ≤ 40 := by rw [List.length_take]; omega
  generalize b.take (min (b.length : Int) 40).toNat = b1 at *
  simp only [s_CPieces]
  refine ⟨b1, 0, ⟨AHeap.get_push_new _ _, ⟨by omega, by omega⟩, by omega⟩, fun q a' hq _ _ => ?_⟩
  have hms : maxStr = 9223372036854775807 := rfl
  have hsl := @scanned_len q
  have hsn := @scan_len q
  simp only [blkS, cod, go_sem, reduceCtorEq, Nat.reduceEqDiff, Nat.reduceAdd, Nat.reduceMul, Nat.reduceSub, Nat.reduceLeDiff, Nat.reduceLT, Int.reduceMul, Int.reduceAdd, Int.reduceSub, Int.reduceToNat, byq, p_xScan, scanAV]
  refine ⟨by omega, cond_split (fun h1 => ?_) (fun h1 => ?_)⟩
  · simp only [blkS, cod, go_sem, reduceCtorEq, Nat.reduceEqDiff, Nat.reduceAdd, Nat.reduceMul, Nat.reduceSub, Nat.reduceLeDiff, Nat.reduceLT, Int.reduceMul, Int.reduceAdd, Int.reduceSub, Int.reduceToNat, byq, p_begun06]
    simp (disch := first | assumption | omega | (simp; done) | (simp; omega) | (simp only [bt, and_true]; first | done | omega | (simp; done))) [↓zlf, beq, List.take_of_length_le, List.drop_append, List.take_append, endOk, wk, wk2, wk1, wkM, wkL, wkLL, List.drop_eq_nil_of_le, hcl]
  have he : (scanned q).2.2 = 0 := by simp at h1; exact h1
  have hsp := @scanned_spaced q (scanned q).1 (scanned q).2.1 (by rw [← he])
  generalize (scanned q).1 = l at *
  replace hsp : (spaced (texts l)).length ≤ 400 → ∃ m, scanned (spaced (texts l)) = (m, 0, 0) ∧ m.map (fun y => (y.1, y.2.1)) = l.map (fun y => (y.1, y.2.1)) := hsp
  simp only [blkS, cod, go_sem, reduceCtorEq, Nat.reduceEqDiff, Nat.reduceAdd, Nat.reduceMul, Nat.reduceSub, Nat.reduceLeDiff, Nat.reduceLT, Int.reduceMul, Int.reduceAdd, Int.reduceSub, Int.reduceToNat, byq, p_LJoinF]
  refine ⟨l, ⟨rfl, by omega, by omega⟩, ?_⟩
  have hlong := @scanned_long (spaced (texts l))
  generalize spaced (texts l) = t at *
  simp only [blkS, cod, go_sem, reduceCtorEq, Nat.reduceEqDiff, Nat.reduceAdd, Nat.reduceMul, Nat.reduceSub, Nat.reduceLeDiff, Nat.reduceLT, Int.reduceMul, Int.reduceAdd, Int.reduceSub, Int.reduceToNat, byq, p_xScan, scanAV]
  refine ⟨by omega, cond_split (fun h2 => ?_) (fun h2 => ?_)⟩
  · have h3 := hlong (by simp at h2; omega)
    simp only [blkS, cod, go_sem, reduceCtorEq, Nat.reduceEqDiff, Nat.reduceAdd, Nat.reduceMul, Nat.reduceSub, Nat.reduceLeDiff, Nat.reduceLT, Int.reduceMul, Int.reduceAdd, Int.reduceSub, Int.reduceToNat, byq, h3, p_begun06]
    refine both_tt (by simp) ?_
    simp (disch := first | assumption | omega | (simp; done) | (simp; omega) | (simp only [bt, and_true]; first | done | omega | (simp; done))) [↓zlf, beq, List.take_of_length_le, List.drop_append, List.take_append, endOk, wk, wk2, wk1, wkM, wkL, wkLL, List.drop_eq_nil_of_le, hcl]
  obtain ⟨m2, h3, h4⟩ := hsp (by simp at h2; omega)
  have hml : m2.length = l.length := by have := congrArg List.length h4; simpa using this
  simp only [blkS, cod, go_sem, reduceCtorEq, Nat.reduceEqDiff, Nat.reduceAdd, Nat.reduceMul, Nat.reduceSub, Nat.reduceLeDiff, Nat.reduceLT, Int.reduceMul, Int.reduceAdd, Int.reduceSub, Int.reduceToNat, byq, h3, toks_length, hml]
  refine both_ff rfl (cond_ff (by simp) ?_)
  simp only [blkS, cod, go_sem, reduceCtorEq, Nat.reduceEqDiff, Nat.reduceAdd, Nat.reduceMul, Nat.reduceSub, Nat.reduceLeDiff, Nat.reduceLT, Int.reduceMul, Int.reduceAdd, Int.reduceSub, Int.reduceToNat, byq, toks_length]
  refine loop_introW (A := Nat) (fun k => [(4, .slice .any 3 (toks l)), (8, .slice .any 3 (toks m2)), (50, .int .i64 (l.length : Int)), (51, .int .i64 (k : Int))])
    (fun k => H) (fun k => k ≤ l.length) (fun k => l.length - k) 0 (by omega) ?_ fun k hk => ?_
  · (simp only [bkq, enterW, subW, ltF, ne_eq, Nat.reduceEqDiff, reduceCtorEq, toks_lt]; try simp (disch := first | assumption | omega | (simp; done) | (simp; omega) | (simp only [bt, and_true]; first | done | omega | (simp; done))) [↓zlf, beq, List.take_of_length_le, List.drop_append, List.take_append, endOk, wk, wk2, wk1, wkM, wkL, wkLL, List.drop_eq_nil_of_le, byq, biq, isDs_ints, hcl, toks_lt]; try (repeat' (first | assumption | omega | exact True.intro | refine And.intro ?_ ?_ | refine closed_buf ?_ | refine closed_set_buf ?_ | refine closed_cells ?_ ?_ | refine closed_set ?_ ?_ | refine closed_del ?_ | exact AHeap.Le.refl _ | refine AHeap.Le.push ?_ _ | refine AHeap.Le.del ?_ ?_ | (simp only [bt, and_true, true_and, toks_lt]; first | done | omega | (simp; done)))))
  simp only [blkS, cod, go_sem, reduceCtorEq, Nat.reduceEqDiff, Nat.reduceAdd, Nat.reduceMul, Nat.reduceSub, Nat.reduceLeDiff, Nat.reduceLT, Int.reduceMul, Int.reduceAdd, Int.reduceSub, Int.reduceToNat, byq]
  refine cond_split (fun h5 => ?_) (fun h5 => ?_)
  · have hk1 : k < l.length := by simp at h5; omega
    have hk2 : k < m2.length := by omega
    have e5 : IntKind.i64.wrap ((k : Int) + 1) = ((k + 1 : Nat) : Int) := by rw [wrap_i64] <;> omega
    have hg := toks_get hk1
    have hg2 := toks_get hk2
    have hkt : (m2[k].1, m2[k].2.1) = (l[k].1, l[k].2.1) := by
      have := congrArg (fun z => z[k]?) h4
      simpa [hk1, hk2] using this
    rcases hl2 : l[k] with ⟨a, x, c⟩
    rcases hm2 : m2[k] with ⟨a', x', c'⟩
    rw [hl2, hm2] at hkt
    simp only [Prod.mk.injEq] at hkt
    obtain ⟨rfl, rfl⟩ := hkt
    rw [hl2] at hg
    rw [hm2] at hg2
    simp only [blkS, cod, go_sem, reduceCtorEq, Nat.reduceEqDiff, Nat.reduceAdd, Nat.reduceMul, Nat.reduceSub, Nat.reduceLeDiff, Nat.reduceLT, Int.reduceMul, Int.reduceAdd, Int.reduceSub, Int.reduceToNat, byq, Int.toNat_natCast, toks_length, hg, hg2, tkAV, e5, hml]
    refine ⟨⟨by omega, by omega⟩, ⟨by omega, by omega⟩, both_ff (by simp) ⟨⟨by omega, by omega⟩, ⟨by omega, by omega⟩, cond_ff (by simp) ?_⟩⟩
    simp only [go_sem, reduceCtorEq, Nat.reduceEqDiff, Nat.reduceAdd, Nat.reduceMul, Nat.reduceSub, Nat.reduceLeDiff, Nat.reduceLT, Int.reduceMul, Int.reduceAdd, Int.reduceSub, Int.reduceToNat, e5]
    refine ⟨k + 1, by omega, by omega, ?_⟩
    (simp only [bkq, enterW, subW, ltF, ne_eq, Nat.reduceEqDiff, reduceCtorEq, toks_lt]; try simp (disch := first | assumption | omega | (simp; done) | (simp; omega) | (simp only [bt, and_true]; first | done | omega | (simp; done))) [↓zlf, beq, List.take_of_length_le, List.drop_append, List.take_append, endOk, wk, wk2, wk1, wkM, wkL, wkLL, List.drop_eq_nil_of_le, byq, biq, isDs_ints, hcl, toks_lt]; try (repeat' (first | assumption | omega | exact True.intro | refine And.intro ?_ ?_ | refine closed_buf ?_ | refine closed_set_buf ?_ | refine closed_cells ?_ ?_ | refine closed_set ?_ ?_ | refine closed_del ?_ | exact AHeap.Le.refl _ | refine AHeap.Le.push ?_ _ | refine AHeap.Le.del ?_ ?_ | (simp only [bt, and_true, true_and, toks_lt]; first | done | omega | (simp; done)))))
  · simp only [blkS, cod, go_sem, reduceCtorEq, Nat.reduceEqDiff, Nat.reduceAdd, Nat.reduceMul, Nat.reduceSub, Nat.reduceLeDiff, Nat.reduceLT, Int.reduceMul, Int.reduceAdd, Int.reduceSub, Int.reduceToNat, byq, p_begun06]
    simp (disch := first | assumption | omega | (simp; done) | (simp; omega) | (simp only [bt, and_true]; first | done | omega | (simp; done))) [↓zlf, beq, List.take_of_length_le, List.drop_append, List.take_append, endOk, wk, wk2, wk1, wkM, wkL, wkLL, List.drop_eq_nil_of_le, hcl]
end Go.AL

