/- Contracts and plain laws, a part of the proof; no condition of its own. -/
import Derived.Test.YtknhoembfohbiaaS07n
import Derived.Test.YtknhoembfohbiaaS07w
import Derived.Test.YtknhoembfohbiaaS07f
import Derived.Test.YtknhoembfohbiaaF06
open List renaming length_cons → yaz, length_nil → yba, take_succ_cons → yaq, take_zero → yar, drop_succ_cons → yao, drop_zero → yap, map_cons → yae, map_nil → yaf, cons_append → yal, nil_append → yak, take_of_length_le → ybc, drop_append → ybd, take_append → ybe, drop_eq_nil_of_le → ybf
open Go Go.AL Go.Proofs
namespace Go.AL
set_option linter.all false
set_option maxRecDepth 10000

theorem piecesR_len {b : List UInt8} : ∀ {f v : Nat} {s : List UInt8}, s.length ≤ 310 → (piecesR f b v s).1.length ≤ 310
  | 0, v, s, h => h
  | f + 1, v, s, h => by
    unfold piecesR
    split
    · rename_i hc
      refine piecesR_len ?_
      have h1 := (pcs_cv (b := b) (v := v)).2
      unfold pieceOf
      rw [List.length_append, List.length_append]
      split <;> simp only [yaz, yba] <;> omega
    · exact h
theorem onC_new {b : List UInt8} {K : List UInt8 → Nat → Prop} (hb : b.length ≤ 1000000) : onC (some (.cells [.slice .any 1 (bys b), .int .i64 0])) K = K b 0 := by
  have := onC_cod (v := 0) (K := K) hb
  unfold codV at this
  simpa using this
def p_SyntaxParses : List AV → AHeap → (AV → Prop) → Prop
  | [.str s, .slice _ 1 l, .int .i64 n, .int .u8 x, .slice _ 1 l2], _, K => (s.length ≤ 140737488351232 ∧ isB l ∧ isB l2 ∧ -9223372036854775808 ≤ n ∧ n < 9223372036854775808) ∧ K (.bool true)
  | _, _, _ => False
set_option maxHeartbeats 4000000 in
theorem ok_SyntaxParses : EntOk Try.prog 4 (Ent.pure p_SyntaxParses) := by
  refine EntOk.pure fun args H K h => ?_
  unfold p_SyntaxParses at h
  split at h
  rotate_left
  · exact h.elim
  rename_i s m l n x m2 l2
  obtain ⟨⟨hs, hB, hB2, hn1, hn2⟩, hK⟩ := h
  obtain ⟨b, rfl⟩ := isB_out hB
  obtain ⟨d, rfl⟩ := isB_out hB2
  clear hB hB2
  refine ⟨_, hK, ?_⟩
  clear hK
  have h_parsed : EntOk Try.prog 20 (Ent.some (s_parsed True 0)) := s_ok_parsed (s_ok_zParse ok_zVal)
  have h_CSent := s_ok_CSent (A := True) 5
  refine ACalls.of_aw (Ω := [(13, Ent.effect e_CNew), (18, Ent.some (s_CSent True 5)), (14, Ent.effect e_CPiecesD), (20, Ent.some (s_parsed True 0)), (19, Ent.pure p_Mod), (21, Ent.pure p_begun07)]) (T := assoc [(8, [[], [], [], [], [], [], [], [], [], [], [], [], [], [], [], [14], [], [], [], [], [], [], [14, 15], [14, 15, 22], [6, 9, 12, 14, 15, 19, 22, 23]]), (4, [[3]]), (6, [[30]])]) mixed (TblOk.cons ok_CNew (TblOk.cons h_CSent (TblOk.cons ok_CPiecesD (TblOk.cons h_parsed (TblOk.cons ok_Mod (TblOk.cons ok_begun07 TblOk.nil)))))) Try.func4 (by kernel_rfl) (by rfl) (rs := [.tmp 10]) (by rfl) (by kernel_rfl) (by simp only [Try.ntmps4, yaz, yba]; decide) (Nat.le_refl _) fun hcl hlt => ?_
  change aw _ _ _ (KI Try.prog [(13, Ent.effect e_CNew), (18, Ent.some (s_CSent True 5)), (14, Ent.effect e_CPiecesD), (20, Ent.some (s_parsed True 0)), (19, Ent.pure p_Mod), (21, Ent.pure p_begun07)] (aEnd Try.prog [.tmp 10] H.nx _ _ (assoc [(8, [[], [], [], [], [], [], [], [], [], [], [], [], [], [], [], [14], [], [], [], [], [], [], [14, 15], [14, 15, 22], [6, 9, 12, 14, 15, 19, 22, 23]]), (4, [[3]]), (6, [[30]])])) []) _ _
  clear hlt
  simp only [go_sem, reduceCtorEq, Nat.reduceEqDiff, Nat.reduceAdd, Nat.reduceMul, Nat.reduceSub, Nat.reduceLeDiff, Nat.reduceLT, Int.reduceMul, Int.reduceAdd, Int.reduceSub, Int.reduceToNat, e_CNew]
  refine ⟨by omega, b, ⟨rfl, by omega⟩, ?_⟩
  have hbt : (b.take (min (b.length : Int) 60).toNat).length ≤ 60 := by rw [List.length_take]; omega
  generalize b.take (min (b.length : Int) 60).toNat = b1 at *
  have hb3 : bS 5 ≤ 50000 := by decide
  simp only [s_CSent]
  refine ⟨b1, 0, ⟨AHeap.get_push_new _ _, ⟨by omega, by omega⟩, by omega, rfl, by omega⟩, fun q a' hq _ _ => ?_⟩
  generalize hs1 : (s.take (min (s.length : Int) 100).toNat).drop (0 : Int).toNat = s1
  have hs1l : s1.length ≤ 100 := by rw [← hs1, List.length_drop, List.length_take]; omega
  have hms : maxStr = 9223372036854775807 := rfl
  have hql : q.length ≤ 50000 := by omega
  obtain ⟨k, hk, hkl⟩ : ∃ k : Nat, (n.tmod ((q.length : Int) + 1) + ((q.length : Int) + 1)).tmod ((q.length : Int) + 1) = (k : Int) ∧ k ≤ q.length := by
    obtain ⟨h1, h2⟩ := @mod_lt n ((q.length : Int) + 1) (by omega)
    exact ⟨((n.tmod ((q.length : Int) + 1) + ((q.length : Int) + 1)).tmod ((q.length : Int) + 1)).toNat, by omega, by omega⟩
  have e1 : IntKind.i64.wrap ((q.length : Int) + 1) = (q.length : Int) + 1 := by rw [wrap_i64] <;> omega
  have hd4 : (d.take (min (d.length : Int) 4).toNat).length ≤ 1000000 := by rw [List.length_take]; omega
  have hd30 : (d.take (min (d.length : Int) 30).toNat).length ≤ 1000000 := by rw [List.length_take]; omega
  simp only [blkS, cod, go_sem, reduceCtorEq, Nat.reduceEqDiff, Nat.reduceAdd, Nat.reduceMul, Nat.reduceSub, Nat.reduceLeDiff, Nat.reduceLT, Int.reduceMul, Int.reduceAdd, Int.reduceSub, Int.reduceToNat, bhq, Nat.reduceMod, Nat.reduceDiv, stepH, stepM, toMs1, toMs, toMs0, strK, pubK, pubF, pubV, yaq, yar, yao, yap, byq]
  refine ⟨by omega, fun hq0 => ?_, fun hq0 kk => ?_⟩
  · have hq1 : q = [] := by rwa [zlk] at hq0
    subst hq1
    refine cond_ff rfl ?_
    simp only [blkS, cod, go_sem, reduceCtorEq, Nat.reduceEqDiff, Nat.reduceAdd, Nat.reduceMul, Nat.reduceSub, Nat.reduceLeDiff, Nat.reduceLT, Int.reduceMul, Int.reduceAdd, Int.reduceSub, Int.reduceToNat, bhq, Nat.reduceMod, Nat.reduceDiv, stepH, stepM, toMs1, toMs, toMs0, strK, pubK, pubF, pubV, yaq, yar, yao, yap, byq]
    have hk0 : k = 0 := by simpa using hkl
    subst hk0
    have e0 : IntKind.i64.wrap (((0 : Nat) : Int) + 1) = 1 := by decide
    have hk' : (n.tmod 1 + 1).tmod 1 = ((0 : Nat) : Int) := hk
    simp only [blkS, cod, go_sem, reduceCtorEq, Nat.reduceEqDiff, Nat.reduceAdd, Nat.reduceMul, Nat.reduceSub, Nat.reduceLeDiff, Nat.reduceLT, Int.reduceMul, Int.reduceAdd, Int.reduceSub, Int.reduceToNat, bhq, Nat.reduceMod, Nat.reduceDiv, stepH, stepM, toMs1, toMs, toMs0, strK, pubK, pubF, pubV, yaq, yar, yao, yap, byq, p_Mod, e0, hk', e_CPiecesD, e_CNew]
    refine ⟨⟨by omega, by omega, by decide, by decide⟩, fun x hx => (by cases hx), ⟨by decide, by decide, by decide⟩, ⟨by decide, by decide, by decide⟩, ⟨by decide, by decide, by decide⟩, d, ⟨rfl, by omega⟩, ?_⟩
    have hp1 : (piecesR (d.take (min (d.length : Int) 4).toNat).length (d.take (min (d.length : Int) 4).toNat) 0 []).1.length ≤ 310 := piecesR_len (by simp)
    have hp2 : (piecesR (d.take (min (d.length : Int) 30).toNat).length (d.take (min (d.length : Int) 30).toNat) 0 []).1.length ≤ 310 := piecesR_len (by simp)
    simp only [blkS, cod, go_sem, reduceCtorEq, Nat.reduceEqDiff, Nat.reduceAdd, Nat.reduceMul, Nat.reduceSub, Nat.reduceLeDiff, Nat.reduceLT, Int.reduceMul, Int.reduceAdd, Int.reduceSub, Int.reduceToNat, bhq, Nat.reduceMod, Nat.reduceDiv, stepH, stepM, toMs1, toMs, toMs0, strK, pubK, pubF, pubV, yaq, yar, yao, yap, byq, onC_new hd4]
    refine ⟨by rw [hms]; omega, ⟨by decide, by decide, by decide⟩, by rw [hms]; omega, d, ⟨rfl, by omega⟩, ?_⟩
    rw [onC_new hd30]
    generalize (piecesR (d.take (min (d.length : Int) 4).toNat).length (d.take (min (d.length : Int) 4).toNat) 0 []).1 = p1 at *
    generalize (piecesR (d.take (min (d.length : Int) 30).toNat).length (d.take (min (d.length : Int) 30).toNat) 0 []).1 = p2 at *
    generalize hL : [s1, [], [], [], [], p1, p2] = L
    have hLl : L.length = 7 := by rw [← hL]; rfl
    have hLb : ∀ i, i < 7 → (L.getD i []).length ≤ 60000 := by
      intro i hi
      rw [← hL]
      rcases (by omega : i = 0 ∨ i = 1 ∨ i = 2 ∨ i = 3 ∨ i = 4 ∨ i = 5 ∨ i = 6) with rfl | rfl | rfl | rfl | rfl | rfl | rfl <;> simp <;> omega
    refine loop_introW (A := Nat) (fun k => [(74, .slice .any 1 (sAV L)), (75, .int .i64 7), (76, .int .i64 (k : Int))]) (fun k => H) (fun k => k ≤ 7) (fun k => 7 - k) 0 (by omega) ?_ fun k hk => ?_
    · rw [← hL]
      (simp only [bkq, enterW, subW, ltF, ne_eq, Nat.reduceEqDiff, reduceCtorEq, sAV, yae, yaf, yal, yak, lt_sliceL]; try simp (disch := first | assumption | omega | (simp; done) | (simp; omega) | (simp only [bt, and_true]; first | done | omega | (simp; done))) [↓zlf, beq, ybc, ybd, ybe, endOk, wk, wk2, wk1, wkM, wkL, wkLL, ybf, byq, biq, isDs_ints, hcl, sAV, yae, yaf, yal, yak, lt_sliceL]; try (repeat' (first | assumption | omega | exact True.intro | refine And.intro ?_ ?_ | refine closed_buf ?_ | refine closed_set_buf ?_ | refine closed_cells ?_ ?_ | refine closed_set ?_ ?_ | refine closed_del ?_ | exact AHeap.Le.refl _ | refine AHeap.Le.push ?_ _ | refine AHeap.Le.del ?_ ?_ | (simp only [bt, and_true, true_and, sAV, yae, yaf, yal, yak, lt_sliceL]; first | done | omega | (simp; done)))))
    simp only [go_sem, reduceCtorEq, Nat.reduceEqDiff, Nat.reduceAdd, Nat.reduceMul, Nat.reduceSub, Nat.reduceLeDiff, Nat.reduceLT, Int.reduceMul, Int.reduceAdd, Int.reduceSub, Int.reduceToNat]
    refine cond_split (fun h5 => ?_) (fun h5 => ?_)
    · have hk5 : k < 7 := by simp at h5; omega
      have hg5 : (sAV L).getD k .junk = .str (L.getD k []) := sAV_get (by omega)
      have hb5 := hLb k hk5
      have e5 : IntKind.i64.wrap ((k : Int) + 1) = ((k + 1 : Nat) : Int) := by rw [wrap_i64] <;> omega
      generalize L.getD k [] = t at *
      obtain ⟨f, r, hr⟩ := run_total (scanned t).1
      simp only [blkS, cod, go_sem, reduceCtorEq, Nat.reduceEqDiff, Nat.reduceAdd, Nat.reduceMul, Nat.reduceSub, Nat.reduceLeDiff, Nat.reduceLT, Int.reduceMul, Int.reduceAdd, Int.reduceSub, Int.reduceToNat, Int.toNat_natCast, sAV_length, hLl, hg5, s_parsed]
      refine ⟨⟨by omega, by omega⟩, f, r, ⟨hr, by omega, litFree_true⟩, ?_⟩
      rw [parsed_of2]
      simp only [blkS, cod, go_sem, reduceCtorEq, Nat.reduceEqDiff, Nat.reduceAdd, Nat.reduceMul, Nat.reduceSub, Nat.reduceLeDiff, Nat.reduceLT, Int.reduceMul, Int.reduceAdd, Int.reduceSub, Int.reduceToNat, Bool.not_true, e5]
      refine ⟨k + 1, by omega, by omega, ?_⟩
      (simp only [bkq, enterW, subW, ltF, ne_eq, Nat.reduceEqDiff, reduceCtorEq, sAV_lt]; try simp (disch := first | assumption | omega | (simp; done) | (simp; omega) | (simp only [bt, and_true]; first | done | omega | (simp; done))) [↓zlf, beq, ybc, ybd, ybe, endOk, wk, wk2, wk1, wkM, wkL, wkLL, ybf, byq, biq, isDs_ints, hcl, sAV_lt]; try (repeat' (first | assumption | omega | exact True.intro | refine And.intro ?_ ?_ | refine closed_buf ?_ | refine closed_set_buf ?_ | refine closed_cells ?_ ?_ | refine closed_set ?_ ?_ | refine closed_del ?_ | exact AHeap.Le.refl _ | refine AHeap.Le.push ?_ _ | refine AHeap.Le.del ?_ ?_ | (simp only [bt, and_true, true_and, sAV_lt]; first | done | omega | (simp; done)))))
    · have hk5 : k = 7 := by simp at h5; omega
      simp only [go_sem, reduceCtorEq, Nat.reduceEqDiff, Nat.reduceAdd, Nat.reduceMul, Nat.reduceSub, Nat.reduceLeDiff, Nat.reduceLT, Int.reduceMul, Int.reduceAdd, Int.reduceSub, Int.reduceToNat, p_begun07]
      simp (disch := first | assumption | omega | (simp; done) | (simp; omega) | (simp only [bt, and_true]; first | done | omega | (simp; done))) [↓zlf, beq, ybc, ybd, ybe, endOk, wk, wk2, wk1, wkM, wkL, wkLL, ybf, hcl]
  · have hq1 : q ≠ [] := fun e => hq0 (by rw [e]; rfl)
    have hq2 : 0 < q.length := List.length_pos_iff.2 hq1
    refine cond_tt (by simp; omega) ?_
    obtain ⟨ix, hix, hixl⟩ : ∃ ix : Nat, (n.tmod (q.length : Int) + (q.length : Int)).tmod (q.length : Int) = (ix : Int) ∧ ix < q.length := by
      obtain ⟨h1, h2⟩ := @mod_lt n (q.length : Int) (by omega)
      exact ⟨((n.tmod (q.length : Int) + (q.length : Int)).tmod (q.length : Int)).toNat, by omega, by omega⟩
    have hgd : (bys q ++ List.replicate kk AV.junk).getD ix .junk = ofByte q[ix] := by
      rw [List.getD_eq_getElem?_getD, List.getElem?_append_left (by rw [zkb]; exact hixl), ← List.getD_eq_getElem?_getD, bys_get hixl]
      simp [List.getD_eq_getElem?_getD, hixl]
    obtain ⟨e, he⟩ : ∃ e : UInt8, AV.int .u8 (ixor .u8 ((q[ix].toNat : Nat) : Int) x) = ofByte e := by unfold ixor; exact u8_byte _
    have hsp : splice (bys q ++ List.replicate kk AV.junk) ix (bys [e]) = bys (q.set ix e) ++ List.replicate kk AV.junk := by
      show splice _ ix [ofByte e] = _
      rw [splice_one, List.set_append_left _ _ (by rw [zkb]; exact hixl)]
      congr 1
      unfold bys; rw [List.map_set]
    have hrw : rowsOf 1 q.length (bys (q.set ix e) ++ List.replicate kk AV.junk) = bys (q.set ix e) := rows_junk (by rw [List.length_set])
    generalize q[ix] = c at *
    have hgd' : (bys q ++ List.replicate kk AV.junk).getD ix .junk = .int .u8 ((c.toNat : Nat) : Int) := hgd
    have hlc : (bys q ++ List.replicate kk AV.junk).length = q.length + kk := by rw [List.length_append, zkb, List.length_replicate]
    have hqs : (q.set ix e).length = q.length := List.length_set
    simp only [blkS, cod, go_sem, reduceCtorEq, Nat.reduceEqDiff, Nat.reduceAdd, Nat.reduceMul, Nat.reduceSub, Nat.reduceLeDiff, Nat.reduceLT, Int.reduceMul, Int.reduceAdd, Int.reduceSub, Int.reduceToNat, bhq, Nat.reduceMod, Nat.reduceDiv, stepH, stepM, toMs1, toMs, toMs0, strK, pubK, pubF, pubV, yaq, yar, yao, yap, byq, p_Mod, hix, hgd', he, hsp, hlc]
    refine ⟨⟨by omega, by omega, by omega, by omega⟩, ⟨by omega, by omega⟩, by omega, ⟨by omega, by omega⟩, by omega, 1, q.length, ?_⟩
    have hle1 : (1 = 1 ∧ q.length ≤ q.length) = True := eq_true ⟨rfl, Nat.le_refl _⟩
    have hp1 : (piecesR (d.take (min (d.length : Int) 4).toNat).length (d.take (min (d.length : Int) 4).toNat) 0 []).1.length ≤ 310 := piecesR_len (by simp)
    have hp2 : (piecesR (d.take (min (d.length : Int) 30).toNat).length (d.take (min (d.length : Int) 30).toNat) 0 []).1.length ≤ 310 := piecesR_len (by simp)
    simp only [blkS, cod, go_sem, reduceCtorEq, Nat.reduceEqDiff, Nat.reduceAdd, Nat.reduceMul, Nat.reduceSub, Nat.reduceLeDiff, Nat.reduceLT, Int.reduceMul, Int.reduceAdd, Int.reduceSub, Int.reduceToNat, bhq, Nat.reduceMod, Nat.reduceDiv, stepH, stepM, toMs1, toMs, toMs0, strK, pubK, pubF, pubV, yaq, yar, yao, yap, byq, hle1, hrw, Nat.le_refl, eq_self, p_Mod, e1, hk, e_CNew, e_CPiecesD]
    refine ⟨⟨by omega, by omega, by omega, by omega⟩, ⟨by omega, by omega, by omega⟩, ⟨by omega, by omega, by omega⟩, ⟨by omega, by omega, by omega⟩, d, ⟨rfl, by omega⟩, ?_⟩
    rw [onC_new hd4]
    generalize (piecesR (d.take (min (d.length : Int) 4).toNat).length (d.take (min (d.length : Int) 4).toNat) 0 []).1 = p1 at *
    refine ⟨by rw [hms, List.length_take]; omega, ⟨by omega, by omega, by omega⟩, by rw [hms]; simp only [List.length_append, List.length_take, List.length_drop]; omega, d, ⟨rfl, by omega⟩, ?_⟩
    rw [onC_new hd30]
    generalize (piecesR (d.take (min (d.length : Int) 30).toNat).length (d.take (min (d.length : Int) 30).toNat) 0 []).1 = p2 at *
    generalize hL : [s1, q, q.set ix e, q.take k, (q.take q.length).drop k, q.take k ++ p1 ++ (q.take q.length).drop k, p2] = L
    have hLl : L.length = 7 := by rw [← hL]; rfl
    have hLb : ∀ i, i < 7 → (L.getD i []).length ≤ 60000 := by
      intro i hi
      rw [← hL]
      rcases (by omega : i = 0 ∨ i = 1 ∨ i = 2 ∨ i = 3 ∨ i = 4 ∨ i = 5 ∨ i = 6) with rfl | rfl | rfl | rfl | rfl | rfl | rfl <;> simp <;> omega
    refine loop_introW (A := Nat) (fun k => [(74, .slice .any 1 (sAV L)), (75, .int .i64 7), (76, .int .i64 (k : Int))]) (fun k => H) (fun k => k ≤ 7) (fun k => 7 - k) 0 (by omega) ?_ fun k hk => ?_
    · rw [← hL]
      (simp only [bkq, enterW, subW, ltF, ne_eq, Nat.reduceEqDiff, reduceCtorEq, sAV, yae, yaf, yal, yak, lt_sliceL]; try simp (disch := first | assumption | omega | (simp; done) | (simp; omega) | (simp only [bt, and_true]; first | done | omega | (simp; done))) [↓zlf, beq, ybc, ybd, ybe, endOk, wk, wk2, wk1, wkM, wkL, wkLL, ybf, byq, biq, isDs_ints, hcl, sAV, yae, yaf, yal, yak, lt_sliceL]; try (repeat' (first | assumption | omega | exact True.intro | refine And.intro ?_ ?_ | refine closed_buf ?_ | refine closed_set_buf ?_ | refine closed_cells ?_ ?_ | refine closed_set ?_ ?_ | refine closed_del ?_ | exact AHeap.Le.refl _ | refine AHeap.Le.push ?_ _ | refine AHeap.Le.del ?_ ?_ | (simp only [bt, and_true, true_and, sAV, yae, yaf, yal, yak, lt_sliceL]; first | done | omega | (simp; done)))))
    simp only [go_sem, reduceCtorEq, Nat.reduceEqDiff, Nat.reduceAdd, Nat.reduceMul, Nat.reduceSub, Nat.reduceLeDiff, Nat.reduceLT, Int.reduceMul, Int.reduceAdd, Int.reduceSub, Int.reduceToNat]
    refine cond_split (fun h5 => ?_) (fun h5 => ?_)
    · have hk5 : k < 7 := by simp at h5; omega
      have hg5 : (sAV L).getD k .junk = .str (L.getD k []) := sAV_get (by omega)
      have hb5 := hLb k hk5
      have e5 : IntKind.i64.wrap ((k : Int) + 1) = ((k + 1 : Nat) : Int) := by rw [wrap_i64] <;> omega
      generalize L.getD k [] = t at *
      obtain ⟨f, r, hr⟩ := run_total (scanned t).1
      simp only [blkS, cod, go_sem, reduceCtorEq, Nat.reduceEqDiff, Nat.reduceAdd, Nat.reduceMul, Nat.reduceSub, Nat.reduceLeDiff, Nat.reduceLT, Int.reduceMul, Int.reduceAdd, Int.reduceSub, Int.reduceToNat, Int.toNat_natCast, sAV_length, hLl, hg5, s_parsed]
      refine ⟨⟨by omega, by omega⟩, f, r, ⟨hr, by omega, litFree_true⟩, ?_⟩
      rw [parsed_of2]
      simp only [blkS, cod, go_sem, reduceCtorEq, Nat.reduceEqDiff, Nat.reduceAdd, Nat.reduceMul, Nat.reduceSub, Nat.reduceLeDiff, Nat.reduceLT, Int.reduceMul, Int.reduceAdd, Int.reduceSub, Int.reduceToNat, Bool.not_true, e5]
      refine ⟨k + 1, by omega, by omega, ?_⟩
      (simp only [bkq, enterW, subW, ltF, ne_eq, Nat.reduceEqDiff, reduceCtorEq, sAV_lt]; try simp (disch := first | assumption | omega | (simp; done) | (simp; omega) | (simp only [bt, and_true]; first | done | omega | (simp; done))) [↓zlf, beq, ybc, ybd, ybe, endOk, wk, wk2, wk1, wkM, wkL, wkLL, ybf, byq, biq, isDs_ints, hcl, sAV_lt]; try (repeat' (first | assumption | omega | exact True.intro | refine And.intro ?_ ?_ | refine closed_buf ?_ | refine closed_set_buf ?_ | refine closed_cells ?_ ?_ | refine closed_set ?_ ?_ | refine closed_del ?_ | exact AHeap.Le.refl _ | refine AHeap.Le.push ?_ _ | refine AHeap.Le.del ?_ ?_ | (simp only [bt, and_true, true_and, sAV_lt]; first | done | omega | (simp; done)))))
    · have hk5 : k = 7 := by simp at h5; omega
      simp only [go_sem, reduceCtorEq, Nat.reduceEqDiff, Nat.reduceAdd, Nat.reduceMul, Nat.reduceSub, Nat.reduceLeDiff, Nat.reduceLT, Int.reduceMul, Int.reduceAdd, Int.reduceSub, Int.reduceToNat, p_begun07]
      simp (disch := first | assumption | omega | (simp; done) | (simp; omega) | (simp only [bt, and_true]; first | done | omega | (simp; done))) [↓zlf, beq, ybc, ybd, ybe, endOk, wk, wk2, wk1, wkM, wkL, wkLL, ybf, hcl]
end Go.AL

