/- Contracts and plain laws, a part of the proof; no condition of its own. -/
import Derived.Test.YtgihhefckdgeoaaS10r
open List renaming length_cons → yaz, length_nil → yba, cons_append → yal, nil_append → yak, take_of_length_le → ybc, drop_append → ybd, take_append → ybe, drop_eq_nil_of_le → ybf, take_succ_cons → yaq, take_zero → yar, drop_succ_cons → yao, drop_zero → yap, length_map → ybb
open Go Go.AL Go.Proofs
namespace Go.AL
set_option linter.all false
set_option maxRecDepth 10000

theorem splice_all : ∀ (z l : List AV), z.length = l.length → splice z 0 l = l
  | [], [], _ => rfl
  | a :: z, b :: l, h => by
    unfold splice
    rw [splice_all z l (by simpa using h)]
  | [], _ :: _, h => by simp at h
  | _ :: _, [], h => by simp at h
def p_rCovers : List AV → AHeap → (AV → Prop) → Prop
  | [.agg l, .int .i64 k, .int .i64 w, .agg [.int .u64 a, .int .u64 b]], _, K => ∃ m : SMatch, (l = matchC m ∧ MOk m ∧ isV a b ∧ 0 ≤ w ∧ w ≤ 128 ∧ -1000 ≤ m.pfx ∧ m.pfx ≤ 1000) ∧ K (.bool (coversM m k w (vOf a.toNat b.toNat)))
  | _, _, _ => False
set_option maxHeartbeats 4000000 in
theorem ok_rCovers : EntOk Try.prog 25 (Ent.pure p_rCovers) := by
  refine EntOk.pure fun args H K h => ?_
  unfold p_rCovers at h
  split at h
  rotate_left
  · exact h.elim
  rename_i l k w a b
  obtain ⟨m, ⟨rfl, ⟨hv, hk, hh⟩, hab, hw0, hw1, hp0, hp1⟩, hK⟩ := h
  refine ⟨_, hK, ?_⟩
  clear hK
  obtain ⟨x, hx, rfl, rfl, e⟩ := isV_out hab
  rw [e]
  clear e hab
  obtain ⟨pr, v, mk, pf, hi⟩ := m
  dsimp only at hv hk hh hp0 hp1
  have i1 := isV_of hx
  have i2 := isV_of hv
  have i3 := isV_of hk
  have i4 := isV_of hh
  have hL := leadN_lt w pf
  have i5 := isV_of hL
  cases pr
  · have e1 : coversM ⟨false, v, mk, pf, hi⟩ k w x = decide (1 ≤ k ∧ k ≤ 4) := rfl
    rw [e1]
    by_cases h1 : 1 ≤ k
    · have d1 : decide (k ≥ 1) = true := decide_eq_true h1
      have d2 : decide (1 ≤ k ∧ k ≤ 4) = decide (k ≤ 4) := by rw [decide_eq_decide]; omega
      rw [d2]
      refine ACalls.of_aw (Ω := [(73, Ent.pure p_rRead), (17, Ent.pure p_rAnd), (82, Ent.pure p_rCompare)]) (T := assoc [(7, [[], [0], [], [], [0, 1, 3], [], [], [0, 1, 3, 4, 5, 6], [0, 1, 3, 4, 5, 6]]), (15, [[], [], [], [0, 2]]), (807, [[5, 154], [6, 154]])]) mixed (TblOk.cons ok_rRead (TblOk.cons ok_rAnd (TblOk.cons ok_rCompare TblOk.nil))) Try.func25 (by kernel_rfl) (by rfl) (rs := [.tmp 8]) (by rfl) (by kernel_rfl) (by simp only [Try.ntmps25, yaz, yba]; decide) (Nat.le_refl _) fun hcl hlt => ?_
      change aw _ _ _ (KI Try.prog [(73, Ent.pure p_rRead), (17, Ent.pure p_rAnd), (82, Ent.pure p_rCompare)] (aEnd Try.prog [.tmp 8] H.nx _ _ (assoc [(7, [[], [0], [], [], [0, 1, 3], [], [], [0, 1, 3, 4, 5, 6], [0, 1, 3, 4, 5, 6]]), (15, [[], [], [], [0, 2]]), (807, [[5, 154], [6, 154]])])) []) _ _
      clear hlt
      simp only [go_sem, reduceCtorEq, Nat.reduceEqDiff, Nat.reduceAdd, Nat.reduceMul, Nat.reduceSub, Nat.reduceLeDiff, Nat.reduceLT, Int.reduceMul, Int.reduceAdd, Int.reduceSub, Int.reduceToNat, matchC, vc, yal, yak, d1]
      simp (disch := first | assumption | omega | (simp; done) | (simp; omega) | (simp only [bt, and_true]; first | done | omega | (simp; done))) [↓zlq, beq, ybc, ybd, ybe, endOk, wk, wk2, wk1, wkM, wkL, wkLL, ybf, hcl]
    · have d1 : decide (k ≥ 1) = false := decide_eq_false h1
      have d2 : decide (1 ≤ k ∧ k ≤ 4) = false := decide_eq_false (by omega)
      rw [d2]
      refine ACalls.of_aw (Ω := [(73, Ent.pure p_rRead), (17, Ent.pure p_rAnd), (82, Ent.pure p_rCompare)]) (T := assoc [(7, [[], [0], [], [], [0, 1, 3], [], [], [0, 1, 3, 4, 5, 6], [0, 1, 3, 4, 5, 6]]), (15, [[], [], [], [0, 2]]), (807, [[5, 154], [6, 154]])]) mixed (TblOk.cons ok_rRead (TblOk.cons ok_rAnd (TblOk.cons ok_rCompare TblOk.nil))) Try.func25 (by kernel_rfl) (by rfl) (rs := [.tmp 8]) (by rfl) (by kernel_rfl) (by simp only [Try.ntmps25, yaz, yba]; decide) (Nat.le_refl _) fun hcl hlt => ?_
      change aw _ _ _ (KI Try.prog [(73, Ent.pure p_rRead), (17, Ent.pure p_rAnd), (82, Ent.pure p_rCompare)] (aEnd Try.prog [.tmp 8] H.nx _ _ (assoc [(7, [[], [0], [], [], [0, 1, 3], [], [], [0, 1, 3, 4, 5, 6], [0, 1, 3, 4, 5, 6]]), (15, [[], [], [], [0, 2]]), (807, [[5, 154], [6, 154]])])) []) _ _
      clear hlt
      simp only [go_sem, reduceCtorEq, Nat.reduceEqDiff, Nat.reduceAdd, Nat.reduceMul, Nat.reduceSub, Nat.reduceLeDiff, Nat.reduceLT, Int.reduceMul, Int.reduceAdd, Int.reduceSub, Int.reduceToNat, matchC, vc, yal, yak, d1]
      simp (disch := first | assumption | omega | (simp; done) | (simp; omega) | (simp only [bt, and_true]; first | done | omega | (simp; done))) [↓zlq, beq, ybc, ybd, ybe, endOk, wk, wk2, wk1, wkM, wkL, wkLL, ybf, hcl]
  have e1 : coversM ⟨true, v, mk, pf, hi⟩ k w x = if k = 1 then decide (x = v) else if k = 2 then decide (x &&& leadN w pf = v &&& leadN w pf) else if k = 3 then decide (x &&& mk = v) else if k = 4 then decide (v ≤ x ∧ x ≤ hi) else false := rfl
  rw [e1]
  by_cases k1 : k = 1
  · subst k1
    rw [if_pos rfl]
    refine ACalls.of_aw (Ω := [(73, Ent.pure p_rRead), (17, Ent.pure p_rAnd), (82, Ent.pure p_rCompare)]) (T := assoc [(7, [[], [0], [], [], [0, 1, 3], [], [], [0, 1, 3, 4, 5, 6], [0, 1, 3, 4, 5, 6]]), (15, [[], [], [], [0, 2]]), (807, [[5, 154], [6, 154]])]) mixed (TblOk.cons ok_rRead (TblOk.cons ok_rAnd (TblOk.cons ok_rCompare TblOk.nil))) Try.func25 (by kernel_rfl) (by rfl) (rs := [.tmp 8]) (by rfl) (by kernel_rfl) (by simp only [Try.ntmps25, yaz, yba]; decide) (Nat.le_refl _) fun hcl hlt => ?_
    change aw _ _ _ (KI Try.prog [(73, Ent.pure p_rRead), (17, Ent.pure p_rAnd), (82, Ent.pure p_rCompare)] (aEnd Try.prog [.tmp 8] H.nx _ _ (assoc [(7, [[], [0], [], [], [0, 1, 3], [], [], [0, 1, 3, 4, 5, 6], [0, 1, 3, 4, 5, 6]]), (15, [[], [], [], [0, 2]]), (807, [[5, 154], [6, 154]])])) []) _ _
    clear hlt
    simp only [go_sem, reduceCtorEq, Nat.reduceEqDiff, Nat.reduceAdd, Nat.reduceMul, Nat.reduceSub, Nat.reduceLeDiff, Nat.reduceLT, Int.reduceMul, Int.reduceAdd, Int.reduceSub, Int.reduceToNat, matchC, vc, yal, yak, beq_self_eq_true, teq_valV, eqg_valV, Bool.bne_false, val_eq, val_eq']
    simp (disch := first | assumption | omega | (simp; done) | (simp; omega) | (simp only [bt, and_true]; first | done | omega | (simp; done))) [↓zlq, beq, ybc, ybd, ybe, endOk, wk, wk2, wk1, wkM, wkL, wkLL, ybf, hcl]
  rw [if_neg k1]
  have b1 : (k == 1) = false := by simpa using k1
  by_cases k2 : k = 2
  · subst k2
    rw [if_pos rfl]
    have c1 : ((2 : Int) == 1) = false := rfl
    generalize hR : decide (x &&& leadN w pf = v &&& leadN w pf) = R
    refine ACalls.of_aw (Ω := [(73, Ent.pure p_rRead), (17, Ent.pure p_rAnd), (82, Ent.pure p_rCompare)]) (T := assoc [(7, [[], [0], [], [], [0, 1, 3], [], [], [0, 1, 3, 4, 5, 6], [0, 1, 3, 4, 5, 6]]), (15, [[], [], [], [0, 2]]), (807, [[5, 154], [6, 154]])]) mixed (TblOk.cons ok_rRead (TblOk.cons ok_rAnd (TblOk.cons ok_rCompare TblOk.nil))) Try.func25 (by kernel_rfl) (by rfl) (rs := [.tmp 8]) (by rfl) (by kernel_rfl) (by simp only [Try.ntmps25, yaz, yba]; decide) (Nat.le_refl _) fun hcl hlt => ?_
    change aw _ _ _ (KI Try.prog [(73, Ent.pure p_rRead), (17, Ent.pure p_rAnd), (82, Ent.pure p_rCompare)] (aEnd Try.prog [.tmp 8] H.nx _ _ (assoc [(7, [[], [0], [], [], [0, 1, 3], [], [], [0, 1, 3, 4, 5, 6], [0, 1, 3, 4, 5, 6]]), (15, [[], [], [], [0, 2]]), (807, [[5, 154], [6, 154]])])) []) _ _
    clear hlt
    have hso := fun z => show splice (List.replicate 128 (AV.bool false)) 0 (bits z) = bits z from splice_all _ _ (by rw [bits_len, List.length_replicate])
    have ht := fun z => show List.take 128 (bits z) = bits z from ybc (by rw [bits_len]; omega)
    have hlb : ∀ j : Nat, (leadN w pf).testBit j = decide ((j : Int) < w ∧ w - pf ≤ (j : Int)) := fun j => by
      have hc : ((clampN w : Nat) : Int) = w := by unfold clampN; omega
      rw [leadN_bit, decide_eq_decide, hc]; omega
    simp only [go_sem, reduceCtorEq, Nat.reduceEqDiff, Nat.reduceAdd, Nat.reduceMul, Nat.reduceSub, Nat.reduceLeDiff, Nat.reduceLT, Int.reduceMul, Int.reduceAdd, Int.reduceSub, Int.reduceToNat, matchC, vc, yal, yak, c1, beq_self_eq_true, p_rRead, i1, i2, Int.toNat_natCast, vOf_back, bits_len, hso, ht, allOne_bits]
    (repeat with_reducible refine And.intro (by first | exact True.intro | decide | omega | (simp [zhx, zge, zgf, zgg, zgi, zgh, zgm]; first | done | omega)) ?_)
    obtain ⟨HL, hHL⟩ : ∃ HL, (((H.push (.cells [.bool true, .int .u64 ((v / 2 ^ 64 : Nat) : Int), .int .u64 ((v % 2 ^ 64 : Nat) : Int), .int .u64 ((mk / 2 ^ 64 : Nat) : Int), .int .u64 ((mk % 2 ^ 64 : Nat) : Int), .int .i64 pf, .int .u64 ((hi / 2 ^ 64 : Nat) : Int), .int .u64 ((hi % 2 ^ 64 : Nat) : Int)])).push (.cells [.int .u64 ((x / 2 ^ 64 : Nat) : Int), .int .u64 ((x % 2 ^ 64 : Nat) : Int)])).push (.cells (bits x))).push (.cells (bits v)) = HL := ⟨_, rfl⟩
    have hclL : HL.Closed := by
      rw [← hHL]
      exact closed_cells (closed_cells (closed_cells (closed_cells hcl (by simp [zmw, zmx, zmh, zmi])) (by simp [zmw, zmx, zmh])) (of_eq_true ltL_bits)) (of_eq_true ltL_bits)
    have ew : IntKind.i64.wrap (w - pf) = w - pf := by rw [wrap_i64] <;> omega
    rw [ew]
    refine loop_introW (A := Nat) (fun k => [(2, .int .i64 w), (9, .ptr (H.nx + 1 + 1) 0), (10, .ptr (H.nx + 1 + 1 + 1) 0), (11, .int .i64 (w - pf + (k : Int)))]) (fun _ => HL) (fun k => (k : Int) ≤ max 0 pf ∧ ∀ j : Nat, w - pf ≤ (j : Int) → (j : Int) < w - pf + (k : Int) → x.testBit j = v.testBit j) (fun k => (max 0 pf).toNat - k) 0 ⟨by omega, fun j h1 h2 => by omega⟩ ?_ fun k hk => ?_
    · rw [← hHL]
      refine ⟨by simp only [zkg, zjs, zjx]; omega, AHeap.Le.refl _, by rw [← hHL] at hclL; exact hclL, ?_, ?_⟩
      · simp [ltF, zkg, zmp, zmh]
        try omega
      · simp [subW, wk2, wk1, wkM, Fr.get]
    obtain ⟨hk, hpre⟩ := hk
    simp only [go_sem, reduceCtorEq, Nat.reduceEqDiff, Nat.reduceAdd, Nat.reduceMul, Nat.reduceSub, Nat.reduceLeDiff, Nat.reduceLT, Int.reduceMul, Int.reduceAdd, Int.reduceSub, Int.reduceToNat]
    refine cond_split (fun hc => ?_) (fun hc => ?_)
    · have hc' : w - pf + (k : Int) < w := of_decide_eq_true hc
      have e5 : IntKind.i64.wrap (w - pf + (k : Int) + 1) = w - pf + ((k + 1 : Nat) : Int) := by rw [wrap_i64] <;> omega
      rw [← hHL]
      by_cases h0 : 0 ≤ w - pf + (k : Int)
      · obtain ⟨j, hj⟩ : ∃ j : Nat, w - pf + (k : Int) = (j : Int) := ⟨(w - pf + (k : Int)).toNat, by omega⟩
        have hj128 : j < 128 := by omega
        have d1 : decide ((j : Int) ≥ 0) = true := decide_eq_true (by omega)
        have d2 : decide ((j : Int) < 128) = true := decide_eq_true (by omega)
        rw [hj] at e5
        simp only [go_sem, reduceCtorEq, Nat.reduceEqDiff, Nat.reduceAdd, Nat.reduceMul, Nat.reduceSub, Nat.reduceLeDiff, Nat.reduceLT, Int.reduceMul, Int.reduceAdd, Int.reduceSub, Int.reduceToNat, hj, d1, d2, Int.toNat_natCast, bits_len, Nat.zero_add, Nat.mul_one, bits_get _ j hj128, e5]
        (repeat with_reducible refine And.intro (by first | exact True.intro | decide | omega | (simp [zhx, zge, zgf, zgg, zgi, zgh, zgm]; first | done | omega)) ?_)
        refine cond_split (fun hq => ?_) (fun hq => ?_)
        · have hne : x.testBit j ≠ v.testBit j := by simpa using hq
          have hRf : R = false := by
            rw [← hR]
            refine decide_eq_false fun h => hne ?_
            exact and_eq_iff.1 h j (by rw [hlb]; exact decide_eq_true ⟨by omega, by omega⟩)
          subst hRf
          simp only [go_sem, reduceCtorEq, Nat.reduceEqDiff, Nat.reduceAdd, Nat.reduceMul, Nat.reduceSub, Nat.reduceLeDiff, Nat.reduceLT, Int.reduceMul, Int.reduceAdd, Int.reduceSub, Int.reduceToNat]
          simp (disch := first | assumption | omega | (simp; done) | (simp; omega) | (simp only [bt, and_true]; first | done | omega | (simp; done))) [↓zlq, beq, ybc, ybd, ybe, endOk, wk, wk2, wk1, wkM, wkL, wkLL, ybf, hcl]
          first | done | repeat (first | exact AHeap.Le.refl _ | refine AHeap.Le.push ?_ _)
        · have he : x.testBit j = v.testBit j := by simpa using hq
          simp only [go_sem, reduceCtorEq, Nat.reduceEqDiff, Nat.reduceAdd, Nat.reduceMul, Nat.reduceSub, Nat.reduceLeDiff, Nat.reduceLT, Int.reduceMul, Int.reduceAdd, Int.reduceSub, Int.reduceToNat, e5]
          refine ⟨k + 1, ⟨by omega, fun i h1 h2 => ?_⟩, by omega, by simp only [zkg]; omega, AHeap.Le.refl _, by rw [← hHL] at hclL; exact hclL, ?_, ?_⟩
          · by_cases hi : i = j
            · rw [hi]; exact he
            · exact hpre i h1 (by omega)
          · simp [ltF, zkg, zmp, zmh]
            try omega
          · simp [subW, wk2, wk1, wkM, Fr.get]
      · have d1 : decide (w - pf + (k : Int) ≥ 0) = false := decide_eq_false (by omega)
        simp only [go_sem, reduceCtorEq, Nat.reduceEqDiff, Nat.reduceAdd, Nat.reduceMul, Nat.reduceSub, Nat.reduceLeDiff, Nat.reduceLT, Int.reduceMul, Int.reduceAdd, Int.reduceSub, Int.reduceToNat, d1, e5]
        refine ⟨k + 1, ⟨by omega, fun i h1 h2 => hpre i h1 (by omega)⟩, by omega, by simp only [zkg]; omega, AHeap.Le.refl _, by rw [← hHL] at hclL; exact hclL, ?_, ?_⟩
        · simp [ltF, zkg, zmp, zmh]
          try omega
        · simp [subW, wk2, wk1, wkM, Fr.get]
    · have hc' : ¬ w - pf + (k : Int) < w := of_decide_eq_false hc
      have hRt : R = true := by
        rw [← hR]
        refine decide_eq_true (and_eq_iff.2 fun j hj => ?_)
        rw [hlb] at hj
        have := of_decide_eq_true hj
        exact hpre j this.2 (by omega)
      subst hRt
      rw [← hHL]
      simp only [go_sem, reduceCtorEq, Nat.reduceEqDiff, Nat.reduceAdd, Nat.reduceMul, Nat.reduceSub, Nat.reduceLeDiff, Nat.reduceLT, Int.reduceMul, Int.reduceAdd, Int.reduceSub, Int.reduceToNat]
      simp (disch := first | assumption | omega | (simp; done) | (simp; omega) | (simp only [bt, and_true]; first | done | omega | (simp; done))) [↓zlq, beq, ybc, ybd, ybe, endOk, wk, wk2, wk1, wkM, wkL, wkLL, ybf, hcl]
      first | done | repeat (first | exact AHeap.Le.refl _ | refine AHeap.Le.push ?_ _)
  rw [if_neg k2]
  have b2 : (k == 2) = false := by simpa using k2
  by_cases k3 : k = 3
  · subst k3
    rw [if_pos rfl]
    have c1 : ((3 : Int) == 1) = false := rfl
    have c2 : ((3 : Int) == 2) = false := rfl
    refine ACalls.of_aw (Ω := [(73, Ent.pure p_rRead), (17, Ent.pure p_rAnd), (82, Ent.pure p_rCompare)]) (T := assoc [(7, [[], [0], [], [], [0, 1, 3], [], [], [0, 1, 3, 4, 5, 6], [0, 1, 3, 4, 5, 6]]), (15, [[], [], [], [0, 2]]), (807, [[5, 154], [6, 154]])]) mixed (TblOk.cons ok_rRead (TblOk.cons ok_rAnd (TblOk.cons ok_rCompare TblOk.nil))) Try.func25 (by kernel_rfl) (by rfl) (rs := [.tmp 8]) (by rfl) (by kernel_rfl) (by simp only [Try.ntmps25, yaz, yba]; decide) (Nat.le_refl _) fun hcl hlt => ?_
    change aw _ _ _ (KI Try.prog [(73, Ent.pure p_rRead), (17, Ent.pure p_rAnd), (82, Ent.pure p_rCompare)] (aEnd Try.prog [.tmp 8] H.nx _ _ (assoc [(7, [[], [0], [], [], [0, 1, 3], [], [], [0, 1, 3, 4, 5, 6], [0, 1, 3, 4, 5, 6]]), (15, [[], [], [], [0, 2]]), (807, [[5, 154], [6, 154]])])) []) _ _
    clear hlt
    simp only [go_sem, reduceCtorEq, Nat.reduceEqDiff, Nat.reduceAdd, Nat.reduceMul, Nat.reduceSub, Nat.reduceLeDiff, Nat.reduceLT, Int.reduceMul, Int.reduceAdd, Int.reduceSub, Int.reduceToNat, matchC, vc, yal, yak, c1, c2, beq_self_eq_true, teq_valV, eqg_valV, Bool.bne_false, val_eq, val_eq', p_rAnd, p2V, vv, i1, i2, i3, i5, Int.toNat_natCast, vOf_back]
    (repeat with_reducible refine And.intro (by first | exact True.intro | decide | omega | (simp [zhx, zge, zgf, zgg, zgi, zgh, zgm]; first | done | omega)) ?_)
    simp (disch := first | assumption | omega | (simp; done) | (simp; omega) | (simp only [bt, and_true]; first | done | omega | (simp; done))) [↓zlq, beq, ybc, ybd, ybe, endOk, wk, wk2, wk1, wkM, wkL, wkLL, ybf, hcl]
  rw [if_neg k3]
  have b3 : (k == 3) = false := by simpa using k3
  by_cases k4 : k = 4
  · subst k4
    rw [if_pos rfl]
    have c1 : ((4 : Int) == 1) = false := rfl
    have c2 : ((4 : Int) == 2) = false := rfl
    have c3 : ((4 : Int) == 3) = false := rfl
    by_cases hvx : v ≤ x
    · have d1 : decide (cmpN v x ≤ 0) = true := by rw [cmpN_le]; exact decide_eq_true hvx
      have d2 : decide (v ≤ x ∧ x ≤ hi) = decide (x ≤ hi) := by rw [decide_eq_decide]; omega
      rw [d2]
      refine ACalls.of_aw (Ω := [(73, Ent.pure p_rRead), (17, Ent.pure p_rAnd), (82, Ent.pure p_rCompare)]) (T := assoc [(7, [[], [0], [], [], [0, 1, 3], [], [], [0, 1, 3, 4, 5, 6], [0, 1, 3, 4, 5, 6]]), (15, [[], [], [], [0, 2]]), (807, [[5, 154], [6, 154]])]) mixed (TblOk.cons ok_rRead (TblOk.cons ok_rAnd (TblOk.cons ok_rCompare TblOk.nil))) Try.func25 (by kernel_rfl) (by rfl) (rs := [.tmp 8]) (by rfl) (by kernel_rfl) (by simp only [Try.ntmps25, yaz, yba]; decide) (Nat.le_refl _) fun hcl hlt => ?_
      change aw _ _ _ (KI Try.prog [(73, Ent.pure p_rRead), (17, Ent.pure p_rAnd), (82, Ent.pure p_rCompare)] (aEnd Try.prog [.tmp 8] H.nx _ _ (assoc [(7, [[], [0], [], [], [0, 1, 3], [], [], [0, 1, 3, 4, 5, 6], [0, 1, 3, 4, 5, 6]]), (15, [[], [], [], [0, 2]]), (807, [[5, 154], [6, 154]])])) []) _ _
      clear hlt
      simp only [go_sem, reduceCtorEq, Nat.reduceEqDiff, Nat.reduceAdd, Nat.reduceMul, Nat.reduceSub, Nat.reduceLeDiff, Nat.reduceLT, Int.reduceMul, Int.reduceAdd, Int.reduceSub, Int.reduceToNat, matchC, vc, yal, yak, c1, c2, c3, beq_self_eq_true, p_rCompare, p2V, i1, i2, i4, Int.toNat_natCast, vOf_back, d1, cmpN_le]
      (repeat with_reducible refine And.intro (by first | exact True.intro | decide | omega | (simp [zhx, zge, zgf, zgg, zgi, zgh, zgm]; first | done | omega)) ?_)
      simp (disch := first | assumption | omega | (simp; done) | (simp; omega) | (simp only [bt, and_true]; first | done | omega | (simp; done))) [↓zlq, beq, ybc, ybd, ybe, endOk, wk, wk2, wk1, wkM, wkL, wkLL, ybf, hcl]
    · have d1 : decide (cmpN v x ≤ 0) = false := by rw [cmpN_le]; exact decide_eq_false hvx
      have d2 : decide (v ≤ x ∧ x ≤ hi) = false := decide_eq_false (by omega)
      rw [d2]
      refine ACalls.of_aw (Ω := [(73, Ent.pure p_rRead), (17, Ent.pure p_rAnd), (82, Ent.pure p_rCompare)]) (T := assoc [(7, [[], [0], [], [], [0, 1, 3], [], [], [0, 1, 3, 4, 5, 6], [0, 1, 3, 4, 5, 6]]), (15, [[], [], [], [0, 2]]), (807, [[5, 154], [6, 154]])]) mixed (TblOk.cons ok_rRead (TblOk.cons ok_rAnd (TblOk.cons ok_rCompare TblOk.nil))) Try.func25 (by kernel_rfl) (by rfl) (rs := [.tmp 8]) (by rfl) (by kernel_rfl) (by simp only [Try.ntmps25, yaz, yba]; decide) (Nat.le_refl _) fun hcl hlt => ?_
      change aw _ _ _ (KI Try.prog [(73, Ent.pure p_rRead), (17, Ent.pure p_rAnd), (82, Ent.pure p_rCompare)] (aEnd Try.prog [.tmp 8] H.nx _ _ (assoc [(7, [[], [0], [], [], [0, 1, 3], [], [], [0, 1, 3, 4, 5, 6], [0, 1, 3, 4, 5, 6]]), (15, [[], [], [], [0, 2]]), (807, [[5, 154], [6, 154]])])) []) _ _
      clear hlt
      simp only [go_sem, reduceCtorEq, Nat.reduceEqDiff, Nat.reduceAdd, Nat.reduceMul, Nat.reduceSub, Nat.reduceLeDiff, Nat.reduceLT, Int.reduceMul, Int.reduceAdd, Int.reduceSub, Int.reduceToNat, matchC, vc, yal, yak, c1, c2, c3, beq_self_eq_true, p_rCompare, p2V, i1, i2, i4, Int.toNat_natCast, vOf_back, d1, cmpN_le]
      (repeat with_reducible refine And.intro (by first | exact True.intro | decide | omega | (simp [zhx, zge, zgf, zgg, zgi, zgh, zgm]; first | done | omega)) ?_)
      simp (disch := first | assumption | omega | (simp; done) | (simp; omega) | (simp only [bt, and_true]; first | done | omega | (simp; done))) [↓zlq, beq, ybc, ybd, ybe, endOk, wk, wk2, wk1, wkM, wkL, wkLL, ybf, hcl]
  rw [if_neg k4]
  have b4 : (k == 4) = false := by simpa using k4
  refine ACalls.of_aw (Ω := [(73, Ent.pure p_rRead), (17, Ent.pure p_rAnd), (82, Ent.pure p_rCompare)]) (T := assoc [(7, [[], [0], [], [], [0, 1, 3], [], [], [0, 1, 3, 4, 5, 6], [0, 1, 3, 4, 5, 6]]), (15, [[], [], [], [0, 2]]), (807, [[5, 154], [6, 154]])]) mixed (TblOk.cons ok_rRead (TblOk.cons ok_rAnd (TblOk.cons ok_rCompare TblOk.nil))) Try.func25 (by kernel_rfl) (by rfl) (rs := [.tmp 8]) (by rfl) (by kernel_rfl) (by simp only [Try.ntmps25, yaz, yba]; decide) (Nat.le_refl _) fun hcl hlt => ?_
  change aw _ _ _ (KI Try.prog [(73, Ent.pure p_rRead), (17, Ent.pure p_rAnd), (82, Ent.pure p_rCompare)] (aEnd Try.prog [.tmp 8] H.nx _ _ (assoc [(7, [[], [0], [], [], [0, 1, 3], [], [], [0, 1, 3, 4, 5, 6], [0, 1, 3, 4, 5, 6]]), (15, [[], [], [], [0, 2]]), (807, [[5, 154], [6, 154]])])) []) _ _
  clear hlt
  simp only [go_sem, reduceCtorEq, Nat.reduceEqDiff, Nat.reduceAdd, Nat.reduceMul, Nat.reduceSub, Nat.reduceLeDiff, Nat.reduceLT, Int.reduceMul, Int.reduceAdd, Int.reduceSub, Int.reduceToNat, matchC, vc, yal, yak, b1, b2, b3, b4]
  simp (disch := first | assumption | omega | (simp; done) | (simp; omega) | (simp only [bt, and_true]; first | done | omega | (simp; done))) [↓zlq, beq, ybc, ybd, ybe, endOk, wk, wk2, wk1, wkM, wkL, wkLL, ybf, hcl]
end Go.AL


open Go Go.AL Go.Proofs
namespace Go.AL
set_option linter.all false
set_option maxRecDepth 10000

def hasF (S : Sch) (n : Int) : Prop := 0 ≤ ixP (fun f : SField => f.id == n) S.fields 0
theorem hasF_get {S : Sch} {n : Int} (h : hasF S n) : ∃ (i : Nat) (x : SField), i < S.fields.length ∧ ixP (fun f : SField => f.id == n) S.fields 0 = (i : Int) ∧ S.fields[i]? = some x ∧ bitsF S n = x.bits := by
  unfold hasF at h
  obtain ⟨i, hi⟩ : ∃ i : Nat, ixP (fun f : SField => f.id == n) S.fields 0 = ((0 + i : Nat) : Int) := ⟨(ixP (fun f : SField => f.id == n) S.fields 0).toNat, by omega⟩
  obtain ⟨x, h1, h2, h3⟩ := ixP_get hi
  rw [Nat.zero_add] at hi
  refine ⟨i, x, ?_, hi, h1, ?_⟩
  · rcases Nat.lt_or_ge i S.fields.length with h | h
    · exact h
    · rw [List.getElem?_eq_none h] at h1; cases h1
  · unfold bitsF
    rw [bitsL_ix, h3]
theorem tabF_get {S : Sch} {n : Int} {t : STable} (h : tabF S n = some t) : ∃ i : Nat, i < S.tables.length ∧ ixP (fun f : STable => f.id == n) S.tables 0 = (i : Int) ∧ S.tables[i]? = some t := by
  obtain ⟨b1, b2⟩ := ixP_lt (q := fun f : STable => f.id == n) (l := S.tables) (k := 0)
  rcases b2 with b2 | b2
  · have := ixP_none b2
    unfold tabF at h
    rw [this] at h
    cases h
  obtain ⟨i, hi⟩ : ∃ i : Nat, ixP (fun f : STable => f.id == n) S.tables 0 = ((0 + i : Nat) : Int) := ⟨(ixP (fun f : STable => f.id == n) S.tables 0).toNat, by omega⟩
  obtain ⟨x, h1, h2, h3⟩ := ixP_get hi
  rw [Nat.zero_add] at hi
  unfold tabF at h
  rw [h3] at h
  cases h
  refine ⟨i, ?_, hi, h1⟩
  rcases Nat.lt_or_ge i S.tables.length with h | h
  · exact h
  · rw [List.getElem?_eq_none h] at h1; cases h1
def p_rBits : List AV → AHeap → (AV → Prop) → Prop
  | [.agg l, .int .i64 n], _, K => ∃ S : Sch, (l = schC S ∧ SLen S ∧ hasF S n) ∧ K (.int .i64 (bitsF S n))
  | _, _, _ => False
theorem ok_rBits : EntOk Try.prog 145 (Ent.pure p_rBits) := by
  refine EntOk.pure fun args H K h => ?_
  unfold p_rBits at h
  split at h
  rotate_left
  · exact h.elim
  rename_i l n
  obtain ⟨S, ⟨rfl, hS, hf⟩, hK⟩ := h
  refine ⟨_, hK, ?_⟩
  clear hK
  obtain ⟨i, x, hil, hi, hx, hb⟩ := hasF_get hf
  rw [hb]
  have hg' := getD_map (f := fieldAV) (l := S.fields) (k := i) (x := x) hx
  refine ACalls.of_aw (Ω := [(190, Ent.pure p_rFieldOf)]) (T := assoc [(1, [[], [], [], [], [2], [], [], [4]])]) mixed (TblOk.cons ok_rFieldOf TblOk.nil) Try.func145 (by kernel_rfl) (by rfl) (rs := [.tmp 4]) (by rfl) (by kernel_rfl) (by simp only [Try.ntmps145, yaz, yba]; decide) (Nat.le_refl _) fun hcl hlt => ?_
  change aw _ _ _ (KI Try.prog [(190, Ent.pure p_rFieldOf)] (aEnd Try.prog [.tmp 4] H.nx _ _ (assoc [(1, [[], [], [], [], [2], [], [], [4]])])) []) _ _
  clear hlt
  simp only [go_sem, reduceCtorEq, Nat.reduceEqDiff, Nat.reduceAdd, Nat.reduceMul, Nat.reduceSub, Nat.reduceLeDiff, Nat.reduceLT, Int.reduceMul, Int.reduceAdd, Int.reduceSub, Int.reduceToNat, schC, p_rFieldOf]
  (repeat with_reducible refine And.intro (by first | exact True.intro | decide | omega | (simp [zhx, zge, zgf, zgg, zgi, zgh, zgm]; first | done | omega)) ?_)
  refine ⟨S, ⟨rfl, hS⟩, ?_⟩
  rw [hi]
  simp only [blkE, blkP, bhq, Nat.reduceMod, Nat.reduceDiv, stepH, stepM, toMs1, toMs, toMs0, strK, pubK, pubF, pubV, yaq, yar, yao, yap, go_sem, reduceCtorEq, Nat.reduceEqDiff, Nat.reduceAdd, Nat.reduceMul, Nat.reduceSub, Nat.reduceLeDiff, Nat.reduceLT, Int.reduceMul, Int.reduceAdd, Int.reduceSub, Int.reduceToNat, schC, Int.toNat_natCast, hg', fieldAV, ybb]
  (repeat with_reducible refine And.intro (by first | exact True.intro | decide | omega | (simp [zhx, zge, zgf, zgg, zgi, zgh, zgm]; first | done | omega)) ?_)
  simp (disch := first | assumption | omega | (simp; done) | (simp; omega) | (simp only [bt, and_true]; first | done | omega | (simp; done))) [↓zlq, beq, ybc, ybd, ybe, endOk, wk, wk2, wk1, wkM, wkL, wkLL, ybf, hcl]
  first | done | repeat (first | exact AHeap.Le.refl _ | refine AHeap.Le.push ?_ _)
def p_rKeyBits : List AV → AHeap → (AV → Prop) → Prop
  | [.agg l, .agg lt, .int .i64 n], _, K => ∃ (S : Sch) (t : STable) (k : Nat) (x : SKey), (l = schC S ∧ tableAV t = .agg lt ∧ n = (k : Int) ∧ t.keys[k]? = some x ∧ SLen S ∧ hasF S x.field) ∧ K (.int .i64 (bitsF S x.field))
  | _, _, _ => False
theorem ok_rKeyBits : EntOk Try.prog 84 (Ent.pure p_rKeyBits) := by
  refine EntOk.pure fun args H K h => ?_
  unfold p_rKeyBits at h
  split at h
  rotate_left
  · exact h.elim
  rename_i l lt n
  obtain ⟨S, t, k, x, ⟨rfl, ht, rfl, hx, hS, hf⟩, hK⟩ := h
  refine ⟨_, hK, ?_⟩
  clear hK
  unfold tableAV at ht
  cases ht
  have hg' := getD_map (f := keyAV) (l := t.keys) (k := k) (x := x) hx
  have hkl : k < t.keys.length := by
    rcases Nat.lt_or_ge k t.keys.length with h | h
    · exact h
    · rw [List.getElem?_eq_none h] at hx; cases hx
  refine ACalls.of_aw (Ω := [(145, Ent.pure p_rBits)]) (T := assoc [(1, [[], [], [], [], [], [], [], [0, 2, 6]])]) mixed (TblOk.cons ok_rBits TblOk.nil) Try.func84 (by kernel_rfl) (by rfl) (rs := [.tmp 6]) (by rfl) (by kernel_rfl) (by simp only [Try.ntmps84, yaz, yba]; decide) (Nat.le_refl _) fun hcl hlt => ?_
  change aw _ _ _ (KI Try.prog [(145, Ent.pure p_rBits)] (aEnd Try.prog [.tmp 6] H.nx _ _ (assoc [(1, [[], [], [], [], [], [], [], [0, 2, 6]])])) []) _ _
  clear hlt
  simp only [go_sem, reduceCtorEq, Nat.reduceEqDiff, Nat.reduceAdd, Nat.reduceMul, Nat.reduceSub, Nat.reduceLeDiff, Nat.reduceLT, Int.reduceMul, Int.reduceAdd, Int.reduceSub, Int.reduceToNat, schC, p_rBits, Int.toNat_natCast, hg', keyAV, ybb]
  (repeat with_reducible refine And.intro (by first | exact True.intro | decide | omega | (simp [zhx, zge, zgf, zgg, zgi, zgh, zgm]; first | done | omega)) ?_)
  refine ⟨S, ⟨rfl, hS, hf⟩, ?_⟩
  try simp only [blkE, blkP, bhq, Nat.reduceMod, Nat.reduceDiv, stepH, stepM, toMs1, toMs, toMs0, strK, pubK, pubF, pubV, yaq, yar, yao, yap, go_sem, reduceCtorEq, Nat.reduceEqDiff, Nat.reduceAdd, Nat.reduceMul, Nat.reduceSub, Nat.reduceLeDiff, Nat.reduceLT, Int.reduceMul, Int.reduceAdd, Int.reduceSub, Int.reduceToNat]
  simp (disch := first | assumption | omega | (simp; done) | (simp; omega) | (simp only [bt, and_true]; first | done | omega | (simp; done))) [↓zlq, beq, ybc, ybd, ybe, endOk, wk, wk2, wk1, wkM, wkL, wkLL, ybf, hcl]
  first | done | repeat (first | exact AHeap.Le.refl _ | refine AHeap.Le.push ?_ _)
/-- what the reference's Matches wants -/
structure RM (S : Sch) (e : SEntry) (t : STable) : Prop where
  tb : tabF S e.table = some t
  ml : t.keys.length ≤ e.ms.length
  k4 : t.keys.length ≤ 4
  kf : ∀ k ∈ t.keys, hasF S k.field ∧ 0 ≤ bitsF S k.field ∧ bitsF S k.field ≤ 128
  mp : ∀ m ∈ e.ms, -1000 ≤ m.pfx ∧ m.pfx ≤ 1000
def p_rMatches : List AV → AHeap → (AV → Prop) → Prop
  | [.agg l, .agg le, .agg lp], _, K => ∃ (S : Sch) (e : SEntry) (p : List Nat) (t : STable), (l = schC S ∧ le = entryC e ∧ lp = pointC p ∧ SLen S ∧ EOk e ∧ POk p ∧ RM S e t) ∧ K (.bool (matchesE S e p))
  | _, _, _ => False
set_option maxHeartbeats 4000000 in
theorem ok_rMatches : EntOk Try.prog 26 (Ent.pure p_rMatches) := by
  refine EntOk.pure fun args H K h => ?_
  unfold p_rMatches at h
  split at h
  rotate_left
  · exact h.elim
  rename_i l le lp
  obtain ⟨S, e, p, t, ⟨rfl, rfl, rfl, hS, ⟨h4, h5, h6⟩, ⟨h7, h8⟩, hM⟩, hK⟩ := h
  refine ⟨_, hK, ?_⟩
  clear hK
  generalize hR : matchesE S e p = R
  unfold matchesE at hR
  rw [hM.tb] at hR
  dsimp only at hR
  have hpl : (pointC p).length = 8 := by rw [pointC_len]; omega
  obtain ⟨i, hil, hi, hti⟩ := tabF_get hM.tb
  have hgt := getD_map (f := tableAV) (l := S.tables) (k := i) (x := t) hti
  have hml := hM.ml
  have hk4 := hM.k4
  refine ACalls.of_aw (Ω := [(83, Ent.pure p_rTableOf), (84, Ent.pure p_rKeyBits), (25, Ent.pure p_rCovers)]) (T := assoc [(1, [[], [], [], [], [], [2, 4], [], [5], [], [1, 2, 4, 5, 7]]), (5, [[], [], [], [], [], [], [], [], [], [], [7, 8], [], [], [], [1, 4, 6, 7, 8, 10, 13]])]) mixed (TblOk.cons ok_rTableOf (TblOk.cons ok_rKeyBits (TblOk.cons ok_rCovers TblOk.nil))) Try.func26 (by kernel_rfl) (by rfl) (rs := [.tmp 6]) (by rfl) (by kernel_rfl) (by simp only [Try.ntmps26, yaz, yba]; decide) (Nat.le_refl _) fun hcl hlt => ?_
  change aw _ _ _ (KI Try.prog [(83, Ent.pure p_rTableOf), (84, Ent.pure p_rKeyBits), (25, Ent.pure p_rCovers)] (aEnd Try.prog [.tmp 6] H.nx _ _ (assoc [(1, [[], [], [], [], [], [2, 4], [], [5], [], [1, 2, 4, 5, 7]]), (5, [[], [], [], [], [], [], [], [], [], [], [7, 8], [], [], [], [1, 4, 6, 7, 8, 10, 13]])])) []) _ _
  clear hlt
  simp only [go_sem, reduceCtorEq, Nat.reduceEqDiff, Nat.reduceAdd, Nat.reduceMul, Nat.reduceSub, Nat.reduceLeDiff, Nat.reduceLT, Int.reduceMul, Int.reduceAdd, Int.reduceSub, Int.reduceToNat, schC, entryC, hpl, p_rTableOf]
  (repeat with_reducible refine And.intro (by first | exact True.intro | decide | omega | (simp [zhx, zge, zgf, zgg, zgi, zgh, zgm]; first | done | omega)) ?_)
  refine ⟨S, ⟨rfl, hS⟩, ?_⟩
  rw [hi]
  simp only [blkE, blkP, bhq, Nat.reduceMod, Nat.reduceDiv, stepH, stepM, toMs1, toMs, toMs0, strK, pubK, pubF, pubV, yaq, yar, yao, yap, go_sem, reduceCtorEq, Nat.reduceEqDiff, Nat.reduceAdd, Nat.reduceMul, Nat.reduceSub, Nat.reduceLeDiff, Nat.reduceLT, Int.reduceMul, Int.reduceAdd, Int.reduceSub, Int.reduceToNat, schC, entryC, Int.toNat_natCast, hgt, tableAV, ybb]
  (repeat with_reducible refine And.intro (by first | exact True.intro | decide | omega | (simp [zhx, zge, zgf, zgg, zgi, zgh, zgm]; first | done | omega)) ?_)
  refine ⟨.inr ⟨S, ⟨rfl, hS⟩, by rw [hi]⟩, ?_⟩
  obtain ⟨HB, hHB⟩ : ∃ HB, (((H.push (.cells (schC S))).push (.cells (entryC e))).push (.cells (pointC p))).push (.cells [.int .i64 t.id, .str t.name, .slice .any 3 (t.keys.map keyAV), .slice .any 1 (inL t.actions), .int .i64 t.dflt, .slice .any 2 (t.dargs.map vv), .int .i64 t.size, .str t.restr]) = HB := ⟨_, rfl⟩
  have hclB : HB.Closed := by
    rw [← hHB]
    exact closed_cells (closed_cells (closed_cells (closed_cells hcl (ltL_iff.2 fun j hj => AV.lt_cells (lt_sch S) j hj)) (ltL_iff.2 fun j hj => AV.lt_cells (lt_entry e) j hj)) ltL_pt) (ltL_iff.2 fun j hj => AV.lt_cells (lt_table t) j hj)
  have hnB : HB.nx = H.nx + 1 + 1 + 1 + 1 := by rw [← hHB]; rfl
  refine loop_introW (A := Nat) (fun k => [(3, .ptr H.nx 0), (4, .ptr (H.nx + 1) 0), (5, .ptr (H.nx + 1 + 1) 0), (7, .ptr (H.nx + 1 + 1 + 1) 0), (19, .slice .any 3 (t.keys.map keyAV)), (20, .int .i64 (t.keys.length : Int)), (21, .int .i64 (k : Int))]) (fun _ => HB) (fun k => k ≤ t.keys.length ∧ matchesG S e.ms p (t.keys.drop k) k = R) (fun k => t.keys.length - k) 0 ⟨by omega, hR⟩ ?_ fun k hk => ?_
  · refine ⟨by simp only [hnB, zjs, zjx]; omega, by rw [← hHB]; exact AHeap.Le.refl _, hclB, ?_, ?_⟩
    · simp [ltF, hnB, zmp, zmh, lt_map lt_key]
      omega
    · simp [subW, wk2, wk1, wkM, Fr.get]
  clear hR
  obtain ⟨hk, hR⟩ := hk
  simp only [go_sem, reduceCtorEq, Nat.reduceEqDiff, Nat.reduceAdd, Nat.reduceMul, Nat.reduceSub, Nat.reduceLeDiff, Nat.reduceLT, Int.reduceMul, Int.reduceAdd, Int.reduceSub, Int.reduceToNat]
  refine cond_split (fun hc => ?_) (fun hc => ?_)
  · have hk' : k < t.keys.length := by simp at hc; omega
    obtain ⟨x, hx⟩ : ∃ x, x = t.keys[k] := ⟨_, rfl⟩
    have hxk : t.keys[k]? = some x := by rw [List.getElem?_eq_getElem hk', hx]
    have hd : t.keys.drop k = x :: t.keys.drop (k + 1) := by rw [hx]; exact List.drop_eq_getElem_cons hk'
    have hkg := getD_map (f := keyAV) (l := t.keys) (k := k) (x := x) hxk
    have e5 : IntKind.i64.wrap ((k : Int) + 1) = ((k + 1 : Nat) : Int) := by rw [wrap_i64] <;> omega
    obtain ⟨hkf, hkb0, hkb1⟩ := hM.kf x (by rw [hx]; exact List.getElem_mem hk')
    rw [hd] at hR
    unfold matchesG at hR
    rw [if_neg (by omega)] at hR
    have hml : k < e.ms.length := by omega
    obtain ⟨m, hm⟩ : ∃ m, m = e.ms[k] := ⟨_, rfl⟩
    have hmg := getD_map (f := matchAV) (l := e.ms) (k := k) (x := m) (by rw [List.getElem?_eq_getElem hml, hm])
    have hmd : e.ms.getD k noMatch = m := by rw [List.getD_eq_getElem?_getD, List.getElem?_eq_getElem hml, hm]; rfl
    have hmo := h6 m (by rw [hm]; exact List.getElem_mem hml)
    have hmp := hM.mp m (by rw [hm]; exact List.getElem_mem hml)
    have hpv : p.getD k 0 < 2 ^ 128 := by
      rw [List.getD_eq_getElem?_getD, List.getElem?_eq_getElem (show k < p.length by omega)]
      exact h8 _ (List.getElem_mem _)
    have hpg := pt_get p k (by omega)
    rw [hmd] at hR
    generalize p.getD k 0 = y at *
    have hdl : 2 ≤ (List.drop (k * 2) (pointC p)).length := by rw [List.length_drop, hpl]; omega
    rw [← hHB]
    simp only [blkE, blkP, bhq, Nat.reduceMod, Nat.reduceDiv, stepH, stepM, toMs1, toMs, toMs0, strK, pubK, pubF, pubV, yaq, yar, yao, yap, go_sem, reduceCtorEq, Nat.reduceEqDiff, Nat.reduceAdd, Nat.reduceMul, Nat.reduceSub, Nat.reduceLeDiff, Nat.reduceLT, Int.reduceMul, Int.reduceAdd, Int.reduceSub, Int.reduceToNat, schC, entryC, Int.toNat_natCast, ybb, hkg, keyAV, hmg, matchAV, hpl, hpg, vc, matchC, yal, yak, p_rKeyBits]
    (repeat with_reducible refine And.intro (by first | exact True.intro | decide | omega | (simp [zhx, zge, zgf, zgg, zgi, zgh, zgm]; first | done | omega)) ?_)
    refine ⟨S, t, k, x, ⟨rfl, rfl, rfl, hxk, hS, hkf⟩, ?_⟩
    simp only [blkE, blkP, bhq, Nat.reduceMod, Nat.reduceDiv, stepH, stepM, toMs1, toMs, toMs0, strK, pubK, pubF, pubV, yaq, yar, yao, yap, go_sem, reduceCtorEq, Nat.reduceEqDiff, Nat.reduceAdd, Nat.reduceMul, Nat.reduceSub, Nat.reduceLeDiff, Nat.reduceLT, Int.reduceMul, Int.reduceAdd, Int.reduceSub, Int.reduceToNat, schC, entryC, Int.toNat_natCast, ybb, hkg, keyAV, hmg, matchAV, hpl, hpg, vc, matchC, yal, yak, p_rCovers]
    (repeat with_reducible refine And.intro (by first | exact True.intro | decide | omega | (simp [zhx, zge, zgf, zgg, zgi, zgh, zgm]; first | done | omega)) ?_)
    refine ⟨m, ⟨rfl, hmo, of_eq_true (isV_of hpv), hkb0, hkb1, hmp.1, hmp.2⟩, ?_⟩
    rw [vOf_back]
    try simp only [blkE, blkP, bhq, Nat.reduceMod, Nat.reduceDiv, stepH, stepM, toMs1, toMs, toMs0, strK, pubK, pubF, pubV, yaq, yar, yao, yap, go_sem, reduceCtorEq, Nat.reduceEqDiff, Nat.reduceAdd, Nat.reduceMul, Nat.reduceSub, Nat.reduceLeDiff, Nat.reduceLT, Int.reduceMul, Int.reduceAdd, Int.reduceSub, Int.reduceToNat]
    cases hcv : coversM m x.kind (bitsF S x.field) y
    · rw [hcv, if_neg (by decide)] at hR
      subst hR
      simp only [go_sem, reduceCtorEq, Nat.reduceEqDiff, Nat.reduceAdd, Nat.reduceMul, Nat.reduceSub, Nat.reduceLeDiff, Nat.reduceLT, Int.reduceMul, Int.reduceAdd, Int.reduceSub, Int.reduceToNat, Bool.not_false]
      simp (disch := first | assumption | omega | (simp; done) | (simp; omega) | (simp only [bt, and_true]; first | done | omega | (simp; done))) [↓zlq, beq, ybc, ybd, ybe, endOk, wk, wk2, wk1, wkM, wkL, wkLL, ybf, hcl]
      first | done | repeat (first | exact AHeap.Le.refl _ | refine AHeap.Le.push ?_ _)
    · rw [hcv, if_pos rfl] at hR
      simp only [go_sem, reduceCtorEq, Nat.reduceEqDiff, Nat.reduceAdd, Nat.reduceMul, Nat.reduceSub, Nat.reduceLeDiff, Nat.reduceLT, Int.reduceMul, Int.reduceAdd, Int.reduceSub, Int.reduceToNat, Bool.not_true, e5]
      refine ⟨k + 1, ⟨by omega, hR⟩, by omega, by simp only [zkg]; omega, (AHeap.Le.refl _).push _, by
        rw [← hHB] at hclB; exact hclB, ?_, ?_⟩
      · simp [ltF, zkg, zmp, zmh, lt_map lt_key]
        omega
      · simp [subW, wk2, wk1, wkM, Fr.get]
  · have hk' : k = t.keys.length := by simp at hc; omega
    subst hk'
    rw [List.drop_length] at hR
    unfold matchesG at hR
    subst hR
    rw [← hHB]
    simp only [go_sem, reduceCtorEq, Nat.reduceEqDiff, Nat.reduceAdd, Nat.reduceMul, Nat.reduceSub, Nat.reduceLeDiff, Nat.reduceLT, Int.reduceMul, Int.reduceAdd, Int.reduceSub, Int.reduceToNat]
    simp (disch := first | assumption | omega | (simp; done) | (simp; omega) | (simp only [bt, and_true]; first | done | omega | (simp; done))) [↓zlq, beq, ybc, ybd, ybe, endOk, wk, wk2, wk1, wkM, wkL, wkLL, ybf, hcl]
    first | done | repeat (first | exact AHeap.Le.refl _ | refine AHeap.Le.push ?_ _)
end Go.AL

