/- Contracts and plain laws, a part of the proof; no condition of its own. -/
import Derived.Test.YtknhoembfohbiaaN05d
open List renaming length_cons → yaz, length_nil → yba, take_of_length_le → ybc, drop_append → ybd, take_append → ybe, drop_eq_nil_of_le → ybf
open Go Go.AL Go.Proofs
namespace Go.AL
set_option linter.all false
set_option maxRecDepth 10000
def p_rDigit : List AV → AHeap → (AV → Prop) → Prop
  | [x], _, K => ∃ c, x = ofByte c ∧ K (.int .i64 (dg c : Nat))
  | _, _, _ => False
theorem ok_rDigit : EntOk Try.prog 147 (Ent.pure p_rDigit) := by
  refine EntOk.pure fun args H K h => ?_
  unfold p_rDigit at h
  split at h
  rotate_left
  · exact h.elim
  obtain ⟨c, rfl, hK⟩ := h
  refine ⟨_, hK, ?_⟩
  clear hK
  refine ACalls.of_aw (Ω := []) (T := assoc []) mixed TblOk.nil Try.func147 (by kernel_rfl) (by rfl) (rs := [.tmp 2]) (by rfl) (by kernel_rfl) (by simp only [Try.ntmps147, yaz, yba]; decide) (Nat.le_refl _) fun hcl hlt => ?_
  change aw _ _ _ (KI Try.prog [] (aEnd Try.prog [.tmp 2] H.nx _ _) []) _ _
  clear hlt
  have hc : c.toNat < 256 := UInt8.toNat_lt c
  have w8 : ∀ x, IntKind.u8.wrap x = x % 256 := fun x => by simp [IntKind.wrap, IntKind.signed, IntKind.bits]
  simp only [go_sem, reduceCtorEq, Nat.reduceEqDiff, Nat.reduceAdd, Nat.reduceMul, Nat.reduceSub, Nat.reduceLeDiff, Nat.reduceLT, Int.reduceMul, Int.reduceAdd, Int.reduceSub, Int.reduceToNat, ofByte]
  refine both_split (fun h1 => ?_) (fun h1 => ?_)
  · refine cond_split (fun h2 => ?_) (fun h2 => ?_)
    · have hd : dg c = c.toNat - 48 := by unfold dg; rw [if_pos (by simp at h1 h2; omega)]
      have e : IntKind.i64.wrap (IntKind.u8.wrap ((c.toNat : Int) - 48)) = (dg c : Nat) := by
        rw [w8, hd]; simp at h1 h2; rw [wrap_i64] <;> omega
      simp only [go_sem, reduceCtorEq, Nat.reduceEqDiff, Nat.reduceAdd, Nat.reduceMul, Nat.reduceSub, Nat.reduceLeDiff, Nat.reduceLT, Int.reduceMul, Int.reduceAdd, Int.reduceSub, Int.reduceToNat, e]
      simp (disch := first | assumption | omega | (simp; done) | (simp; omega) | (simp only [bt, and_true]; first | done | omega | (simp; done))) [↓zlf, beq, ybc, ybd, ybe, endOk, wk, wk2, wk1, wkM, wkL, wkLL, ybf, hcl]
    · simp only [go_sem, reduceCtorEq, Nat.reduceEqDiff, Nat.reduceAdd, Nat.reduceMul, Nat.reduceSub, Nat.reduceLeDiff, Nat.reduceLT, Int.reduceMul, Int.reduceAdd, Int.reduceSub, Int.reduceToNat]
      refine both_split (fun h3 => ?_) (fun h3 => ?_)
      · refine cond_split (fun h4 => ?_) (fun h4 => ?_)
        · have hd : dg c = c.toNat - 87 := by unfold dg; simp at h1 h2 h3 h4; rw [if_neg (by omega), if_pos (by omega)]
          have e : IntKind.i64.wrap (IntKind.i64.wrap (IntKind.u8.wrap ((c.toNat : Int) - 97)) + 10) = (dg c : Nat) := by
            rw [w8, hd]; simp at h1 h2 h3 h4
            have e1 : IntKind.i64.wrap (((c.toNat : Int) - 97) % 256) = (c.toNat : Int) - 97 := by rw [wrap_i64] <;> omega
            rw [e1, wrap_i64] <;> omega
          simp only [go_sem, reduceCtorEq, Nat.reduceEqDiff, Nat.reduceAdd, Nat.reduceMul, Nat.reduceSub, Nat.reduceLeDiff, Nat.reduceLT, Int.reduceMul, Int.reduceAdd, Int.reduceSub, Int.reduceToNat, e]
          simp (disch := first | assumption | omega | (simp; done) | (simp; omega) | (simp only [bt, and_true]; first | done | omega | (simp; done))) [↓zlf, beq, ybc, ybd, ybe, endOk, wk, wk2, wk1, wkM, wkL, wkLL, ybf, hcl]
        · have hd : dg c = 99 := by unfold dg; simp at h1 h2 h3 h4; rw [if_neg (by omega), if_neg (by omega)]
          simp only [go_sem, reduceCtorEq, Nat.reduceEqDiff, Nat.reduceAdd, Nat.reduceMul, Nat.reduceSub, Nat.reduceLeDiff, Nat.reduceLT, Int.reduceMul, Int.reduceAdd, Int.reduceSub, Int.reduceToNat, hd]
          simp (disch := first | assumption | omega | (simp; done) | (simp; omega) | (simp only [bt, and_true]; first | done | omega | (simp; done))) [↓zlf, beq, ybc, ybd, ybe, endOk, wk, wk2, wk1, wkM, wkL, wkLL, ybf, hcl]
      · have hd : dg c = 99 := by unfold dg; simp at h1 h2 h3; rw [if_neg (by omega), if_neg (by omega)]
        try simp only [go_sem, reduceCtorEq, Nat.reduceEqDiff, Nat.reduceAdd, Nat.reduceMul, Nat.reduceSub, Nat.reduceLeDiff, Nat.reduceLT, Int.reduceMul, Int.reduceAdd, Int.reduceSub, Int.reduceToNat, zau, hd]
        simp (disch := first | assumption | omega | (simp; done) | (simp; omega) | (simp only [bt, and_true]; first | done | omega | (simp; done))) [↓zlf, beq, ybc, ybd, ybe, endOk, wk, wk2, wk1, wkM, wkL, wkLL, ybf, hcl]
  · try simp only [go_sem, reduceCtorEq, Nat.reduceEqDiff, Nat.reduceAdd, Nat.reduceMul, Nat.reduceSub, Nat.reduceLeDiff, Nat.reduceLT, Int.reduceMul, Int.reduceAdd, Int.reduceSub, Int.reduceToNat, zau]
    refine both_split (fun h3 => ?_) (fun h3 => ?_)
    · refine cond_split (fun h4 => ?_) (fun h4 => ?_)
      · simp at h1 h3; omega
      · have hd : dg c = 99 := by unfold dg; simp at h1 h3 h4; rw [if_neg (by omega), if_neg (by omega)]
        simp only [go_sem, reduceCtorEq, Nat.reduceEqDiff, Nat.reduceAdd, Nat.reduceMul, Nat.reduceSub, Nat.reduceLeDiff, Nat.reduceLT, Int.reduceMul, Int.reduceAdd, Int.reduceSub, Int.reduceToNat, hd]
        simp (disch := first | assumption | omega | (simp; done) | (simp; omega) | (simp only [bt, and_true]; first | done | omega | (simp; done))) [↓zlf, beq, ybc, ybd, ybe, endOk, wk, wk2, wk1, wkM, wkL, wkLL, ybf, hcl]
    · have hd : dg c = 99 := by unfold dg; simp at h1 h3; rw [if_neg (by omega), if_neg (by omega)]
      try simp only [go_sem, reduceCtorEq, Nat.reduceEqDiff, Nat.reduceAdd, Nat.reduceMul, Nat.reduceSub, Nat.reduceLeDiff, Nat.reduceLT, Int.reduceMul, Int.reduceAdd, Int.reduceSub, Int.reduceToNat, zau, hd]
      simp (disch := first | assumption | omega | (simp; done) | (simp; omega) | (simp only [bt, and_true]; first | done | omega | (simp; done))) [↓zlf, beq, ybc, ybd, ybe, endOk, wk, wk2, wk1, wkM, wkL, wkLL, ybf, hcl]

def zLit (o : Option Nat) : AV := match o with
  | some n => .tup [zAV n, .bool true]
  | none => .tup [zAV 0, .bool false]
theorem lit_0x {s : List UInt8} (h : ¬ (2 < s.length ∧ hasP s [48, 120] = true)) : lit s = if s = [] then none else litB 10 0 s := by
  unfold lit
  by_cases hp : hasP s [48, 120] = true
  · rw [if_pos hp]
    have hl : s.length = 2 := by
      have := congrArg List.length (eq_of_beq hp)
      rw [List.length_take] at this
      simp at this
      have : ¬ 2 < s.length := fun h2 => h ⟨h2, hp⟩
      omega
    have hs : s = [48, 120] := by
      have := eq_of_beq hp
      rwa [ybc (by simp; omega)] at this
    subst hs
    decide +kernel
  · rw [if_neg hp]
def p_rLiteral : List AV → AHeap → (AV → Prop) → Prop
  | [.str s], _, K => (s.length ≤ 140737488355328) ∧ K (zLit (lit s))
  | _, _, _ => False
set_option maxHeartbeats 2000000 in
theorem ok_rLiteral : EntOk Try.prog 77 (Ent.pure p_rLiteral) := by
  refine EntOk.pure fun args H K h => ?_
  unfold p_rLiteral at h
  split at h
  rotate_left
  · exact h.elim
  rename_i s
  obtain ⟨hl, hK⟩ := h
  refine ⟨_, hK, ?_⟩
  refine ACalls.of_aw (Ω := [(146, Ent.pure p_rOf), (147, Ent.pure p_rDigit), (148, Ent.pure p_rAdd), (149, Ent.pure p_rFits)]) (T := assoc [(15, [[], [], [], [], [], [4], [0, 4, 5], [0, 4, 5, 6]])]) mixed (TblOk.cons ok_rOf (TblOk.cons ok_rDigit (TblOk.cons ok_rAdd (TblOk.cons ok_rFits TblOk.nil)))) Try.func77 (by kernel_rfl) (by rfl) (rs := [.cell 2 146,.tmp 3]) (by rfl) (by kernel_rfl) (by simp only [Try.ntmps77, yaz, yba]; decide) (Nat.le_refl _) fun hcl hlt => ?_
  change aw _ _ _ (KI Try.prog [(146, Ent.pure p_rOf), (147, Ent.pure p_rDigit), (148, Ent.pure p_rAdd), (149, Ent.pure p_rFits)] (aEnd Try.prog [.cell 2 146,.tmp 3] H.nx _ _ (assoc [(15, [[], [], [], [], [], [4], [0, 4, 5], [0, 4, 5, 6]])])) []) _ _
  clear hlt hK
  simp only [go_sem, reduceCtorEq, Nat.reduceEqDiff, Nat.reduceAdd, Nat.reduceMul, Nat.reduceSub, Nat.reduceLeDiff, Nat.reduceLT, Int.reduceMul, Int.reduceAdd, Int.reduceSub, Int.reduceToNat, p_rOf, zAV_0]
  refine both_split (fun h1 => ?_) (fun h1 => ?_)
  · have hl2 : 2 < s.length := by simp at h1; omega
    refine ⟨by omega, cond_split (fun h0 => ?_) (fun h0 => ?_)⟩
    · have hp : hasP s [48, 120] = true := by unfold hasP; simpa using h0
      have hr : lit s = if s.drop 2 = [] then none else litB 16 0 (s.drop 2) := by unfold lit; rw [if_pos hp]
      try simp only [go_sem, reduceCtorEq, Nat.reduceEqDiff, Nat.reduceAdd, Nat.reduceMul, Nat.reduceSub, Nat.reduceLeDiff, Nat.reduceLT, Int.reduceMul, Int.reduceAdd, Int.reduceSub, Int.reduceToNat, p_rOf, zAV_0, Int.toNat_natCast, List.take_length]
      refine ⟨by omega, by omega, ?_⟩
      have hl' : (s.drop 2).length ≤ 140737488355328 := by rw [List.length_drop]; omega
      rw [hr]
      clear hr hl
      generalize s.drop 2 = b at *
      refine loop_introW (A := Nat × Nat) (fun x => [(0, .str b), (2, .ptr H.nx 0), (4, .int .i64 16), (5, .ptr (H.nx + 1) 0), (6, .int .i64 (x.1 : Int))])
        (fun x => (H.push (.cells [.bool false, .slice .nil 1 []])).push (.cells [.bool (decide ((x.2 : Int) < 0)), .slice .any 1 (ints (digs ((x.2 : Int)).natAbs))]))
        (fun x => x.1 ≤ b.length ∧ x.2 < 2 ^ 128 ∧ litB 16 0 b = litB 16 x.2 (b.drop x.1)) (fun x => b.length - x.1) (0, 0) ⟨by omega, by decide, rfl⟩ ?_ fun x hI => ?_
      · (simp only [bkq, enterW, subW, ltF, ne_eq, Nat.reduceEqDiff, reduceCtorEq, digs_zero, Int.natAbs_zero]; try simp (disch := first | assumption | omega | (simp; done) | (simp; omega) | (simp only [bt, and_true]; first | done | omega | (simp; done))) [↓zlf, beq, ybc, ybd, ybe, endOk, wk, wk2, wk1, wkM, wkL, wkLL, ybf, byq, biq, isDs_ints, hcl, digs_zero, Int.natAbs_zero]; try (repeat' (first | assumption | omega | exact True.intro | refine And.intro ?_ ?_ | refine closed_buf ?_ | refine closed_set_buf ?_ | refine closed_cells ?_ ?_ | refine closed_set ?_ ?_ | refine closed_del ?_ | exact AHeap.Le.refl _ | refine AHeap.Le.push ?_ _ | refine AHeap.Le.del ?_ ?_ | (simp only [bt, and_true, true_and, digs_zero, Int.natAbs_zero]; first | done | omega | (simp; done)))))
      obtain ⟨k, n⟩ := x
      obtain ⟨hk, hn, hl2⟩ := hI
      dsimp only at *
      simp only [go_sem, reduceCtorEq, Nat.reduceEqDiff, Nat.reduceAdd, Nat.reduceMul, Nat.reduceSub, Nat.reduceLeDiff, Nat.reduceLT, Int.reduceMul, Int.reduceAdd, Int.reduceSub, Int.reduceToNat, byq]
      refine cond_split (fun h2 => ?_) (fun h2 => ?_)
      · have h2' : k < b.length := by simpa using h2
        rw [List.drop_eq_getElem_cons h2'] at hl2
        have hg : AV.int .u8 ((b.getD k 0).toNat : Int) = ofByte b[k] := by simp [List.getD_eq_getElem?_getD, h2', ofByte]
        have e5 : IntKind.i64.wrap ((k : Int) + 1) = ((k + 1 : Nat) : Int) := by rw [wrap_i64] <;> omega
        have hbn : b ≠ [] := by intro h; subst h; simp at h2'
        simp only [litB] at hl2
        generalize b[k] = c at *
        have hc : dg c ≤ 99 := by unfold dg; have := UInt8.toNat_lt c; split <;> (try split) <;> omega
        simp only [go_sem, reduceCtorEq, Nat.reduceEqDiff, Nat.reduceAdd, Nat.reduceMul, Nat.reduceSub, Nat.reduceLeDiff, Nat.reduceLT, Int.reduceMul, Int.reduceAdd, Int.reduceSub, Int.reduceToNat, byq, hg, p_rDigit, p_rOf, zAV_0]
        refine ⟨by omega, c, rfl, ?_⟩
        simp only [go_sem, reduceCtorEq, Nat.reduceEqDiff, Nat.reduceAdd, Nat.reduceMul, Nat.reduceSub, Nat.reduceLeDiff, Nat.reduceLT, Int.reduceMul, Int.reduceAdd, Int.reduceSub, Int.reduceToNat, byq]
        refine cond_split (fun h3 => ?_) (fun h3 => ?_)
        · have hd : ¬ dg c < 16 := by simp at h3; omega
          rw [if_neg hd] at hl2
          simp only [go_sem, reduceCtorEq, Nat.reduceEqDiff, Nat.reduceAdd, Nat.reduceMul, Nat.reduceSub, Nat.reduceLeDiff, Nat.reduceLT, Int.reduceMul, Int.reduceAdd, Int.reduceSub, Int.reduceToNat, byq, p_rOf, zAV_0, hl2, if_neg hbn, zLit]
          refine ⟨by omega, ?_⟩
          simp (disch := first | assumption | omega | (simp; done) | (simp; omega) | (simp only [bt, and_true]; first | done | omega | (simp; done))) [↓zlf, beq, ybc, ybd, ybe, endOk, wk, wk2, wk1, wkM, wkL, wkLL, ybf, hcl]
        · have hd : dg c < 16 := by simp at h3; omega
          rw [if_pos hd] at hl2
          simp only [go_sem, reduceCtorEq, Nat.reduceEqDiff, Nat.reduceAdd, Nat.reduceMul, Nat.reduceSub, Nat.reduceLeDiff, Nat.reduceLT, Int.reduceMul, Int.reduceAdd, Int.reduceSub, Int.reduceToNat, byq, p_rOf, zAV_0]
          refine ⟨by omega, ?_⟩
          refine loop_introW (A := Nat) (fun j => [(0, .str b), (2, .ptr H.nx 0), (4, .int .i64 16), (5, .ptr (H.nx + 1) 0), (6, .int .i64 (k : Int)), (7, .ptr (H.nx + 1 + 1) 0), (8, .int .i64 (j : Int))])
            (fun j => ((H.push (.cells [.bool false, .slice .nil 1 []])).push (.cells [.bool (decide ((n : Int) < 0)), .slice .any 1 (ints (digs ((n : Int)).natAbs))])).push (.cells [.bool (decide (((n * j : Nat) : Int) < 0)), .slice .any 1 (ints (digs (((n * j : Nat) : Int)).natAbs))]))
            (fun j => j ≤ 16) (fun j => 16 - j) 0 (by omega) ?_ fun j hj => ?_
          · (simp only [bkq, enterW, subW, ltF, ne_eq, Nat.reduceEqDiff, reduceCtorEq, digs_zero, Int.natAbs_zero, Nat.mul_zero]; try simp (disch := first | assumption | omega | (simp; done) | (simp; omega) | (simp only [bt, and_true]; first | done | omega | (simp; done))) [↓zlf, beq, ybc, ybd, ybe, endOk, wk, wk2, wk1, wkM, wkL, wkLL, ybf, byq, biq, isDs_ints, hcl, digs_zero, Int.natAbs_zero, Nat.mul_zero]; try (repeat' (first | assumption | omega | exact True.intro | refine And.intro ?_ ?_ | refine closed_buf ?_ | refine closed_set_buf ?_ | refine closed_cells ?_ ?_ | refine closed_set ?_ ?_ | refine closed_del ?_ | exact AHeap.Le.refl _ | refine AHeap.Le.push ?_ _ | refine AHeap.Le.del ?_ ?_ | (simp only [bt, and_true, true_and, digs_zero, Int.natAbs_zero, Nat.mul_zero]; first | done | omega | (simp; done)))))
          have hnj : n * j < 2 ^ 133 := by
            have : n * j ≤ n * 16 := Nat.mul_le_mul_left n (by omega)
            omega
          have hsj : small ((n * j : Nat) : Int) := small_of 60 (by rw [Int.natAbs_natCast]; omega) (by decide)
          have hsn : small (n : Int) := small_of 60 (by rw [Int.natAbs_natCast]; omega) (by decide)
          simp only [go_sem, reduceCtorEq, Nat.reduceEqDiff, Nat.reduceAdd, Nat.reduceMul, Nat.reduceSub, Nat.reduceLeDiff, Nat.reduceLT, Int.reduceMul, Int.reduceAdd, Int.reduceSub, Int.reduceToNat, byq]
          refine cond_split (fun h4 => ?_) (fun h4 => ?_)
          · have h4' : j < 16 := by simp at h4; omega
            have ej : IntKind.i64.wrap ((j : Int) + 1) = ((j + 1 : Nat) : Int) := by rw [wrap_i64] <;> omega
            have en : ((n * j : Nat) : Int) + (n : Int) = ((n * (j + 1) : Nat) : Int) := by rw [Nat.mul_add]; omega
            simp only [go_sem, reduceCtorEq, Nat.reduceEqDiff, Nat.reduceAdd, Nat.reduceMul, Nat.reduceSub, Nat.reduceLeDiff, Nat.reduceLT, Int.reduceMul, Int.reduceAdd, Int.reduceSub, Int.reduceToNat, byq, p_rAdd]
            refine ⟨((n * j : Nat) : Int), (n : Int), ⟨rfl, rfl, hsj, hsn⟩, ?_⟩
            simp only [go_sem, reduceCtorEq, Nat.reduceEqDiff, Nat.reduceAdd, Nat.reduceMul, Nat.reduceSub, Nat.reduceLeDiff, Nat.reduceLT, Int.reduceMul, Int.reduceAdd, Int.reduceSub, Int.reduceToNat, byq, zAV, en, ej]
            refine ⟨j + 1, by omega, by omega, ?_⟩
            (simp only [bkq, enterW, subW, ltF, ne_eq, Nat.reduceEqDiff, reduceCtorEq]; try simp (disch := first | assumption | omega | (simp; done) | (simp; omega) | (simp only [bt, and_true]; first | done | omega | (simp; done))) [↓zlf, beq, ybc, ybd, ybe, endOk, wk, wk2, wk1, wkM, wkL, wkLL, ybf, byq, biq, isDs_ints, hcl]; try (repeat' (first | assumption | omega | exact True.intro | refine And.intro ?_ ?_ | refine closed_buf ?_ | refine closed_set_buf ?_ | refine closed_cells ?_ ?_ | refine closed_set ?_ ?_ | refine closed_del ?_ | exact AHeap.Le.refl _ | refine AHeap.Le.push ?_ _ | refine AHeap.Le.del ?_ ?_ | (simp only [bt, and_true, true_and]; first | done | omega | (simp; done)))))
          · have h4' : j = 16 := by simp at h4; omega
            subst h4'
            have en : ((n * 16 : Nat) : Int) + ((dg c : Nat) : Int) = ((n * 16 + dg c : Nat) : Int) := by omega
            have hsd : small ((dg c : Nat) : Int) := small_of 10 (by rw [Int.natAbs_natCast]; omega) (by decide)
            have hsf : small ((n * 16 + dg c : Nat) : Int) := small_of 60 (by rw [Int.natAbs_natCast]; omega) (by decide)
            obtain ⟨z, hz2⟩ : ∃ z : Int, z = ((n * 16 + dg c : Nat) : Int) := ⟨_, rfl⟩
            rw [← hz2] at en hsf
            obtain ⟨y, hy⟩ : ∃ y : Int, y = ((dg c : Nat) : Int) := ⟨_, rfl⟩
            simp only [go_sem, reduceCtorEq, Nat.reduceEqDiff, Nat.reduceAdd, Nat.reduceMul, Nat.reduceSub, Nat.reduceLeDiff, Nat.reduceLT, Int.reduceMul, Int.reduceAdd, Int.reduceSub, Int.reduceToNat, byq, p_rAdd, p_rDigit, p_rOf, hg]
            refine ⟨by omega, c, rfl, ?_⟩
            simp only [go_sem, reduceCtorEq, Nat.reduceEqDiff, Nat.reduceAdd, Nat.reduceMul, Nat.reduceSub, Nat.reduceLeDiff, Nat.reduceLT, Int.reduceMul, Int.reduceAdd, Int.reduceSub, Int.reduceToNat, byq, p_rOf, p_rAdd]
            refine ⟨by omega, ((n * 16 : Nat) : Int), ((dg c : Nat) : Int), ⟨rfl, rfl, hsj, hsd⟩, ?_⟩
            refine fits_split (a := n * 16 + dg c) (b := 2 ^ 128) (fun hf => ?_) (fun hf => ?_)
            · rw [if_pos hf] at hl2
              have hft : decide (0 ≤ z ∧ z < 2 ^ 128) = true := decide_eq_true (by omega)
              simp only [go_sem, reduceCtorEq, Nat.reduceEqDiff, Nat.reduceAdd, Nat.reduceMul, Nat.reduceSub, Nat.reduceLeDiff, Nat.reduceLT, Int.reduceMul, Int.reduceAdd, Int.reduceSub, Int.reduceToNat, byq, zAV, en, p_rFits]
              refine ⟨z, ⟨rfl, hsf⟩, ?_⟩
              simp only [go_sem, reduceCtorEq, Nat.reduceEqDiff, Nat.reduceAdd, Nat.reduceMul, Nat.reduceSub, Nat.reduceLeDiff, Nat.reduceLT, Int.reduceMul, Int.reduceAdd, Int.reduceSub, Int.reduceToNat, byq, zau, hft, e5]
              refine ⟨(k + 1, n * 16 + dg c), ⟨by omega, hf, hl2⟩, by omega, ?_⟩
              (simp only [bkq, enterW, subW, ltF, ne_eq, Nat.reduceEqDiff, reduceCtorEq, hz2]; try simp (disch := first | assumption | omega | (simp; done) | (simp; omega) | (simp only [bt, and_true]; first | done | omega | (simp; done))) [↓zlf, beq, ybc, ybd, ybe, endOk, wk, wk2, wk1, wkM, wkL, wkLL, ybf, byq, biq, isDs_ints, hcl, hz2]; try (repeat' (first | assumption | omega | exact True.intro | refine And.intro ?_ ?_ | refine closed_buf ?_ | refine closed_set_buf ?_ | refine closed_cells ?_ ?_ | refine closed_set ?_ ?_ | refine closed_del ?_ | exact AHeap.Le.refl _ | refine AHeap.Le.push ?_ _ | refine AHeap.Le.del ?_ ?_ | (simp only [bt, and_true, true_and, hz2]; first | done | omega | (simp; done)))))
            · rw [if_neg (Nat.not_lt.2 hf)] at hl2
              have hft : decide (0 ≤ z ∧ z < 2 ^ 128) = false := decide_eq_false (by omega)
              simp only [go_sem, reduceCtorEq, Nat.reduceEqDiff, Nat.reduceAdd, Nat.reduceMul, Nat.reduceSub, Nat.reduceLeDiff, Nat.reduceLT, Int.reduceMul, Int.reduceAdd, Int.reduceSub, Int.reduceToNat, byq, zAV, en, p_rFits]
              refine ⟨z, ⟨rfl, hsf⟩, ?_⟩
              simp only [go_sem, reduceCtorEq, Nat.reduceEqDiff, Nat.reduceAdd, Nat.reduceMul, Nat.reduceSub, Nat.reduceLeDiff, Nat.reduceLT, Int.reduceMul, Int.reduceAdd, Int.reduceSub, Int.reduceToNat, byq, zat, hft, p_rOf, zAV_0, hl2, if_neg hbn, zLit]
              refine ⟨by omega, ?_⟩
              simp (disch := first | assumption | omega | (simp; done) | (simp; omega) | (simp only [bt, and_true]; first | done | omega | (simp; done))) [↓zlf, beq, ybc, ybd, ybe, endOk, wk, wk2, wk1, wkM, wkL, wkLL, ybf, hcl]
      · have h2' : k = b.length := by simp at h2; omega
        subst h2'
        rw [List.drop_length] at hl2
        simp only [litB] at hl2
        simp only [go_sem, reduceCtorEq, Nat.reduceEqDiff, Nat.reduceAdd, Nat.reduceMul, Nat.reduceSub, Nat.reduceLeDiff, Nat.reduceLT, Int.reduceMul, Int.reduceAdd, Int.reduceSub, Int.reduceToNat, byq]
        by_cases hbn : b = []
        · subst hbn
          have hn0 : n = 0 := by simp only [litB] at hl2; exact (Option.some.inj hl2).symm
          subst hn0
          have hb0 : (([] : List UInt8) == []) = true := rfl
          simp only [go_sem, reduceCtorEq, Nat.reduceEqDiff, Nat.reduceAdd, Nat.reduceMul, Nat.reduceSub, Nat.reduceLeDiff, Nat.reduceLT, Int.reduceMul, Int.reduceAdd, Int.reduceSub, Int.reduceToNat, byq, if_pos, zLit, zAV_0, hb0]
          simp (disch := first | assumption | omega | (simp; done) | (simp; omega) | (simp only [bt, and_true]; first | done | omega | (simp; done))) [↓zlf, beq, ybc, ybd, ybe, endOk, wk, wk2, wk1, wkM, wkL, wkLL, ybf, hcl, digs_zero, ints_nil]
        · have hb0 : (b == []) = false := by simp [hbn]
          simp only [go_sem, reduceCtorEq, Nat.reduceEqDiff, Nat.reduceAdd, Nat.reduceMul, Nat.reduceSub, Nat.reduceLeDiff, Nat.reduceLT, Int.reduceMul, Int.reduceAdd, Int.reduceSub, Int.reduceToNat, byq, if_neg hbn, zLit, hl2, zAV, hb0]
          simp (disch := first | assumption | omega | (simp; done) | (simp; omega) | (simp only [bt, and_true]; first | done | omega | (simp; done))) [↓zlf, beq, ybc, ybd, ybe, endOk, wk, wk2, wk1, wkM, wkL, wkLL, ybf, hcl]
    · have hr : lit s = if s = [] then none else litB 10 0 s := lit_0x fun h => by
        have : hasP s [48, 120] = false := by unfold hasP; simpa using h0
        rw [this] at h; exact absurd h.2 (by simp)
      try simp only [go_sem, reduceCtorEq, Nat.reduceEqDiff, Nat.reduceAdd, Nat.reduceMul, Nat.reduceSub, Nat.reduceLeDiff, Nat.reduceLT, Int.reduceMul, Int.reduceAdd, Int.reduceSub, Int.reduceToNat, p_rOf, zAV_0, Int.toNat_natCast, List.take_length, zau]
      refine ⟨by omega, ?_⟩
      have hl' : (s).length ≤ 140737488355328 := by exact hl
      rw [hr]
      clear hr hl
      generalize s = b at *
      refine loop_introW (A := Nat × Nat) (fun x => [(0, .str b), (2, .ptr H.nx 0), (4, .int .i64 10), (5, .ptr (H.nx + 1) 0), (6, .int .i64 (x.1 : Int))])
        (fun x => (H.push (.cells [.bool false, .slice .nil 1 []])).push (.cells [.bool (decide ((x.2 : Int) < 0)), .slice .any 1 (ints (digs ((x.2 : Int)).natAbs))]))
        (fun x => x.1 ≤ b.length ∧ x.2 < 2 ^ 128 ∧ litB 10 0 b = litB 10 x.2 (b.drop x.1)) (fun x => b.length - x.1) (0, 0) ⟨by omega, by decide, rfl⟩ ?_ fun x hI => ?_
      · (simp only [bkq, enterW, subW, ltF, ne_eq, Nat.reduceEqDiff, reduceCtorEq, digs_zero, Int.natAbs_zero]; try simp (disch := first | assumption | omega | (simp; done) | (simp; omega) | (simp only [bt, and_true]; first | done | omega | (simp; done))) [↓zlf, beq, ybc, ybd, ybe, endOk, wk, wk2, wk1, wkM, wkL, wkLL, ybf, byq, biq, isDs_ints, hcl, digs_zero, Int.natAbs_zero]; try (repeat' (first | assumption | omega | exact True.intro | refine And.intro ?_ ?_ | refine closed_buf ?_ | refine closed_set_buf ?_ | refine closed_cells ?_ ?_ | refine closed_set ?_ ?_ | refine closed_del ?_ | exact AHeap.Le.refl _ | refine AHeap.Le.push ?_ _ | refine AHeap.Le.del ?_ ?_ | (simp only [bt, and_true, true_and, digs_zero, Int.natAbs_zero]; first | done | omega | (simp; done)))))
      obtain ⟨k, n⟩ := x
      obtain ⟨hk, hn, hl2⟩ := hI
      dsimp only at *
      simp only [go_sem, reduceCtorEq, Nat.reduceEqDiff, Nat.reduceAdd, Nat.reduceMul, Nat.reduceSub, Nat.reduceLeDiff, Nat.reduceLT, Int.reduceMul, Int.reduceAdd, Int.reduceSub, Int.reduceToNat, byq]
      refine cond_split (fun h2 => ?_) (fun h2 => ?_)
      · have h2' : k < b.length := by simpa using h2
        rw [List.drop_eq_getElem_cons h2'] at hl2
        have hg : AV.int .u8 ((b.getD k 0).toNat : Int) = ofByte b[k] := by simp [List.getD_eq_getElem?_getD, h2', ofByte]
        have e5 : IntKind.i64.wrap ((k : Int) + 1) = ((k + 1 : Nat) : Int) := by rw [wrap_i64] <;> omega
        have hbn : b ≠ [] := by intro h; subst h; simp at h2'
        simp only [litB] at hl2
        generalize b[k] = c at *
        have hc : dg c ≤ 99 := by unfold dg; have := UInt8.toNat_lt c; split <;> (try split) <;> omega
        simp only [go_sem, reduceCtorEq, Nat.reduceEqDiff, Nat.reduceAdd, Nat.reduceMul, Nat.reduceSub, Nat.reduceLeDiff, Nat.reduceLT, Int.reduceMul, Int.reduceAdd, Int.reduceSub, Int.reduceToNat, byq, hg, p_rDigit, p_rOf, zAV_0]
        refine ⟨by omega, c, rfl, ?_⟩
        simp only [go_sem, reduceCtorEq, Nat.reduceEqDiff, Nat.reduceAdd, Nat.reduceMul, Nat.reduceSub, Nat.reduceLeDiff, Nat.reduceLT, Int.reduceMul, Int.reduceAdd, Int.reduceSub, Int.reduceToNat, byq]
        refine cond_split (fun h3 => ?_) (fun h3 => ?_)
        · have hd : ¬ dg c < 10 := by simp at h3; omega
          rw [if_neg hd] at hl2
          simp only [go_sem, reduceCtorEq, Nat.reduceEqDiff, Nat.reduceAdd, Nat.reduceMul, Nat.reduceSub, Nat.reduceLeDiff, Nat.reduceLT, Int.reduceMul, Int.reduceAdd, Int.reduceSub, Int.reduceToNat, byq, p_rOf, zAV_0, hl2, if_neg hbn, zLit]
          refine ⟨by omega, ?_⟩
          simp (disch := first | assumption | omega | (simp; done) | (simp; omega) | (simp only [bt, and_true]; first | done | omega | (simp; done))) [↓zlf, beq, ybc, ybd, ybe, endOk, wk, wk2, wk1, wkM, wkL, wkLL, ybf, hcl]
        · have hd : dg c < 10 := by simp at h3; omega
          rw [if_pos hd] at hl2
          simp only [go_sem, reduceCtorEq, Nat.reduceEqDiff, Nat.reduceAdd, Nat.reduceMul, Nat.reduceSub, Nat.reduceLeDiff, Nat.reduceLT, Int.reduceMul, Int.reduceAdd, Int.reduceSub, Int.reduceToNat, byq, p_rOf, zAV_0]
          refine ⟨by omega, ?_⟩
          refine loop_introW (A := Nat) (fun j => [(0, .str b), (2, .ptr H.nx 0), (4, .int .i64 10), (5, .ptr (H.nx + 1) 0), (6, .int .i64 (k : Int)), (7, .ptr (H.nx + 1 + 1) 0), (8, .int .i64 (j : Int))])
            (fun j => ((H.push (.cells [.bool false, .slice .nil 1 []])).push (.cells [.bool (decide ((n : Int) < 0)), .slice .any 1 (ints (digs ((n : Int)).natAbs))])).push (.cells [.bool (decide (((n * j : Nat) : Int) < 0)), .slice .any 1 (ints (digs (((n * j : Nat) : Int)).natAbs))]))
            (fun j => j ≤ 10) (fun j => 10 - j) 0 (by omega) ?_ fun j hj => ?_
          · (simp only [bkq, enterW, subW, ltF, ne_eq, Nat.reduceEqDiff, reduceCtorEq, digs_zero, Int.natAbs_zero, Nat.mul_zero]; try simp (disch := first | assumption | omega | (simp; done) | (simp; omega) | (simp only [bt, and_true]; first | done | omega | (simp; done))) [↓zlf, beq, ybc, ybd, ybe, endOk, wk, wk2, wk1, wkM, wkL, wkLL, ybf, byq, biq, isDs_ints, hcl, digs_zero, Int.natAbs_zero, Nat.mul_zero]; try (repeat' (first | assumption | omega | exact True.intro | refine And.intro ?_ ?_ | refine closed_buf ?_ | refine closed_set_buf ?_ | refine closed_cells ?_ ?_ | refine closed_set ?_ ?_ | refine closed_del ?_ | exact AHeap.Le.refl _ | refine AHeap.Le.push ?_ _ | refine AHeap.Le.del ?_ ?_ | (simp only [bt, and_true, true_and, digs_zero, Int.natAbs_zero, Nat.mul_zero]; first | done | omega | (simp; done)))))
          have hnj : n * j < 2 ^ 133 := by
            have : n * j ≤ n * 16 := Nat.mul_le_mul_left n (by omega)
            omega
          have hsj : small ((n * j : Nat) : Int) := small_of 60 (by rw [Int.natAbs_natCast]; omega) (by decide)
          have hsn : small (n : Int) := small_of 60 (by rw [Int.natAbs_natCast]; omega) (by decide)
          simp only [go_sem, reduceCtorEq, Nat.reduceEqDiff, Nat.reduceAdd, Nat.reduceMul, Nat.reduceSub, Nat.reduceLeDiff, Nat.reduceLT, Int.reduceMul, Int.reduceAdd, Int.reduceSub, Int.reduceToNat, byq]
          refine cond_split (fun h4 => ?_) (fun h4 => ?_)
          · have h4' : j < 10 := by simp at h4; omega
            have ej : IntKind.i64.wrap ((j : Int) + 1) = ((j + 1 : Nat) : Int) := by rw [wrap_i64] <;> omega
            have en : ((n * j : Nat) : Int) + (n : Int) = ((n * (j + 1) : Nat) : Int) := by rw [Nat.mul_add]; omega
            simp only [go_sem, reduceCtorEq, Nat.reduceEqDiff, Nat.reduceAdd, Nat.reduceMul, Nat.reduceSub, Nat.reduceLeDiff, Nat.reduceLT, Int.reduceMul, Int.reduceAdd, Int.reduceSub, Int.reduceToNat, byq, p_rAdd]
            refine ⟨((n * j : Nat) : Int), (n : Int), ⟨rfl, rfl, hsj, hsn⟩, ?_⟩
            simp only [go_sem, reduceCtorEq, Nat.reduceEqDiff, Nat.reduceAdd, Nat.reduceMul, Nat.reduceSub, Nat.reduceLeDiff, Nat.reduceLT, Int.reduceMul, Int.reduceAdd, Int.reduceSub, Int.reduceToNat, byq, zAV, en, ej]
            refine ⟨j + 1, by omega, by omega, ?_⟩
            (simp only [bkq, enterW, subW, ltF, ne_eq, Nat.reduceEqDiff, reduceCtorEq]; try simp (disch := first | assumption | omega | (simp; done) | (simp; omega) | (simp only [bt, and_true]; first | done | omega | (simp; done))) [↓zlf, beq, ybc, ybd, ybe, endOk, wk, wk2, wk1, wkM, wkL, wkLL, ybf, byq, biq, isDs_ints, hcl]; try (repeat' (first | assumption | omega | exact True.intro | refine And.intro ?_ ?_ | refine closed_buf ?_ | refine closed_set_buf ?_ | refine closed_cells ?_ ?_ | refine closed_set ?_ ?_ | refine closed_del ?_ | exact AHeap.Le.refl _ | refine AHeap.Le.push ?_ _ | refine AHeap.Le.del ?_ ?_ | (simp only [bt, and_true, true_and]; first | done | omega | (simp; done)))))
          · have h4' : j = 10 := by simp at h4; omega
            subst h4'
            have en : ((n * 10 : Nat) : Int) + ((dg c : Nat) : Int) = ((n * 10 + dg c : Nat) : Int) := by omega
            have hsd : small ((dg c : Nat) : Int) := small_of 10 (by rw [Int.natAbs_natCast]; omega) (by decide)
            have hsf : small ((n * 10 + dg c : Nat) : Int) := small_of 60 (by rw [Int.natAbs_natCast]; omega) (by decide)
            obtain ⟨z, hz2⟩ : ∃ z : Int, z = ((n * 10 + dg c : Nat) : Int) := ⟨_, rfl⟩
            rw [← hz2] at en hsf
            obtain ⟨y, hy⟩ : ∃ y : Int, y = ((dg c : Nat) : Int) := ⟨_, rfl⟩
            simp only [go_sem, reduceCtorEq, Nat.reduceEqDiff, Nat.reduceAdd, Nat.reduceMul, Nat.reduceSub, Nat.reduceLeDiff, Nat.reduceLT, Int.reduceMul, Int.reduceAdd, Int.reduceSub, Int.reduceToNat, byq, p_rAdd, p_rDigit, p_rOf, hg]
            refine ⟨by omega, c, rfl, ?_⟩
            simp only [go_sem, reduceCtorEq, Nat.reduceEqDiff, Nat.reduceAdd, Nat.reduceMul, Nat.reduceSub, Nat.reduceLeDiff, Nat.reduceLT, Int.reduceMul, Int.reduceAdd, Int.reduceSub, Int.reduceToNat, byq, p_rOf, p_rAdd]
            refine ⟨by omega, ((n * 10 : Nat) : Int), ((dg c : Nat) : Int), ⟨rfl, rfl, hsj, hsd⟩, ?_⟩
            refine fits_split (a := n * 10 + dg c) (b := 2 ^ 128) (fun hf => ?_) (fun hf => ?_)
            · rw [if_pos hf] at hl2
              have hft : decide (0 ≤ z ∧ z < 2 ^ 128) = true := decide_eq_true (by omega)
              simp only [go_sem, reduceCtorEq, Nat.reduceEqDiff, Nat.reduceAdd, Nat.reduceMul, Nat.reduceSub, Nat.reduceLeDiff, Nat.reduceLT, Int.reduceMul, Int.reduceAdd, Int.reduceSub, Int.reduceToNat, byq, zAV, en, p_rFits]
              refine ⟨z, ⟨rfl, hsf⟩, ?_⟩
              simp only [go_sem, reduceCtorEq, Nat.reduceEqDiff, Nat.reduceAdd, Nat.reduceMul, Nat.reduceSub, Nat.reduceLeDiff, Nat.reduceLT, Int.reduceMul, Int.reduceAdd, Int.reduceSub, Int.reduceToNat, byq, zau, hft, e5]
              refine ⟨(k + 1, n * 10 + dg c), ⟨by omega, hf, hl2⟩, by omega, ?_⟩
              (simp only [bkq, enterW, subW, ltF, ne_eq, Nat.reduceEqDiff, reduceCtorEq, hz2]; try simp (disch := first | assumption | omega | (simp; done) | (simp; omega) | (simp only [bt, and_true]; first | done | omega | (simp; done))) [↓zlf, beq, ybc, ybd, ybe, endOk, wk, wk2, wk1, wkM, wkL, wkLL, ybf, byq, biq, isDs_ints, hcl, hz2]; try (repeat' (first | assumption | omega | exact True.intro | refine And.intro ?_ ?_ | refine closed_buf ?_ | refine closed_set_buf ?_ | refine closed_cells ?_ ?_ | refine closed_set ?_ ?_ | refine closed_del ?_ | exact AHeap.Le.refl _ | refine AHeap.Le.push ?_ _ | refine AHeap.Le.del ?_ ?_ | (simp only [bt, and_true, true_and, hz2]; first | done | omega | (simp; done)))))
            · rw [if_neg (Nat.not_lt.2 hf)] at hl2
              have hft : decide (0 ≤ z ∧ z < 2 ^ 128) = false := decide_eq_false (by omega)
              simp only [go_sem, reduceCtorEq, Nat.reduceEqDiff, Nat.reduceAdd, Nat.reduceMul, Nat.reduceSub, Nat.reduceLeDiff, Nat.reduceLT, Int.reduceMul, Int.reduceAdd, Int.reduceSub, Int.reduceToNat, byq, zAV, en, p_rFits]
              refine ⟨z, ⟨rfl, hsf⟩, ?_⟩
              simp only [go_sem, reduceCtorEq, Nat.reduceEqDiff, Nat.reduceAdd, Nat.reduceMul, Nat.reduceSub, Nat.reduceLeDiff, Nat.reduceLT, Int.reduceMul, Int.reduceAdd, Int.reduceSub, Int.reduceToNat, byq, zat, hft, p_rOf, zAV_0, hl2, if_neg hbn, zLit]
              refine ⟨by omega, ?_⟩
              simp (disch := first | assumption | omega | (simp; done) | (simp; omega) | (simp only [bt, and_true]; first | done | omega | (simp; done))) [↓zlf, beq, ybc, ybd, ybe, endOk, wk, wk2, wk1, wkM, wkL, wkLL, ybf, hcl]
      · have h2' : k = b.length := by simp at h2; omega
        subst h2'
        rw [List.drop_length] at hl2
        simp only [litB] at hl2
        simp only [go_sem, reduceCtorEq, Nat.reduceEqDiff, Nat.reduceAdd, Nat.reduceMul, Nat.reduceSub, Nat.reduceLeDiff, Nat.reduceLT, Int.reduceMul, Int.reduceAdd, Int.reduceSub, Int.reduceToNat, byq]
        by_cases hbn : b = []
        · subst hbn
          have hn0 : n = 0 := by simp only [litB] at hl2; exact (Option.some.inj hl2).symm
          subst hn0
          have hb0 : (([] : List UInt8) == []) = true := rfl
          simp only [go_sem, reduceCtorEq, Nat.reduceEqDiff, Nat.reduceAdd, Nat.reduceMul, Nat.reduceSub, Nat.reduceLeDiff, Nat.reduceLT, Int.reduceMul, Int.reduceAdd, Int.reduceSub, Int.reduceToNat, byq, if_pos, zLit, zAV_0, hb0]
          simp (disch := first | assumption | omega | (simp; done) | (simp; omega) | (simp only [bt, and_true]; first | done | omega | (simp; done))) [↓zlf, beq, ybc, ybd, ybe, endOk, wk, wk2, wk1, wkM, wkL, wkLL, ybf, hcl, digs_zero, ints_nil]
        · have hb0 : (b == []) = false := by simp [hbn]
          simp only [go_sem, reduceCtorEq, Nat.reduceEqDiff, Nat.reduceAdd, Nat.reduceMul, Nat.reduceSub, Nat.reduceLeDiff, Nat.reduceLT, Int.reduceMul, Int.reduceAdd, Int.reduceSub, Int.reduceToNat, byq, if_neg hbn, zLit, hl2, zAV, hb0]
          simp (disch := first | assumption | omega | (simp; done) | (simp; omega) | (simp only [bt, and_true]; first | done | omega | (simp; done))) [↓zlf, beq, ybc, ybd, ybe, endOk, wk, wk2, wk1, wkM, wkL, wkLL, ybf, hcl]
  · have hr : lit s = if s = [] then none else litB 10 0 s := lit_0x fun h => by
      have : ¬ 2 < s.length := by simp at h1; omega
      exact this h.1
    try simp only [go_sem, reduceCtorEq, Nat.reduceEqDiff, Nat.reduceAdd, Nat.reduceMul, Nat.reduceSub, Nat.reduceLeDiff, Nat.reduceLT, Int.reduceMul, Int.reduceAdd, Int.reduceSub, Int.reduceToNat, p_rOf, zAV_0, Int.toNat_natCast, List.take_length, zau]
    refine ⟨by omega, ?_⟩
    have hl' : (s).length ≤ 140737488355328 := by exact hl
    rw [hr]
    clear hr hl
    generalize s = b at *
    refine loop_introW (A := Nat × Nat) (fun x => [(0, .str b), (2, .ptr H.nx 0), (4, .int .i64 10), (5, .ptr (H.nx + 1) 0), (6, .int .i64 (x.1 : Int))])
      (fun x => (H.push (.cells [.bool false, .slice .nil 1 []])).push (.cells [.bool (decide ((x.2 : Int) < 0)), .slice .any 1 (ints (digs ((x.2 : Int)).natAbs))]))
      (fun x => x.1 ≤ b.length ∧ x.2 < 2 ^ 128 ∧ litB 10 0 b = litB 10 x.2 (b.drop x.1)) (fun x => b.length - x.1) (0, 0) ⟨by omega, by decide, rfl⟩ ?_ fun x hI => ?_
    · (simp only [bkq, enterW, subW, ltF, ne_eq, Nat.reduceEqDiff, reduceCtorEq, digs_zero, Int.natAbs_zero]; try simp (disch := first | assumption | omega | (simp; done) | (simp; omega) | (simp only [bt, and_true]; first | done | omega | (simp; done))) [↓zlf, beq, ybc, ybd, ybe, endOk, wk, wk2, wk1, wkM, wkL, wkLL, ybf, byq, biq, isDs_ints, hcl, digs_zero, Int.natAbs_zero]; try (repeat' (first | assumption | omega | exact True.intro | refine And.intro ?_ ?_ | refine closed_buf ?_ | refine closed_set_buf ?_ | refine closed_cells ?_ ?_ | refine closed_set ?_ ?_ | refine closed_del ?_ | exact AHeap.Le.refl _ | refine AHeap.Le.push ?_ _ | refine AHeap.Le.del ?_ ?_ | (simp only [bt, and_true, true_and, digs_zero, Int.natAbs_zero]; first | done | omega | (simp; done)))))
    obtain ⟨k, n⟩ := x
    obtain ⟨hk, hn, hl2⟩ := hI
    dsimp only at *
    simp only [go_sem, reduceCtorEq, Nat.reduceEqDiff, Nat.reduceAdd, Nat.reduceMul, Nat.reduceSub, Nat.reduceLeDiff, Nat.reduceLT, Int.reduceMul, Int.reduceAdd, Int.reduceSub, Int.reduceToNat, byq]
    refine cond_split (fun h2 => ?_) (fun h2 => ?_)
    · have h2' : k < b.length := by simpa using h2
      rw [List.drop_eq_getElem_cons h2'] at hl2
      have hg : AV.int .u8 ((b.getD k 0).toNat : Int) = ofByte b[k] := by simp [List.getD_eq_getElem?_getD, h2', ofByte]
      have e5 : IntKind.i64.wrap ((k : Int) + 1) = ((k + 1 : Nat) : Int) := by rw [wrap_i64] <;> omega
      have hbn : b ≠ [] := by intro h; subst h; simp at h2'
      simp only [litB] at hl2
      generalize b[k] = c at *
      have hc : dg c ≤ 99 := by unfold dg; have := UInt8.toNat_lt c; split <;> (try split) <;> omega
      simp only [go_sem, reduceCtorEq, Nat.reduceEqDiff, Nat.reduceAdd, Nat.reduceMul, Nat.reduceSub, Nat.reduceLeDiff, Nat.reduceLT, Int.reduceMul, Int.reduceAdd, Int.reduceSub, Int.reduceToNat, byq, hg, p_rDigit, p_rOf, zAV_0]
      refine ⟨by omega, c, rfl, ?_⟩
      simp only [go_sem, reduceCtorEq, Nat.reduceEqDiff, Nat.reduceAdd, Nat.reduceMul, Nat.reduceSub, Nat.reduceLeDiff, Nat.reduceLT, Int.reduceMul, Int.reduceAdd, Int.reduceSub, Int.reduceToNat, byq]
      refine cond_split (fun h3 => ?_) (fun h3 => ?_)
      · have hd : ¬ dg c < 10 := by simp at h3; omega
        rw [if_neg hd] at hl2
        simp only [go_sem, reduceCtorEq, Nat.reduceEqDiff, Nat.reduceAdd, Nat.reduceMul, Nat.reduceSub, Nat.reduceLeDiff, Nat.reduceLT, Int.reduceMul, Int.reduceAdd, Int.reduceSub, Int.reduceToNat, byq, p_rOf, zAV_0, hl2, if_neg hbn, zLit]
        refine ⟨by omega, ?_⟩
        simp (disch := first | assumption | omega | (simp; done) | (simp; omega) | (simp only [bt, and_true]; first | done | omega | (simp; done))) [↓zlf, beq, ybc, ybd, ybe, endOk, wk, wk2, wk1, wkM, wkL, wkLL, ybf, hcl]
      · have hd : dg c < 10 := by simp at h3; omega
        rw [if_pos hd] at hl2
        simp only [go_sem, reduceCtorEq, Nat.reduceEqDiff, Nat.reduceAdd, Nat.reduceMul, Nat.reduceSub, Nat.reduceLeDiff, Nat.reduceLT, Int.reduceMul, Int.reduceAdd, Int.reduceSub, Int.reduceToNat, byq, p_rOf, zAV_0]
        refine ⟨by omega, ?_⟩
        refine loop_introW (A := Nat) (fun j => [(0, .str b), (2, .ptr H.nx 0), (4, .int .i64 10), (5, .ptr (H.nx + 1) 0), (6, .int .i64 (k : Int)), (7, .ptr (H.nx + 1 + 1) 0), (8, .int .i64 (j : Int))])
          (fun j => ((H.push (.cells [.bool false, .slice .nil 1 []])).push (.cells [.bool (decide ((n : Int) < 0)), .slice .any 1 (ints (digs ((n : Int)).natAbs))])).push (.cells [.bool (decide (((n * j : Nat) : Int) < 0)), .slice .any 1 (ints (digs (((n * j : Nat) : Int)).natAbs))]))
          (fun j => j ≤ 10) (fun j => 10 - j) 0 (by omega) ?_ fun j hj => ?_
        · (simp only [bkq, enterW, subW, ltF, ne_eq, Nat.reduceEqDiff, reduceCtorEq, digs_zero, Int.natAbs_zero, Nat.mul_zero]; try simp (disch := first | assumption | omega | (simp; done) | (simp; omega) | (simp only [bt, and_true]; first | done | omega | (simp; done))) [↓zlf, beq, ybc, ybd, ybe, endOk, wk, wk2, wk1, wkM, wkL, wkLL, ybf, byq, biq, isDs_ints, hcl, digs_zero, Int.natAbs_zero, Nat.mul_zero]; try (repeat' (first | assumption | omega | exact True.intro | refine And.intro ?_ ?_ | refine closed_buf ?_ | refine closed_set_buf ?_ | refine closed_cells ?_ ?_ | refine closed_set ?_ ?_ | refine closed_del ?_ | exact AHeap.Le.refl _ | refine AHeap.Le.push ?_ _ | refine AHeap.Le.del ?_ ?_ | (simp only [bt, and_true, true_and, digs_zero, Int.natAbs_zero, Nat.mul_zero]; first | done | omega | (simp; done)))))
        have hnj : n * j < 2 ^ 133 := by
          have : n * j ≤ n * 16 := Nat.mul_le_mul_left n (by omega)
          omega
        have hsj : small ((n * j : Nat) : Int) := small_of 60 (by rw [Int.natAbs_natCast]; omega) (by decide)
        have hsn : small (n : Int) := small_of 60 (by rw [Int.natAbs_natCast]; omega) (by decide)
        simp only [go_sem, reduceCtorEq, Nat.reduceEqDiff, Nat.reduceAdd, Nat.reduceMul, Nat.reduceSub, Nat.reduceLeDiff, Nat.reduceLT, Int.reduceMul, Int.reduceAdd, Int.reduceSub, Int.reduceToNat, byq]
        refine cond_split (fun h4 => ?_) (fun h4 => ?_)
        · have h4' : j < 10 := by simp at h4; omega
          have ej : IntKind.i64.wrap ((j : Int) + 1) = ((j + 1 : Nat) : Int) := by rw [wrap_i64] <;> omega
          have en : ((n * j : Nat) : Int) + (n : Int) = ((n * (j + 1) : Nat) : Int) := by rw [Nat.mul_add]; omega
          simp only [go_sem, reduceCtorEq, Nat.reduceEqDiff, Nat.reduceAdd, Nat.reduceMul, Nat.reduceSub, Nat.reduceLeDiff, Nat.reduceLT, Int.reduceMul, Int.reduceAdd, Int.reduceSub, Int.reduceToNat, byq, p_rAdd]
          refine ⟨((n * j : Nat) : Int), (n : Int), ⟨rfl, rfl, hsj, hsn⟩, ?_⟩
          simp only [go_sem, reduceCtorEq, Nat.reduceEqDiff, Nat.reduceAdd, Nat.reduceMul, Nat.reduceSub, Nat.reduceLeDiff, Nat.reduceLT, Int.reduceMul, Int.reduceAdd, Int.reduceSub, Int.reduceToNat, byq, zAV, en, ej]
          refine ⟨j + 1, by omega, by omega, ?_⟩
          (simp only [bkq, enterW, subW, ltF, ne_eq, Nat.reduceEqDiff, reduceCtorEq]; try simp (disch := first | assumption | omega | (simp; done) | (simp; omega) | (simp only [bt, and_true]; first | done | omega | (simp; done))) [↓zlf, beq, ybc, ybd, ybe, endOk, wk, wk2, wk1, wkM, wkL, wkLL, ybf, byq, biq, isDs_ints, hcl]; try (repeat' (first | assumption | omega | exact True.intro | refine And.intro ?_ ?_ | refine closed_buf ?_ | refine closed_set_buf ?_ | refine closed_cells ?_ ?_ | refine closed_set ?_ ?_ | refine closed_del ?_ | exact AHeap.Le.refl _ | refine AHeap.Le.push ?_ _ | refine AHeap.Le.del ?_ ?_ | (simp only [bt, and_true, true_and]; first | done | omega | (simp; done)))))
        · have h4' : j = 10 := by simp at h4; omega
          subst h4'
          have en : ((n * 10 : Nat) : Int) + ((dg c : Nat) : Int) = ((n * 10 + dg c : Nat) : Int) := by omega
          have hsd : small ((dg c : Nat) : Int) := small_of 10 (by rw [Int.natAbs_natCast]; omega) (by decide)
          have hsf : small ((n * 10 + dg c : Nat) : Int) := small_of 60 (by rw [Int.natAbs_natCast]; omega) (by decide)
          obtain ⟨z, hz2⟩ : ∃ z : Int, z = ((n * 10 + dg c : Nat) : Int) := ⟨_, rfl⟩
          rw [← hz2] at en hsf
          obtain ⟨y, hy⟩ : ∃ y : Int, y = ((dg c : Nat) : Int) := ⟨_, rfl⟩
          simp only [go_sem, reduceCtorEq, Nat.reduceEqDiff, Nat.reduceAdd, Nat.reduceMul, Nat.reduceSub, Nat.reduceLeDiff, Nat.reduceLT, Int.reduceMul, Int.reduceAdd, Int.reduceSub, Int.reduceToNat, byq, p_rAdd, p_rDigit, p_rOf, hg]
          refine ⟨by omega, c, rfl, ?_⟩
          simp only [go_sem, reduceCtorEq, Nat.reduceEqDiff, Nat.reduceAdd, Nat.reduceMul, Nat.reduceSub, Nat.reduceLeDiff, Nat.reduceLT, Int.reduceMul, Int.reduceAdd, Int.reduceSub, Int.reduceToNat, byq, p_rOf, p_rAdd]
          refine ⟨by omega, ((n * 10 : Nat) : Int), ((dg c : Nat) : Int), ⟨rfl, rfl, hsj, hsd⟩, ?_⟩
          refine fits_split (a := n * 10 + dg c) (b := 2 ^ 128) (fun hf => ?_) (fun hf => ?_)
          · rw [if_pos hf] at hl2
            have hft : decide (0 ≤ z ∧ z < 2 ^ 128) = true := decide_eq_true (by omega)
            simp only [go_sem, reduceCtorEq, Nat.reduceEqDiff, Nat.reduceAdd, Nat.reduceMul, Nat.reduceSub, Nat.reduceLeDiff, Nat.reduceLT, Int.reduceMul, Int.reduceAdd, Int.reduceSub, Int.reduceToNat, byq, zAV, en, p_rFits]
            refine ⟨z, ⟨rfl, hsf⟩, ?_⟩
            simp only [go_sem, reduceCtorEq, Nat.reduceEqDiff, Nat.reduceAdd, Nat.reduceMul, Nat.reduceSub, Nat.reduceLeDiff, Nat.reduceLT, Int.reduceMul, Int.reduceAdd, Int.reduceSub, Int.reduceToNat, byq, zau, hft, e5]
            refine ⟨(k + 1, n * 10 + dg c), ⟨by omega, hf, hl2⟩, by omega, ?_⟩
            (simp only [bkq, enterW, subW, ltF, ne_eq, Nat.reduceEqDiff, reduceCtorEq, hz2]; try simp (disch := first | assumption | omega | (simp; done) | (simp; omega) | (simp only [bt, and_true]; first | done | omega | (simp; done))) [↓zlf, beq, ybc, ybd, ybe, endOk, wk, wk2, wk1, wkM, wkL, wkLL, ybf, byq, biq, isDs_ints, hcl, hz2]; try (repeat' (first | assumption | omega | exact True.intro | refine And.intro ?_ ?_ | refine closed_buf ?_ | refine closed_set_buf ?_ | refine closed_cells ?_ ?_ | refine closed_set ?_ ?_ | refine closed_del ?_ | exact AHeap.Le.refl _ | refine AHeap.Le.push ?_ _ | refine AHeap.Le.del ?_ ?_ | (simp only [bt, and_true, true_and, hz2]; first | done | omega | (simp; done)))))
          · rw [if_neg (Nat.not_lt.2 hf)] at hl2
            have hft : decide (0 ≤ z ∧ z < 2 ^ 128) = false := decide_eq_false (by omega)
            simp only [go_sem, reduceCtorEq, Nat.reduceEqDiff, Nat.reduceAdd, Nat.reduceMul, Nat.reduceSub, Nat.reduceLeDiff, Nat.reduceLT, Int.reduceMul, Int.reduceAdd, Int.reduceSub, Int.reduceToNat, byq, zAV, en, p_rFits]
            refine ⟨z, ⟨rfl, hsf⟩, ?_⟩
            simp only [go_sem, reduceCtorEq, Nat.reduceEqDiff, Nat.reduceAdd, Nat.reduceMul, Nat.reduceSub, Nat.reduceLeDiff, Nat.reduceLT, Int.reduceMul, Int.reduceAdd, Int.reduceSub, Int.reduceToNat, byq, zat, hft, p_rOf, zAV_0, hl2, if_neg hbn, zLit]
            refine ⟨by omega, ?_⟩
            simp (disch := first | assumption | omega | (simp; done) | (simp; omega) | (simp only [bt, and_true]; first | done | omega | (simp; done))) [↓zlf, beq, ybc, ybd, ybe, endOk, wk, wk2, wk1, wkM, wkL, wkLL, ybf, hcl]
    · have h2' : k = b.length := by simp at h2; omega
      subst h2'
      rw [List.drop_length] at hl2
      simp only [litB] at hl2
      simp only [go_sem, reduceCtorEq, Nat.reduceEqDiff, Nat.reduceAdd, Nat.reduceMul, Nat.reduceSub, Nat.reduceLeDiff, Nat.reduceLT, Int.reduceMul, Int.reduceAdd, Int.reduceSub, Int.reduceToNat, byq]
      by_cases hbn : b = []
      · subst hbn
        have hn0 : n = 0 := by simp only [litB] at hl2; exact (Option.some.inj hl2).symm
        subst hn0
        have hb0 : (([] : List UInt8) == []) = true := rfl
        simp only [go_sem, reduceCtorEq, Nat.reduceEqDiff, Nat.reduceAdd, Nat.reduceMul, Nat.reduceSub, Nat.reduceLeDiff, Nat.reduceLT, Int.reduceMul, Int.reduceAdd, Int.reduceSub, Int.reduceToNat, byq, if_pos, zLit, zAV_0, hb0]
        simp (disch := first | assumption | omega | (simp; done) | (simp; omega) | (simp only [bt, and_true]; first | done | omega | (simp; done))) [↓zlf, beq, ybc, ybd, ybe, endOk, wk, wk2, wk1, wkM, wkL, wkLL, ybf, hcl, digs_zero, ints_nil]
      · have hb0 : (b == []) = false := by simp [hbn]
        simp only [go_sem, reduceCtorEq, Nat.reduceEqDiff, Nat.reduceAdd, Nat.reduceMul, Nat.reduceSub, Nat.reduceLeDiff, Nat.reduceLT, Int.reduceMul, Int.reduceAdd, Int.reduceSub, Int.reduceToNat, byq, if_neg hbn, zLit, hl2, zAV, hb0]
        simp (disch := first | assumption | omega | (simp; done) | (simp; omega) | (simp only [bt, and_true]; first | done | omega | (simp; done))) [↓zlf, beq, ybc, ybd, ybe, endOk, wk, wk2, wk1, wkM, wkL, wkLL, ybf, hcl]
end Go.AL

