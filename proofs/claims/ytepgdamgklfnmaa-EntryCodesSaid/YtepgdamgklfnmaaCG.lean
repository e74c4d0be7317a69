/- Contracts and plain laws, a part of the proof; no condition of its own. -/
import Derived.Test.YtepgdamgklfnmaaCF
open Go Go.AL Go.Proofs
namespace Go.AL
set_option linter.all false
set_option maxRecDepth 10000
theorem ti_rreader : ti Try.prog 60 = some ⟨.struct [(0, 22, false), (1, 58, false)], 2, 32, .agg [.slice .nil 1 [], .int .i64 0]⟩ := by kernel_rfl
theorem ti_prreader : ti Try.prog 57 = some ⟨.ptr 60, 1, 8, .nilp⟩ := by kernel_rfl
attribute [go_sem] ti_rreader ti_prreader

def p_rParse : List AV → AHeap → (AV → Prop) → Prop
  | [.slice _ 1 l], _, K => (isB l ∧ l.length ≤ 140737488355328) ∧ K (.tup [vv (parseV (unb l)).1, .int .i64 (parseV (unb l)).2])
  | _, _, _ => False
theorem ok_rParse : EntOk Try.prog 91 (Ent.pure p_rParse) := by
  refine EntOk.pure fun args H K h => ?_
  unfold p_rParse at h
  split at h
  rotate_left
  · exact h.elim
  rename_i m l
  obtain ⟨⟨c1, hle⟩, hK⟩ := h
  refine ⟨_, hK, ?_⟩
  obtain ⟨xs, rfl⟩ := isB_out c1
  clear hK
  simp only [zlf, zkq] at *
  have v0 : vv 0 = .agg [.int .u64 0, .int .u64 0] := rfl
  by_cases h1 : xs.length = 0
  · rw [show parseV xs = (0, 1) by simp [parseV, h1]]
    dsimp only
    have d1 : ((xs.length : Int) == 0) = true := by simp [h1]
    refine ACalls.of_aw (Ω := [(69, Ent.pure p_rMakeF)]) (T := assoc []) mixed (TblOk.cons ok_rMakeF TblOk.nil) Try.func91 (by kernel_rfl) (by rfl) (rs := [.cell 2 29,.tmp 3]) (by rfl) (by kernel_rfl) (by simp only [Try.ntmps91, List.length_cons, List.length_nil]; decide) (Nat.le_refl _) fun hcl hlt => ?_
    change aw _ _ _ (KI Try.prog [(69, Ent.pure p_rMakeF)] (aEnd Try.prog [.cell 2 29,.tmp 3] H.nx _ _) []) _ _
    clear hlt
    simp only [go_sem, zav, reduceCtorEq, Nat.reduceEqDiff, Nat.reduceAdd, Nat.reduceMul, Nat.reduceSub, Nat.reduceLeDiff, Nat.reduceLT, Int.reduceMul, Int.reduceAdd, Int.reduceSub, Int.reduceToNat, byq, d1, v0]
    simp (disch := first | assumption | omega | (simp; done) | (simp; omega) | (simp only [bt, and_true]; first | done | omega | (simp; done))) [↓zlu, beq, List.take_of_length_le, List.drop_append, List.take_append, endOk, wk, wk2, wk1, wkM, wkL, wkLL, List.drop_eq_nil_of_le, hcl]
  have d1 : ((xs.length : Int) == 0) = false := by simp; intro e; exact h1 (by rw [e]; rfl)
  by_cases h2 : 16 < xs.length
  · rw [show parseV xs = (0, 3) by simp [parseV, h1, h2]]
    dsimp only
    have d2 : decide ((xs.length : Int) > 16) = true := by simp; omega
    refine ACalls.of_aw (Ω := [(69, Ent.pure p_rMakeF)]) (T := assoc []) mixed (TblOk.cons ok_rMakeF TblOk.nil) Try.func91 (by kernel_rfl) (by rfl) (rs := [.cell 2 29,.tmp 3]) (by rfl) (by kernel_rfl) (by simp only [Try.ntmps91, List.length_cons, List.length_nil]; decide) (Nat.le_refl _) fun hcl hlt => ?_
    change aw _ _ _ (KI Try.prog [(69, Ent.pure p_rMakeF)] (aEnd Try.prog [.cell 2 29,.tmp 3] H.nx _ _) []) _ _
    clear hlt
    simp only [go_sem, zav, reduceCtorEq, Nat.reduceEqDiff, Nat.reduceAdd, Nat.reduceMul, Nat.reduceSub, Nat.reduceLeDiff, Nat.reduceLT, Int.reduceMul, Int.reduceAdd, Int.reduceSub, Int.reduceToNat, byq, d1, d2, v0]
    simp (disch := first | assumption | omega | (simp; done) | (simp; omega) | (simp only [bt, and_true]; first | done | omega | (simp; done))) [↓zlu, beq, List.take_of_length_le, List.drop_append, List.take_append, endOk, wk, wk2, wk1, wkM, wkL, wkLL, List.drop_eq_nil_of_le, hcl]
  have d2 : decide ((xs.length : Int) > 16) = false := by simp; omega
  have dg : (bys xs).getD 0 .junk = ofByte (b0 xs) := b0_get' xs (by omega)
  by_cases h3 : 1 < xs.length ∧ (b0 xs).toNat = 0
  · rw [show parseV xs = (0, 5) by simp [parseV, h1, h2, h3]]
    dsimp only
    have d3 : decide ((xs.length : Int) > 1) = true := by simp; omega
    have d4 : (((b0 xs).toNat : Int) == 0) = true := by simp [h3.2]
    refine ACalls.of_aw (Ω := [(69, Ent.pure p_rMakeF)]) (T := assoc []) mixed (TblOk.cons ok_rMakeF TblOk.nil) Try.func91 (by kernel_rfl) (by rfl) (rs := [.cell 2 29,.tmp 3]) (by rfl) (by kernel_rfl) (by simp only [Try.ntmps91, List.length_cons, List.length_nil]; decide) (Nat.le_refl _) fun hcl hlt => ?_
    change aw _ _ _ (KI Try.prog [(69, Ent.pure p_rMakeF)] (aEnd Try.prog [.cell 2 29,.tmp 3] H.nx _ _) []) _ _
    clear hlt
    simp only [go_sem, zav, reduceCtorEq, Nat.reduceEqDiff, Nat.reduceAdd, Nat.reduceMul, Nat.reduceSub, Nat.reduceLeDiff, Nat.reduceLT, Int.reduceMul, Int.reduceAdd, Int.reduceSub, Int.reduceToNat, byq, d1, d2, d3, dg, ofByte, d4, v0]
    refine ⟨by omega, ?_⟩
    simp (disch := first | assumption | omega | (simp; done) | (simp; omega) | (simp only [bt, and_true]; first | done | omega | (simp; done))) [↓zlu, beq, List.take_of_length_le, List.drop_append, List.take_append, endOk, wk, wk2, wk1, wkM, wkL, wkLL, List.drop_eq_nil_of_le, hcl]
  rw [show parseV xs = (beVal xs, 0) by simp only [parseV]; rw [if_neg h1, if_neg h2, if_neg h3]]
  dsimp only
  have hv : beVal xs < 2 ^ 128 := by
    have := beVal_take_lt xs xs.length 16 (by omega)
    rw [List.take_length] at this
    omega
  have hbit := beVal_bit xs
  have hz : ∀ j, 8 * xs.length ≤ j → (beVal xs).testBit j = false := fun j hj => by
    refine Nat.testBit_lt_two_pow (Nat.lt_of_lt_of_le (beVal_lt xs) ?_)
    rw [show (256 : Nat) = 2 ^ 8 from rfl, ← Nat.pow_mul]
    exact Nat.pow_le_pow_right (by decide) hj
  generalize hvv : beVal xs = v at *
  have hcase : (decide ((xs.length : Int) > 1) = true ∧ (((b0 xs).toNat : Int) == 0) = false) ∨ (decide ((xs.length : Int) > 1) = false ∧ True) := by
    by_cases h4 : 1 < xs.length
    · refine .inl ⟨by simp; omega, ?_⟩
      have : (b0 xs).toNat ≠ 0 := fun e => h3 ⟨h4, e⟩
      simp; omega
    · exact .inr ⟨by simp; omega, trivial⟩
  have v1 : vv v = .agg [.int .u64 ((v / 2 ^ 64 : Nat) : Int), .int .u64 ((v % 2 ^ 64 : Nat) : Int)] := rfl
  refine ACalls.of_aw (Ω := [(69, Ent.pure p_rMakeF)]) (T := assoc []) mixed (TblOk.cons ok_rMakeF TblOk.nil) Try.func91 (by kernel_rfl) (by rfl) (rs := [.cell 2 29,.tmp 3]) (by rfl) (by kernel_rfl) (by simp only [Try.ntmps91, List.length_cons, List.length_nil]; decide) (Nat.le_refl _) fun hcl hlt => ?_
  change aw _ _ _ (KI Try.prog [(69, Ent.pure p_rMakeF)] (aEnd Try.prog [.cell 2 29,.tmp 3] H.nx _ _) []) _ _
  clear hlt
  rcases hcase with ⟨d3, d4⟩ | ⟨d3, d4⟩
  all_goals simp only [go_sem, reduceCtorEq, Nat.reduceEqDiff, Nat.reduceAdd, Nat.reduceMul, Nat.reduceSub, Nat.reduceLeDiff, Nat.reduceLT, Int.reduceMul, Int.reduceAdd, Int.reduceSub, Int.reduceToNat, byq, d1, d2, d3, dg, ofByte, d4]
  all_goals try refine ⟨by omega, ?_⟩
  all_goals
   refine loop_intro (A := Nat) (fun k => [(31, .int .i64 (k : Int)), (30, .int .i64 (xs.length : Int)), (29, .slice m 1 (bys xs)), (4, .ptr (H.nx + 1) 0), (2, .ptr H.nx 0), (0, .slice m 1 (bys xs))])
    (fun k => (H.push (.cells [.int .u64 0, .int .u64 0])).push (.cells (bitsIf v fun j => decide (8 * (xs.length - k) ≤ j)))) (fun k => k ≤ xs.length) (fun k => xs.length - k) 0 (by omega) ?_ fun k hk => ?_
  iterate 2
    · have e0 : (bitsIf v fun j => decide (8 * (xs.length - 0) ≤ j)) = List.replicate 128 (.bool false) := by
        unfold bitsIf
        rw [List.eq_replicate_iff]
        refine ⟨by simp, fun b hb => ?_⟩
        obtain ⟨j, _, rfl⟩ := List.mem_map.1 hb
        by_cases hj : 8 * (xs.length - 0) ≤ j
        · rw [hz j (by omega), Bool.and_false]
        · simp [hj]; intro h; omega
      simp only [bnq, enter, subF, ltF, ne_eq, Nat.reduceEqDiff, reduceCtorEq, e0, true_or, and_true]
      all_goals first | rfl | exact .inl rfl
    simp only [go_sem, reduceCtorEq, Nat.reduceEqDiff, Nat.reduceAdd, Nat.reduceMul, Nat.reduceSub, Nat.reduceLeDiff, Nat.reduceLT, Int.reduceMul, Int.reduceAdd, Int.reduceSub, Int.reduceToNat, byq]
    refine cond_split (fun hc => ?_) (fun hc => ?_)
    · have hk : k < xs.length := by simp at hc; omega
      have e1 : IntKind.i64.wrap ((k : Int) + 1) = ((k + 1 : Nat) : Int) := by rw [wrap_i64] <;> omega
      have hx : (bys xs).getD k .junk = ofByte (xs.getD k 0) := bys_get hk
      have hxl := UInt8.toNat_lt (xs.getD k 0)
      simp only [go_sem, reduceCtorEq, Nat.reduceEqDiff, Nat.reduceAdd, Nat.reduceMul, Nat.reduceSub, Nat.reduceLeDiff, Nat.reduceLT, Int.reduceMul, Int.reduceAdd, Int.reduceSub, Int.reduceToNat, byq, Int.toNat_natCast, hx, e1, zkq, ofByte]
      refine ⟨by omega, ?_⟩
      refine loop_intro (A := Nat) (fun i => [(7, .int .i64 (i : Int)), (6, .int .u8 ((xs.getD k 0).toNat : Nat)), (5, .int .i64 (k : Int)), (31, .int .i64 (k : Int)), (30, .int .i64 (xs.length : Int)), (29, .slice m 1 (bys xs)), (4, .ptr (H.nx + 1) 0), (2, .ptr H.nx 0), (0, .slice m 1 (bys xs))])
        (fun i => (H.push (.cells [.int .u64 0, .int .u64 0])).push (.cells (bitsIf v fun j => decide (8 * (xs.length - k) ≤ j) || (decide (8 * (xs.length - 1 - k) ≤ j) && decide (j < 8 * (xs.length - 1 - k) + i))))) (fun i => i ≤ 8) (fun i => 8 - i) 0 (by omega) ?_ fun i hi => ?_
      · have e0 : (bitsIf v fun j => decide (8 * (xs.length - k) ≤ j) || (decide (8 * (xs.length - 1 - k) ≤ j) && decide (j < 8 * (xs.length - 1 - k) + 0))) = bitsIf v fun j => decide (8 * (xs.length - k) ≤ j) := by
          unfold bitsIf
          refine List.map_congr_left fun j _ => ?_
          congr 2
          rw [Bool.eq_iff_iff]; simp; omega
        simp only [bnq, enter, subF, ltF, ne_eq, Nat.reduceEqDiff, reduceCtorEq, e0, true_or, and_true]
      simp only [go_sem, reduceCtorEq, Nat.reduceEqDiff, Nat.reduceAdd, Nat.reduceMul, Nat.reduceSub, Nat.reduceLeDiff, Nat.reduceLT, Int.reduceMul, Int.reduceAdd, Int.reduceSub, Int.reduceToNat, byq]
      refine cond_split (fun hc2 => ?_) (fun hc2 => ?_)
      · have hi : i < 8 := by simp at hc2; omega
        have w1 : IntKind.i64.wrap ((xs.length : Int) - 1) = ((xs.length - 1 : Nat) : Int) := by rw [wrap_i64] <;> omega
        have w2 : IntKind.i64.wrap (((xs.length - 1 : Nat) : Int) - (k : Int)) = ((xs.length - 1 - k : Nat) : Int) := by rw [wrap_i64] <;> omega
        have w3 : IntKind.i64.wrap (8 * ((xs.length - 1 - k : Nat) : Int)) = ((8 * (xs.length - 1 - k) : Nat) : Int) := by rw [wrap_i64] <;> omega
        have w4 : IntKind.i64.wrap (((8 * (xs.length - 1 - k) : Nat) : Int) + (i : Int)) = ((8 * (xs.length - 1 - k) + i : Nat) : Int) := by rw [wrap_i64] <;> omega
        have w5 : IntKind.u64.wrap (i : Int) = (i : Int) := by rw [wrap_u64] <;> omega
        have w6 : IntKind.i64.wrap ((i : Int) + 1) = ((i + 1 : Nat) : Int) := by rw [wrap_i64] <;> omega
        have w7 := ishr_u8 (xs.getD k 0).toNat i hxl hi
        have w8 := iand_u8_one ((xs.getD k 0).toNat >>> i) (Nat.lt_of_le_of_lt (Nat.shiftRight_le _ _) hxl)
        have w9 := bit_one (xs.getD k 0).toNat i
        rw [← hbit k i hk hi] at w9
        have hst : (bitsIf v fun j => decide (8 * (xs.length - k) ≤ j) || (decide (8 * (xs.length - 1 - k) ≤ j) && decide (j < 8 * (xs.length - 1 - k) + i))).set (8 * (xs.length - 1 - k) + i) (.bool (v.testBit (8 * (xs.length - 1 - k) + i))) = bitsIf v fun j => decide (8 * (xs.length - k) ≤ j) || (decide (8 * (xs.length - 1 - k) ≤ j) && decide (j < 8 * (xs.length - 1 - k) + (i + 1))) := by
          rw [bitsIf_set v _ (fun j => decide (8 * (xs.length - k) ≤ j) || (decide (8 * (xs.length - 1 - k) ≤ j) && decide (j < 8 * (xs.length - 1 - k) + (i + 1)))) _ (fun j hj => by rw [Bool.eq_iff_iff]; simp; omega) (by simp)]
        simp only [go_sem, reduceCtorEq, Nat.reduceEqDiff, Nat.reduceAdd, Nat.reduceMul, Nat.reduceSub, Nat.reduceLeDiff, Nat.reduceLT, Int.reduceMul, Int.reduceAdd, Int.reduceSub, Int.reduceToNat, byq, Int.toNat_natCast, zkq, w1, w2, w3, w4, w5, w6, w7, w8, w9, Nat.zero_add, Nat.mul_one, bitsIf_len, splice_one, hst]
        refine ⟨by omega, by omega, by omega, i + 1, by omega, by omega, ?_⟩
        simp only [bnq, enter, subF, ltF, ne_eq, Nat.reduceEqDiff, reduceCtorEq, true_or, and_self]
      · have hi : i = 8 := by simp at hc2; omega
        subst hi
        have e8 : (bitsIf v fun j => decide (8 * (xs.length - k) ≤ j) || (decide (8 * (xs.length - 1 - k) ≤ j) && decide (j < 8 * (xs.length - 1 - k) + 8))) = bitsIf v fun j => decide (8 * (xs.length - (k + 1)) ≤ j) := by
          unfold bitsIf
          refine List.map_congr_left fun j _ => ?_
          congr 2
          rw [Bool.eq_iff_iff]; simp; omega
        simp only [go_sem, reduceCtorEq, Nat.reduceEqDiff, Nat.reduceAdd, Nat.reduceMul, Nat.reduceSub, Nat.reduceLeDiff, Nat.reduceLT, Int.reduceMul, Int.reduceAdd, Int.reduceSub, Int.reduceToNat, byq, e1, e8]
        refine ⟨k + 1, by omega, by omega, ?_⟩
        simp only [bnq, enter, subF, ltF, ne_eq, Nat.reduceEqDiff, reduceCtorEq, true_or, and_self]
    · have hk : k = xs.length := by simp at hc; omega
      subst hk
      have ea : (bitsIf v fun j => decide (8 * (xs.length - xs.length) ≤ j)) = bits v := bitsIf_all _ _ fun j _ => by simp
      have et : List.take 128 (bits v) = bits v := List.take_of_length_le (by rw [bits_len]; omega)
      simp only [go_sem, reduceCtorEq, Nat.reduceEqDiff, Nat.reduceAdd, Nat.reduceMul, Nat.reduceSub, Nat.reduceLeDiff, Nat.reduceLT, Int.reduceMul, Int.reduceAdd, Int.reduceSub, Int.reduceToNat, byq, ea, bits_len, et, p_rMakeF, isBits_bits hv, unbits_bits hv, v1]
      simp (disch := first | assumption | omega | (simp; done) | (simp; omega) | (simp only [bt, and_true]; first | done | omega | (simp; done))) [↓zlu, beq, List.take_of_length_le, List.drop_append, List.take_append, endOk, wk, wk2, wk1, wkM, wkL, wkLL, List.drop_eq_nil_of_le, hcl]
end Go.AL

