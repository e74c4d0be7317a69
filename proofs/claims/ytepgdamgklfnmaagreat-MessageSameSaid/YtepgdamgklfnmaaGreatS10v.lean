/- Contracts and plain laws, a part of the proof; no condition of its own. -/
import Derived.Test.YtepgdamgklfnmaaGreatCG
import Derived.Test.YtepgdamgklfnmaaGreatS10z
import Derived.Test.YtepgdamgklfnmaaGreatLEntB
open Go Go.AL Go.Proofs
namespace Go.AL
set_option linter.all false
set_option maxRecDepth 10000

/-- two operands -/
def p2V (f : Nat → Nat → AV) : List AV → AHeap → (AV → Prop) → Prop
  | [.agg [.int .u64 a, .int .u64 b], .agg [.int .u64 c, .int .u64 d]], _, K => (isV a b ∧ isV c d) ∧ K (f (vOf a.toNat b.toNat) (vOf c.toNat d.toNat))
  | _, _, _ => False
theorem teq_valV {a b c d : Int} : teq Tryz.prog 9 24 (.agg [.int .u64 a, .int .u64 b]) (.agg [.int .u64 c, .int .u64 d]) = some ((a == c) && ((b == d) && true)) := by
  have g2 : Tryz.prog.stoodInHeld 24 = false := by kernel_rfl
  simp [ti_zvalue, teq, teq.go, teq.part, ti_zu64, ceq, g2, TD.agg]
theorem eqg_valV : Tryz.prog.eqGuardType Tryz.prog.depth 24 = false := by kernel_rfl
theorem b_same (b : Bool) : ((b == b) != true) = false := by cases b <;> rfl
theorem b_tf : ((true == false) != true) = true := rfl
theorem b_ft : ((false == true) != true) = true := rfl
def p_rCompare := p2V fun x y => .int .i64 (cmpN x y)
set_option maxHeartbeats 2000000 in
theorem ok_rCompare : EntOk Tryz.prog 156 (Ent.pure p_rCompare) := by
  unfold p_rCompare
  refine EntOk.pure fun args H K h => ?_
  unfold p2V at h
  split at h
  rotate_left
  · exact h.elim
  rename_i a b c d
  obtain ⟨⟨⟨h0, h1, h2, h3⟩, k0, k1, k2, k3⟩, hK⟩ := h
  refine ⟨_, hK, ?_⟩
  obtain ⟨x, rfl⟩ := u64_lift h0
  obtain ⟨y, rfl⟩ := u64_lift h2
  obtain ⟨z, rfl⟩ := u64_lift k0
  obtain ⟨w, rfl⟩ := u64_lift k2
  clear hK h0 h2 k0 k2
  simp only [Int.toNat_natCast]
  have hv := vOf_lt (hi := x) (lo := y) (by omega) (by omega)
  have hu := vOf_lt (hi := z) (lo := w) (by omega) (by omega)
  refine ACalls.of_aw (Ω := [(140, Ent.pure p_rRead)]) (T := assoc [(1, [[], [0], [], [0, 1, 2], [], [], [0, 1, 2, 3, 4, 5], [0, 1, 2, 3, 4, 5]]), (801, [[4, 210], [5, 210]])]) mixed (TblOk.cons ok_rRead TblOk.nil) Tryz.func156 (by kernel_rfl) (by rfl) (rs := [.tmp 4]) (by rfl) (by kernel_rfl) (by simp only [Tryz.ntmps156, List.length_cons, List.length_nil]; decide) (Nat.le_refl _) fun hcl hlt => ?_
  change aw _ _ _ (KI Tryz.prog [(140, Ent.pure p_rRead)] (aEnd Tryz.prog [.tmp 4] H.nx _ _ (assoc [(1, [[], [0], [], [0, 1, 2], [], [], [0, 1, 2, 3, 4, 5], [0, 1, 2, 3, 4, 5]]), (801, [[4, 210], [5, 210]])])) []) _ _
  clear hlt
  generalize hvo : vOf x y = v at *
  generalize huo : vOf z w = u at *
  have es : ∀ t, splice (List.replicate 128 (.bool false)) 0 (bits t) = bits t := fun t => replicate_splice (y := .junk) (bits_len t)
  have tv : ∀ t j, t < 2 ^ 128 → 128 ≤ j → t.testBit j = false := fun t j ht hj => Nat.testBit_lt_two_pow (Nat.lt_of_lt_of_le ht (Nat.pow_le_pow_right (by decide) hj))
  simp only [go_sem, reduceCtorEq, Nat.reduceEqDiff, Nat.reduceAdd, Nat.reduceMul, Nat.reduceSub, Nat.reduceLeDiff, Nat.reduceLT, Int.reduceMul, Int.reduceAdd, Int.reduceSub, Int.reduceToNat, p_rRead, isV, Int.toNat_natCast, hvo, huo, bits_len, allOne_bits, es]
  (repeat with_reducible refine And.intro (by first | exact True.intro | decide | omega | (simp [zib, zge, zgf, zgg, zgi, zgh, zgm]; first | done | omega)) ?_)
  refine loop_intro (A := Nat) (fun k => [(7, .int .i64 ((k : Int) - 1)), (6, .ptr (H.nx + 1 + 1 + 1) 0), (5, .ptr (H.nx + 1 + 1) 0)])
    (fun k => (((H.push (.cells [.int .u64 (x : Int), .int .u64 (y : Int)])).push (.cells [.int .u64 (z : Int), .int .u64 (w : Int)])).push (.cells (bits v))).push (.cells (bits u))) (fun k => k ≤ 128 ∧ ∀ j, k ≤ j → v.testBit j = u.testBit j) (fun k => k) 128 ⟨by omega, fun j hj => by rw [tv v j hv hj, tv u j hu hj]⟩ ?_ fun k hk => ?_
  · simp only [bnq, enter, subF, ltF, ne_eq, Nat.reduceEqDiff, reduceCtorEq, true_or, and_true]
    all_goals rfl
  obtain ⟨hk, hz⟩ := hk
  simp only [go_sem, reduceCtorEq, Nat.reduceEqDiff, Nat.reduceAdd, Nat.reduceMul, Nat.reduceSub, Nat.reduceLeDiff, Nat.reduceLT, Int.reduceMul, Int.reduceAdd, Int.reduceSub, Int.reduceToNat]
  refine cond_split (fun hc => ?_) (fun hc => ?_)
  · have hk0 : 1 ≤ k := by simp at hc; omega
    obtain ⟨j, rfl⟩ : ∃ j, k = j + 1 := ⟨k - 1, by omega⟩
    have e0 : ((j + 1 : Nat) : Int) - 1 = (j : Int) := by omega
    have e1 : IntKind.i64.wrap ((j : Int) - 1) = (j : Int) - 1 := by rw [wrap_i64] <;> omega
    have g1 := bits_get v j (by omega)
    have g2 := bits_get u j (by omega)
    by_cases hj : v.testBit j = u.testBit j
    · simp only [go_sem, reduceCtorEq, Nat.reduceEqDiff, Nat.reduceAdd, Nat.reduceMul, Nat.reduceSub, Nat.reduceLeDiff, Nat.reduceLT, Int.reduceMul, Int.reduceAdd, Int.reduceSub, Int.reduceToNat, Int.toNat_natCast, bits_len, e0, e1, Nat.mul_one, Nat.zero_add, g1, g2, hj, b_same]
      (repeat with_reducible refine And.intro (by first | exact True.intro | decide | omega | (simp [zib, zge, zgf, zgg, zgi, zgh, zgm]; first | done | omega)) ?_)
      refine ⟨j, ⟨by omega, fun i hi => ?_⟩, by omega, ?_⟩
      · by_cases h : i = j
        · subst h; exact hj
        · exact hz i (by omega)
      · simp only [bnq, enter, subF, ltF, ne_eq, Nat.reduceEqDiff, reduceCtorEq, true_or, and_self]
    · have hz' : ∀ i, j < i → v.testBit i = u.testBit i := fun i hi => hz i (by omega)
      cases hb : u.testBit j
      · have hb0 : v.testBit j = true := by
          rw [hb] at hj; simpa using hj
        have hlt : u < v := top_lt hb hb0 fun i hi => (hz' i hi).symm
        have ec : cmpN v u = 1 := by unfold cmpN; rw [if_neg (by omega), if_neg (by omega)]
        rw [hb] at g2; rw [hb0] at g1
        simp only [go_sem, reduceCtorEq, Nat.reduceEqDiff, Nat.reduceAdd, Nat.reduceMul, Nat.reduceSub, Nat.reduceLeDiff, Nat.reduceLT, Int.reduceMul, Int.reduceAdd, Int.reduceSub, Int.reduceToNat, Int.toNat_natCast, bits_len, e0, e1, Nat.mul_one, Nat.zero_add, g1, g2, ec, b_tf]
        (repeat with_reducible refine And.intro (by first | exact True.intro | decide | omega | (simp [zib, zge, zgf, zgg, zgi, zgh, zgm]; first | done | omega)) ?_)
        simp (disch := first | assumption | omega | (simp; done) | (simp; omega) | (simp only [bt, and_true]; first | done | omega | (simp; done))) [↓zlw, beq, List.take_of_length_le, List.drop_append, List.take_append, endOk, wk, wk2, wk1, wkM, wkL, wkLL, List.drop_eq_nil_of_le, hcl]
      · have hb0 : v.testBit j = false := by
          rw [hb] at hj; simpa using hj
        have hlt : v < u := top_lt hb0 hb fun i hi => (hz' i hi)
        have ec : cmpN v u = -1 := by unfold cmpN; rw [if_neg (by omega), if_pos (by omega)]
        rw [hb] at g2; rw [hb0] at g1
        simp only [go_sem, reduceCtorEq, Nat.reduceEqDiff, Nat.reduceAdd, Nat.reduceMul, Nat.reduceSub, Nat.reduceLeDiff, Nat.reduceLT, Int.reduceMul, Int.reduceAdd, Int.reduceSub, Int.reduceToNat, Int.toNat_natCast, bits_len, e0, e1, Nat.mul_one, Nat.zero_add, g1, g2, ec, b_ft]
        (repeat with_reducible refine And.intro (by first | exact True.intro | decide | omega | (simp [zib, zge, zgf, zgg, zgi, zgh, zgm]; first | done | omega)) ?_)
        simp (disch := first | assumption | omega | (simp; done) | (simp; omega) | (simp only [bt, and_true]; first | done | omega | (simp; done))) [↓zlw, beq, List.take_of_length_le, List.drop_append, List.take_append, endOk, wk, wk2, wk1, wkM, wkL, wkLL, List.drop_eq_nil_of_le, hcl]
  · have hk0 : k = 0 := by simp at hc; omega
    subst hk0
    have : v = u := Nat.eq_of_testBit_eq fun j => hz j (by omega)
    subst this
    have ec : cmpN v v = 0 := by unfold cmpN; rw [if_pos rfl]
    simp only [go_sem, reduceCtorEq, Nat.reduceEqDiff, Nat.reduceAdd, Nat.reduceMul, Nat.reduceSub, Nat.reduceLeDiff, Nat.reduceLT, Int.reduceMul, Int.reduceAdd, Int.reduceSub, Int.reduceToNat, ec]
    simp (disch := first | assumption | omega | (simp; done) | (simp; omega) | (simp only [bt, and_true]; first | done | omega | (simp; done))) [↓zlw, beq, List.take_of_length_le, List.drop_append, List.take_append, endOk, wk, wk2, wk1, wkM, wkL, wkLL, List.drop_eq_nil_of_le, hcl]
end Go.AL

