/- Contracts and plain laws, a part of the proof; no condition of its own. -/
import Derived.Test.YtebmlacnaapccaaProg
import Derived.Test.YtebmlacnaapccaaAlByte
import Derived.Test.YtebmlacnaapccaaAlBun
import Derived.Test.YtebmlacnaapccaaLN192
open Go Go.AL Go.Proofs
namespace Go.AL
set_option linter.all false
set_option maxRecDepth 10000
theorem ti_int : ti Try.prog 3 = some ⟨.int .i64, 1, 8, .int .i64 0⟩ := by kernel_rfl
theorem ti_value : ti Try.prog 44 = some ⟨.struct [(0, 24, false), (1, 24, false)], 2, 16, .agg [.int .u64 0, .int .u64 0]⟩ := by kernel_rfl
theorem ti_u64 : ti Try.prog 24 = some ⟨.int .u64, 1, 8, .int .u64 0⟩ := by kernel_rfl
theorem ti_Number : ti Try.prog 27 = some ⟨.struct [(0, 25, false)], 3, 24, .agg [.int .u64 0, .int .u64 0, .int .u64 0]⟩ := by kernel_rfl
theorem ti_words : ti Try.prog 25 = some ⟨.array 3 24, 3, 24, .agg [.int .u64 0, .int .u64 0, .int .u64 0]⟩ := by kernel_rfl
theorem mixed : Try.prog.follows .mixedOrders = true := by kernel_rfl

def p_Add64 : List AV → AHeap → (AV → Prop) → Prop
  | [.int .u64 x, .int .u64 y, .int .u64 c], _, K => (0 ≤ x ∧ 0 ≤ y ∧ 0 ≤ c ∧ c ≤ 1) ∧ K (.tup [.int .u64 ((x + y + c) % 18446744073709551616), .int .u64 ((x + y + c) / 18446744073709551616)])
  | _, _, _ => False
theorem ok_Add64 : EntOk Try.prog 31 (Ent.pure p_Add64) := by
  refine EntOk.pure fun args H K h => ?_
  unfold p_Add64 at h
  split at h
  rotate_left
  · exact h.elim
  obtain ⟨⟨h1, h2, h3, h4⟩, hK⟩ := h
  exact ⟨_, hK, acalls_add64 Try.func31 (by kernel_rfl) (by kernel_rfl) (by kernel_rfl) (by kernel_rfl) h1 h2 h3 h4⟩

def p_NOf : List AV → AHeap → (AV → Prop) → Prop
  | [.int .i64 n], _, K => (-9223372036854775808 ≤ n ∧ n < 9223372036854775808) ∧ K (nAV n)
  | _, _, _ => False
theorem ok_NOf : EntOk Try.prog 13 (Ent.pure p_NOf) := by
  refine EntOk.pure fun args H K h => ?_
  unfold p_NOf at h
  split at h
  rotate_left
  · exact h.elim
  rename_i n
  obtain ⟨⟨h1, h2⟩, hK⟩ := h
  refine ⟨_, hK, ?_⟩
  refine ACalls.of_aw (Ω := []) (T := assoc []) mixed TblOk.nil Try.func13 (by kernel_rfl) (by rfl) (rs := [.cell 2 27]) (by rfl) (by kernel_rfl) (by simp only [Try.ntmps13, List.length_cons, List.length_nil]; decide) (Nat.le_refl _) fun hcl hlt => ?_
  change aw _ _ _ (KI Try.prog [] (aEnd Try.prog [.cell 2 27] H.nx _ _) []) _ _
  clear hlt hK
  have e0 : IntKind.u64.wrap n = w0 n := by
    unfold w0; simp [IntKind.wrap, IntKind.bits, IntKind.signed]
  have es : ishr .i64 n 63 = n / 2 ^ 63 := by
    unfold ishr
    rw [show min (63 : Int).toNat IntKind.i64.bits = 63 from rfl]
    exact Int.fdiv_eq_ediv_of_nonneg _ (by decide)
  have e1 : IntKind.u64.wrap (ishr .i64 n 63) = w1 n := by
    rw [es, (of_w0 n (by omega)).1]; simp [IntKind.wrap, IntKind.bits, IntKind.signed]; split <;> omega
  have e2 : w2 n = w1 n := by rw [(of_w0 n (by omega)).1, (of_w0 n (by omega)).2]
  simp only [↓bwp, bwq, zat, List.tail_nil, List.tail_cons, List.headD_nil, List.headD_cons, ne_eq, reduceCtorEq, Nat.reduceEqDiff, Nat.reduceAdd, Nat.reduceMul, Nat.reduceSub, Nat.reduceLeDiff, Nat.reduceLT, Int.reduceMul, Int.reduceAdd, Int.reduceSub, List.map_cons, List.map_nil, Option.map_some, Option.map_none, Option.elim_some, if_true, if_false, List.append_nil, List.nil_append, bvq, rEq, List.cons_append, Int.reduceToNat, List.getElem?_cons_zero, List.getElem?_cons_succ, TD.agg, List.drop_succ_cons, List.drop_zero, List.take_succ_cons, List.take_zero, List.take_nil, List.drop_nil, List.getD_cons_zero, List.getD_cons_succ, splice, zgu, zgv, Option.isSome_some, Option.isSome_none, List.getElem?_nil, zgw, zgx, rLen, rBin, rInt, rStr, rUn, zgy, zgz, zha, zhb, zhc, rBox, zhd, zhe, zhf, zhg, zhh, zhi, zhj, zhk, zhl, zhm, zhn, zho, zhp, zhq, zhr, zhs, zht, zhu, zhv, bound, addL, addT, grow, room, List.length_cons, List.length_nil, List.length_map, frOf, byq, ti_int, ti_value, ti_u64, ti_Number, ti_words, ↓blp, blq, e0, e1]
  refine ⟨by omega, ?_⟩
  unfold nAV
  rw [e2]
  simp (disch := first | assumption | omega | (simp; done) | (simp; omega) | (simp only [bt, and_true]; first | done | omega | (simp; done))) [↓zkf, beq, List.take_of_length_le, List.drop_append, List.take_append, endOk, wk, wk2, wk1, wkM, wkL, wkLL, List.drop_eq_nil_of_le, hcl]

/-- the words of a sum as far as they are done, and the carry -/
def outk (a b : Int) (k : Nat) : List AV := [.int .u64 (if 0 < k then w0 (a + b) else 0), .int .u64 (if 1 < k then w1 (a + b) else 0), .int .u64 (if 2 < k then w2 (a + b) else 0)]
def cyk (a b : Int) (k : Nat) : Int := match k with
  | 0 => 0
  | 1 => (w0 a + w0 b) / 2 ^ 64
  | 2 => (w1 a + w1 b + (w0 a + w0 b) / 2 ^ 64) / 2 ^ 64
  | _ => (w2 a + w2 b + (w1 a + w1 b + (w0 a + w0 b) / 2 ^ 64) / 2 ^ 64) / 2 ^ 64
theorem cyk_le (a b : Int) : ∀ k, 0 ≤ cyk a b k ∧ cyk a b k ≤ 1 := by
  have a0 := w0_lt a
  have a1 := w1_lt a
  have a2 := w2_lt a
  have b0 := w0_lt b
  have b1 := w1_lt b
  have b2 := w2_lt b
  intro k
  unfold cyk
  split <;> omega
theorem cyk_0 (a b : Int) : (w0 a + w0 b + cyk a b 0) % 18446744073709551616 = w0 (a + b) ∧ (w0 a + w0 b + cyk a b 0) / 18446744073709551616 = cyk a b 1 := by
  have := add_w0 a b; simp only [cyk]; constructor <;> omega
theorem cyk_1 (a b : Int) : (w1 a + w1 b + cyk a b 1) % 18446744073709551616 = w1 (a + b) ∧ (w1 a + w1 b + cyk a b 1) / 18446744073709551616 = cyk a b 2 := by
  have := add_w1 a b; simp only [cyk]; constructor <;> omega
theorem cyk_2 (a b : Int) : (w2 a + w2 b + cyk a b 2) % 18446744073709551616 = w2 (a + b) ∧ (w2 a + w2 b + cyk a b 2) / 18446744073709551616 = cyk a b 3 := by
  have := add_w2 a b; simp only [cyk]; constructor <;> omega
def p_NAdd : List AV → AHeap → (AV → Prop) → Prop
  | [x, y], _, K => ∃ a b, (x = nAV a ∧ y = nAV b) ∧ K (nAV (a + b))
  | _, _, _ => False
set_option maxHeartbeats 1000000 in
theorem ok_NAdd : EntOk Try.prog 15 (Ent.pure p_NAdd) := by
  refine EntOk.pure fun args H K h => ?_
  unfold p_NAdd at h
  split at h
  rotate_left
  · exact h.elim
  obtain ⟨a, b, ⟨rfl, rfl⟩, hK⟩ := h
  refine ⟨_, hK, ?_⟩
  refine ACalls.of_aw (Ω := [(31, Ent.pure p_Add64)]) (T := assoc []) mixed (TblOk.cons ok_Add64 TblOk.nil) Try.func15 (by kernel_rfl) (by rfl) (rs := [.cell 4 27]) (by rfl) (by kernel_rfl) (by simp only [Try.ntmps15, List.length_cons, List.length_nil]; decide) (Nat.le_refl _) fun hcl hlt => ?_
  change aw _ _ _ (KI Try.prog [(31, Ent.pure p_Add64)] (aEnd Try.prog [.cell 4 27] H.nx _ _) []) _ _
  clear hlt hK
  simp only [↓bwp, bwq, List.tail_nil, List.tail_cons, List.headD_nil, List.headD_cons, ne_eq, reduceCtorEq, Nat.reduceEqDiff, Nat.reduceAdd, Nat.reduceMul, Nat.reduceSub, Nat.reduceLeDiff, Nat.reduceLT, Int.reduceMul, Int.reduceAdd, Int.reduceSub, List.map_cons, List.map_nil, Option.map_some, Option.map_none, Option.elim_some, if_true, if_false, List.append_nil, List.nil_append, bvq, rEq, List.cons_append, Int.reduceToNat, List.getElem?_cons_zero, List.getElem?_cons_succ, TD.agg, List.drop_succ_cons, List.drop_zero, List.take_succ_cons, List.take_zero, List.take_nil, List.drop_nil, List.getD_cons_zero, List.getD_cons_succ, splice, zgu, zgv, Option.isSome_some, Option.isSome_none, List.getElem?_nil, zgw, zgx, rLen, rBin, rInt, rStr, rUn, zgy, zgz, zha, zhb, zhc, rBox, zhd, zhe, zhf, zhg, zhh, zhi, zhj, zhk, zhl, zhm, zhn, zho, zhp, zhq, zhr, zhs, zht, zhu, zhv, bound, addL, addT, grow, room, List.length_cons, List.length_nil, List.length_map, frOf, byq, ti_int, ti_value, ti_u64, ti_Number, ti_words, ↓blp, blq, nAV]
  refine loop_intro (A := Nat) (fun k => [(8, .int .i64 (k : Int)), (6, .int .u64 (cyk a b k)), (5, .ptr (H.nx + 1 + 1 + 1) 0), (4, .ptr (H.nx + 1 + 1) 0), (3, .ptr (H.nx + 1) 0), (2, .ptr H.nx 0)])
    (fun k => (((H.push (.cells [.int .u64 (w0 a), .int .u64 (w1 a), .int .u64 (w2 a)])).push (.cells [.int .u64 (w0 b), .int .u64 (w1 b), .int .u64 (w2 b)])).push (.cells [.int .u64 0, .int .u64 0, .int .u64 0])).push (.cells (outk a b k)))
    (fun k => k ≤ 3) (fun k => 3 - k) 0 (by omega) ?_ fun k hk => ?_
  · simp only [bnq, enter, subF, ltF, ne_eq, Nat.reduceEqDiff, reduceCtorEq, cyk, outk, Nat.lt_irrefl, if_false, true_or, and_true, Nat.not_lt_zero]
  have a0 := w0_lt a
  have a1 := w1_lt a
  have a2 := w2_lt a
  have b0 := w0_lt b
  have b1 := w1_lt b
  have b2 := w2_lt b
  rcases (by omega : k = 0 ∨ k = 1 ∨ k = 2 ∨ k = 3) with rfl | rfl | rfl | rfl
  · have hd : decide (((0 : Nat) : Int) < 3) = true := rfl
    have e1 : IntKind.i64.wrap (((0 : Nat) : Int) + 1) = ((1 : Nat) : Int) := by rw [wrap_i64] <;> omega
    have hc := cyk_le a b 0
    obtain ⟨s1, s2⟩ := cyk_0 a b
    have t1 : ((0 : Nat) : Int).toNat = 0 := rfl
    simp only [↓bwp, bwq, List.tail_nil, List.tail_cons, List.headD_nil, List.headD_cons, ne_eq, reduceCtorEq, Nat.reduceEqDiff, Nat.reduceAdd, Nat.reduceMul, Nat.reduceSub, Nat.reduceLeDiff, Nat.reduceLT, Int.reduceMul, Int.reduceAdd, Int.reduceSub, List.map_cons, List.map_nil, Option.map_some, Option.map_none, Option.elim_some, if_true, if_false, List.append_nil, List.nil_append, zar, bvq, rEq, List.cons_append, Int.reduceToNat, List.getElem?_cons_zero, List.getElem?_cons_succ, TD.agg, List.drop_succ_cons, List.drop_zero, List.take_succ_cons, List.take_zero, List.take_nil, List.drop_nil, List.getD_cons_zero, List.getD_cons_succ, splice, zgu, zgv, Option.isSome_some, Option.isSome_none, List.getElem?_nil, zgw, zgx, rLen, rBin, rInt, rStr, rUn, zgy, zgz, zha, zhb, zhc, rBox, zhd, zhe, zhf, zhg, zhh, zhi, zhj, zhk, zhl, zhm, zhn, zho, zhp, zhq, zhr, zhs, zht, zhu, zhv, bound, addL, addT, grow, room, List.length_cons, List.length_nil, List.length_map, frOf, byq, ti_int, ti_value, ti_u64, ti_Number, ti_words, ↓blp, blq, p_Add64, hd, outk, e1, s1, s2, t1]
    refine ⟨by omega, by omega, by omega, by omega, .inr (by omega), 1, by omega, by omega, ?_⟩
    simp only [bnq, enter, subF, ltF, ne_eq, Nat.reduceEqDiff, reduceCtorEq]
    exact .inl rfl
  · have hd : decide (((1 : Nat) : Int) < 3) = true := rfl
    have e1 : IntKind.i64.wrap (((1 : Nat) : Int) + 1) = ((2 : Nat) : Int) := by rw [wrap_i64] <;> omega
    have hc := cyk_le a b 1
    obtain ⟨s1, s2⟩ := cyk_1 a b
    have t1 : ((1 : Nat) : Int).toNat = 1 := rfl
    simp only [↓bwp, bwq, List.tail_nil, List.tail_cons, List.headD_nil, List.headD_cons, ne_eq, reduceCtorEq, Nat.reduceEqDiff, Nat.reduceAdd, Nat.reduceMul, Nat.reduceSub, Nat.reduceLeDiff, Nat.reduceLT, Int.reduceMul, Int.reduceAdd, Int.reduceSub, List.map_cons, List.map_nil, Option.map_some, Option.map_none, Option.elim_some, if_true, if_false, List.append_nil, List.nil_append, zar, bvq, rEq, List.cons_append, Int.reduceToNat, List.getElem?_cons_zero, List.getElem?_cons_succ, TD.agg, List.drop_succ_cons, List.drop_zero, List.take_succ_cons, List.take_zero, List.take_nil, List.drop_nil, List.getD_cons_zero, List.getD_cons_succ, splice, zgu, zgv, Option.isSome_some, Option.isSome_none, List.getElem?_nil, zgw, zgx, rLen, rBin, rInt, rStr, rUn, zgy, zgz, zha, zhb, zhc, rBox, zhd, zhe, zhf, zhg, zhh, zhi, zhj, zhk, zhl, zhm, zhn, zho, zhp, zhq, zhr, zhs, zht, zhu, zhv, bound, addL, addT, grow, room, List.length_cons, List.length_nil, List.length_map, frOf, byq, ti_int, ti_value, ti_u64, ti_Number, ti_words, ↓blp, blq, p_Add64, hd, outk, e1, s1, s2, t1]
    refine ⟨by omega, by omega, by omega, by omega, .inr (by omega), 2, by omega, by omega, ?_⟩
    simp only [bnq, enter, subF, ltF, ne_eq, Nat.reduceEqDiff, reduceCtorEq]
    exact .inl rfl
  · have hd : decide (((2 : Nat) : Int) < 3) = true := rfl
    have e1 : IntKind.i64.wrap (((2 : Nat) : Int) + 1) = ((3 : Nat) : Int) := by rw [wrap_i64] <;> omega
    have hc := cyk_le a b 2
    obtain ⟨s1, s2⟩ := cyk_2 a b
    have t1 : ((2 : Nat) : Int).toNat = 2 := rfl
    simp only [↓bwp, bwq, List.tail_nil, List.tail_cons, List.headD_nil, List.headD_cons, ne_eq, reduceCtorEq, Nat.reduceEqDiff, Nat.reduceAdd, Nat.reduceMul, Nat.reduceSub, Nat.reduceLeDiff, Nat.reduceLT, Int.reduceMul, Int.reduceAdd, Int.reduceSub, List.map_cons, List.map_nil, Option.map_some, Option.map_none, Option.elim_some, if_true, if_false, List.append_nil, List.nil_append, zar, bvq, rEq, List.cons_append, Int.reduceToNat, List.getElem?_cons_zero, List.getElem?_cons_succ, TD.agg, List.drop_succ_cons, List.drop_zero, List.take_succ_cons, List.take_zero, List.take_nil, List.drop_nil, List.getD_cons_zero, List.getD_cons_succ, splice, zgu, zgv, Option.isSome_some, Option.isSome_none, List.getElem?_nil, zgw, zgx, rLen, rBin, rInt, rStr, rUn, zgy, zgz, zha, zhb, zhc, rBox, zhd, zhe, zhf, zhg, zhh, zhi, zhj, zhk, zhl, zhm, zhn, zho, zhp, zhq, zhr, zhs, zht, zhu, zhv, bound, addL, addT, grow, room, List.length_cons, List.length_nil, List.length_map, frOf, byq, ti_int, ti_value, ti_u64, ti_Number, ti_words, ↓blp, blq, p_Add64, hd, outk, e1, s1, s2, t1]
    refine ⟨by omega, by omega, by omega, by omega, .inr (by omega), 3, by omega, by omega, ?_⟩
    simp only [bnq, enter, subF, ltF, ne_eq, Nat.reduceEqDiff, reduceCtorEq]
    exact .inl rfl
  · have hd : decide (((3 : Nat) : Int) < 3) = false := rfl
    simp only [↓bwp, bwq, List.tail_nil, List.tail_cons, List.headD_nil, List.headD_cons, ne_eq, reduceCtorEq, Nat.reduceEqDiff, Nat.reduceAdd, Nat.reduceMul, Nat.reduceSub, Nat.reduceLeDiff, Nat.reduceLT, Int.reduceMul, Int.reduceAdd, Int.reduceSub, List.map_cons, List.map_nil, Option.map_some, Option.map_none, Option.elim_some, if_true, if_false, List.append_nil, List.nil_append, zas, bvq, rEq, List.cons_append, Int.reduceToNat, List.getElem?_cons_zero, List.getElem?_cons_succ, TD.agg, List.drop_succ_cons, List.drop_zero, List.take_succ_cons, List.take_zero, List.take_nil, List.drop_nil, List.getD_cons_zero, List.getD_cons_succ, splice, zgu, zgv, Option.isSome_some, Option.isSome_none, List.getElem?_nil, zgw, zgx, rLen, rBin, rInt, rStr, rUn, zgy, zgz, zha, zhb, zhc, rBox, zhd, zhe, zhf, zhg, zhh, zhi, zhj, zhk, zhl, zhm, zhn, zho, zhp, zhq, zhr, zhs, zht, zhu, zhv, bound, addL, addT, grow, room, List.length_cons, List.length_nil, List.length_map, frOf, byq, ti_int, ti_value, ti_u64, ti_Number, ti_words, ↓blp, blq, hd, outk]
    simp (disch := first | assumption | omega | (simp; done) | (simp; omega) | (simp only [bt, and_true]; first | done | omega | (simp; done))) [↓zkf, beq, List.take_of_length_le, List.drop_append, List.take_append, endOk, wk, wk2, wk1, wkM, wkL, wkLL, List.drop_eq_nil_of_le, hcl]

def negk (a : Int) (k : Nat) : List AV := [.int .u64 (if 0 < k then w0 (-1 - a) else w0 a), .int .u64 (if 1 < k then w1 (-1 - a) else w1 a), .int .u64 (if 2 < k then w2 (-1 - a) else w2 a)]
def p_NNeg : List AV → AHeap → (AV → Prop) → Prop
  | [x], _, K => ∃ a, x = nAV a ∧ K (nAV (-a))
  | _, _, _ => False
set_option maxHeartbeats 1000000 in
theorem ok_NNeg : EntOk Try.prog 11 (Ent.pure p_NNeg) := by
  refine EntOk.pure fun args H K h => ?_
  unfold p_NNeg at h
  split at h
  rotate_left
  · exact h.elim
  obtain ⟨a, rfl, hK⟩ := h
  refine ⟨_, hK, ?_⟩
  refine ACalls.of_aw (Ω := [(15, Ent.pure p_NAdd), (13, Ent.pure p_NOf)]) (T := assoc []) mixed (TblOk.cons ok_NAdd (TblOk.cons ok_NOf TblOk.nil)) Try.func11 (by kernel_rfl) (by rfl) (rs := [.cell 2 27]) (by rfl) (by kernel_rfl) (by simp only [Try.ntmps11, List.length_cons, List.length_nil]; decide) (Nat.le_refl _) fun hcl hlt => ?_
  change aw _ _ _ (KI Try.prog [(15, Ent.pure p_NAdd), (13, Ent.pure p_NOf)] (aEnd Try.prog [.cell 2 27] H.nx _ _) []) _ _
  clear hlt hK
  simp only [↓bwp, bwq, List.tail_nil, List.tail_cons, List.headD_nil, List.headD_cons, ne_eq, reduceCtorEq, Nat.reduceEqDiff, Nat.reduceAdd, Nat.reduceMul, Nat.reduceSub, Nat.reduceLeDiff, Nat.reduceLT, Int.reduceMul, Int.reduceAdd, Int.reduceSub, List.map_cons, List.map_nil, Option.map_some, Option.map_none, Option.elim_some, if_true, if_false, List.append_nil, List.nil_append, bvq, rEq, List.cons_append, Int.reduceToNat, List.getElem?_cons_zero, List.getElem?_cons_succ, TD.agg, List.drop_succ_cons, List.drop_zero, List.take_succ_cons, List.take_zero, List.take_nil, List.drop_nil, List.getD_cons_zero, List.getD_cons_succ, splice, zgu, zgv, Option.isSome_some, Option.isSome_none, List.getElem?_nil, zgw, zgx, rLen, rBin, rInt, rStr, rUn, zgy, zgz, zha, zhb, zhc, rBox, zhd, zhe, zhf, zhg, zhh, zhi, zhj, zhk, zhl, zhm, zhn, zho, zhp, zhq, zhr, zhs, zht, zhu, zhv, bound, addL, addT, grow, room, List.length_cons, List.length_nil, List.length_map, frOf, byq, ti_int, ti_value, ti_u64, ti_Number, ti_words, ↓blp, blq, nAV]
  refine loop_intro (A := Nat) (fun k => [(4, .int .i64 (k : Int)), (2, .ptr (H.nx + 1) 0), (1, .ptr H.nx 0)])
    (fun k => (H.push (.cells (negk a k))).push (.cells [.int .u64 0, .int .u64 0, .int .u64 0]))
    (fun k => k ≤ 3) (fun k => 3 - k) 0 (by omega) ?_ fun k hk => ?_
  · simp only [bnq, enter, subF, ltF, ne_eq, Nat.reduceEqDiff, reduceCtorEq, negk, Nat.lt_irrefl, if_false, true_or, and_true, Nat.not_lt_zero]
  rcases (by omega : k = 0 ∨ k = 1 ∨ k = 2 ∨ k = 3) with rfl | rfl | rfl | rfl
  · have hd : decide (((0 : Nat) : Int) < 3) = true := rfl
    have e1 : IntKind.i64.wrap (((0 : Nat) : Int) + 1) = ((1 : Nat) : Int) := by rw [wrap_i64] <;> omega
    have t1 : ((0 : Nat) : Int).toNat = 0 := rfl
    have hx := ixor_max (w0 a) (w0_lt a)
    rw [not_w0] at hx
    simp only [↓bwp, bwq, List.tail_nil, List.tail_cons, List.headD_nil, List.headD_cons, ne_eq, reduceCtorEq, Nat.reduceEqDiff, Nat.reduceAdd, Nat.reduceMul, Nat.reduceSub, Nat.reduceLeDiff, Nat.reduceLT, Int.reduceMul, Int.reduceAdd, Int.reduceSub, List.map_cons, List.map_nil, Option.map_some, Option.map_none, Option.elim_some, if_true, if_false, List.append_nil, List.nil_append, zar, bvq, rEq, List.cons_append, Int.reduceToNat, List.getElem?_cons_zero, List.getElem?_cons_succ, TD.agg, List.drop_succ_cons, List.drop_zero, List.take_succ_cons, List.take_zero, List.take_nil, List.drop_nil, List.getD_cons_zero, List.getD_cons_succ, splice, zgu, zgv, Option.isSome_some, Option.isSome_none, List.getElem?_nil, zgw, zgx, rLen, rBin, rInt, rStr, rUn, zgy, zgz, zha, zhb, zhc, rBox, zhd, zhe, zhf, zhg, zhh, zhi, zhj, zhk, zhl, zhm, zhn, zho, zhp, zhq, zhr, zhs, zht, zhu, zhv, bound, addL, addT, grow, room, List.length_cons, List.length_nil, List.length_map, frOf, byq, ti_int, ti_value, ti_u64, ti_Number, ti_words, ↓blp, blq, hd, negk, e1, t1, hx]
    refine ⟨by omega, by omega, 1, by omega, by omega, ?_⟩
    simp only [bnq, enter, subF, ltF, ne_eq, Nat.reduceEqDiff, reduceCtorEq]
    exact .inl rfl
  · have hd : decide (((1 : Nat) : Int) < 3) = true := rfl
    have e1 : IntKind.i64.wrap (((1 : Nat) : Int) + 1) = ((2 : Nat) : Int) := by rw [wrap_i64] <;> omega
    have t1 : ((1 : Nat) : Int).toNat = 1 := rfl
    have hx := ixor_max (w1 a) (w1_lt a)
    rw [not_w1] at hx
    simp only [↓bwp, bwq, List.tail_nil, List.tail_cons, List.headD_nil, List.headD_cons, ne_eq, reduceCtorEq, Nat.reduceEqDiff, Nat.reduceAdd, Nat.reduceMul, Nat.reduceSub, Nat.reduceLeDiff, Nat.reduceLT, Int.reduceMul, Int.reduceAdd, Int.reduceSub, List.map_cons, List.map_nil, Option.map_some, Option.map_none, Option.elim_some, if_true, if_false, List.append_nil, List.nil_append, zar, bvq, rEq, List.cons_append, Int.reduceToNat, List.getElem?_cons_zero, List.getElem?_cons_succ, TD.agg, List.drop_succ_cons, List.drop_zero, List.take_succ_cons, List.take_zero, List.take_nil, List.drop_nil, List.getD_cons_zero, List.getD_cons_succ, splice, zgu, zgv, Option.isSome_some, Option.isSome_none, List.getElem?_nil, zgw, zgx, rLen, rBin, rInt, rStr, rUn, zgy, zgz, zha, zhb, zhc, rBox, zhd, zhe, zhf, zhg, zhh, zhi, zhj, zhk, zhl, zhm, zhn, zho, zhp, zhq, zhr, zhs, zht, zhu, zhv, bound, addL, addT, grow, room, List.length_cons, List.length_nil, List.length_map, frOf, byq, ti_int, ti_value, ti_u64, ti_Number, ti_words, ↓blp, blq, hd, negk, e1, t1, hx]
    refine ⟨by omega, by omega, 2, by omega, by omega, ?_⟩
    simp only [bnq, enter, subF, ltF, ne_eq, Nat.reduceEqDiff, reduceCtorEq]
    exact .inl rfl
  · have hd : decide (((2 : Nat) : Int) < 3) = true := rfl
    have e1 : IntKind.i64.wrap (((2 : Nat) : Int) + 1) = ((3 : Nat) : Int) := by rw [wrap_i64] <;> omega
    have t1 : ((2 : Nat) : Int).toNat = 2 := rfl
    have hx := ixor_max (w2 a) (w2_lt a)
    rw [not_w2] at hx
    simp only [↓bwp, bwq, List.tail_nil, List.tail_cons, List.headD_nil, List.headD_cons, ne_eq, reduceCtorEq, Nat.reduceEqDiff, Nat.reduceAdd, Nat.reduceMul, Nat.reduceSub, Nat.reduceLeDiff, Nat.reduceLT, Int.reduceMul, Int.reduceAdd, Int.reduceSub, List.map_cons, List.map_nil, Option.map_some, Option.map_none, Option.elim_some, if_true, if_false, List.append_nil, List.nil_append, zar, bvq, rEq, List.cons_append, Int.reduceToNat, List.getElem?_cons_zero, List.getElem?_cons_succ, TD.agg, List.drop_succ_cons, List.drop_zero, List.take_succ_cons, List.take_zero, List.take_nil, List.drop_nil, List.getD_cons_zero, List.getD_cons_succ, splice, zgu, zgv, Option.isSome_some, Option.isSome_none, List.getElem?_nil, zgw, zgx, rLen, rBin, rInt, rStr, rUn, zgy, zgz, zha, zhb, zhc, rBox, zhd, zhe, zhf, zhg, zhh, zhi, zhj, zhk, zhl, zhm, zhn, zho, zhp, zhq, zhr, zhs, zht, zhu, zhv, bound, addL, addT, grow, room, List.length_cons, List.length_nil, List.length_map, frOf, byq, ti_int, ti_value, ti_u64, ti_Number, ti_words, ↓blp, blq, hd, negk, e1, t1, hx]
    refine ⟨by omega, by omega, 3, by omega, by omega, ?_⟩
    simp only [bnq, enter, subF, ltF, ne_eq, Nat.reduceEqDiff, reduceCtorEq]
    exact .inl rfl
  · have hd : decide (((3 : Nat) : Int) < 3) = false := rfl
    simp only [↓bwp, bwq, List.tail_nil, List.tail_cons, List.headD_nil, List.headD_cons, ne_eq, reduceCtorEq, Nat.reduceEqDiff, Nat.reduceAdd, Nat.reduceMul, Nat.reduceSub, Nat.reduceLeDiff, Nat.reduceLT, Int.reduceMul, Int.reduceAdd, Int.reduceSub, List.map_cons, List.map_nil, Option.map_some, Option.map_none, Option.elim_some, if_true, if_false, List.append_nil, List.nil_append, zas, bvq, rEq, List.cons_append, Int.reduceToNat, List.getElem?_cons_zero, List.getElem?_cons_succ, TD.agg, List.drop_succ_cons, List.drop_zero, List.take_succ_cons, List.take_zero, List.take_nil, List.drop_nil, List.getD_cons_zero, List.getD_cons_succ, splice, zgu, zgv, Option.isSome_some, Option.isSome_none, List.getElem?_nil, zgw, zgx, rLen, rBin, rInt, rStr, rUn, zgy, zgz, zha, zhb, zhc, rBox, zhd, zhe, zhf, zhg, zhh, zhi, zhj, zhk, zhl, zhm, zhn, zho, zhp, zhq, zhr, zhs, zht, zhu, zhv, bound, addL, addT, grow, room, List.length_cons, List.length_nil, List.length_map, frOf, byq, ti_int, ti_value, ti_u64, ti_Number, ti_words, ↓blp, blq, hd, negk, p_NAdd, p_NOf]
    refine ⟨by omega, -1 - a, 1, ⟨rfl, rfl⟩, ?_⟩
    have en : (-1 - a + 1) = -a := by omega
    simp only [↓bwp, bwq, List.tail_nil, List.tail_cons, List.headD_nil, List.headD_cons, ne_eq, reduceCtorEq, Nat.reduceEqDiff, Nat.reduceAdd, Nat.reduceMul, Nat.reduceSub, Nat.reduceLeDiff, Nat.reduceLT, Int.reduceMul, Int.reduceAdd, Int.reduceSub, List.map_cons, List.map_nil, Option.map_some, Option.map_none, Option.elim_some, if_true, if_false, List.append_nil, List.nil_append, zas, bvq, rEq, List.cons_append, Int.reduceToNat, List.getElem?_cons_zero, List.getElem?_cons_succ, TD.agg, List.drop_succ_cons, List.drop_zero, List.take_succ_cons, List.take_zero, List.take_nil, List.drop_nil, List.getD_cons_zero, List.getD_cons_succ, splice, zgu, zgv, Option.isSome_some, Option.isSome_none, List.getElem?_nil, zgw, zgx, rLen, rBin, rInt, rStr, rUn, zgy, zgz, zha, zhb, zhc, rBox, zhd, zhe, zhf, zhg, zhh, zhi, zhj, zhk, zhl, zhm, zhn, zho, zhp, zhq, zhr, zhs, zht, zhu, zhv, bound, addL, addT, grow, room, List.length_cons, List.length_nil, List.length_map, frOf, byq, ti_int, ti_value, ti_u64, ti_Number, ti_words, ↓blp, blq, en, nAV]
    simp (disch := first | assumption | omega | (simp; done) | (simp; omega) | (simp only [bt, and_true]; first | done | omega | (simp; done))) [↓zkf, beq, List.take_of_length_le, List.drop_append, List.take_append, endOk, wk, wk2, wk1, wkM, wkL, wkLL, List.drop_eq_nil_of_le, hcl]
    refine .inr ⟨-1 - a, 1, ⟨⟨rfl, rfl, rfl⟩, rfl, rfl, rfl⟩, ?_⟩
    rw [en]; exact ⟨rfl, rfl, rfl⟩

def p_NSub : List AV → AHeap → (AV → Prop) → Prop
  | [x, y], _, K => ∃ a b, (x = nAV a ∧ y = nAV b) ∧ K (nAV (a - b))
  | _, _, _ => False
theorem ok_NSub : EntOk Try.prog 22 (Ent.pure p_NSub) := by
  refine EntOk.pure fun args H K h => ?_
  unfold p_NSub at h
  split at h
  rotate_left
  · exact h.elim
  obtain ⟨a, b, ⟨rfl, rfl⟩, hK⟩ := h
  refine ⟨_, hK, ?_⟩
  refine ACalls.of_aw (Ω := [(15, Ent.pure p_NAdd), (11, Ent.pure p_NNeg)]) (T := assoc []) mixed (TblOk.cons ok_NAdd (TblOk.cons ok_NNeg TblOk.nil)) Try.func22 (by kernel_rfl) (by rfl) (rs := [.cell 4 27]) (by rfl) (by kernel_rfl) (by simp only [Try.ntmps22, List.length_cons, List.length_nil]; decide) (Nat.le_refl _) fun hcl hlt => ?_
  change aw _ _ _ (KI Try.prog [(15, Ent.pure p_NAdd), (11, Ent.pure p_NNeg)] (aEnd Try.prog [.cell 4 27] H.nx _ _) []) _ _
  clear hlt hK
  simp only [↓bwp, bwq, List.tail_nil, List.tail_cons, List.headD_nil, List.headD_cons, ne_eq, reduceCtorEq, Nat.reduceEqDiff, Nat.reduceAdd, Nat.reduceMul, Nat.reduceSub, Nat.reduceLeDiff, Nat.reduceLT, Int.reduceMul, Int.reduceAdd, Int.reduceSub, List.map_cons, List.map_nil, Option.map_some, Option.map_none, Option.elim_some, if_true, if_false, List.append_nil, List.nil_append, bvq, rEq, List.cons_append, Int.reduceToNat, List.getElem?_cons_zero, List.getElem?_cons_succ, TD.agg, List.drop_succ_cons, List.drop_zero, List.take_succ_cons, List.take_zero, List.take_nil, List.drop_nil, List.getD_cons_zero, List.getD_cons_succ, splice, zgu, zgv, Option.isSome_some, Option.isSome_none, List.getElem?_nil, zgw, zgx, rLen, rBin, rInt, rStr, rUn, zgy, zgz, zha, zhb, zhc, rBox, zhd, zhe, zhf, zhg, zhh, zhi, zhj, zhk, zhl, zhm, zhn, zho, zhp, zhq, zhr, zhs, zht, zhu, zhv, bound, addL, addT, grow, room, List.length_cons, List.length_nil, List.length_map, frOf, byq, ti_int, ti_value, ti_u64, ti_Number, ti_words, ↓blp, blq, nAV]
  refine ⟨b, rfl, ?_⟩
  simp only [↓bwp, bwq, List.tail_nil, List.tail_cons, List.headD_nil, List.headD_cons, ne_eq, reduceCtorEq, Nat.reduceEqDiff, Nat.reduceAdd, Nat.reduceMul, Nat.reduceSub, Nat.reduceLeDiff, Nat.reduceLT, Int.reduceMul, Int.reduceAdd, Int.reduceSub, List.map_cons, List.map_nil, Option.map_some, Option.map_none, Option.elim_some, if_true, if_false, List.append_nil, List.nil_append, bvq, rEq, List.cons_append, Int.reduceToNat, List.getElem?_cons_zero, List.getElem?_cons_succ, TD.agg, List.drop_succ_cons, List.drop_zero, List.take_succ_cons, List.take_zero, List.take_nil, List.drop_nil, List.getD_cons_zero, List.getD_cons_succ, splice, zgu, zgv, Option.isSome_some, Option.isSome_none, List.getElem?_nil, zgw, zgx, rLen, rBin, rInt, rStr, rUn, zgy, zgz, zha, zhb, zhc, rBox, zhd, zhe, zhf, zhg, zhh, zhi, zhj, zhk, zhl, zhm, zhn, zho, zhp, zhq, zhr, zhs, zht, zhu, zhv, bound, addL, addT, grow, room, List.length_cons, List.length_nil, List.length_map, frOf, byq, ti_int, ti_value, ti_u64, ti_Number, ti_words, ↓blp, blq, nAV]
  refine ⟨a, -b, ⟨rfl, rfl⟩, ?_⟩
  have en : a + -b = a - b := by omega
  simp only [↓bwp, bwq, List.tail_nil, List.tail_cons, List.headD_nil, List.headD_cons, ne_eq, reduceCtorEq, Nat.reduceEqDiff, Nat.reduceAdd, Nat.reduceMul, Nat.reduceSub, Nat.reduceLeDiff, Nat.reduceLT, Int.reduceMul, Int.reduceAdd, Int.reduceSub, List.map_cons, List.map_nil, Option.map_some, Option.map_none, Option.elim_some, if_true, if_false, List.append_nil, List.nil_append, bvq, rEq, List.cons_append, Int.reduceToNat, List.getElem?_cons_zero, List.getElem?_cons_succ, TD.agg, List.drop_succ_cons, List.drop_zero, List.take_succ_cons, List.take_zero, List.take_nil, List.drop_nil, List.getD_cons_zero, List.getD_cons_succ, splice, zgu, zgv, Option.isSome_some, Option.isSome_none, List.getElem?_nil, zgw, zgx, rLen, rBin, rInt, rStr, rUn, zgy, zgz, zha, zhb, zhc, rBox, zhd, zhe, zhf, zhg, zhh, zhi, zhj, zhk, zhl, zhm, zhn, zho, zhp, zhq, zhr, zhs, zht, zhu, zhv, bound, addL, addT, grow, room, List.length_cons, List.length_nil, List.length_map, frOf, byq, ti_int, ti_value, ti_u64, ti_Number, ti_words, ↓blp, blq, en, nAV]
  simp (disch := first | assumption | omega | (simp; done) | (simp; omega) | (simp only [bt, and_true]; first | done | omega | (simp; done))) [↓zkf, beq, List.take_of_length_le, List.drop_append, List.take_append, endOk, wk, wk2, wk1, wkM, wkL, wkLL, List.drop_eq_nil_of_le, hcl]
  exact ⟨.inr ⟨a, -b, ⟨rfl, rfl⟩, by rw [en]; rfl⟩, .inr ⟨b, rfl, rfl⟩⟩

/-- the numbers of which the sign is known -/
def isN (a : Int) : Prop := -(2 ^ 191) ≤ a ∧ a < 2 ^ 191
def p_Nneg : List AV → AHeap → (AV → Prop) → Prop
  | [x], _, K => ∃ a, (x = nAV a ∧ isN a) ∧ K (.bool (decide (a < 0)))
  | _, _, _ => False
theorem ok_Nneg : EntOk Try.prog 28 (Ent.pure p_Nneg) := by
  refine EntOk.pure fun args H K h => ?_
  unfold p_Nneg at h
  split at h
  rotate_left
  · exact h.elim
  obtain ⟨a, ⟨rfl, ha⟩, hK⟩ := h
  refine ⟨_, hK, ?_⟩
  refine ACalls.of_aw (Ω := []) (T := assoc []) mixed TblOk.nil Try.func28 (by kernel_rfl) (by rfl) (rs := [.tmp 2]) (by rfl) (by kernel_rfl) (by simp only [Try.ntmps28, List.length_cons, List.length_nil]; decide) (Nat.le_refl _) fun hcl hlt => ?_
  change aw _ _ _ (KI Try.prog [] (aEnd Try.prog [.tmp 2] H.nx _ _) []) _ _
  clear hlt hK
  have hs : ishr .u64 (w2 a) 63 = w2 a / 2 ^ 63 := by
    unfold ishr
    rw [show min (63 : Int).toNat IntKind.u64.bits = 63 from rfl]
    exact Int.fdiv_eq_ediv_of_nonneg _ (by decide)
  rw [w_neg ha] at hs
  have hb : (ishr .u64 (w2 a) 63 == 1) = decide (a < 0) := by
    rw [hs]; by_cases h : a < 0
    · rw [if_pos h, decide_eq_true h]; rfl
    · rw [if_neg h, decide_eq_false h]; rfl
  simp only [↓bwp, bwq, zat, List.tail_nil, List.tail_cons, List.headD_nil, List.headD_cons, ne_eq, reduceCtorEq, Nat.reduceEqDiff, Nat.reduceAdd, Nat.reduceMul, Nat.reduceSub, Nat.reduceLeDiff, Nat.reduceLT, Int.reduceMul, Int.reduceAdd, Int.reduceSub, List.map_cons, List.map_nil, Option.map_some, Option.map_none, Option.elim_some, if_true, if_false, List.append_nil, List.nil_append, bvq, rEq, List.cons_append, Int.reduceToNat, List.getElem?_cons_zero, List.getElem?_cons_succ, TD.agg, List.drop_succ_cons, List.drop_zero, List.take_succ_cons, List.take_zero, List.take_nil, List.drop_nil, List.getD_cons_zero, List.getD_cons_succ, splice, zgu, zgv, Option.isSome_some, Option.isSome_none, List.getElem?_nil, zgw, zgx, rLen, rBin, rInt, rStr, rUn, zgy, zgz, zha, zhb, zhc, rBox, zhd, zhe, zhf, zhg, zhh, zhi, zhj, zhk, zhl, zhm, zhn, zho, zhp, zhq, zhr, zhs, zht, zhu, zhv, bound, addL, addT, grow, room, List.length_cons, List.length_nil, List.length_map, frOf, byq, ti_int, ti_value, ti_u64, ti_Number, ti_words, ↓blp, blq, nAV, hb]
  refine ⟨by omega, ?_⟩
  simp (disch := first | assumption | omega | (simp; done) | (simp; omega) | (simp only [bt, and_true]; first | done | omega | (simp; done))) [↓zkf, beq, List.take_of_length_le, List.drop_append, List.take_append, endOk, wk, wk2, wk1, wkM, wkL, wkLL, List.drop_eq_nil_of_le, hcl]

def p_NFrom : List AV → AHeap → (AV → Prop) → Prop
  | [.agg [.int .u64 hi, .int .u64 lo]], _, K => ((0 ≤ hi ∧ hi < 18446744073709551616) ∧ (0 ≤ lo ∧ lo < 18446744073709551616)) ∧ K (nAV (hi * 2 ^ 64 + lo))
  | _, _, _ => False
theorem ok_NFrom : EntOk Try.prog 21 (Ent.pure p_NFrom) := by
  refine EntOk.pure fun args H K h => ?_
  unfold p_NFrom at h
  split at h
  rotate_left
  · exact h.elim
  rename_i hi lo
  obtain ⟨⟨h1, h2⟩, hK⟩ := h
  refine ⟨_, hK, ?_⟩
  refine ACalls.of_aw (Ω := []) (T := assoc []) mixed TblOk.nil Try.func21 (by kernel_rfl) (by rfl) (rs := [.cell 2 27]) (by rfl) (by kernel_rfl) (by simp only [Try.ntmps21, List.length_cons, List.length_nil]; decide) (Nat.le_refl _) fun hcl hlt => ?_
  change aw _ _ _ (KI Try.prog [] (aEnd Try.prog [.cell 2 27] H.nx _ _) []) _ _
  clear hlt hK
  obtain ⟨e0, e1, e2⟩ := from_w hi lo h1 h2
  simp only [↓bwp, bwq, zat, List.tail_nil, List.tail_cons, List.headD_nil, List.headD_cons, ne_eq, reduceCtorEq, Nat.reduceEqDiff, Nat.reduceAdd, Nat.reduceMul, Nat.reduceSub, Nat.reduceLeDiff, Nat.reduceLT, Int.reduceMul, Int.reduceAdd, Int.reduceSub, List.map_cons, List.map_nil, Option.map_some, Option.map_none, Option.elim_some, if_true, if_false, List.append_nil, List.nil_append, bvq, rEq, List.cons_append, Int.reduceToNat, List.getElem?_cons_zero, List.getElem?_cons_succ, TD.agg, List.drop_succ_cons, List.drop_zero, List.take_succ_cons, List.take_zero, List.take_nil, List.drop_nil, List.getD_cons_zero, List.getD_cons_succ, splice, zgu, zgv, Option.isSome_some, Option.isSome_none, List.getElem?_nil, zgw, zgx, rLen, rBin, rInt, rStr, rUn, zgy, zgz, zha, zhb, zhc, rBox, zhd, zhe, zhf, zhg, zhh, zhi, zhj, zhk, zhl, zhm, zhn, zho, zhp, zhq, zhr, zhs, zht, zhu, zhv, bound, addL, addT, grow, room, List.length_cons, List.length_nil, List.length_map, frOf, byq, ti_int, ti_value, ti_u64, ti_Number, ti_words, ↓blp, blq, nAV, e0, e1, e2]
  simp (disch := first | assumption | omega | (simp; done) | (simp; omega) | (simp only [bt, and_true]; first | done | omega | (simp; done))) [↓zkf, beq, List.take_of_length_le, List.drop_append, List.take_append, endOk, wk, wk2, wk1, wkM, wkL, wkLL, List.drop_eq_nil_of_le, hcl]
end Go.AL
