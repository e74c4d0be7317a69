/- Contracts and plain laws, a part of the proof; no condition of its own. -/
import Derived.Test.YtebmlacnaapccaaN05
import Derived.Test.YtebmlacnaapccaaLNum
open Go Go.AL Go.Proofs
namespace Go.AL
set_option linter.all false
set_option maxRecDepth 10000
theorem ti_uint : ti Try.prog 55 = some ⟨.int .u64, 1, 8, .int .u64 0⟩ := by kernel_rfl
theorem ti_bytes : ti Try.prog 56 = some ⟨.slice 5, 1, 24, .slice .nil 1 []⟩ := by kernel_rfl
theorem ti_u8 : ti Try.prog 5 = some ⟨.int .u8, 1, 1, .int .u8 0⟩ := by kernel_rfl
theorem ti_string : ti Try.prog 9 = some ⟨.string, 1, 16, .str []⟩ := by kernel_rfl

theorem eqg_words : Try.prog.eqGuardType Try.prog.depth 25 = false := by kernel_rfl
theorem eqg_num : Try.prog.eqGuardType Try.prog.depth 27 = false := by kernel_rfl
theorem teq_words {a b c d e f : Int} : teq Try.prog 9 25 (.agg [.int .u64 a, .int .u64 b, .int .u64 c]) (.agg [.int .u64 d, .int .u64 e, .int .u64 f]) = some ((a == d) && ((b == e) && ((c == f) && true))) := by
  simp [ti_words, teq, teq.arr, teq.part, ti_u64, ceq, TD.agg]
theorem teq_num {a b c d e f : Int} : teq Try.prog 9 27 (.agg [.int .u64 a, .int .u64 b, .int .u64 c]) (.agg [.int .u64 d, .int .u64 e, .int .u64 f]) = some (((a == d) && ((b == e) && ((c == f) && true))) && true) := by
  have g2 : Try.prog.stoodInHeld 27 = false := by kernel_rfl
  simp [ti_Number, ti_words, teq, teq.go, teq.arr, teq.part, ti_u64, ceq, TD.agg, g2]
theorem w_eq {a b : Int} (ha : isN a) (hb : isN b) : ((w0 a == w0 b) && ((w1 a == w1 b) && (w2 a == w2 b))) = decide (a = b) := by
  by_cases h : a = b
  · subst h; simp
  · rw [decide_eq_false h]
    have := fun h0 h1 h2 => h (w_inj ha hb h0 h1 h2)
    simp only [Bool.and_eq_false_iff, beq_eq_false_iff_ne, ne_eq]
    by_cases h0 : w0 a = w0 b
    · by_cases h1 : w1 a = w1 b
      · exact .inr (.inr (this h0 h1))
      · exact .inr (.inl h1)
    · exact .inl h0

def cmpZ (a b : Int) : Int := if a = b then 0 else if a < b then -1 else 1
def p_NCompare : List AV → AHeap → (AV → Prop) → Prop
  | [x, y], _, K => ∃ a b, (x = nAV a ∧ y = nAV b ∧ isN a ∧ isN b ∧ isN (a - b)) ∧ K (.int .i64 (cmpZ a b))
  | _, _, _ => False
theorem ok_NCompare : EntOk Try.prog 24 (Ent.pure p_NCompare) := by
  refine EntOk.pure fun args H K h => ?_
  unfold p_NCompare at h
  split at h
  rotate_left
  · exact h.elim
  obtain ⟨a, b, ⟨rfl, rfl, ha, hb, hc⟩, hK⟩ := h
  refine ⟨_, hK, ?_⟩
  refine ACalls.of_aw (Ω := [(22, Ent.pure p_NSub), (28, Ent.pure p_Nneg)]) (T := assoc []) mixed (TblOk.cons ok_NSub (TblOk.cons ok_Nneg TblOk.nil)) Try.func24 (by kernel_rfl) (by rfl) (rs := [.tmp 4]) (by rfl) (by kernel_rfl) (by simp only [Try.ntmps24, List.length_cons, List.length_nil]; decide) (Nat.le_refl _) fun hcl hlt => ?_
  change aw _ _ _ (KI Try.prog [(22, Ent.pure p_NSub), (28, Ent.pure p_Nneg)] (aEnd Try.prog [.tmp 4] H.nx _ _) []) _ _
  clear hlt hK
  simp only [↓bwp, bwq, List.tail_nil, List.tail_cons, List.headD_nil, List.headD_cons, ne_eq, reduceCtorEq, Nat.reduceEqDiff, Nat.reduceAdd, Nat.reduceMul, Nat.reduceSub, Nat.reduceLeDiff, Nat.reduceLT, Int.reduceMul, Int.reduceAdd, Int.reduceSub, List.map_cons, List.map_nil, Option.map_some, Option.map_none, Option.elim_some, if_true, if_false, List.append_nil, List.nil_append, bvq, rEq, List.cons_append, Int.reduceToNat, List.getElem?_cons_zero, List.getElem?_cons_succ, TD.agg, List.drop_succ_cons, List.drop_zero, List.take_succ_cons, List.take_zero, List.take_nil, List.drop_nil, List.getD_cons_zero, List.getD_cons_succ, splice, zgu, zgv, Option.isSome_some, Option.isSome_none, List.getElem?_nil, zgw, zgx, rLen, rBin, rInt, rStr, rUn, zgy, zgz, zha, zhb, zhc, rBox, zhd, zhe, zhf, zhg, zhh, zhi, zhj, zhk, zhl, zhm, zhn, zho, zhp, zhq, zhr, zhs, zht, zhu, zhv, bound, addL, addT, grow, room, List.length_cons, List.length_nil, List.length_map, frOf, byq, ti_int, ti_value, ti_u64, ti_Number, ti_words, ti_uint, ti_bytes, ti_u8, ti_string, ↓blp, blq, nAV, teq_words, eqg_words, Bool.bne_false, w_eq ha hb]
  refine cond_split (fun h1 => ?_) (fun h1 => ?_)
  · have h1' : a = b := by simpa using h1
    simp only [↓bwp, bwq, List.tail_nil, List.tail_cons, List.headD_nil, List.headD_cons, ne_eq, reduceCtorEq, Nat.reduceEqDiff, Nat.reduceAdd, Nat.reduceMul, Nat.reduceSub, Nat.reduceLeDiff, Nat.reduceLT, Int.reduceMul, Int.reduceAdd, Int.reduceSub, List.map_cons, List.map_nil, Option.map_some, Option.map_none, Option.elim_some, if_true, if_false, List.append_nil, List.nil_append, bvq, rEq, List.cons_append, Int.reduceToNat, List.getElem?_cons_zero, List.getElem?_cons_succ, TD.agg, List.drop_succ_cons, List.drop_zero, List.take_succ_cons, List.take_zero, List.take_nil, List.drop_nil, List.getD_cons_zero, List.getD_cons_succ, splice, zgu, zgv, Option.isSome_some, Option.isSome_none, List.getElem?_nil, zgw, zgx, rLen, rBin, rInt, rStr, rUn, zgy, zgz, zha, zhb, zhc, rBox, zhd, zhe, zhf, zhg, zhh, zhi, zhj, zhk, zhl, zhm, zhn, zho, zhp, zhq, zhr, zhs, zht, zhu, zhv, bound, addL, addT, grow, room, List.length_cons, List.length_nil, List.length_map, frOf, byq, ti_int, ti_value, ti_u64, ti_Number, ti_words, ti_uint, ti_bytes, ti_u8, ti_string, ↓blp, blq, cmpZ, if_pos h1']
    simp (disch := first | assumption | omega | (simp; done) | (simp; omega) | (simp only [bt, and_true]; first | done | omega | (simp; done))) [↓zkf, beq, List.take_of_length_le, List.drop_append, List.take_append, endOk, wk, wk2, wk1, wkM, wkL, wkLL, List.drop_eq_nil_of_le, hcl]
  · have h1' : ¬ a = b := by simpa using h1
    simp only [↓bwp, bwq, List.tail_nil, List.tail_cons, List.headD_nil, List.headD_cons, ne_eq, reduceCtorEq, Nat.reduceEqDiff, Nat.reduceAdd, Nat.reduceMul, Nat.reduceSub, Nat.reduceLeDiff, Nat.reduceLT, Int.reduceMul, Int.reduceAdd, Int.reduceSub, List.map_cons, List.map_nil, Option.map_some, Option.map_none, Option.elim_some, if_true, if_false, List.append_nil, List.nil_append, bvq, rEq, List.cons_append, Int.reduceToNat, List.getElem?_cons_zero, List.getElem?_cons_succ, TD.agg, List.drop_succ_cons, List.drop_zero, List.take_succ_cons, List.take_zero, List.take_nil, List.drop_nil, List.getD_cons_zero, List.getD_cons_succ, splice, zgu, zgv, Option.isSome_some, Option.isSome_none, List.getElem?_nil, zgw, zgx, rLen, rBin, rInt, rStr, rUn, zgy, zgz, zha, zhb, zhc, rBox, zhd, zhe, zhf, zhg, zhh, zhi, zhj, zhk, zhl, zhm, zhn, zho, zhp, zhq, zhr, zhs, zht, zhu, zhv, bound, addL, addT, grow, room, List.length_cons, List.length_nil, List.length_map, frOf, byq, ti_int, ti_value, ti_u64, ti_Number, ti_words, ti_uint, ti_bytes, ti_u8, ti_string, ↓blp, blq, p_NSub]
    refine ⟨a, b, ⟨rfl, rfl⟩, ?_⟩
    simp only [↓bwp, bwq, List.tail_nil, List.tail_cons, List.headD_nil, List.headD_cons, ne_eq, reduceCtorEq, Nat.reduceEqDiff, Nat.reduceAdd, Nat.reduceMul, Nat.reduceSub, Nat.reduceLeDiff, Nat.reduceLT, Int.reduceMul, Int.reduceAdd, Int.reduceSub, List.map_cons, List.map_nil, Option.map_some, Option.map_none, Option.elim_some, if_true, if_false, List.append_nil, List.nil_append, bvq, rEq, List.cons_append, Int.reduceToNat, List.getElem?_cons_zero, List.getElem?_cons_succ, TD.agg, List.drop_succ_cons, List.drop_zero, List.take_succ_cons, List.take_zero, List.take_nil, List.drop_nil, List.getD_cons_zero, List.getD_cons_succ, splice, zgu, zgv, Option.isSome_some, Option.isSome_none, List.getElem?_nil, zgw, zgx, rLen, rBin, rInt, rStr, rUn, zgy, zgz, zha, zhb, zhc, rBox, zhd, zhe, zhf, zhg, zhh, zhi, zhj, zhk, zhl, zhm, zhn, zho, zhp, zhq, zhr, zhs, zht, zhu, zhv, bound, addL, addT, grow, room, List.length_cons, List.length_nil, List.length_map, frOf, byq, ti_int, ti_value, ti_u64, ti_Number, ti_words, ti_uint, ti_bytes, ti_u8, ti_string, ↓blp, blq, nAV, p_Nneg]
    refine ⟨a - b, ⟨rfl, hc⟩, ?_⟩
    refine cond_split (fun h2 => ?_) (fun h2 => ?_)
    · have h2' : a < b := by simp at h2; omega
      simp only [↓bwp, bwq, List.tail_nil, List.tail_cons, List.headD_nil, List.headD_cons, ne_eq, reduceCtorEq, Nat.reduceEqDiff, Nat.reduceAdd, Nat.reduceMul, Nat.reduceSub, Nat.reduceLeDiff, Nat.reduceLT, Int.reduceMul, Int.reduceAdd, Int.reduceSub, List.map_cons, List.map_nil, Option.map_some, Option.map_none, Option.elim_some, if_true, if_false, List.append_nil, List.nil_append, bvq, rEq, List.cons_append, Int.reduceToNat, List.getElem?_cons_zero, List.getElem?_cons_succ, TD.agg, List.drop_succ_cons, List.drop_zero, List.take_succ_cons, List.take_zero, List.take_nil, List.drop_nil, List.getD_cons_zero, List.getD_cons_succ, splice, zgu, zgv, Option.isSome_some, Option.isSome_none, List.getElem?_nil, zgw, zgx, rLen, rBin, rInt, rStr, rUn, zgy, zgz, zha, zhb, zhc, rBox, zhd, zhe, zhf, zhg, zhh, zhi, zhj, zhk, zhl, zhm, zhn, zho, zhp, zhq, zhr, zhs, zht, zhu, zhv, bound, addL, addT, grow, room, List.length_cons, List.length_nil, List.length_map, frOf, byq, ti_int, ti_value, ti_u64, ti_Number, ti_words, ti_uint, ti_bytes, ti_u8, ti_string, ↓blp, blq]
      simp (disch := first | assumption | omega | (simp; done) | (simp; omega) | (simp only [bt, and_true]; first | done | omega | (simp; done))) [↓zkf, beq, List.take_of_length_le, List.drop_append, List.take_append, endOk, wk, wk2, wk1, wkM, wkL, wkLL, List.drop_eq_nil_of_le, cmpZ, h1', h2', hcl]
    · have h2' : ¬ a < b := by simp at h2; omega
      simp only [↓bwp, bwq, List.tail_nil, List.tail_cons, List.headD_nil, List.headD_cons, ne_eq, reduceCtorEq, Nat.reduceEqDiff, Nat.reduceAdd, Nat.reduceMul, Nat.reduceSub, Nat.reduceLeDiff, Nat.reduceLT, Int.reduceMul, Int.reduceAdd, Int.reduceSub, List.map_cons, List.map_nil, Option.map_some, Option.map_none, Option.elim_some, if_true, if_false, List.append_nil, List.nil_append, bvq, rEq, List.cons_append, Int.reduceToNat, List.getElem?_cons_zero, List.getElem?_cons_succ, TD.agg, List.drop_succ_cons, List.drop_zero, List.take_succ_cons, List.take_zero, List.take_nil, List.drop_nil, List.getD_cons_zero, List.getD_cons_succ, splice, zgu, zgv, Option.isSome_some, Option.isSome_none, List.getElem?_nil, zgw, zgx, rLen, rBin, rInt, rStr, rUn, zgy, zgz, zha, zhb, zhc, rBox, zhd, zhe, zhf, zhg, zhh, zhi, zhj, zhk, zhl, zhm, zhn, zho, zhp, zhq, zhr, zhs, zht, zhu, zhv, bound, addL, addT, grow, room, List.length_cons, List.length_nil, List.length_map, frOf, byq, ti_int, ti_value, ti_u64, ti_Number, ti_words, ti_uint, ti_bytes, ti_u8, ti_string, ↓blp, blq]
      simp (disch := first | assumption | omega | (simp; done) | (simp; omega) | (simp only [bt, and_true]; first | done | omega | (simp; done))) [↓zkf, beq, List.take_of_length_le, List.drop_append, List.take_append, endOk, wk, wk2, wk1, wkM, wkL, wkLL, List.drop_eq_nil_of_le, cmpZ, h1', h2', hcl]

/-- the value of a number, and whether it has one -/
def valAV (a : Int) : AV := if 0 ≤ a ∧ a < 2 ^ 128 then .tup [.agg [.int .u64 (a / 2 ^ 64), .int .u64 (a % 2 ^ 64)], .bool true] else .tup [.agg [.int .u64 0, .int .u64 0], .bool false]
def p_NValue : List AV → AHeap → (AV → Prop) → Prop
  | [x], _, K => ∃ a, (x = nAV a ∧ isN a) ∧ K (valAV a)
  | _, _, _ => False
theorem ok_NValue : EntOk Try.prog 18 (Ent.pure p_NValue) := by
  refine EntOk.pure fun args H K h => ?_
  unfold p_NValue at h
  split at h
  rotate_left
  · exact h.elim
  obtain ⟨a, ⟨rfl, ha⟩, hK⟩ := h
  refine ⟨_, hK, ?_⟩
  refine ACalls.of_aw (Ω := []) (T := assoc []) mixed TblOk.nil Try.func18 (by kernel_rfl) (by rfl) (rs := [.cell 2 44,.tmp 3]) (by rfl) (by kernel_rfl) (by simp only [Try.ntmps18, List.length_cons, List.length_nil]; decide) (Nat.le_refl _) fun hcl hlt => ?_
  change aw _ _ _ (KI Try.prog [] (aEnd Try.prog [.cell 2 44,.tmp 3] H.nx _ _) []) _ _
  clear hlt hK
  have hf := w_fits ha
  simp only [↓bwp, bwq, List.tail_nil, List.tail_cons, List.headD_nil, List.headD_cons, ne_eq, reduceCtorEq, Nat.reduceEqDiff, Nat.reduceAdd, Nat.reduceMul, Nat.reduceSub, Nat.reduceLeDiff, Nat.reduceLT, Int.reduceMul, Int.reduceAdd, Int.reduceSub, List.map_cons, List.map_nil, Option.map_some, Option.map_none, Option.elim_some, if_true, if_false, List.append_nil, List.nil_append, bvq, rEq, List.cons_append, Int.reduceToNat, List.getElem?_cons_zero, List.getElem?_cons_succ, TD.agg, List.drop_succ_cons, List.drop_zero, List.take_succ_cons, List.take_zero, List.take_nil, List.drop_nil, List.getD_cons_zero, List.getD_cons_succ, splice, zgu, zgv, Option.isSome_some, Option.isSome_none, List.getElem?_nil, zgw, zgx, rLen, rBin, rInt, rStr, rUn, zgy, zgz, zha, zhb, zhc, rBox, zhd, zhe, zhf, zhg, zhh, zhi, zhj, zhk, zhl, zhm, zhn, zho, zhp, zhq, zhr, zhs, zht, zhu, zhv, bound, addL, addT, grow, room, List.length_cons, List.length_nil, List.length_map, frOf, byq, ti_int, ti_value, ti_u64, ti_Number, ti_words, ti_uint, ti_bytes, ti_u8, ti_string, ↓blp, blq, nAV]
  refine ⟨by omega, cond_split (fun h1 => ?_) (fun h1 => ?_)⟩
  · have h1' : ¬ (0 ≤ a ∧ a < 2 ^ 128) := fun h => by rw [← hf] at h; simp [h] at h1
    simp only [↓bwp, bwq, List.tail_nil, List.tail_cons, List.headD_nil, List.headD_cons, ne_eq, reduceCtorEq, Nat.reduceEqDiff, Nat.reduceAdd, Nat.reduceMul, Nat.reduceSub, Nat.reduceLeDiff, Nat.reduceLT, Int.reduceMul, Int.reduceAdd, Int.reduceSub, List.map_cons, List.map_nil, Option.map_some, Option.map_none, Option.elim_some, if_true, if_false, List.append_nil, List.nil_append, bvq, rEq, List.cons_append, Int.reduceToNat, List.getElem?_cons_zero, List.getElem?_cons_succ, TD.agg, List.drop_succ_cons, List.drop_zero, List.take_succ_cons, List.take_zero, List.take_nil, List.drop_nil, List.getD_cons_zero, List.getD_cons_succ, splice, zgu, zgv, Option.isSome_some, Option.isSome_none, List.getElem?_nil, zgw, zgx, rLen, rBin, rInt, rStr, rUn, zgy, zgz, zha, zhb, zhc, rBox, zhd, zhe, zhf, zhg, zhh, zhi, zhj, zhk, zhl, zhm, zhn, zho, zhp, zhq, zhr, zhs, zht, zhu, zhv, bound, addL, addT, grow, room, List.length_cons, List.length_nil, List.length_map, frOf, byq, ti_int, ti_value, ti_u64, ti_Number, ti_words, ti_uint, ti_bytes, ti_u8, ti_string, ↓blp, blq, valAV, if_neg h1']
    simp (disch := first | assumption | omega | (simp; done) | (simp; omega) | (simp only [bt, and_true]; first | done | omega | (simp; done))) [↓zkf, beq, List.take_of_length_le, List.drop_append, List.take_append, endOk, wk, wk2, wk1, wkM, wkL, wkLL, List.drop_eq_nil_of_le, hcl]
  · have h1' : (0 ≤ a ∧ a < 2 ^ 128) := by rw [← hf]; simpa using h1
    have e1 : w1 a = a / 2 ^ 64 := by unfold w1; omega
    have e0 : w0 a = a % 2 ^ 64 := rfl
    simp only [↓bwp, bwq, List.tail_nil, List.tail_cons, List.headD_nil, List.headD_cons, ne_eq, reduceCtorEq, Nat.reduceEqDiff, Nat.reduceAdd, Nat.reduceMul, Nat.reduceSub, Nat.reduceLeDiff, Nat.reduceLT, Int.reduceMul, Int.reduceAdd, Int.reduceSub, List.map_cons, List.map_nil, Option.map_some, Option.map_none, Option.elim_some, if_true, if_false, List.append_nil, List.nil_append, bvq, rEq, List.cons_append, Int.reduceToNat, List.getElem?_cons_zero, List.getElem?_cons_succ, TD.agg, List.drop_succ_cons, List.drop_zero, List.take_succ_cons, List.take_zero, List.take_nil, List.drop_nil, List.getD_cons_zero, List.getD_cons_succ, splice, zgu, zgv, Option.isSome_some, Option.isSome_none, List.getElem?_nil, zgw, zgx, rLen, rBin, rInt, rStr, rUn, zgy, zgz, zha, zhb, zhc, rBox, zhd, zhe, zhf, zhg, zhh, zhi, zhj, zhk, zhl, zhm, zhn, zho, zhp, zhq, zhr, zhs, zht, zhu, zhv, bound, addL, addT, grow, room, List.length_cons, List.length_nil, List.length_map, frOf, byq, ti_int, ti_value, ti_u64, ti_Number, ti_words, ti_uint, ti_bytes, ti_u8, ti_string, ↓blp, blq, valAV, if_pos h1', e1, e0]
    refine ⟨by omega, by omega, ?_⟩
    simp (disch := first | assumption | omega | (simp; done) | (simp; omega) | (simp only [bt, and_true]; first | done | omega | (simp; done))) [↓zkf, beq, List.take_of_length_le, List.drop_append, List.take_append, endOk, wk, wk2, wk1, wkM, wkL, wkLL, List.drop_eq_nil_of_le, hcl]

def p_Len64 : List AV → AHeap → (AV → Prop) → Prop
  | [.int .u64 n], _, K => (0 ≤ n ∧ n < 18446744073709551616) ∧ K (.int .i64 (bl n.toNat : Nat))
  | _, _, _ => False
/-- the table of lengths -/
def lenTab : List UInt8 := (List.range 256).map fun n => UInt8.ofNat (bl n)
theorem lenTab_eq : ([0, 1, 2, 2, 3, 3, 3, 3, 4, 4, 4, 4, 4, 4, 4, 4, 5, 5, 5, 5, 5, 5, 5, 5, 5, 5, 5, 5, 5, 5, 5, 5, 6, 6, 6, 6, 6, 6, 6, 6, 6, 6, 6, 6, 6, 6, 6, 6, 6, 6, 6, 6, 6, 6, 6, 6, 6, 6, 6, 6, 6, 6, 6, 6].append [7, 7, 7, 7, 7, 7, 7, 7, 7, 7, 7, 7, 7, 7, 7, 7, 7, 7, 7, 7, 7, 7, 7, 7, 7, 7, 7, 7, 7, 7, 7, 7, 7, 7, 7, 7, 7, 7, 7, 7, 7, 7, 7, 7, 7, 7, 7, 7, 7, 7, 7, 7, 7, 7, 7, 7, 7, 7, 7, 7, 7, 7, 7, 7]).append ([8, 8, 8, 8, 8, 8, 8, 8, 8, 8, 8, 8, 8, 8, 8, 8, 8, 8, 8, 8, 8, 8, 8, 8, 8, 8, 8, 8, 8, 8, 8, 8, 8, 8, 8, 8, 8, 8, 8, 8, 8, 8, 8, 8, 8, 8, 8, 8, 8, 8, 8, 8, 8, 8, 8, 8, 8, 8, 8, 8, 8, 8, 8, 8].append [8, 8, 8, 8, 8, 8, 8, 8, 8, 8, 8, 8, 8, 8, 8, 8, 8, 8, 8, 8, 8, 8, 8, 8, 8, 8, 8, 8, 8, 8, 8, 8, 8, 8, 8, 8, 8, 8, 8, 8, 8, 8, 8, 8, 8, 8, 8, 8, 8, 8, 8, 8, 8, 8, 8, 8, 8, 8, 8, 8, 8, 8, 8, 8]) = lenTab := by decide +kernel
theorem lenTab_len : lenTab.length = 256 := by simp [lenTab]
theorem lenTab_get (n : Nat) (h : n < 256) : (lenTab.getD n 0).toNat = bl n := by
  unfold lenTab
  rw [List.getD_eq_getElem?_getD, List.getElem?_map, List.getElem?_range h]
  have : bl n ≤ 8 := bl_le.2 h
  simp only [Option.map_some, Option.getD_some]
  rw [UInt8.toNat_ofNat_of_lt' (by simp [UInt8.size]; omega)]

/-- one way through Len64: shifts by s in all -/
theorem len64_end {m s : Nat} {H : AHeap} (hcl : H.Closed) (hm : m < 2 ^ 64) (h : m >>> s < 256) (hs : s = 0 ∨ 2 ^ s ≤ m) :
    (0 ≤ IntKind.u8.wrap ((m >>> s : Nat) : Int) ∧ IntKind.u8.wrap ((m >>> s : Nat) : Int) < (lenTab.length : Int)) ∧
    endOk H (AV.int IntKind.i64 (IntKind.i64.wrap ((s : Int) + IntKind.i64.wrap ((lenTab.getD (IntKind.u8.wrap ((m >>> s : Nat) : Int)).toNat 0).toNat : Int)))) H (AV.int IntKind.i64 (bl m : Nat)) := by
  have e : IntKind.u8.wrap ((m >>> s : Nat) : Int) = ((m >>> s : Nat) : Int) := by
    have : IntKind.u8.wrap ((m >>> s : Nat) : Int) = ((m >>> s : Nat) : Int) % 256 := by simp [IntKind.wrap, IntKind.signed, IntKind.bits]
    rw [this]
    generalize m >>> s = x at h ⊢
    omega
  rw [e, lenTab_len, Int.toNat_natCast, lenTab_get _ h]
  refine ⟨⟨Int.natCast_nonneg _, by generalize m >>> s = x at h ⊢; omega⟩, ?_⟩
  have hb : bl m = s + bl (m >>> s) := by
    rcases hs with rfl | hs
    · simp
    · exact bl_shift m s hs
  have h8 : bl (m >>> s) ≤ 8 := bl_le.2 h
  have h64 : bl m ≤ 64 := bl_le.2 hm
  have e2 : IntKind.i64.wrap ((bl (m >>> s) : Nat) : Int) = (bl (m >>> s) : Nat) := by rw [wrap_i64] <;> omega
  have e3 : IntKind.i64.wrap ((s : Int) + (bl (m >>> s) : Nat)) = (bl m : Nat) := by rw [wrap_i64] <;> omega
  rw [e2, e3]
  simp [endOk, wk, wk2, wk1, zkn, hcl, zkw]

theorem ok_Len64 : EntOk Try.prog 47 (Ent.pure p_Len64) := by
  refine EntOk.pure fun args H K h => ?_
  unfold p_Len64 at h
  split at h
  rotate_left
  · exact h.elim
  rename_i n
  obtain ⟨⟨h0, h1⟩, hK⟩ := h
  refine ⟨_, hK, ?_⟩
  obtain ⟨m, rfl⟩ := u64_lift h0
  clear hK h0
  rw [Int.toNat_natCast]
  have hm : m < 2 ^ 64 := by omega
  clear h1
  refine ACalls.of_aw (Ω := []) (T := assoc []) mixed TblOk.nil Try.func47 (by kernel_rfl) (by rfl) (rs := [.tmp 2]) (by rfl) (by kernel_rfl) (by simp only [Try.ntmps47, List.length_cons, List.length_nil]; decide) (Nat.le_refl _) fun hcl hlt => ?_
  change aw _ _ _ (KI Try.prog [] (aEnd Try.prog [.tmp 2] H.nx _ _) []) _ _
  clear hlt
  have s32 : ∀ a : Nat, a < 2 ^ 64 → ishr .u64 (a : Int) 32 = ((a >>> 32 : Nat) : Int) := fun a h => ishr_u64 a 32 h
  have s16 : ∀ a : Nat, a < 2 ^ 64 → ishr .u64 (a : Int) 16 = ((a >>> 16 : Nat) : Int) := fun a h => ishr_u64 a 16 h
  have s8 : ∀ a : Nat, a < 2 ^ 64 → ishr .u64 (a : Int) 8 = ((a >>> 8 : Nat) : Int) := fun a h => ishr_u64 a 8 h
  have q1 : m >>> 32 < 2 ^ 64 := shr_lt hm
  have q2 : m >>> 16 < 2 ^ 64 := shr_lt hm
  have q3 : m >>> 32 >>> 16 < 2 ^ 64 := shr_lt q1
  have w48 : IntKind.i64.wrap 48 = 48 := by decide
  have w40 : IntKind.i64.wrap 40 = 40 := by decide
  have w24 : IntKind.i64.wrap 24 = 24 := by decide
  have w56 : IntKind.i64.wrap (48 + 8) = 56 := by decide
  have q4 : m >>> 48 < 2 ^ 64 := shr_lt hm
  simp only [↓bwp, bwq, zat, List.tail_nil, List.tail_cons, List.headD_nil, List.headD_cons, ne_eq, reduceCtorEq, Nat.reduceEqDiff, Nat.reduceAdd, Nat.reduceMul, Nat.reduceSub, Nat.reduceLeDiff, Nat.reduceLT, Int.reduceMul, Int.reduceAdd, Int.reduceSub, List.map_cons, List.map_nil, Option.map_some, Option.map_none, Option.elim_some, if_true, if_false, List.append_nil, List.nil_append, bvq, rEq, List.cons_append, Int.reduceToNat, List.getElem?_cons_zero, List.getElem?_cons_succ, TD.agg, List.drop_succ_cons, List.drop_zero, List.take_succ_cons, List.take_zero, List.take_nil, List.drop_nil, List.getD_cons_zero, List.getD_cons_succ, splice, zgu, zgv, Option.isSome_some, Option.isSome_none, List.getElem?_nil, zgw, zgx, rLen, rBin, rInt, rStr, rUn, zgy, zgz, zha, zhb, zhc, rBox, zhd, zhe, zhf, zhg, zhh, zhi, zhj, zhk, zhl, zhm, zhn, zho, zhp, zhq, zhr, zhs, zht, zhu, zhv, bound, addL, addT, grow, room, List.length_cons, List.length_nil, List.length_map, frOf, byq, ti_int, ti_value, ti_u64, ti_Number, ti_words, ti_uint, ti_bytes, ti_u8, ti_string, lenTab_eq, s32, s16, s8, hm, q1, q2, q3, q4, w48, w40, w24, w56, ← Nat.shiftRight_add]
  have sr : ∀ k : Nat, m >>> k = m / 2 ^ k := fun k => Nat.shiftRight_eq_div_pow m k
  have fin := fun s => @len64_end m s H hcl hm
  refine both_split (fun t1 => ⟨by decide, both_split (fun t2 => ⟨by decide, both_split (fun t3 => ⟨by decide, ?_⟩) (fun t3 => ?_)⟩) (fun t2 => both_split (fun t3 => ⟨by decide, ?_⟩) (fun t3 => ?_))⟩)
    (fun t1 => both_split (fun t2 => ⟨by decide, both_split (fun t3 => ⟨by decide, ?_⟩) (fun t3 => ?_)⟩) (fun t2 => both_split (fun t3 => ⟨by decide, ?_⟩) (fun t3 => ?_)))
  all_goals simp only [decide_eq_true_eq, decide_eq_false_iff_not, sr, ge_iff_le] at t1 t2 t3
  · exact fin 56 (by rw [sr]; omega) (.inr (by omega))
  · exact fin 48 (by rw [sr]; omega) (.inr (by omega))
  · exact fin 40 (by rw [sr]; omega) (.inr (by omega))
  · exact fin 32 (by rw [sr]; omega) (.inr (by omega))
  · exact fin 24 (by rw [sr]; omega) (.inr (by omega))
  · exact fin 16 (by rw [sr]; omega) (.inr (by omega))
  · exact fin 8 (by rw [sr]; omega) (.inr (by omega))
  · exact fin 0 (by rw [sr]; omega) (.inl rfl)


def p_LZ64 : List AV → AHeap → (AV → Prop) → Prop
  | [.int .u64 n], _, K => (0 ≤ n ∧ n < 18446744073709551616) ∧ K (.int .i64 (64 - (bl n.toNat : Nat)))
  | _, _, _ => False
theorem ok_LZ64 : EntOk Try.prog 45 (Ent.pure p_LZ64) := by
  refine EntOk.pure fun args H K h => ?_
  unfold p_LZ64 at h
  split at h
  rotate_left
  · exact h.elim
  rename_i n
  obtain ⟨⟨h0, h1⟩, hK⟩ := h
  refine ⟨_, hK, ?_⟩
  refine ACalls.of_aw (Ω := [(47, Ent.pure p_Len64)]) (T := assoc []) mixed (TblOk.cons ok_Len64 TblOk.nil) Try.func45 (by kernel_rfl) (by rfl) (rs := [.tmp 2]) (by rfl) (by kernel_rfl) (by simp only [Try.ntmps45, List.length_cons, List.length_nil]; decide) (Nat.le_refl _) fun hcl hlt => ?_
  change aw _ _ _ (KI Try.prog [(47, Ent.pure p_Len64)] (aEnd Try.prog [.tmp 2] H.nx _ _) []) _ _
  clear hlt hK
  have h64 : bl n.toNat ≤ 64 := bl_le.2 (by omega)
  have e1 : IntKind.i64.wrap (64 - ((bl n.toNat : Nat) : Int)) = 64 - ((bl n.toNat : Nat) : Int) := by rw [wrap_i64] <;> omega
  simp only [↓bwp, bwq, zat, List.tail_nil, List.tail_cons, List.headD_nil, List.headD_cons, ne_eq, reduceCtorEq, Nat.reduceEqDiff, Nat.reduceAdd, Nat.reduceMul, Nat.reduceSub, Nat.reduceLeDiff, Nat.reduceLT, Int.reduceMul, Int.reduceAdd, Int.reduceSub, List.map_cons, List.map_nil, Option.map_some, Option.map_none, Option.elim_some, if_true, if_false, List.append_nil, List.nil_append, bvq, rEq, List.cons_append, Int.reduceToNat, List.getElem?_cons_zero, List.getElem?_cons_succ, TD.agg, List.drop_succ_cons, List.drop_zero, List.take_succ_cons, List.take_zero, List.take_nil, List.drop_nil, List.getD_cons_zero, List.getD_cons_succ, splice, zgu, zgv, Option.isSome_some, Option.isSome_none, List.getElem?_nil, zgw, zgx, rLen, rBin, rInt, rStr, rUn, zgy, zgz, zha, zhb, zhc, rBox, zhd, zhe, zhf, zhg, zhh, zhi, zhj, zhk, zhl, zhm, zhn, zho, zhp, zhq, zhr, zhs, zht, zhu, zhv, bound, addL, addT, grow, room, List.length_cons, List.length_nil, List.length_map, frOf, byq, ti_int, ti_value, ti_u64, ti_Number, ti_words, ti_uint, ti_bytes, ti_u8, ti_string, ↓blp, blq, p_Len64, e1]
  refine ⟨by omega, ?_⟩
  simp (disch := first | assumption | omega | (simp; done) | (simp; omega) | (simp only [bt, and_true]; first | done | omega | (simp; done))) [↓zkf, beq, List.take_of_length_le, List.drop_append, List.take_append, endOk, wk, wk2, wk1, wkM, wkL, wkLL, List.drop_eq_nil_of_le, hcl]

/-- bits that do not meet -/
theorem or_add {x y : Int} (k : Nat) (hx : 0 ≤ x ∧ x < 18446744073709551616) (hy : 0 ≤ y ∧ y < 18446744073709551616) (hk : x % 2 ^ k = 0) (hyk : y < 2 ^ k) (hs : x + y < 18446744073709551616) : ior .u64 x y = x + y := by
  obtain ⟨a, rfl⟩ := Int.eq_ofNat_of_zero_le hx.1
  obtain ⟨b, rfl⟩ := Int.eq_ofNat_of_zero_le hy.1
  rw [ior_u64 a b (by omega) (by omega)]
  have hk' : a % 2 ^ k = 0 := by
    have := hk
    rw [show ((2 : Int) ^ k) = ((2 ^ k : Nat) : Int) by simp] at this
    omega
  have hb : b < 2 ^ k := by
    have := hyk
    rw [show ((2 : Int) ^ k) = ((2 ^ k : Nat) : Int) by simp] at this
    omega
  have e : a = 2 ^ k * (a / 2 ^ k) := by have := Nat.div_add_mod a (2 ^ k); omega
  rw [e, ← Nat.two_pow_add_eq_or_of_lt hb]
  simp

def p_Div64 : List AV → AHeap → (AV → Prop) → Prop
  | [.int .u64 hi, .int .u64 lo, .int .u64 y], _, K => (0 ≤ hi ∧ hi < 10 ∧ 0 ≤ lo ∧ lo < 18446744073709551616 ∧ y = 10) ∧ K (.tup [.int .u64 ((hi * 2 ^ 64 + lo) / 10), .int .u64 ((hi * 2 ^ 64 + lo) % 10)])
  | _, _, _ => False
set_option maxHeartbeats 1000000 in
theorem ok_Div64 : EntOk Try.prog 41 (Ent.pure p_Div64) := by
  refine EntOk.pure fun args H K h => ?_
  unfold p_Div64 at h
  split at h
  rotate_left
  · exact h.elim
  rename_i hi lo y
  obtain ⟨⟨h0, h1, h2, h3, rfl⟩, hK⟩ := h
  refine ⟨_, hK, ?_⟩
  refine ACalls.of_aw (Ω := [(45, Ent.pure p_LZ64)]) (T := assoc []) mixed (TblOk.cons ok_LZ64 TblOk.nil) Try.func41 (by kernel_rfl) (by rfl) (rs := [.tmp 6,.tmp 7]) (by rfl) (by kernel_rfl) (by simp only [Try.ntmps41, List.length_cons, List.length_nil]; decide) (Nat.le_refl _) fun hcl hlt => ?_
  change aw _ _ _ (KI Try.prog [(45, Ent.pure p_LZ64)] (aEnd Try.prog [.tmp 6,.tmp 7] H.nx _ _) []) _ _
  clear hlt hK
  have b10 : bl 10 = 4 := by decide +kernel
  have hd : decide ((10 : Int) ≤ hi) = false := decide_eq_false (by omega)
  have hz : ((10 : Int) == 0) = false := rfl
  have hnz : ((10 : Int) = 0) = False := eq_false (by decide)
  simp only [↓bwp, bwq, List.tail_nil, List.tail_cons, List.headD_nil, List.headD_cons, ne_eq, reduceCtorEq, Nat.reduceEqDiff, Nat.reduceAdd, Nat.reduceMul, Nat.reduceSub, Nat.reduceLeDiff, Nat.reduceLT, Int.reduceMul, Int.reduceAdd, Int.reduceSub, List.map_cons, List.map_nil, Option.map_some, Option.map_none, Option.elim_some, if_true, if_false, List.append_nil, List.nil_append, zar, zas, bvq, rEq, List.cons_append, Int.reduceToNat, List.getElem?_cons_zero, List.getElem?_cons_succ, TD.agg, List.drop_succ_cons, List.drop_zero, List.take_succ_cons, List.take_zero, List.take_nil, List.drop_nil, List.getD_cons_zero, List.getD_cons_succ, splice, zgu, zgv, Option.isSome_some, Option.isSome_none, List.getElem?_nil, zgw, zgx, rLen, rBin, rInt, rStr, rUn, zgy, zgz, zha, zhb, zhc, rBox, zhd, zhe, zhf, zhg, zhh, zhi, zhj, zhk, zhl, zhm, zhn, zho, zhp, zhq, zhr, zhs, zht, zhu, zhv, bound, addL, addT, grow, room, List.length_cons, List.length_nil, List.length_map, frOf, byq, ti_int, ti_value, ti_u64, ti_Number, ti_words, ti_uint, ti_bytes, ti_u8, ti_string, ↓blp, blq, hd, hz]
  refine cond_split (fun h1 => ?_) (fun h1 => ?_)
  · have h1' : hi = 0 := by simpa using h1
    subst h1'
    have q1 : IntKind.u64.wrap (lo.tdiv 10) = lo / 10 := by rw [Int.tdiv_eq_ediv_of_nonneg h2, wrap_u64] <;> omega
    have q2 : lo.tmod 10 = lo % 10 := Int.tmod_eq_emod_of_nonneg h2
    have q3 : (0 * 2 ^ 64 + lo : Int) = lo := by omega
    simp only [↓bwp, bwq, List.tail_nil, List.tail_cons, List.headD_nil, List.headD_cons, ne_eq, reduceCtorEq, Nat.reduceEqDiff, Nat.reduceAdd, Nat.reduceMul, Nat.reduceSub, Nat.reduceLeDiff, Nat.reduceLT, Int.reduceMul, Int.reduceAdd, Int.reduceSub, List.map_cons, List.map_nil, Option.map_some, Option.map_none, Option.elim_some, if_true, if_false, List.append_nil, List.nil_append, zar, zas, bvq, rEq, List.cons_append, Int.reduceToNat, List.getElem?_cons_zero, List.getElem?_cons_succ, TD.agg, List.drop_succ_cons, List.drop_zero, List.take_succ_cons, List.take_zero, List.take_nil, List.drop_nil, List.getD_cons_zero, List.getD_cons_succ, splice, zgu, zgv, Option.isSome_some, Option.isSome_none, List.getElem?_nil, zgw, zgx, rLen, rBin, rInt, rStr, rUn, zgy, zgz, zha, zhb, zhc, rBox, zhd, zhe, zhf, zhg, zhh, zhi, zhj, zhk, zhl, zhm, zhn, zho, zhp, zhq, zhr, zhs, zht, zhu, zhv, bound, addL, addT, grow, room, List.length_cons, List.length_nil, List.length_map, frOf, byq, ti_int, ti_value, ti_u64, ti_Number, ti_words, ti_uint, ti_bytes, ti_u8, ti_string, ↓blp, blq, hd, hnz, q1, q2, q3]
    simp (disch := first | assumption | omega | (simp; done) | (simp; omega) | (simp only [bt, and_true]; first | done | omega | (simp; done))) [↓zkf, beq, List.take_of_length_le, List.drop_append, List.take_append, endOk, wk, wk2, wk1, wkM, wkL, wkLL, List.drop_eq_nil_of_le, hcl]
  · have e1 : IntKind.u64.wrap (64 - ((4 : Nat) : Int)) = 60 := by decide
    have e2 : ishl .u64 10 60 = 11529215046068469760 := by decide +kernel
    have e3 : ishr .u64 11529215046068469760 32 = 2684354560 := by decide +kernel
    have e4 : iand .u64 11529215046068469760 4294967295 = 0 := by decide +kernel
    have e5 : ishl .u64 hi 60 = hi * 1152921504606846976 := by
      show IntKind.u64.wrap (hi * 2 ^ (min 60 64)) = _
      rw [show (2 : Int) ^ (min 60 64) = 1152921504606846976 by decide, wrap_u64] <;> omega
    have e6 : IntKind.u64.wrap 4 = 4 := by decide
    have e7 : ishr .u64 lo 4 = lo / 16 := by
      unfold ishr
      rw [show min (4 : Int).toNat IntKind.u64.bits = 4 from rfl]
      exact Int.fdiv_eq_ediv_of_nonneg _ (by decide)
    have e8 : ior .u64 (hi * 1152921504606846976) (lo / 16) = hi * 1152921504606846976 + lo / 16 := or_add 60 (by omega) (by omega) (by omega) (by omega) (by omega)
    have e9 : ishl .u64 lo 60 = lo % 16 * 1152921504606846976 := by
      show IntKind.u64.wrap (lo * 2 ^ (min 60 64)) = _
      rw [show (2 : Int) ^ (min 60 64) = 1152921504606846976 by decide]
      have : IntKind.u64.wrap (lo * 1152921504606846976) = (lo * 1152921504606846976) % 18446744073709551616 := by simp [IntKind.wrap, IntKind.signed, IntKind.bits]
      rw [this]; omega
    have e10 : ishr .u64 (lo % 16 * 1152921504606846976) 32 = lo % 16 * 268435456 := by
      unfold ishr
      rw [show min (32 : Int).toNat IntKind.u64.bits = 32 from rfl, Int.fdiv_eq_ediv_of_nonneg _ (by decide)]; omega
    have e11 : iand .u64 (lo % 16 * 1152921504606846976) 4294967295 = 0 := by
      obtain ⟨m, rfl⟩ := Int.eq_ofNat_of_zero_le h2
      have : m % 16 < 16 := Nat.mod_lt _ (by decide)
      rw [show ((m : Int) % 16) = ((m % 16 : Nat) : Int) by omega]
      generalize m % 16 = z at this
      revert this; revert z
      decide +kernel
    generalize hU : hi * 1152921504606846976 + lo / 16 = U at *
    have e12 : IntKind.u64.wrap (U.tdiv 2684354560) = U / 2684354560 := by rw [Int.tdiv_eq_ediv_of_nonneg (by omega), wrap_u64] <;> omega
    generalize hq : U / 2684354560 = q at *
    have e13 : IntKind.u64.wrap (q * 2684354560) = q * 2684354560 := by rw [wrap_u64] <;> omega
    have e14 : IntKind.u64.wrap (U - q * 2684354560) = U - q * 2684354560 := by rw [wrap_u64] <;> omega
    have d1 : decide (q ≥ 4294967296) = false := decide_eq_false (by omega)
    have e15 : IntKind.u64.wrap (q * 0) = 0 := by rw [Int.mul_zero]; rfl
    have e16 : IntKind.u64.wrap (4294967296 * (U - q * 2684354560)) = 4294967296 * (U - q * 2684354560) := by rw [wrap_u64] <;> omega
    have e17 : IntKind.u64.wrap (4294967296 * (U - q * 2684354560) + lo % 16 * 268435456) = 4294967296 * (U - q * 2684354560) + lo % 16 * 268435456 := by rw [wrap_u64] <;> omega
    have d2 : decide ((0 : Int) > 4294967296 * (U - q * 2684354560) + lo % 16 * 268435456) = false := decide_eq_false (by omega)
    have e18 : IntKind.u64.wrap (U * 4294967296) = (U * 4294967296) % 18446744073709551616 := by simp [IntKind.wrap, IntKind.signed, IntKind.bits]
    have e19 : IntKind.u64.wrap (q * 11529215046068469760) = (q * 11529215046068469760) % 18446744073709551616 := by simp [IntKind.wrap, IntKind.signed, IntKind.bits]
    have e20 : IntKind.u64.wrap (IntKind.u64.wrap ((U * 4294967296) % 18446744073709551616 + lo % 16 * 268435456) - (q * 11529215046068469760) % 18446744073709551616) = 4294967296 * (U - q * 2684354560) + lo % 16 * 268435456 := by
      have w : ∀ x, IntKind.u64.wrap x = x % 18446744073709551616 := fun x => by simp [IntKind.wrap, IntKind.signed, IntKind.bits]
      rw [w, w]; omega
    simp only [↓bwp, bwq, List.tail_nil, List.tail_cons, List.headD_nil, List.headD_cons, ne_eq, reduceCtorEq, Nat.reduceEqDiff, Nat.reduceAdd, Nat.reduceMul, Nat.reduceSub, Nat.reduceLeDiff, Nat.reduceLT, Int.reduceMul, Int.reduceAdd, Int.reduceSub, List.map_cons, List.map_nil, Option.map_some, Option.map_none, Option.elim_some, if_true, if_false, List.append_nil, List.nil_append, zar, zas, bvq, rEq, List.cons_append, Int.reduceToNat, List.getElem?_cons_zero, List.getElem?_cons_succ, TD.agg, List.drop_succ_cons, List.drop_zero, List.take_succ_cons, List.take_zero, List.take_nil, List.drop_nil, List.getD_cons_zero, List.getD_cons_succ, splice, zgu, zgv, Option.isSome_some, Option.isSome_none, List.getElem?_nil, zgw, zgx, rLen, rBin, rInt, rStr, rUn, zgy, zgz, zha, zhb, zhc, rBox, zhd, zhe, zhf, zhg, zhh, zhi, zhj, zhk, zhl, zhm, zhn, zho, zhp, zhq, zhr, zhs, zht, zhu, zhv, bound, addL, addT, grow, room, List.length_cons, List.length_nil, List.length_map, frOf, byq, ti_int, ti_value, ti_u64, ti_Number, ti_words, ti_uint, ti_bytes, ti_u8, ti_string, ↓blp, blq, hd, p_LZ64, b10, e1, e2, e3, e4, e5, e6, e7, e8, e9, e10, e11, e12, e13, e14, hnz]
    refine ⟨by omega, by omega, by omega, by omega, by omega, by omega, by omega, by omega, loop_skip ?_⟩
    simp only [↓bwp, bwq, List.tail_nil, List.tail_cons, List.headD_nil, List.headD_cons, ne_eq, reduceCtorEq, Nat.reduceEqDiff, Nat.reduceAdd, Nat.reduceMul, Nat.reduceSub, Nat.reduceLeDiff, Nat.reduceLT, Int.reduceMul, Int.reduceAdd, Int.reduceSub, List.map_cons, List.map_nil, Option.map_some, Option.map_none, Option.elim_some, if_true, if_false, List.append_nil, List.nil_append, zar, zas, bvq, rEq, List.cons_append, Int.reduceToNat, List.getElem?_cons_zero, List.getElem?_cons_succ, TD.agg, List.drop_succ_cons, List.drop_zero, List.take_succ_cons, List.take_zero, List.take_nil, List.drop_nil, List.getD_cons_zero, List.getD_cons_succ, splice, zgu, zgv, Option.isSome_some, Option.isSome_none, List.getElem?_nil, zgw, zgx, rLen, rBin, rInt, rStr, rUn, zgy, zgz, zha, zhb, zhc, rBox, zhd, zhe, zhf, zhg, zhh, zhi, zhj, zhk, zhl, zhm, zhn, zho, zhp, zhq, zhr, zhs, zht, zhu, zhv, bound, addL, addT, grow, room, List.length_cons, List.length_nil, List.length_map, frOf, byq, ti_int, ti_value, ti_u64, ti_Number, ti_words, ti_uint, ti_bytes, ti_u8, ti_string, ↓blp, blq, hd, e12, e13, e14, e15, e16, e17, d1, d2, e18, e19, e20, if_false]
    refine ⟨by omega, loop_skip ?_⟩
    generalize hT : 4294967296 * (U - q * 2684354560) + lo % 16 * 268435456 = T at *
    have f1 : IntKind.u64.wrap (T.tdiv 2684354560) = T / 2684354560 := by rw [Int.tdiv_eq_ediv_of_nonneg (by omega), wrap_u64] <;> omega
    generalize hp : T / 2684354560 = p at *
    have f2 : IntKind.u64.wrap (p * 2684354560) = p * 2684354560 := by rw [wrap_u64] <;> omega
    have f3 : IntKind.u64.wrap (T - p * 2684354560) = T - p * 2684354560 := by rw [wrap_u64] <;> omega
    have g1 : decide (p ≥ 4294967296) = false := decide_eq_false (by omega)
    have f4 : IntKind.u64.wrap (p * 0) = 0 := by rw [Int.mul_zero]; rfl
    have f5 : IntKind.u64.wrap (4294967296 * (T - p * 2684354560)) = 4294967296 * (T - p * 2684354560) := by rw [wrap_u64] <;> omega
    have f6 : IntKind.u64.wrap (4294967296 * (T - p * 2684354560) + 0) = 4294967296 * (T - p * 2684354560) := by rw [Int.add_zero, wrap_u64] <;> omega
    have g2 : decide ((0 : Int) > 4294967296 * (T - p * 2684354560)) = false := decide_eq_false (by omega)
    have w : ∀ x, IntKind.u64.wrap x = x % 18446744073709551616 := fun x => by simp [IntKind.wrap, IntKind.signed, IntKind.bits]
    have f7 : IntKind.u64.wrap (IntKind.u64.wrap (q * 4294967296) + p) = (hi * 2 ^ 64 + lo) / 10 := by rw [w, w]; omega
    have f8 : ishr .u64 (IntKind.u64.wrap (IntKind.u64.wrap (IntKind.u64.wrap (T * 4294967296) + 0) - IntKind.u64.wrap (p * 11529215046068469760))) 60 = (hi * 2 ^ 64 + lo) % 10 := by
      unfold ishr
      rw [show min (60 : Int).toNat IntKind.u64.bits = 60 from rfl, Int.fdiv_eq_ediv_of_nonneg _ (by decide), w, w, w, w]; omega
    simp only [↓bwp, bwq, List.tail_nil, List.tail_cons, List.headD_nil, List.headD_cons, ne_eq, reduceCtorEq, Nat.reduceEqDiff, Nat.reduceAdd, Nat.reduceMul, Nat.reduceSub, Nat.reduceLeDiff, Nat.reduceLT, Int.reduceMul, Int.reduceAdd, Int.reduceSub, List.map_cons, List.map_nil, Option.map_some, Option.map_none, Option.elim_some, if_true, if_false, List.append_nil, List.nil_append, zar, zas, bvq, rEq, List.cons_append, Int.reduceToNat, List.getElem?_cons_zero, List.getElem?_cons_succ, TD.agg, List.drop_succ_cons, List.drop_zero, List.take_succ_cons, List.take_zero, List.take_nil, List.drop_nil, List.getD_cons_zero, List.getD_cons_succ, splice, zgu, zgv, Option.isSome_some, Option.isSome_none, List.getElem?_nil, zgw, zgx, rLen, rBin, rInt, rStr, rUn, zgy, zgz, zha, zhb, zhc, rBox, zhd, zhe, zhf, zhg, zhh, zhi, zhj, zhk, zhl, zhm, zhn, zho, zhp, zhq, zhr, zhs, zht, zhu, zhv, bound, addL, addT, grow, room, List.length_cons, List.length_nil, List.length_map, frOf, byq, ti_int, ti_value, ti_u64, ti_Number, ti_words, ti_uint, ti_bytes, ti_u8, ti_string, ↓blp, blq, hd, f1, f2, f3, f4, f5, f6, f7, f8, g1, g2, if_false]
    refine ⟨by omega, ?_⟩
    simp (disch := first | assumption | omega | (simp; done) | (simp; omega) | (simp only [bt, and_true]; first | done | omega | (simp; done))) [↓zkf, beq, List.take_of_length_le, List.drop_append, List.take_append, endOk, wk, wk2, wk1, wkM, wkL, wkLL, List.drop_eq_nil_of_le, hcl]

/-- the words of a quotient by ten as far as they are done -/
def divk (a : Int) (k : Nat) : List AV := [.int .u64 (if 2 < k then w0 (a / 10) else w0 a), .int .u64 (if 1 < k then w1 (a / 10) else w1 a), .int .u64 (if 0 < k then w2 (a / 10) else w2 a)]
def remk (a : Int) (k : Nat) : Int := match k with
  | 0 => 0
  | 1 => (a / 2 ^ 128) % 10
  | 2 => (a / 2 ^ 64) % 10
  | _ => a % 10
theorem div_step {a : Int} (h0 : 0 ≤ a) (h1 : a < 2 ^ 192) : ((0 * 2 ^ 64 + w2 a) / 10 = w2 (a / 10) ∧ (0 * 2 ^ 64 + w2 a) % 10 = remk a 1) ∧
    ((remk a 1 * 2 ^ 64 + w1 a) / 10 = w1 (a / 10) ∧ (remk a 1 * 2 ^ 64 + w1 a) % 10 = remk a 2) ∧ ((remk a 2 * 2 ^ 64 + w0 a) / 10 = w0 (a / 10) ∧ (remk a 2 * 2 ^ 64 + w0 a) % 10 = remk a 3) := by
  have split : ∀ y : Int, 0 ≤ y → y < 2 ^ 192 → y = w0 y + 18446744073709551616 * w1 y + 340282366920938463463374607431768211456 * w2 y := fun y g0 g1 => by unfold w0 w1 w2; omega
  have ha := split a h0 h1
  have hy := split (a / 10) (by omega) (by omega)
  have a0 := w0_lt a
  have a1 := w1_lt a
  have a2 := w2_lt a
  have b0 := w0_lt (a / 10)
  have b1 := w1_lt (a / 10)
  have b2 := w2_lt (a / 10)
  have q1 : a / 2 ^ 128 = w2 a := by generalize w0 a = x0 at *; generalize w1 a = x1 at *; generalize w2 a = x2 at *; omega
  have q2 : a / 2 ^ 64 = w2 a * 18446744073709551616 + w1 a := by generalize w0 a = x0 at *; generalize w1 a = x1 at *; generalize w2 a = x2 at *; omega
  have q3 : remk a 3 = a % 10 := rfl
  simp only [remk, q1, q2]
  generalize w0 a = x0 at *
  generalize w1 a = x1 at *
  generalize w2 a = x2 at *
  generalize w0 (a / 10) = y0 at *
  generalize w1 (a / 10) = y1 at *
  generalize w2 (a / 10) = y2 at *
  have d2 : y2 = x2 / 10 := by omega
  have e2 : x2 = 10 * y2 + x2 % 10 := by omega
  generalize hr : x2 % 10 = r at *
  have d1 : y1 = (r * 18446744073709551616 + x1) / 10 := by omega
  have e3 : (x2 * 18446744073709551616 + x1) % 10 = (r * 18446744073709551616 + x1) % 10 := by omega
  refine ⟨⟨?_, ?_⟩, ⟨?_, ?_⟩, ?_, ?_⟩ <;> omega
def p_NDivide : List AV → AHeap → (AV → Prop) → Prop
  | [x], _, K => ∃ a, (x = nAV a ∧ 0 ≤ a ∧ a < 2 ^ 192) ∧ K (.tup [nAV (a / 10), .int .u8 (a % 10)])
  | _, _, _ => False
set_option maxHeartbeats 1000000 in
theorem ok_NDivide : EntOk Try.prog 29 (Ent.pure p_NDivide) := by
  refine EntOk.pure fun args H K h => ?_
  unfold p_NDivide at h
  split at h
  rotate_left
  · exact h.elim
  obtain ⟨a, ⟨rfl, h0, h1⟩, hK⟩ := h
  refine ⟨_, hK, ?_⟩
  refine ACalls.of_aw (Ω := [(41, Ent.pure p_Div64)]) (T := assoc []) mixed (TblOk.cons ok_Div64 TblOk.nil) Try.func29 (by kernel_rfl) (by rfl) (rs := [.cell 2 27,.tmp 3]) (by rfl) (by kernel_rfl) (by simp only [Try.ntmps29, List.length_cons, List.length_nil]; decide) (Nat.le_refl _) fun hcl hlt => ?_
  change aw _ _ _ (KI Try.prog [(41, Ent.pure p_Div64)] (aEnd Try.prog [.cell 2 27,.tmp 3] H.nx _ _) []) _ _
  clear hlt hK
  obtain ⟨⟨s1, s2⟩, ⟨s3, s4⟩, s5, s6⟩ := div_step h0 h1
  have a0 := w0_lt a
  have a1 := w1_lt a
  have a2 := w2_lt a
  have r0 : 0 ≤ remk a 0 ∧ remk a 0 < 10 := by simp [remk]
  have r1 : 0 ≤ remk a 1 ∧ remk a 1 < 10 := by simp only [remk]; omega
  have r2 : 0 ≤ remk a 2 ∧ remk a 2 < 10 := by simp only [remk]; omega
  simp only [↓bwp, bwq, List.tail_nil, List.tail_cons, List.headD_nil, List.headD_cons, ne_eq, reduceCtorEq, Nat.reduceEqDiff, Nat.reduceAdd, Nat.reduceMul, Nat.reduceSub, Nat.reduceLeDiff, Nat.reduceLT, Int.reduceMul, Int.reduceAdd, Int.reduceSub, List.map_cons, List.map_nil, Option.map_some, Option.map_none, Option.elim_some, if_true, if_false, List.append_nil, List.nil_append, bvq, rEq, List.cons_append, Int.reduceToNat, List.getElem?_cons_zero, List.getElem?_cons_succ, TD.agg, List.drop_succ_cons, List.drop_zero, List.take_succ_cons, List.take_zero, List.take_nil, List.drop_nil, List.getD_cons_zero, List.getD_cons_succ, splice, zgu, zgv, Option.isSome_some, Option.isSome_none, List.getElem?_nil, zgw, zgx, rLen, rBin, rInt, rStr, rUn, zgy, zgz, zha, zhb, zhc, rBox, zhd, zhe, zhf, zhg, zhh, zhi, zhj, zhk, zhl, zhm, zhn, zho, zhp, zhq, zhr, zhs, zht, zhu, zhv, bound, addL, addT, grow, room, List.length_cons, List.length_nil, List.length_map, frOf, byq, ti_int, ti_value, ti_u64, ti_Number, ti_words, ti_uint, ti_bytes, ti_u8, ti_string, ↓blp, blq, nAV]
  refine loop_intro (A := Nat) (fun k => [(5, .int .i64 (2 - (k : Int))), (4, .int .u64 (remk a k)), (2, .ptr (H.nx + 1) 0), (1, .ptr H.nx 0)])
    (fun k => (H.push (.cells (divk a k))).push (.cells [.int .u64 0, .int .u64 0, .int .u64 0]))
    (fun k => k ≤ 3) (fun k => 3 - k) 0 (by omega) ?_ fun k hk => ?_
  · simp only [bnq, enter, subF, ltF, ne_eq, Nat.reduceEqDiff, reduceCtorEq, divk, remk, Nat.lt_irrefl, if_false, true_or, and_true, Nat.not_lt_zero]
    rfl
  rcases (by omega : k = 0 ∨ k = 1 ∨ k = 2 ∨ k = 3) with rfl | rfl | rfl | rfl
  · have hd : decide ((2 - ((0 : Nat) : Int)) ≥ 0) = true := rfl
    have e1 : IntKind.i64.wrap (2 - ((0 : Nat) : Int) - 1) = 2 - ((1 : Nat) : Int) := by rw [wrap_i64] <;> omega
    have t1 : (2 - ((0 : Nat) : Int)).toNat = 2 := rfl
    simp only [↓bwp, bwq, List.tail_nil, List.tail_cons, List.headD_nil, List.headD_cons, ne_eq, reduceCtorEq, Nat.reduceEqDiff, Nat.reduceAdd, Nat.reduceMul, Nat.reduceSub, Nat.reduceLeDiff, Nat.reduceLT, Int.reduceMul, Int.reduceAdd, Int.reduceSub, List.map_cons, List.map_nil, Option.map_some, Option.map_none, Option.elim_some, if_true, if_false, List.append_nil, List.nil_append, zar, bvq, rEq, List.cons_append, Int.reduceToNat, List.getElem?_cons_zero, List.getElem?_cons_succ, TD.agg, List.drop_succ_cons, List.drop_zero, List.take_succ_cons, List.take_zero, List.take_nil, List.drop_nil, List.getD_cons_zero, List.getD_cons_succ, splice, zgu, zgv, Option.isSome_some, Option.isSome_none, List.getElem?_nil, zgw, zgx, rLen, rBin, rInt, rStr, rUn, zgy, zgz, zha, zhb, zhc, rBox, zhd, zhe, zhf, zhg, zhh, zhi, zhj, zhk, zhl, zhm, zhn, zho, zhp, zhq, zhr, zhs, zht, zhu, zhv, bound, addL, addT, grow, room, List.length_cons, List.length_nil, List.length_map, frOf, byq, ti_int, ti_value, ti_u64, ti_Number, ti_words, ti_uint, ti_bytes, ti_u8, ti_string, ↓blp, blq, hd, divk, e1, t1, p_Div64, show remk a 0 = 0 from rfl, s1, s2]
    refine ⟨by omega, by omega, by omega, 1, by omega, by omega, ?_⟩
    simp only [bnq, enter, subF, ltF, ne_eq, Nat.reduceEqDiff, reduceCtorEq]
    exact .inl rfl
  · have hd : decide ((2 - ((1 : Nat) : Int)) ≥ 0) = true := rfl
    have e1 : IntKind.i64.wrap (2 - ((1 : Nat) : Int) - 1) = 2 - ((2 : Nat) : Int) := by rw [wrap_i64] <;> omega
    have t1 : (2 - ((1 : Nat) : Int)).toNat = 1 := rfl
    simp only [↓bwp, bwq, List.tail_nil, List.tail_cons, List.headD_nil, List.headD_cons, ne_eq, reduceCtorEq, Nat.reduceEqDiff, Nat.reduceAdd, Nat.reduceMul, Nat.reduceSub, Nat.reduceLeDiff, Nat.reduceLT, Int.reduceMul, Int.reduceAdd, Int.reduceSub, List.map_cons, List.map_nil, Option.map_some, Option.map_none, Option.elim_some, if_true, if_false, List.append_nil, List.nil_append, zar, bvq, rEq, List.cons_append, Int.reduceToNat, List.getElem?_cons_zero, List.getElem?_cons_succ, TD.agg, List.drop_succ_cons, List.drop_zero, List.take_succ_cons, List.take_zero, List.take_nil, List.drop_nil, List.getD_cons_zero, List.getD_cons_succ, splice, zgu, zgv, Option.isSome_some, Option.isSome_none, List.getElem?_nil, zgw, zgx, rLen, rBin, rInt, rStr, rUn, zgy, zgz, zha, zhb, zhc, rBox, zhd, zhe, zhf, zhg, zhh, zhi, zhj, zhk, zhl, zhm, zhn, zho, zhp, zhq, zhr, zhs, zht, zhu, zhv, bound, addL, addT, grow, room, List.length_cons, List.length_nil, List.length_map, frOf, byq, ti_int, ti_value, ti_u64, ti_Number, ti_words, ti_uint, ti_bytes, ti_u8, ti_string, ↓blp, blq, hd, divk, e1, t1, p_Div64, s3, s4]
    refine ⟨by omega, by omega, by omega, 2, by omega, by omega, ?_⟩
    simp only [bnq, enter, subF, ltF, ne_eq, Nat.reduceEqDiff, reduceCtorEq]
    exact .inl rfl
  · have hd : decide ((2 - ((2 : Nat) : Int)) ≥ 0) = true := rfl
    have e1 : IntKind.i64.wrap (2 - ((2 : Nat) : Int) - 1) = 2 - ((3 : Nat) : Int) := by rw [wrap_i64] <;> omega
    have t1 : (2 - ((2 : Nat) : Int)).toNat = 0 := rfl
    simp only [↓bwp, bwq, List.tail_nil, List.tail_cons, List.headD_nil, List.headD_cons, ne_eq, reduceCtorEq, Nat.reduceEqDiff, Nat.reduceAdd, Nat.reduceMul, Nat.reduceSub, Nat.reduceLeDiff, Nat.reduceLT, Int.reduceMul, Int.reduceAdd, Int.reduceSub, List.map_cons, List.map_nil, Option.map_some, Option.map_none, Option.elim_some, if_true, if_false, List.append_nil, List.nil_append, zar, bvq, rEq, List.cons_append, Int.reduceToNat, List.getElem?_cons_zero, List.getElem?_cons_succ, TD.agg, List.drop_succ_cons, List.drop_zero, List.take_succ_cons, List.take_zero, List.take_nil, List.drop_nil, List.getD_cons_zero, List.getD_cons_succ, splice, zgu, zgv, Option.isSome_some, Option.isSome_none, List.getElem?_nil, zgw, zgx, rLen, rBin, rInt, rStr, rUn, zgy, zgz, zha, zhb, zhc, rBox, zhd, zhe, zhf, zhg, zhh, zhi, zhj, zhk, zhl, zhm, zhn, zho, zhp, zhq, zhr, zhs, zht, zhu, zhv, bound, addL, addT, grow, room, List.length_cons, List.length_nil, List.length_map, frOf, byq, ti_int, ti_value, ti_u64, ti_Number, ti_words, ti_uint, ti_bytes, ti_u8, ti_string, ↓blp, blq, hd, divk, e1, t1, p_Div64, s5, s6]
    refine ⟨by omega, by omega, by omega, 3, by omega, by omega, ?_⟩
    simp only [bnq, enter, subF, ltF, ne_eq, Nat.reduceEqDiff, reduceCtorEq]
    exact .inl rfl
  · have hd : decide ((2 - ((3 : Nat) : Int)) ≥ 0) = false := rfl
    have e1 : IntKind.u8.wrap (remk a 3) = a % 10 := by
      have : IntKind.u8.wrap (a % 10) = a % 10 % 256 := by simp [IntKind.wrap, IntKind.signed, IntKind.bits]
      show IntKind.u8.wrap (a % 10) = a % 10
      rw [this]; omega
    simp only [↓bwp, bwq, List.tail_nil, List.tail_cons, List.headD_nil, List.headD_cons, ne_eq, reduceCtorEq, Nat.reduceEqDiff, Nat.reduceAdd, Nat.reduceMul, Nat.reduceSub, Nat.reduceLeDiff, Nat.reduceLT, Int.reduceMul, Int.reduceAdd, Int.reduceSub, List.map_cons, List.map_nil, Option.map_some, Option.map_none, Option.elim_some, if_true, if_false, List.append_nil, List.nil_append, zas, bvq, rEq, List.cons_append, Int.reduceToNat, List.getElem?_cons_zero, List.getElem?_cons_succ, TD.agg, List.drop_succ_cons, List.drop_zero, List.take_succ_cons, List.take_zero, List.take_nil, List.drop_nil, List.getD_cons_zero, List.getD_cons_succ, splice, zgu, zgv, Option.isSome_some, Option.isSome_none, List.getElem?_nil, zgw, zgx, rLen, rBin, rInt, rStr, rUn, zgy, zgz, zha, zhb, zhc, rBox, zhd, zhe, zhf, zhg, zhh, zhi, zhj, zhk, zhl, zhm, zhn, zho, zhp, zhq, zhr, zhs, zht, zhu, zhv, bound, addL, addT, grow, room, List.length_cons, List.length_nil, List.length_map, frOf, byq, ti_int, ti_value, ti_u64, ti_Number, ti_words, ti_uint, ti_bytes, ti_u8, ti_string, ↓blp, blq, hd, divk, e1]
    simp (disch := first | assumption | omega | (simp; done) | (simp; omega) | (simp only [bt, and_true]; first | done | omega | (simp; done))) [↓zkf, beq, List.take_of_length_le, List.drop_append, List.take_append, endOk, wk, wk2, wk1, wkM, wkL, wkLL, List.drop_eq_nil_of_le, hcl]

/-- the decimal digits of a number, in front of others -/
def dtx (n : Nat) (b : List UInt8) : List UInt8 := if h : n / 10 = 0 then UInt8.ofNat (48 + n % 10) :: b else dtx (n / 10) (UInt8.ofNat (48 + n % 10) :: b)
decreasing_by omega
def txt (a : Int) : List UInt8 := if a < 0 then 45 :: dtx a.natAbs [] else dtx a.natAbs []
theorem dtx_len (n : Nat) (b : List UInt8) : ∀ k, n < 10 ^ k → 0 < k → (dtx n b).length ≤ b.length + k := by
  induction n using Nat.strongRecOn generalizing b with
  | _ n ih =>
    intro k hk h0
    rw [dtx]
    split
    · simp; omega
    · obtain ⟨j, rfl⟩ : ∃ j, k = j + 1 := ⟨k - 1, by omega⟩
      have : n / 10 < 10 ^ j := Nat.div_lt_of_lt_mul (by rw [Nat.pow_succ] at hk; omega)
      have hj : 0 < j := by
        rcases Nat.eq_zero_or_pos j with rfl | h
        · simp at this; omega
        · exact h
      have := ih (n / 10) (by omega) (UInt8.ofNat (48 + n % 10) :: b) j this hj
      simp at this ⊢; omega
def p_NText : List AV → AHeap → (AV → Prop) → Prop
  | [x], _, K => ∃ a, (x = nAV a ∧ -(2 ^ 190) ≤ a ∧ a < 2 ^ 190) ∧ K (.str (txt a))
  | _, _, _ => False
set_option maxHeartbeats 1000000 in
theorem ok_NText : EntOk Try.prog 9 (Ent.pure p_NText) := by
  refine EntOk.pure fun args H K h => ?_
  unfold p_NText at h
  split at h
  rotate_left
  · exact h.elim
  obtain ⟨a, ⟨rfl, h0, h1⟩, hK⟩ := h
  refine ⟨_, hK, ?_⟩
  refine ACalls.of_aw (Ω := [(28, Ent.pure p_Nneg), (11, Ent.pure p_NNeg), (29, Ent.pure p_NDivide), (13, Ent.pure p_NOf)]) (T := assoc []) mixed (TblOk.cons ok_Nneg (TblOk.cons ok_NNeg (TblOk.cons ok_NDivide (TblOk.cons ok_NOf TblOk.nil)))) Try.func9 (by kernel_rfl) (by rfl) (rs := [.tmp 2]) (by rfl) (by kernel_rfl) (by simp only [Try.ntmps9, List.length_cons, List.length_nil]; decide) (Nat.le_refl _) fun hcl hlt => ?_
  change aw _ _ _ (KI Try.prog [(28, Ent.pure p_Nneg), (11, Ent.pure p_NNeg), (29, Ent.pure p_NDivide), (13, Ent.pure p_NOf)] (aEnd Try.prog [.tmp 2] H.nx _ _) []) _ _
  clear hlt hK
  have hn : isN a := ⟨by omega, by omega⟩
  simp only [↓bwp, bwq, List.tail_nil, List.tail_cons, List.headD_nil, List.headD_cons, ne_eq, reduceCtorEq, Nat.reduceEqDiff, Nat.reduceAdd, Nat.reduceMul, Nat.reduceSub, Nat.reduceLeDiff, Nat.reduceLT, Int.reduceMul, Int.reduceAdd, Int.reduceSub, List.map_cons, List.map_nil, Option.map_some, Option.map_none, Option.elim_some, if_true, if_false, List.append_nil, List.nil_append, bvq, rEq, List.cons_append, Int.reduceToNat, List.getElem?_cons_zero, List.getElem?_cons_succ, TD.agg, List.drop_succ_cons, List.drop_zero, List.take_succ_cons, List.take_zero, List.take_nil, List.drop_nil, List.getD_cons_zero, List.getD_cons_succ, splice, zgu, zgv, Option.isSome_some, Option.isSome_none, List.getElem?_nil, zgw, zgx, rLen, rBin, rInt, rStr, rUn, zgy, zgz, zha, zhb, zhc, rBox, zhd, zhe, zhf, zhg, zhh, zhi, zhj, zhk, zhl, zhm, zhn, zho, zhp, zhq, zhr, zhs, zht, zhu, zhv, bound, addL, addT, grow, room, List.length_cons, List.length_nil, List.length_map, frOf, byq, ti_int, ti_value, ti_u64, ti_Number, ti_words, ti_uint, ti_bytes, ti_u8, ti_string, ↓blp, blq, nAV, p_Nneg]
  refine ⟨a, ⟨rfl, hn⟩, ?_⟩
  refine cond_split (fun h1 => ?_) (fun h1 => ?_)
  · have h1' : a < 0 := by simpa using h1
    have ez : -a = ((a.natAbs : Nat) : Int) := by omega
    have hm : a.natAbs < 2 ^ 190 + 1 := by omega
    have ht : txt a = 45 :: dtx a.natAbs [] := by unfold txt; rw [if_pos h1']
    simp only [↓bwp, bwq, List.tail_nil, List.tail_cons, List.headD_nil, List.headD_cons, ne_eq, reduceCtorEq, Nat.reduceEqDiff, Nat.reduceAdd, Nat.reduceMul, Nat.reduceSub, Nat.reduceLeDiff, Nat.reduceLT, Int.reduceMul, Int.reduceAdd, Int.reduceSub, List.map_cons, List.map_nil, Option.map_some, Option.map_none, Option.elim_some, if_true, if_false, List.append_nil, List.nil_append, bvq, rEq, List.cons_append, Int.reduceToNat, List.getElem?_cons_zero, List.getElem?_cons_succ, TD.agg, List.drop_succ_cons, List.drop_zero, List.take_succ_cons, List.take_zero, List.take_nil, List.drop_nil, List.getD_cons_zero, List.getD_cons_succ, splice, zgu, zgv, Option.isSome_some, Option.isSome_none, List.getElem?_nil, zgw, zgx, rLen, rBin, rInt, rStr, rUn, zgy, zgz, zha, zhb, zhc, rBox, zhd, zhe, zhf, zhg, zhh, zhi, zhj, zhk, zhl, zhm, zhn, zho, zhp, zhq, zhr, zhs, zht, zhu, zhv, bound, addL, addT, grow, room, List.length_cons, List.length_nil, List.length_map, frOf, byq, ti_int, ti_value, ti_u64, ti_Number, ti_words, ti_uint, ti_bytes, ti_u8, ti_string, ↓blp, blq, p_NNeg]
    refine ⟨a, rfl, ?_⟩
    rw [ez, ht]
    generalize a.natAbs = n0 at *
    simp only [↓bwp, bwq, List.tail_nil, List.tail_cons, List.headD_nil, List.headD_cons, ne_eq, reduceCtorEq, Nat.reduceEqDiff, Nat.reduceAdd, Nat.reduceMul, Nat.reduceSub, Nat.reduceLeDiff, Nat.reduceLT, Int.reduceMul, Int.reduceAdd, Int.reduceSub, List.map_cons, List.map_nil, Option.map_some, Option.map_none, Option.elim_some, if_true, if_false, List.append_nil, List.nil_append, bvq, rEq, List.cons_append, Int.reduceToNat, List.getElem?_cons_zero, List.getElem?_cons_succ, TD.agg, List.drop_succ_cons, List.drop_zero, List.take_succ_cons, List.take_zero, List.take_nil, List.drop_nil, List.getD_cons_zero, List.getD_cons_succ, splice, zgu, zgv, Option.isSome_some, Option.isSome_none, List.getElem?_nil, zgw, zgx, rLen, rBin, rInt, rStr, rUn, zgy, zgz, zha, zhb, zhc, rBox, zhd, zhe, zhf, zhg, zhh, zhi, zhj, zhk, zhl, zhm, zhn, zho, zhp, zhq, zhr, zhs, zht, zhu, zhv, bound, addL, addT, grow, room, List.length_cons, List.length_nil, List.length_map, frOf, byq, ti_int, ti_value, ti_u64, ti_Number, ti_words, ti_uint, ti_bytes, ti_u8, ti_string, ↓blp, blq, nAV]
    refine loop_introW (A := Nat × List UInt8) (fun x => [(4, .slice .any 1 (bys x.2)), (3, .bool (decide (a < 0))), (1, .ptr H.nx 0)])
      (fun x => H.push (.cells [.int .u64 (w0 (x.1 : Int)), .int .u64 (w1 (x.1 : Int)), .int .u64 (w2 (x.1 : Int))]))
      (fun x => x.1 < 2 ^ 190 + 1 ∧ dtx x.1 x.2 = dtx n0 [] ∧ x.2.length ≤ 58 ∧ x.1 < 10 ^ (58 - x.2.length)) (fun x => x.1) (n0, []) ⟨hm, rfl, by simp, by simp; omega⟩ ?_ fun x hx => ?_
    · simp only [bkq, enterW, subW, ltF, ne_eq, Nat.reduceEqDiff, reduceCtorEq]
      simp (disch := first | assumption | omega | (simp; done) | (simp; omega) | (simp only [bt, and_true]; first | done | omega | (simp; done))) [↓zkf, beq, List.take_of_length_le, List.drop_append, List.take_append, endOk, wk, wk2, wk1, wkM, wkL, wkLL, List.drop_eq_nil_of_le, byq, hcl]
    obtain ⟨n, b⟩ := x
    obtain ⟨hn, hb, hl58, hnl⟩ := hx
    dsimp only at *
    have hbl : n / 10 ≠ 0 → b.length < 58 ∧ n / 10 < 10 ^ (58 - (b.length + 1)) := fun hne => by
      by_cases hc : b.length < 58
      · refine ⟨hc, Nat.div_lt_of_lt_mul ?_⟩
        rw [Nat.mul_comm, ← Nat.pow_succ, show (58 - (b.length + 1)).succ = 58 - b.length by omega]; exact hnl
      · rw [show 58 - b.length = 0 by omega] at hnl
        omega
    have hq : ((n : Int) / 10) = ((n / 10 : Nat) : Int) := by omega
    have hr : ((n : Int) % 10) = ((n % 10 : Nat) : Int) := by omega
    have hd : IntKind.u8.wrap (48 + ((n % 10 : Nat) : Int)) = ((48 + n % 10 : Nat) : Int) := by
      have : IntKind.u8.wrap (48 + ((n % 10 : Nat) : Int)) = (48 + ((n % 10 : Nat) : Int)) % 256 := by simp [IntKind.wrap, IntKind.signed, IntKind.bits]
      rw [this]; omega
    have hd2 : AV.int .u8 ((48 + n % 10 : Nat) : Int) = ofByte (UInt8.ofNat (48 + n % 10)) := by rw [bys_lit (by omega) (by omega)]; rfl
    have hw := @w_eq ((n / 10 : Nat) : Int) 0 ⟨by omega, by omega⟩ ⟨by omega, by omega⟩
    simp only [↓bwp, bwq, List.tail_nil, List.tail_cons, List.headD_nil, List.headD_cons, ne_eq, reduceCtorEq, Nat.reduceEqDiff, Nat.reduceAdd, Nat.reduceMul, Nat.reduceSub, Nat.reduceLeDiff, Nat.reduceLT, Int.reduceMul, Int.reduceAdd, Int.reduceSub, List.map_cons, List.map_nil, Option.map_some, Option.map_none, Option.elim_some, if_true, if_false, List.append_nil, List.nil_append, bvq, rEq, List.cons_append, Int.reduceToNat, List.getElem?_cons_zero, List.getElem?_cons_succ, TD.agg, List.drop_succ_cons, List.drop_zero, List.take_succ_cons, List.take_zero, List.take_nil, List.drop_nil, List.getD_cons_zero, List.getD_cons_succ, splice, zgu, zgv, Option.isSome_some, Option.isSome_none, List.getElem?_nil, zgw, zgx, rLen, rBin, rInt, rStr, rUn, zgy, zgz, zha, zhb, zhc, rBox, zhd, zhe, zhf, zhg, zhh, zhi, zhj, zhk, zhl, zhm, zhn, zho, zhp, zhq, zhr, zhs, zht, zhu, zhv, bound, addL, addT, grow, room, List.length_cons, List.length_nil, List.length_map, frOf, byq, ti_int, ti_value, ti_u64, ti_Number, ti_words, ti_uint, ti_bytes, ti_u8, ti_string, ↓blp, blq, p_NDivide]
    refine ⟨(n : Int), ⟨rfl, by omega, by omega⟩, ?_⟩
    simp only [↓bwp, bwq, List.tail_nil, List.tail_cons, List.headD_nil, List.headD_cons, ne_eq, reduceCtorEq, Nat.reduceEqDiff, Nat.reduceAdd, Nat.reduceMul, Nat.reduceSub, Nat.reduceLeDiff, Nat.reduceLT, Int.reduceMul, Int.reduceAdd, Int.reduceSub, List.map_cons, List.map_nil, Option.map_some, Option.map_none, Option.elim_some, if_true, if_false, List.append_nil, List.nil_append, bvq, rEq, List.cons_append, Int.reduceToNat, List.getElem?_cons_zero, List.getElem?_cons_succ, TD.agg, List.drop_succ_cons, List.drop_zero, List.take_succ_cons, List.take_zero, List.take_nil, List.drop_nil, List.getD_cons_zero, List.getD_cons_succ, splice, zgu, zgv, Option.isSome_some, Option.isSome_none, List.getElem?_nil, zgw, zgx, rLen, rBin, rInt, rStr, rUn, zgy, zgz, zha, zhb, zhc, rBox, zhd, zhe, zhf, zhg, zhh, zhi, zhj, zhk, zhl, zhm, zhn, zho, zhp, zhq, zhr, zhs, zht, zhu, zhv, bound, addL, addT, grow, room, List.length_cons, List.length_nil, List.length_map, frOf, byq, ti_int, ti_value, ti_u64, ti_Number, ti_words, ti_uint, ti_bytes, ti_u8, ti_string, ↓blp, blq, p_NOf, nAV, hq, hr, hd, hd2, List.length_append, teq_num, eqg_num, Bool.bne_false, hw]
    refine ⟨by omega, by omega, cond_split (fun h2 => ?_) (fun h2 => ?_)⟩
    rotate_left
    · have h2' : n / 10 ≠ 0 := by simp at h2; omega
      simp only [↓bwp, bwq, List.tail_nil, List.tail_cons, List.headD_nil, List.headD_cons, ne_eq, reduceCtorEq, Nat.reduceEqDiff, Nat.reduceAdd, Nat.reduceMul, Nat.reduceSub, Nat.reduceLeDiff, Nat.reduceLT, Int.reduceMul, Int.reduceAdd, Int.reduceSub, List.map_cons, List.map_nil, Option.map_some, Option.map_none, Option.elim_some, if_true, if_false, List.append_nil, List.nil_append, bvq, rEq, List.cons_append, Int.reduceToNat, List.getElem?_cons_zero, List.getElem?_cons_succ, TD.agg, List.drop_succ_cons, List.drop_zero, List.take_succ_cons, List.take_zero, List.take_nil, List.drop_nil, List.getD_cons_zero, List.getD_cons_succ, splice, zgu, zgv, Option.isSome_some, Option.isSome_none, List.getElem?_nil, zgw, zgx, rLen, rBin, rInt, rStr, rUn, zgy, zgz, zha, zhb, zhc, rBox, zhd, zhe, zhf, zhg, zhh, zhi, zhj, zhk, zhl, zhm, zhn, zho, zhp, zhq, zhr, zhs, zht, zhu, zhv, bound, addL, addT, grow, room, List.length_cons, List.length_nil, List.length_map, frOf, byq, ti_int, ti_value, ti_u64, ti_Number, ti_words, ti_uint, ti_bytes, ti_u8, ti_string, ↓blp, blq]
      refine ⟨(n / 10, UInt8.ofNat (48 + n % 10) :: b), ⟨by omega, ?_, by have := hbl h2'; simp; omega, by simpa using (hbl h2').2⟩, by omega, ?_⟩
      · rw [dtx, dif_neg h2'] at hb; exact hb
      · simp only [bkq, enterW, subW, ltF, ne_eq, Nat.reduceEqDiff, reduceCtorEq]
        simp (disch := first | assumption | omega | (simp; done) | (simp; omega) | (simp only [bt, and_true]; first | done | omega | (simp; done))) [↓zkf, beq, List.take_of_length_le, List.drop_append, List.take_append, endOk, wk, wk2, wk1, wkM, wkL, wkLL, List.drop_eq_nil_of_le, byq, hcl]
    have h2' : n / 10 = 0 := by simp at h2; omega
    rw [dtx, dif_pos h2'] at hb
    rw [← hb]
    simp only [↓bwp, bwq, List.tail_nil, List.tail_cons, List.headD_nil, List.headD_cons, ne_eq, reduceCtorEq, Nat.reduceEqDiff, Nat.reduceAdd, Nat.reduceMul, Nat.reduceSub, Nat.reduceLeDiff, Nat.reduceLT, Int.reduceMul, Int.reduceAdd, Int.reduceSub, List.map_cons, List.map_nil, Option.map_some, Option.map_none, Option.elim_some, if_true, if_false, List.append_nil, List.nil_append, bvq, rEq, List.cons_append, Int.reduceToNat, List.getElem?_cons_zero, List.getElem?_cons_succ, TD.agg, List.drop_succ_cons, List.drop_zero, List.take_succ_cons, List.take_zero, List.take_nil, List.drop_nil, List.getD_cons_zero, List.getD_cons_succ, splice, zgu, zgv, Option.isSome_some, Option.isSome_none, List.getElem?_nil, zgw, zgx, rLen, rBin, rInt, rStr, rUn, zgy, zgz, zha, zhb, zhc, rBox, zhd, zhe, zhf, zhg, zhh, zhi, zhj, zhk, zhl, zhm, zhn, zho, zhp, zhq, zhr, zhs, zht, zhu, zhv, bound, addL, addT, grow, room, List.length_cons, List.length_nil, List.length_map, frOf, byq, ti_int, ti_value, ti_u64, ti_Number, ti_words, ti_uint, ti_bytes, ti_u8, ti_string, ↓blp, blq, zar, h1]
    have hms : maxStr = 9223372036854775807 := rfl
    simp (disch := first | assumption | omega | (simp; done) | (simp; omega) | (simp only [bt, and_true]; first | done | omega | (simp; done))) [↓zkf, beq, List.take_of_length_le, List.drop_append, List.take_append, endOk, wk, wk2, wk1, wkM, wkL, wkLL, List.drop_eq_nil_of_le, hcl]
    try omega
  · have h1' : ¬ a < 0 := by simpa using h1
    have ez : w0 a = w0 ((a.natAbs : Nat) : Int) ∧ w1 a = w1 ((a.natAbs : Nat) : Int) ∧ w2 a = w2 ((a.natAbs : Nat) : Int) := by
      have : a = ((a.natAbs : Nat) : Int) := by omega
      refine ⟨?_, ?_, ?_⟩ <;> exact congrArg _ this
    have hm : a.natAbs < 2 ^ 190 + 1 := by omega
    have ht : txt a = dtx a.natAbs [] := by unfold txt; rw [if_neg h1']
    rw [ht]
    obtain ⟨ez0, ez1, ez2⟩ := ez
    generalize a.natAbs = n0 at *
    simp only [↓bwp, bwq, List.tail_nil, List.tail_cons, List.headD_nil, List.headD_cons, ne_eq, reduceCtorEq, Nat.reduceEqDiff, Nat.reduceAdd, Nat.reduceMul, Nat.reduceSub, Nat.reduceLeDiff, Nat.reduceLT, Int.reduceMul, Int.reduceAdd, Int.reduceSub, List.map_cons, List.map_nil, Option.map_some, Option.map_none, Option.elim_some, if_true, if_false, List.append_nil, List.nil_append, bvq, rEq, List.cons_append, Int.reduceToNat, List.getElem?_cons_zero, List.getElem?_cons_succ, TD.agg, List.drop_succ_cons, List.drop_zero, List.take_succ_cons, List.take_zero, List.take_nil, List.drop_nil, List.getD_cons_zero, List.getD_cons_succ, splice, zgu, zgv, Option.isSome_some, Option.isSome_none, List.getElem?_nil, zgw, zgx, rLen, rBin, rInt, rStr, rUn, zgy, zgz, zha, zhb, zhc, rBox, zhd, zhe, zhf, zhg, zhh, zhi, zhj, zhk, zhl, zhm, zhn, zho, zhp, zhq, zhr, zhs, zht, zhu, zhv, bound, addL, addT, grow, room, List.length_cons, List.length_nil, List.length_map, frOf, byq, ti_int, ti_value, ti_u64, ti_Number, ti_words, ti_uint, ti_bytes, ti_u8, ti_string, ↓blp, blq, ez0, ez1, ez2]
    refine loop_introW (A := Nat × List UInt8) (fun x => [(4, .slice .any 1 (bys x.2)), (3, .bool (decide (a < 0))), (1, .ptr H.nx 0)])
      (fun x => H.push (.cells [.int .u64 (w0 (x.1 : Int)), .int .u64 (w1 (x.1 : Int)), .int .u64 (w2 (x.1 : Int))]))
      (fun x => x.1 < 2 ^ 190 + 1 ∧ dtx x.1 x.2 = dtx n0 [] ∧ x.2.length ≤ 58 ∧ x.1 < 10 ^ (58 - x.2.length)) (fun x => x.1) (n0, []) ⟨hm, rfl, by simp, by simp; omega⟩ ?_ fun x hx => ?_
    · simp only [bkq, enterW, subW, ltF, ne_eq, Nat.reduceEqDiff, reduceCtorEq]
      simp (disch := first | assumption | omega | (simp; done) | (simp; omega) | (simp only [bt, and_true]; first | done | omega | (simp; done))) [↓zkf, beq, List.take_of_length_le, List.drop_append, List.take_append, endOk, wk, wk2, wk1, wkM, wkL, wkLL, List.drop_eq_nil_of_le, byq, hcl]
    obtain ⟨n, b⟩ := x
    obtain ⟨hn, hb, hl58, hnl⟩ := hx
    dsimp only at *
    have hbl : n / 10 ≠ 0 → b.length < 58 ∧ n / 10 < 10 ^ (58 - (b.length + 1)) := fun hne => by
      by_cases hc : b.length < 58
      · refine ⟨hc, Nat.div_lt_of_lt_mul ?_⟩
        rw [Nat.mul_comm, ← Nat.pow_succ, show (58 - (b.length + 1)).succ = 58 - b.length by omega]; exact hnl
      · rw [show 58 - b.length = 0 by omega] at hnl
        omega
    have hq : ((n : Int) / 10) = ((n / 10 : Nat) : Int) := by omega
    have hr : ((n : Int) % 10) = ((n % 10 : Nat) : Int) := by omega
    have hd : IntKind.u8.wrap (48 + ((n % 10 : Nat) : Int)) = ((48 + n % 10 : Nat) : Int) := by
      have : IntKind.u8.wrap (48 + ((n % 10 : Nat) : Int)) = (48 + ((n % 10 : Nat) : Int)) % 256 := by simp [IntKind.wrap, IntKind.signed, IntKind.bits]
      rw [this]; omega
    have hd2 : AV.int .u8 ((48 + n % 10 : Nat) : Int) = ofByte (UInt8.ofNat (48 + n % 10)) := by rw [bys_lit (by omega) (by omega)]; rfl
    have hw := @w_eq ((n / 10 : Nat) : Int) 0 ⟨by omega, by omega⟩ ⟨by omega, by omega⟩
    simp only [↓bwp, bwq, List.tail_nil, List.tail_cons, List.headD_nil, List.headD_cons, ne_eq, reduceCtorEq, Nat.reduceEqDiff, Nat.reduceAdd, Nat.reduceMul, Nat.reduceSub, Nat.reduceLeDiff, Nat.reduceLT, Int.reduceMul, Int.reduceAdd, Int.reduceSub, List.map_cons, List.map_nil, Option.map_some, Option.map_none, Option.elim_some, if_true, if_false, List.append_nil, List.nil_append, bvq, rEq, List.cons_append, Int.reduceToNat, List.getElem?_cons_zero, List.getElem?_cons_succ, TD.agg, List.drop_succ_cons, List.drop_zero, List.take_succ_cons, List.take_zero, List.take_nil, List.drop_nil, List.getD_cons_zero, List.getD_cons_succ, splice, zgu, zgv, Option.isSome_some, Option.isSome_none, List.getElem?_nil, zgw, zgx, rLen, rBin, rInt, rStr, rUn, zgy, zgz, zha, zhb, zhc, rBox, zhd, zhe, zhf, zhg, zhh, zhi, zhj, zhk, zhl, zhm, zhn, zho, zhp, zhq, zhr, zhs, zht, zhu, zhv, bound, addL, addT, grow, room, List.length_cons, List.length_nil, List.length_map, frOf, byq, ti_int, ti_value, ti_u64, ti_Number, ti_words, ti_uint, ti_bytes, ti_u8, ti_string, ↓blp, blq, p_NDivide]
    refine ⟨(n : Int), ⟨rfl, by omega, by omega⟩, ?_⟩
    simp only [↓bwp, bwq, List.tail_nil, List.tail_cons, List.headD_nil, List.headD_cons, ne_eq, reduceCtorEq, Nat.reduceEqDiff, Nat.reduceAdd, Nat.reduceMul, Nat.reduceSub, Nat.reduceLeDiff, Nat.reduceLT, Int.reduceMul, Int.reduceAdd, Int.reduceSub, List.map_cons, List.map_nil, Option.map_some, Option.map_none, Option.elim_some, if_true, if_false, List.append_nil, List.nil_append, bvq, rEq, List.cons_append, Int.reduceToNat, List.getElem?_cons_zero, List.getElem?_cons_succ, TD.agg, List.drop_succ_cons, List.drop_zero, List.take_succ_cons, List.take_zero, List.take_nil, List.drop_nil, List.getD_cons_zero, List.getD_cons_succ, splice, zgu, zgv, Option.isSome_some, Option.isSome_none, List.getElem?_nil, zgw, zgx, rLen, rBin, rInt, rStr, rUn, zgy, zgz, zha, zhb, zhc, rBox, zhd, zhe, zhf, zhg, zhh, zhi, zhj, zhk, zhl, zhm, zhn, zho, zhp, zhq, zhr, zhs, zht, zhu, zhv, bound, addL, addT, grow, room, List.length_cons, List.length_nil, List.length_map, frOf, byq, ti_int, ti_value, ti_u64, ti_Number, ti_words, ti_uint, ti_bytes, ti_u8, ti_string, ↓blp, blq, p_NOf, nAV, hq, hr, hd, hd2, List.length_append, teq_num, eqg_num, Bool.bne_false, hw]
    refine ⟨by omega, by omega, cond_split (fun h2 => ?_) (fun h2 => ?_)⟩
    rotate_left
    · have h2' : n / 10 ≠ 0 := by simp at h2; omega
      simp only [↓bwp, bwq, List.tail_nil, List.tail_cons, List.headD_nil, List.headD_cons, ne_eq, reduceCtorEq, Nat.reduceEqDiff, Nat.reduceAdd, Nat.reduceMul, Nat.reduceSub, Nat.reduceLeDiff, Nat.reduceLT, Int.reduceMul, Int.reduceAdd, Int.reduceSub, List.map_cons, List.map_nil, Option.map_some, Option.map_none, Option.elim_some, if_true, if_false, List.append_nil, List.nil_append, bvq, rEq, List.cons_append, Int.reduceToNat, List.getElem?_cons_zero, List.getElem?_cons_succ, TD.agg, List.drop_succ_cons, List.drop_zero, List.take_succ_cons, List.take_zero, List.take_nil, List.drop_nil, List.getD_cons_zero, List.getD_cons_succ, splice, zgu, zgv, Option.isSome_some, Option.isSome_none, List.getElem?_nil, zgw, zgx, rLen, rBin, rInt, rStr, rUn, zgy, zgz, zha, zhb, zhc, rBox, zhd, zhe, zhf, zhg, zhh, zhi, zhj, zhk, zhl, zhm, zhn, zho, zhp, zhq, zhr, zhs, zht, zhu, zhv, bound, addL, addT, grow, room, List.length_cons, List.length_nil, List.length_map, frOf, byq, ti_int, ti_value, ti_u64, ti_Number, ti_words, ti_uint, ti_bytes, ti_u8, ti_string, ↓blp, blq]
      refine ⟨(n / 10, UInt8.ofNat (48 + n % 10) :: b), ⟨by omega, ?_, by have := hbl h2'; simp; omega, by simpa using (hbl h2').2⟩, by omega, ?_⟩
      · rw [dtx, dif_neg h2'] at hb; exact hb
      · simp only [bkq, enterW, subW, ltF, ne_eq, Nat.reduceEqDiff, reduceCtorEq]
        simp (disch := first | assumption | omega | (simp; done) | (simp; omega) | (simp only [bt, and_true]; first | done | omega | (simp; done))) [↓zkf, beq, List.take_of_length_le, List.drop_append, List.take_append, endOk, wk, wk2, wk1, wkM, wkL, wkLL, List.drop_eq_nil_of_le, byq, hcl]
    have h2' : n / 10 = 0 := by simp at h2; omega
    rw [dtx, dif_pos h2'] at hb
    rw [← hb]
    simp only [↓bwp, bwq, List.tail_nil, List.tail_cons, List.headD_nil, List.headD_cons, ne_eq, reduceCtorEq, Nat.reduceEqDiff, Nat.reduceAdd, Nat.reduceMul, Nat.reduceSub, Nat.reduceLeDiff, Nat.reduceLT, Int.reduceMul, Int.reduceAdd, Int.reduceSub, List.map_cons, List.map_nil, Option.map_some, Option.map_none, Option.elim_some, if_true, if_false, List.append_nil, List.nil_append, bvq, rEq, List.cons_append, Int.reduceToNat, List.getElem?_cons_zero, List.getElem?_cons_succ, TD.agg, List.drop_succ_cons, List.drop_zero, List.take_succ_cons, List.take_zero, List.take_nil, List.drop_nil, List.getD_cons_zero, List.getD_cons_succ, splice, zgu, zgv, Option.isSome_some, Option.isSome_none, List.getElem?_nil, zgw, zgx, rLen, rBin, rInt, rStr, rUn, zgy, zgz, zha, zhb, zhc, rBox, zhd, zhe, zhf, zhg, zhh, zhi, zhj, zhk, zhl, zhm, zhn, zho, zhp, zhq, zhr, zhs, zht, zhu, zhv, bound, addL, addT, grow, room, List.length_cons, List.length_nil, List.length_map, frOf, byq, ti_int, ti_value, ti_u64, ti_Number, ti_words, ti_uint, ti_bytes, ti_u8, ti_string, ↓blp, blq, zas, h1]
    have hms : maxStr = 9223372036854775807 := rfl
    simp (disch := first | assumption | omega | (simp; done) | (simp; omega) | (simp only [bt, and_true]; first | done | omega | (simp; done))) [↓zkf, beq, List.take_of_length_le, List.drop_append, List.take_append, endOk, wk, wk2, wk1, wkM, wkL, wkLL, List.drop_eq_nil_of_le, hcl]
    try omega
end Go.AL
