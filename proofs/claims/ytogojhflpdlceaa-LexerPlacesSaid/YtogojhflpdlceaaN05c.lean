/- Contracts and plain laws, a part of the proof; no condition of its own. -/
import Derived.Test.YtogojhflpdlceaaN05
import Derived.Test.YtogojhflpdlceaaLNum
open Go Go.AL Go.Proofs
namespace Go.AL
set_option linter.all false
set_option maxRecDepth 10000
theorem ti_uint : ti Try.prog 135 = some ⟨.int .u64, 1, 8, .int .u64 0⟩ := by kernel_rfl
theorem ti_bytes : ti Try.prog 22 = some ⟨.slice 5, 1, 24, .slice .nil 1 []⟩ := by kernel_rfl
theorem ti_u8 : ti Try.prog 5 = some ⟨.int .u8, 1, 1, .int .u8 0⟩ := by kernel_rfl
theorem ti_string : ti Try.prog 9 = some ⟨.string, 1, 16, .str []⟩ := by kernel_rfl

theorem eqg_words : Try.prog.eqGuardType Try.prog.depth 80 = false := by kernel_rfl
theorem eqg_num : Try.prog.eqGuardType Try.prog.depth 82 = false := by kernel_rfl
theorem teq_words {a b c d e f : Int} : teq Try.prog 9 80 (.agg [.int .u64 a, .int .u64 b, .int .u64 c]) (.agg [.int .u64 d, .int .u64 e, .int .u64 f]) = some ((a == d) && ((b == e) && ((c == f) && true))) := by
  simp [ti_words, teq, teq.arr, teq.part, ti_u64, ceq, TD.agg]
theorem teq_num {a b c d e f : Int} : teq Try.prog 9 82 (.agg [.int .u64 a, .int .u64 b, .int .u64 c]) (.agg [.int .u64 d, .int .u64 e, .int .u64 f]) = some (((a == d) && ((b == e) && ((c == f) && true))) && true) := by
  have g2 : Try.prog.stoodInHeld 82 = false := by kernel_rfl
  simp [ti_Number, ti_words, teq, teq.go, teq.arr, teq.part, ti_u64, ceq, TD.agg, g2]
theorem w_eq {a b : Int} (ha : isN a) (hb : isN b) : ((w0 a == w0 b) && ((w1 a == w1 b) && (w2 a == w2 b))) = decide (a = b) := by
  by_cases h : a = b
  · subst h; simp
  · rw [decide_eq_false h]
    have := fun h0 h1 h2 => h (w_inj ha hb h0 h1 h2)
    simp only [Bool.and_eq_false_iff, beq_eq_false_iff_ne, ne_eq]
    by_cases h0 : w0 a = w0 b
    · by_cases h1 : w1 a = w1 b
      · exact .inr (.inr (this h0 h1))
      · exact .inr (.inl h1)
    · exact .inl h0

def cmpZ (a b : Int) : Int := if a = b then 0 else if a < b then -1 else 1
/-- the value of a number, and whether it has one -/
def valAV (a : Int) : AV := if 0 ≤ a ∧ a < 2 ^ 128 then .tup [.agg [.int .u64 (a / 2 ^ 64), .int .u64 (a % 2 ^ 64)], .bool true] else .tup [.agg [.int .u64 0, .int .u64 0], .bool false]
def p_NValue : List AV → AHeap → (AV → Prop) → Prop
  | [x], _, K => ∃ a, (x = nAV a ∧ isN a) ∧ K (valAV a)
  | _, _, _ => False
theorem ok_NValue : EntOk Try.prog 84 (Ent.pure p_NValue) := by
  refine EntOk.pure fun args H K h => ?_
  unfold p_NValue at h
  split at h
  rotate_left
  · exact h.elim
  obtain ⟨a, ⟨rfl, ha⟩, hK⟩ := h
  refine ⟨_, hK, ?_⟩
  refine ACalls.of_aw (Ω := []) (T := assoc []) mixed TblOk.nil Try.func84 (by kernel_rfl) (by rfl) (rs := [.cell 2 46,.tmp 3]) (by rfl) (by kernel_rfl) (by simp only [Try.ntmps84, List.length_cons, List.length_nil]; decide) (Nat.le_refl _) fun hcl hlt => ?_
  change aw _ _ _ (KI Try.prog [] (aEnd Try.prog [.cell 2 46,.tmp 3] H.nx _ _) []) _ _
  clear hlt hK
  have hf := w_fits ha
  simp only [↓bwp, bwq, List.tail_nil, List.tail_cons, List.headD_nil, List.headD_cons, ne_eq, reduceCtorEq, Nat.reduceEqDiff, Nat.reduceAdd, Nat.reduceMul, Nat.reduceSub, Nat.reduceLeDiff, Nat.reduceLT, Int.reduceMul, Int.reduceAdd, Int.reduceSub, List.map_cons, List.map_nil, Option.map_some, Option.map_none, Option.elim_some, if_true, if_false, List.append_nil, List.nil_append, bvq, rEq, List.cons_append, Int.reduceToNat, List.getElem?_cons_zero, List.getElem?_cons_succ, TD.agg, List.drop_succ_cons, List.drop_zero, List.take_succ_cons, List.take_zero, List.take_nil, List.drop_nil, List.getD_cons_zero, List.getD_cons_succ, splice, zgz, zha, Option.isSome_some, Option.isSome_none, List.getElem?_nil, zhb, zhc, rLen, rBin, rInt, rStr, rUn, zhd, zhe, zhf, zhg, zhh, rBox, zhi, zhj, zhk, zhl, zhm, zhn, zho, zhp, zhq, zhr, zhs, zht, zhu, zhv, zhw, zhx, zhy, zhz, zia, bound, addL, addT, grow, room, List.length_cons, List.length_nil, List.length_map, frOf, byq, ti_int, ti_value, ti_u64, ti_Number, ti_words, ti_uint, ti_bytes, ti_u8, ti_string, ↓blp, blq, nAV]
  refine ⟨by omega, cond_split (fun h1 => ?_) (fun h1 => ?_)⟩
  · have h1' : ¬ (0 ≤ a ∧ a < 2 ^ 128) := fun h => by rw [← hf] at h; simp [h] at h1
    simp only [↓bwp, bwq, List.tail_nil, List.tail_cons, List.headD_nil, List.headD_cons, ne_eq, reduceCtorEq, Nat.reduceEqDiff, Nat.reduceAdd, Nat.reduceMul, Nat.reduceSub, Nat.reduceLeDiff, Nat.reduceLT, Int.reduceMul, Int.reduceAdd, Int.reduceSub, List.map_cons, List.map_nil, Option.map_some, Option.map_none, Option.elim_some, if_true, if_false, List.append_nil, List.nil_append, bvq, rEq, List.cons_append, Int.reduceToNat, List.getElem?_cons_zero, List.getElem?_cons_succ, TD.agg, List.drop_succ_cons, List.drop_zero, List.take_succ_cons, List.take_zero, List.take_nil, List.drop_nil, List.getD_cons_zero, List.getD_cons_succ, splice, zgz, zha, Option.isSome_some, Option.isSome_none, List.getElem?_nil, zhb, zhc, rLen, rBin, rInt, rStr, rUn, zhd, zhe, zhf, zhg, zhh, rBox, zhi, zhj, zhk, zhl, zhm, zhn, zho, zhp, zhq, zhr, zhs, zht, zhu, zhv, zhw, zhx, zhy, zhz, zia, bound, addL, addT, grow, room, List.length_cons, List.length_nil, List.length_map, frOf, byq, ti_int, ti_value, ti_u64, ti_Number, ti_words, ti_uint, ti_bytes, ti_u8, ti_string, ↓blp, blq, valAV, if_neg h1']
    simp (disch := first | assumption | omega | (simp; done) | (simp; omega) | (simp only [bt, and_true]; first | done | omega | (simp; done))) [↓zkr, beq, List.take_of_length_le, List.drop_append, List.take_append, endOk, wk, wk2, wk1, wkM, wkL, wkLL, List.drop_eq_nil_of_le, hcl]
  · have h1' : (0 ≤ a ∧ a < 2 ^ 128) := by rw [← hf]; simpa using h1
    have e1 : w1 a = a / 2 ^ 64 := by unfold w1; omega
    have e0 : w0 a = a % 2 ^ 64 := rfl
    simp only [↓bwp, bwq, List.tail_nil, List.tail_cons, List.headD_nil, List.headD_cons, ne_eq, reduceCtorEq, Nat.reduceEqDiff, Nat.reduceAdd, Nat.reduceMul, Nat.reduceSub, Nat.reduceLeDiff, Nat.reduceLT, Int.reduceMul, Int.reduceAdd, Int.reduceSub, List.map_cons, List.map_nil, Option.map_some, Option.map_none, Option.elim_some, if_true, if_false, List.append_nil, List.nil_append, bvq, rEq, List.cons_append, Int.reduceToNat, List.getElem?_cons_zero, List.getElem?_cons_succ, TD.agg, List.drop_succ_cons, List.drop_zero, List.take_succ_cons, List.take_zero, List.take_nil, List.drop_nil, List.getD_cons_zero, List.getD_cons_succ, splice, zgz, zha, Option.isSome_some, Option.isSome_none, List.getElem?_nil, zhb, zhc, rLen, rBin, rInt, rStr, rUn, zhd, zhe, zhf, zhg, zhh, rBox, zhi, zhj, zhk, zhl, zhm, zhn, zho, zhp, zhq, zhr, zhs, zht, zhu, zhv, zhw, zhx, zhy, zhz, zia, bound, addL, addT, grow, room, List.length_cons, List.length_nil, List.length_map, frOf, byq, ti_int, ti_value, ti_u64, ti_Number, ti_words, ti_uint, ti_bytes, ti_u8, ti_string, ↓blp, blq, valAV, if_pos h1', e1, e0]
    refine ⟨by omega, by omega, ?_⟩
    simp (disch := first | assumption | omega | (simp; done) | (simp; omega) | (simp only [bt, and_true]; first | done | omega | (simp; done))) [↓zkr, beq, List.take_of_length_le, List.drop_append, List.take_append, endOk, wk, wk2, wk1, wkM, wkL, wkLL, List.drop_eq_nil_of_le, hcl]

def p_Len64 : List AV → AHeap → (AV → Prop) → Prop
  | [.int .u64 n], _, K => (0 ≤ n ∧ n < 18446744073709551616) ∧ K (.int .i64 (bl n.toNat : Nat))
  | _, _, _ => False
/-- the table of lengths -/
def lenTab : List UInt8 := (List.range 256).map fun n => UInt8.ofNat (bl n)
theorem lenTab_eq : ([0, 1, 2, 2, 3, 3, 3, 3, 4, 4, 4, 4, 4, 4, 4, 4, 5, 5, 5, 5, 5, 5, 5, 5, 5, 5, 5, 5, 5, 5, 5, 5, 6, 6, 6, 6, 6, 6, 6, 6, 6, 6, 6, 6, 6, 6, 6, 6, 6, 6, 6, 6, 6, 6, 6, 6, 6, 6, 6, 6, 6, 6, 6, 6].append [7, 7, 7, 7, 7, 7, 7, 7, 7, 7, 7, 7, 7, 7, 7, 7, 7, 7, 7, 7, 7, 7, 7, 7, 7, 7, 7, 7, 7, 7, 7, 7, 7, 7, 7, 7, 7, 7, 7, 7, 7, 7, 7, 7, 7, 7, 7, 7, 7, 7, 7, 7, 7, 7, 7, 7, 7, 7, 7, 7, 7, 7, 7, 7]).append ([8, 8, 8, 8, 8, 8, 8, 8, 8, 8, 8, 8, 8, 8, 8, 8, 8, 8, 8, 8, 8, 8, 8, 8, 8, 8, 8, 8, 8, 8, 8, 8, 8, 8, 8, 8, 8, 8, 8, 8, 8, 8, 8, 8, 8, 8, 8, 8, 8, 8, 8, 8, 8, 8, 8, 8, 8, 8, 8, 8, 8, 8, 8, 8].append [8, 8, 8, 8, 8, 8, 8, 8, 8, 8, 8, 8, 8, 8, 8, 8, 8, 8, 8, 8, 8, 8, 8, 8, 8, 8, 8, 8, 8, 8, 8, 8, 8, 8, 8, 8, 8, 8, 8, 8, 8, 8, 8, 8, 8, 8, 8, 8, 8, 8, 8, 8, 8, 8, 8, 8, 8, 8, 8, 8, 8, 8, 8, 8]) = lenTab := by decide +kernel
theorem lenTab_len : lenTab.length = 256 := by simp [lenTab]
theorem lenTab_get (n : Nat) (h : n < 256) : (lenTab.getD n 0).toNat = bl n := by
  unfold lenTab
  rw [List.getD_eq_getElem?_getD, List.getElem?_map, List.getElem?_range h]
  have : bl n ≤ 8 := bl_le.2 h
  simp only [Option.map_some, Option.getD_some]
  rw [UInt8.toNat_ofNat_of_lt' (by simp [UInt8.size]; omega)]

/-- one way through Len64: shifts by s in all -/
theorem len64_end {m s : Nat} {H : AHeap} (hcl : H.Closed) (hm : m < 2 ^ 64) (h : m >>> s < 256) (hs : s = 0 ∨ 2 ^ s ≤ m) :
    (0 ≤ IntKind.u8.wrap ((m >>> s : Nat) : Int) ∧ IntKind.u8.wrap ((m >>> s : Nat) : Int) < (lenTab.length : Int)) ∧
    endOk H (AV.int IntKind.i64 (IntKind.i64.wrap ((s : Int) + IntKind.i64.wrap ((lenTab.getD (IntKind.u8.wrap ((m >>> s : Nat) : Int)).toNat 0).toNat : Int)))) H (AV.int IntKind.i64 (bl m : Nat)) := by
  have e : IntKind.u8.wrap ((m >>> s : Nat) : Int) = ((m >>> s : Nat) : Int) := by
    have : IntKind.u8.wrap ((m >>> s : Nat) : Int) = ((m >>> s : Nat) : Int) % 256 := by simp [IntKind.wrap, IntKind.signed, IntKind.bits]
    rw [this]
    generalize m >>> s = x at h ⊢
    omega
  rw [e, lenTab_len, Int.toNat_natCast, lenTab_get _ h]
  refine ⟨⟨Int.natCast_nonneg _, by generalize m >>> s = x at h ⊢; omega⟩, ?_⟩
  have hb : bl m = s + bl (m >>> s) := by
    rcases hs with rfl | hs
    · simp
    · exact bl_shift m s hs
  have h8 : bl (m >>> s) ≤ 8 := bl_le.2 h
  have h64 : bl m ≤ 64 := bl_le.2 hm
  have e2 : IntKind.i64.wrap ((bl (m >>> s) : Nat) : Int) = (bl (m >>> s) : Nat) := by rw [wrap_i64] <;> omega
  have e3 : IntKind.i64.wrap ((s : Int) + (bl (m >>> s) : Nat)) = (bl m : Nat) := by rw [wrap_i64] <;> omega
  rw [e2, e3]
  simp [endOk, wk, wk2, wk1, zkz, hcl, zli]

theorem ok_Len64 : EntOk Try.prog 135 (Ent.pure p_Len64) := by
  refine EntOk.pure fun args H K h => ?_
  unfold p_Len64 at h
  split at h
  rotate_left
  · exact h.elim
  rename_i n
  obtain ⟨⟨h0, h1⟩, hK⟩ := h
  refine ⟨_, hK, ?_⟩
  obtain ⟨m, rfl⟩ := u64_lift h0
  clear hK h0
  rw [Int.toNat_natCast]
  have hm : m < 2 ^ 64 := by omega
  clear h1
  refine ACalls.of_aw (Ω := []) (T := assoc []) mixed TblOk.nil Try.func135 (by kernel_rfl) (by rfl) (rs := [.tmp 2]) (by rfl) (by kernel_rfl) (by simp only [Try.ntmps135, List.length_cons, List.length_nil]; decide) (Nat.le_refl _) fun hcl hlt => ?_
  change aw _ _ _ (KI Try.prog [] (aEnd Try.prog [.tmp 2] H.nx _ _) []) _ _
  clear hlt
  have s32 : ∀ a : Nat, a < 2 ^ 64 → ishr .u64 (a : Int) 32 = ((a >>> 32 : Nat) : Int) := fun a h => ishr_u64 a 32 h
  have s16 : ∀ a : Nat, a < 2 ^ 64 → ishr .u64 (a : Int) 16 = ((a >>> 16 : Nat) : Int) := fun a h => ishr_u64 a 16 h
  have s8 : ∀ a : Nat, a < 2 ^ 64 → ishr .u64 (a : Int) 8 = ((a >>> 8 : Nat) : Int) := fun a h => ishr_u64 a 8 h
  have q1 : m >>> 32 < 2 ^ 64 := shr_lt hm
  have q2 : m >>> 16 < 2 ^ 64 := shr_lt hm
  have q3 : m >>> 32 >>> 16 < 2 ^ 64 := shr_lt q1
  have w48 : IntKind.i64.wrap 48 = 48 := by decide
  have w40 : IntKind.i64.wrap 40 = 40 := by decide
  have w24 : IntKind.i64.wrap 24 = 24 := by decide
  have w56 : IntKind.i64.wrap (48 + 8) = 56 := by decide
  have q4 : m >>> 48 < 2 ^ 64 := shr_lt hm
  simp only [↓bwp, bwq, zav, List.tail_nil, List.tail_cons, List.headD_nil, List.headD_cons, ne_eq, reduceCtorEq, Nat.reduceEqDiff, Nat.reduceAdd, Nat.reduceMul, Nat.reduceSub, Nat.reduceLeDiff, Nat.reduceLT, Int.reduceMul, Int.reduceAdd, Int.reduceSub, List.map_cons, List.map_nil, Option.map_some, Option.map_none, Option.elim_some, if_true, if_false, List.append_nil, List.nil_append, bvq, rEq, List.cons_append, Int.reduceToNat, List.getElem?_cons_zero, List.getElem?_cons_succ, TD.agg, List.drop_succ_cons, List.drop_zero, List.take_succ_cons, List.take_zero, List.take_nil, List.drop_nil, List.getD_cons_zero, List.getD_cons_succ, splice, zgz, zha, Option.isSome_some, Option.isSome_none, List.getElem?_nil, zhb, zhc, rLen, rBin, rInt, rStr, rUn, zhd, zhe, zhf, zhg, zhh, rBox, zhi, zhj, zhk, zhl, zhm, zhn, zho, zhp, zhq, zhr, zhs, zht, zhu, zhv, zhw, zhx, zhy, zhz, zia, bound, addL, addT, grow, room, List.length_cons, List.length_nil, List.length_map, frOf, byq, ti_int, ti_value, ti_u64, ti_Number, ti_words, ti_uint, ti_bytes, ti_u8, ti_string, lenTab_eq, s32, s16, s8, hm, q1, q2, q3, q4, w48, w40, w24, w56, ← Nat.shiftRight_add]
  have sr : ∀ k : Nat, m >>> k = m / 2 ^ k := fun k => Nat.shiftRight_eq_div_pow m k
  have fin := fun s => @len64_end m s H hcl hm
  refine both_split (fun t1 => ⟨by decide, both_split (fun t2 => ⟨by decide, both_split (fun t3 => ⟨by decide, ?_⟩) (fun t3 => ?_)⟩) (fun t2 => both_split (fun t3 => ⟨by decide, ?_⟩) (fun t3 => ?_))⟩)
    (fun t1 => both_split (fun t2 => ⟨by decide, both_split (fun t3 => ⟨by decide, ?_⟩) (fun t3 => ?_)⟩) (fun t2 => both_split (fun t3 => ⟨by decide, ?_⟩) (fun t3 => ?_)))
  all_goals simp only [decide_eq_true_eq, decide_eq_false_iff_not, sr, ge_iff_le] at t1 t2 t3
  · exact fin 56 (by rw [sr]; omega) (.inr (by omega))
  · exact fin 48 (by rw [sr]; omega) (.inr (by omega))
  · exact fin 40 (by rw [sr]; omega) (.inr (by omega))
  · exact fin 32 (by rw [sr]; omega) (.inr (by omega))
  · exact fin 24 (by rw [sr]; omega) (.inr (by omega))
  · exact fin 16 (by rw [sr]; omega) (.inr (by omega))
  · exact fin 8 (by rw [sr]; omega) (.inr (by omega))
  · exact fin 0 (by rw [sr]; omega) (.inl rfl)


/-- bits that do not meet -/
theorem or_add {x y : Int} (k : Nat) (hx : 0 ≤ x ∧ x < 18446744073709551616) (hy : 0 ≤ y ∧ y < 18446744073709551616) (hk : x % 2 ^ k = 0) (hyk : y < 2 ^ k) (hs : x + y < 18446744073709551616) : ior .u64 x y = x + y := by
  obtain ⟨a, rfl⟩ := Int.eq_ofNat_of_zero_le hx.1
  obtain ⟨b, rfl⟩ := Int.eq_ofNat_of_zero_le hy.1
  rw [ior_u64 a b (by omega) (by omega)]
  have hk' : a % 2 ^ k = 0 := by
    have := hk
    rw [show ((2 : Int) ^ k) = ((2 ^ k : Nat) : Int) by simp] at this
    omega
  have hb : b < 2 ^ k := by
    have := hyk
    rw [show ((2 : Int) ^ k) = ((2 ^ k : Nat) : Int) by simp] at this
    omega
  have e : a = 2 ^ k * (a / 2 ^ k) := by have := Nat.div_add_mod a (2 ^ k); omega
  rw [e, ← Nat.two_pow_add_eq_or_of_lt hb]
  simp

/-- the words of a quotient by ten as far as they are done -/
def divk (a : Int) (k : Nat) : List AV := [.int .u64 (if 2 < k then w0 (a / 10) else w0 a), .int .u64 (if 1 < k then w1 (a / 10) else w1 a), .int .u64 (if 0 < k then w2 (a / 10) else w2 a)]
def remk (a : Int) (k : Nat) : Int := match k with
  | 0 => 0
  | 1 => (a / 2 ^ 128) % 10
  | 2 => (a / 2 ^ 64) % 10
  | _ => a % 10
theorem div_step {a : Int} (h0 : 0 ≤ a) (h1 : a < 2 ^ 192) : ((0 * 2 ^ 64 + w2 a) / 10 = w2 (a / 10) ∧ (0 * 2 ^ 64 + w2 a) % 10 = remk a 1) ∧
    ((remk a 1 * 2 ^ 64 + w1 a) / 10 = w1 (a / 10) ∧ (remk a 1 * 2 ^ 64 + w1 a) % 10 = remk a 2) ∧ ((remk a 2 * 2 ^ 64 + w0 a) / 10 = w0 (a / 10) ∧ (remk a 2 * 2 ^ 64 + w0 a) % 10 = remk a 3) := by
  have split : ∀ y : Int, 0 ≤ y → y < 2 ^ 192 → y = w0 y + 18446744073709551616 * w1 y + 340282366920938463463374607431768211456 * w2 y := fun y g0 g1 => by unfold w0 w1 w2; omega
  have ha := split a h0 h1
  have hy := split (a / 10) (by omega) (by omega)
  have a0 := w0_lt a
  have a1 := w1_lt a
  have a2 := w2_lt a
  have b0 := w0_lt (a / 10)
  have b1 := w1_lt (a / 10)
  have b2 := w2_lt (a / 10)
  have q1 : a / 2 ^ 128 = w2 a := by generalize w0 a = x0 at *; generalize w1 a = x1 at *; generalize w2 a = x2 at *; omega
  have q2 : a / 2 ^ 64 = w2 a * 18446744073709551616 + w1 a := by generalize w0 a = x0 at *; generalize w1 a = x1 at *; generalize w2 a = x2 at *; omega
  have q3 : remk a 3 = a % 10 := rfl
  simp only [remk, q1, q2]
  generalize w0 a = x0 at *
  generalize w1 a = x1 at *
  generalize w2 a = x2 at *
  generalize w0 (a / 10) = y0 at *
  generalize w1 (a / 10) = y1 at *
  generalize w2 (a / 10) = y2 at *
  have d2 : y2 = x2 / 10 := by omega
  have e2 : x2 = 10 * y2 + x2 % 10 := by omega
  generalize hr : x2 % 10 = r at *
  have d1 : y1 = (r * 18446744073709551616 + x1) / 10 := by omega
  have e3 : (x2 * 18446744073709551616 + x1) % 10 = (r * 18446744073709551616 + x1) % 10 := by omega
  refine ⟨⟨?_, ?_⟩, ⟨?_, ?_⟩, ?_, ?_⟩ <;> omega
/-- the decimal digits of a number, in front of others -/
def dtx (n : Nat) (b : List UInt8) : List UInt8 := if h : n / 10 = 0 then UInt8.ofNat (48 + n % 10) :: b else dtx (n / 10) (UInt8.ofNat (48 + n % 10) :: b)
decreasing_by omega
def txt (a : Int) : List UInt8 := if a < 0 then 45 :: dtx a.natAbs [] else dtx a.natAbs []
theorem dtx_len (n : Nat) (b : List UInt8) : ∀ k, n < 10 ^ k → 0 < k → (dtx n b).length ≤ b.length + k := by
  induction n using Nat.strongRecOn generalizing b with
  | _ n ih =>
    intro k hk h0
    rw [dtx]
    split
    · simp; omega
    · obtain ⟨j, rfl⟩ : ∃ j, k = j + 1 := ⟨k - 1, by omega⟩
      have : n / 10 < 10 ^ j := Nat.div_lt_of_lt_mul (by rw [Nat.pow_succ] at hk; omega)
      have hj : 0 < j := by
        rcases Nat.eq_zero_or_pos j with rfl | h
        · simp at this; omega
        · exact h
      have := ih (n / 10) (by omega) (UInt8.ofNat (48 + n % 10) :: b) j this hj
      simp at this ⊢; omega
end Go.AL
