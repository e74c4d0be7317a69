/- Contracts and plain laws, a part of the proof; no condition of its own. -/
import Derived.Test.YtnhghceobhdaoaaC02
import Derived.Test.YtnhghceobhdaoaaLVal
open Go Go.AL Go.Proofs
namespace Go.AL
set_option linter.all false
set_option maxRecDepth 10000
theorem ti_u64 : ti Try.prog 44 = some ⟨.int .u64, 1, 8, .int .u64 0⟩ := by kernel_rfl
theorem ti_val : ti Try.prog 46 = some ⟨.struct [(0, 44, false), (1, 44, false)], 2, 16, .agg [.int .u64 0, .int .u64 0]⟩ := by kernel_rfl
theorem ti_a16 : ti Try.prog 161 = some ⟨.array 16 5, 16, 16, .agg (List.replicate 16 (.int .u8 0))⟩ := by kernel_rfl

def p_Len64 : List AV → AHeap → (AV → Prop) → Prop
  | [.int .u64 n], _, K => (0 ≤ n ∧ n < 18446744073709551616) ∧ K (.int .i64 (bl n.toNat : Nat))
  | _, _, _ => False

/-- the table of lengths -/
def lenTab : List UInt8 := (List.range 256).map fun n => UInt8.ofNat (bl n)
theorem lenTab_eq : ([0, 1, 2, 2, 3, 3, 3, 3, 4, 4, 4, 4, 4, 4, 4, 4, 5, 5, 5, 5, 5, 5, 5, 5, 5, 5, 5, 5, 5, 5, 5, 5, 6, 6, 6, 6, 6, 6, 6, 6, 6, 6, 6, 6, 6, 6, 6, 6, 6, 6, 6, 6, 6, 6, 6, 6, 6, 6, 6, 6, 6, 6, 6, 6].append [7, 7, 7, 7, 7, 7, 7, 7, 7, 7, 7, 7, 7, 7, 7, 7, 7, 7, 7, 7, 7, 7, 7, 7, 7, 7, 7, 7, 7, 7, 7, 7, 7, 7, 7, 7, 7, 7, 7, 7, 7, 7, 7, 7, 7, 7, 7, 7, 7, 7, 7, 7, 7, 7, 7, 7, 7, 7, 7, 7, 7, 7, 7, 7]).append ([8, 8, 8, 8, 8, 8, 8, 8, 8, 8, 8, 8, 8, 8, 8, 8, 8, 8, 8, 8, 8, 8, 8, 8, 8, 8, 8, 8, 8, 8, 8, 8, 8, 8, 8, 8, 8, 8, 8, 8, 8, 8, 8, 8, 8, 8, 8, 8, 8, 8, 8, 8, 8, 8, 8, 8, 8, 8, 8, 8, 8, 8, 8, 8].append [8, 8, 8, 8, 8, 8, 8, 8, 8, 8, 8, 8, 8, 8, 8, 8, 8, 8, 8, 8, 8, 8, 8, 8, 8, 8, 8, 8, 8, 8, 8, 8, 8, 8, 8, 8, 8, 8, 8, 8, 8, 8, 8, 8, 8, 8, 8, 8, 8, 8, 8, 8, 8, 8, 8, 8, 8, 8, 8, 8, 8, 8, 8, 8]) = lenTab := by decide +kernel
theorem lenTab_len : lenTab.length = 256 := by simp [lenTab]
theorem lenTab_get (n : Nat) (h : n < 256) : (lenTab.getD n 0).toNat = bl n := by
  unfold lenTab
  rw [List.getD_eq_getElem?_getD, List.getElem?_map, List.getElem?_range h]
  have : bl n ≤ 8 := bl_le.2 h
  simp only [Option.map_some, Option.getD_some]
  rw [UInt8.toNat_ofNat_of_lt' (by simp [UInt8.size]; omega)]

/-- one way through Len64: shifts by s in all -/
theorem len64_end {m s : Nat} {H : AHeap} (hcl : H.Closed) (hm : m < 2 ^ 64) (h : m >>> s < 256) (hs : s = 0 ∨ 2 ^ s ≤ m) :
    (0 ≤ IntKind.u8.wrap ((m >>> s : Nat) : Int) ∧ IntKind.u8.wrap ((m >>> s : Nat) : Int) < (lenTab.length : Int)) ∧
    endOk H (AV.int IntKind.i64 (IntKind.i64.wrap ((s : Int) + IntKind.i64.wrap ((lenTab.getD (IntKind.u8.wrap ((m >>> s : Nat) : Int)).toNat 0).toNat : Int)))) H (AV.int IntKind.i64 (bl m : Nat)) := by
  have e : IntKind.u8.wrap ((m >>> s : Nat) : Int) = ((m >>> s : Nat) : Int) := by
    have : IntKind.u8.wrap ((m >>> s : Nat) : Int) = ((m >>> s : Nat) : Int) % 256 := by simp [IntKind.wrap, IntKind.signed, IntKind.bits]
    rw [this]
    generalize m >>> s = x at h ⊢
    omega
  rw [e, lenTab_len, Int.toNat_natCast, lenTab_get _ h]
  refine ⟨⟨Int.natCast_nonneg _, by generalize m >>> s = x at h ⊢; omega⟩, ?_⟩
  have hb : bl m = s + bl (m >>> s) := by
    rcases hs with rfl | hs
    · simp
    · exact bl_shift m s hs
  have h8 : bl (m >>> s) ≤ 8 := bl_le.2 h
  have h64 : bl m ≤ 64 := bl_le.2 hm
  have e2 : IntKind.i64.wrap ((bl (m >>> s) : Nat) : Int) = (bl (m >>> s) : Nat) := by rw [wrap_i64] <;> omega
  have e3 : IntKind.i64.wrap ((s : Int) + (bl (m >>> s) : Nat)) = (bl m : Nat) := by rw [wrap_i64] <;> omega
  rw [e2, e3]
  simp [endOk, wk, wk2, wk1, zlb, hcl, zlk]

theorem ok_Len64 : EntOk Try.prog 135 (Ent.pure p_Len64) := by
  refine EntOk.pure fun args H K h => ?_
  unfold p_Len64 at h
  split at h
  rotate_left
  · exact h.elim
  rename_i n
  obtain ⟨⟨h0, h1⟩, hK⟩ := h
  refine ⟨_, hK, ?_⟩
  obtain ⟨m, rfl⟩ := u64_lift h0
  clear hK h0
  rw [Int.toNat_natCast]
  have hm : m < 2 ^ 64 := by omega
  clear h1
  refine ACalls.of_aw (Ω := []) (T := assoc []) mixed TblOk.nil Try.func135 (by kernel_rfl) (by rfl) (rs := [.tmp 2]) (by rfl) (by kernel_rfl) (by simp only [Try.ntmps135, List.length_cons, List.length_nil]; decide) (Nat.le_refl _) fun hcl hlt => ?_
  change aw _ _ _ (KI Try.prog [] (aEnd Try.prog [.tmp 2] H.nx _ _) []) _ _
  clear hlt
  have s32 : ∀ a : Nat, a < 2 ^ 64 → ishr .u64 (a : Int) 32 = ((a >>> 32 : Nat) : Int) := fun a h => ishr_u64 a 32 h
  have s16 : ∀ a : Nat, a < 2 ^ 64 → ishr .u64 (a : Int) 16 = ((a >>> 16 : Nat) : Int) := fun a h => ishr_u64 a 16 h
  have s8 : ∀ a : Nat, a < 2 ^ 64 → ishr .u64 (a : Int) 8 = ((a >>> 8 : Nat) : Int) := fun a h => ishr_u64 a 8 h
  have q1 : m >>> 32 < 2 ^ 64 := shr_lt hm
  have q2 : m >>> 16 < 2 ^ 64 := shr_lt hm
  have q3 : m >>> 32 >>> 16 < 2 ^ 64 := shr_lt q1
  have w48 : IntKind.i64.wrap 48 = 48 := by decide
  have w40 : IntKind.i64.wrap 40 = 40 := by decide
  have w24 : IntKind.i64.wrap 24 = 24 := by decide
  have w56 : IntKind.i64.wrap (48 + 8) = 56 := by decide
  have q4 : m >>> 48 < 2 ^ 64 := shr_lt hm
  simp only [↓bwp, bwq, zav, List.tail_nil, List.tail_cons, List.headD_nil, List.headD_cons, ne_eq, reduceCtorEq, Nat.reduceEqDiff, Nat.reduceAdd, Nat.reduceMul, Nat.reduceSub, Nat.reduceLeDiff, Nat.reduceLT, Int.reduceMul, Int.reduceAdd, Int.reduceSub, List.map_cons, List.map_nil, Option.map_some, Option.map_none, Option.elim_some, if_true, if_false, List.append_nil, List.nil_append, bvq, rEq, List.cons_append, Int.reduceToNat, List.getElem?_cons_zero, List.getElem?_cons_succ, TD.agg, List.drop_succ_cons, List.drop_zero, List.take_succ_cons, List.take_zero, List.take_nil, List.drop_nil, List.getD_cons_zero, List.getD_cons_succ, splice, zhb, zhc, Option.isSome_some, Option.isSome_none, List.getElem?_nil, zhd, zhe, rLen, rBin, rInt, rStr, rUn, zhf, zhg, zhh, zhi, zhj, rBox, zhk, zhl, zhm, zhn, zho, zhp, zhq, zhr, zhs, zht, zhu, zhv, zhw, zhx, zhy, zhz, zia, zib, zic, bound, addL, addT, grow, room, List.length_cons, List.length_nil, List.length_map, frOf, byq, ti_bytes, ti_int, ti_uint, ti_u8, ti_bool, ti_string, ti_u64, ti_val, ti_a16, lenTab_eq, s32, s16, s8, hm, q1, q2, q3, q4, w48, w40, w24, w56, ← Nat.shiftRight_add]
  have sr : ∀ k : Nat, m >>> k = m / 2 ^ k := fun k => Nat.shiftRight_eq_div_pow m k
  have fin := fun s => @len64_end m s H hcl hm
  refine both_split (fun t1 => ⟨by decide, both_split (fun t2 => ⟨by decide, both_split (fun t3 => ⟨by decide, ?_⟩) (fun t3 => ?_)⟩) (fun t2 => both_split (fun t3 => ⟨by decide, ?_⟩) (fun t3 => ?_))⟩)
    (fun t1 => both_split (fun t2 => ⟨by decide, both_split (fun t3 => ⟨by decide, ?_⟩) (fun t3 => ?_)⟩) (fun t2 => both_split (fun t3 => ⟨by decide, ?_⟩) (fun t3 => ?_)))
  all_goals simp only [decide_eq_true_eq, decide_eq_false_iff_not, sr, ge_iff_le] at t1 t2 t3
  · exact fin 56 (by rw [sr]; omega) (.inr (by omega))
  · exact fin 48 (by rw [sr]; omega) (.inr (by omega))
  · exact fin 40 (by rw [sr]; omega) (.inr (by omega))
  · exact fin 32 (by rw [sr]; omega) (.inr (by omega))
  · exact fin 24 (by rw [sr]; omega) (.inr (by omega))
  · exact fin 16 (by rw [sr]; omega) (.inr (by omega))
  · exact fin 8 (by rw [sr]; omega) (.inr (by omega))
  · exact fin 0 (by rw [sr]; omega) (.inl rfl)

def p_vLenF : List AV → AHeap → (AV → Prop) → Prop
  | [.agg [.int .u64 hi, .int .u64 lo]], _, K => (0 ≤ hi ∧ hi < 18446744073709551616 ∧ 0 ≤ lo ∧ lo < 18446744073709551616) ∧ K (.int .i64 (bl (vOf hi.toNat lo.toNat) : Nat))
  | _, _, _ => False

theorem ok_vLenF : EntOk Try.prog 119 (Ent.pure p_vLenF) := by
  refine EntOk.pure fun args H K h => ?_
  unfold p_vLenF at h
  split at h
  rotate_left
  · exact h.elim
  rename_i hi lo
  obtain ⟨⟨h0, h1, h2, h3⟩, hK⟩ := h
  refine ⟨_, hK, ?_⟩
  obtain ⟨x, rfl⟩ := u64_lift h0
  obtain ⟨y, rfl⟩ := u64_lift h2
  clear hK h0 h2
  rw [Int.toNat_natCast, Int.toNat_natCast]
  have hx : x < 2 ^ 64 := by omega
  have hy : y < 2 ^ 64 := by omega
  refine ACalls.of_aw (Ω := [(135, Ent.pure p_Len64)]) (T := assoc []) mixed (TblOk.cons ok_Len64 TblOk.nil) Try.func119 (by kernel_rfl) (by rfl) (rs := [.tmp 2]) (by rfl) (by kernel_rfl) (by simp only [Try.ntmps119, List.length_cons, List.length_nil]; decide) (Nat.le_refl _) fun hcl hlt => ?_
  change aw _ _ _ (KI Try.prog [(135, Ent.pure p_Len64)] (aEnd Try.prog [.tmp 2] H.nx _ _) []) _ _
  clear hlt
  have b1 : bl x ≤ 64 := bl_le.2 hx
  have hw : IntKind.i64.wrap (64 + ((bl x : Nat) : Int)) = ((64 + bl x : Nat) : Int) := by rw [wrap_i64] <;> omega
  simp only [↓bwp, bwq, zav, List.tail_nil, List.tail_cons, List.headD_nil, List.headD_cons, ne_eq, reduceCtorEq, Nat.reduceEqDiff, Nat.reduceAdd, Nat.reduceMul, Nat.reduceSub, Nat.reduceLeDiff, Nat.reduceLT, Int.reduceMul, Int.reduceAdd, Int.reduceSub, List.map_cons, List.map_nil, Option.map_some, Option.map_none, Option.elim_some, if_true, if_false, List.append_nil, List.nil_append, bvq, rEq, List.cons_append, Int.reduceToNat, List.getElem?_cons_zero, List.getElem?_cons_succ, TD.agg, List.drop_succ_cons, List.drop_zero, List.take_succ_cons, List.take_zero, List.take_nil, List.drop_nil, List.getD_cons_zero, List.getD_cons_succ, splice, zhb, zhc, Option.isSome_some, Option.isSome_none, List.getElem?_nil, zhd, zhe, rLen, rBin, rInt, rStr, rUn, zhf, zhg, zhh, zhi, zhj, rBox, zhk, zhl, zhm, zhn, zho, zhp, zhq, zhr, zhs, zht, zhu, zhv, zhw, zhx, zhy, zhz, zia, zib, zic, bound, addL, addT, grow, room, List.length_cons, List.length_nil, List.length_map, frOf, byq, ti_bytes, ti_int, ti_uint, ti_u8, ti_bool, ti_string, ti_u64, ti_val, ti_a16, ↓blp, blq, p_Len64, Int.toNat_natCast, hw]
  rw [bl_vOf hy]
  refine both_split (fun t => ?_) (fun t => ?_)
  · have t' : x ≠ 0 := by simpa using t
    rw [if_neg t']
    refine ⟨by omega, ?_⟩
    simp (disch := first | assumption | omega | (simp; done) | (simp; omega) | (simp only [bt, and_true]; first | done | omega | (simp; done))) [↓zkt, beq, List.take_of_length_le, List.drop_append, List.take_append, endOk, wk, wk2, wk1, wkM, wkL, wkLL, List.drop_eq_nil_of_le, hcl]
  · have t' : x = 0 := by simpa using t
    rw [if_pos t']
    refine ⟨by omega, ?_⟩
    simp (disch := first | assumption | omega | (simp; done) | (simp; omega) | (simp only [bt, and_true]; first | done | omega | (simp; done))) [↓zkt, beq, List.take_of_length_le, List.drop_append, List.take_append, endOk, wk, wk2, wk1, wkM, wkL, wkLL, List.drop_eq_nil_of_le, hcl]

def isV (hi lo : Int) : Prop := 0 ≤ hi ∧ hi < 18446744073709551616 ∧ 0 ≤ lo ∧ lo < 18446744073709551616

def p_vRight : List AV → AHeap → (AV → Prop) → Prop
  | [.agg [.int .u64 hi, .int .u64 lo], .int .i64 n], _, K => (isV hi lo ∧ n < 9223372036854775808) ∧ K (vv (vOf hi.toNat lo.toNat >>> n.toNat))
  | _, _, _ => False

theorem ok_vRight : EntOk Try.prog 134 (Ent.pure p_vRight) := by
  refine EntOk.pure fun args H K h => ?_
  unfold p_vRight at h
  split at h
  rotate_left
  · exact h.elim
  rename_i hi lo n
  obtain ⟨⟨⟨h0, h1, h2, h3⟩, hn⟩, hK⟩ := h
  refine ⟨_, hK, ?_⟩
  obtain ⟨x, rfl⟩ := u64_lift h0
  obtain ⟨y, rfl⟩ := u64_lift h2
  clear hK h0 h2
  rw [Int.toNat_natCast, Int.toNat_natCast]
  have hx : x < 2 ^ 64 := by omega
  have hy : y < 2 ^ 64 := by omega
  refine ACalls.of_aw (Ω := []) (T := assoc []) mixed TblOk.nil Try.func134 (by kernel_rfl) (by rfl) (rs := [.cell 4 46]) (by rfl) (by kernel_rfl) (by simp only [Try.ntmps134, List.length_cons, List.length_nil]; decide) (Nat.le_refl _) fun hcl hlt => ?_
  change aw _ _ _ (KI Try.prog [] (aEnd Try.prog [.cell 4 46] H.nx _ _) []) _ _
  clear hlt
  simp only [↓bwp, bwq, zav, List.tail_nil, List.tail_cons, List.headD_nil, List.headD_cons, ne_eq, reduceCtorEq, Nat.reduceEqDiff, Nat.reduceAdd, Nat.reduceMul, Nat.reduceSub, Nat.reduceLeDiff, Nat.reduceLT, Int.reduceMul, Int.reduceAdd, Int.reduceSub, List.map_cons, List.map_nil, Option.map_some, Option.map_none, Option.elim_some, if_true, if_false, List.append_nil, List.nil_append, bvq, rEq, List.cons_append, Int.reduceToNat, List.getElem?_cons_zero, List.getElem?_cons_succ, TD.agg, List.drop_succ_cons, List.drop_zero, List.take_succ_cons, List.take_zero, List.take_nil, List.drop_nil, List.getD_cons_zero, List.getD_cons_succ, splice, zhb, zhc, Option.isSome_some, Option.isSome_none, List.getElem?_nil, zhd, zhe, rLen, rBin, rInt, rStr, rUn, zhf, zhg, zhh, zhi, zhj, rBox, zhk, zhl, zhm, zhn, zho, zhp, zhq, zhr, zhs, zht, zhu, zhv, zhw, zhx, zhy, zhz, zia, zib, zic, bound, addL, addT, grow, room, List.length_cons, List.length_nil, List.length_map, frOf, byq, ti_bytes, ti_int, ti_uint, ti_u8, ti_bool, ti_string, ti_u64, ti_val, ti_a16, ↓blp, blq]
  refine both_split (fun t => ?_) (fun t => both_split (fun s => ?_) (fun s => ?_))
  · have t' : n.toNat = 0 := by simp at t; omega
    rw [t', Nat.shiftRight_zero, vv_vOf hy]
    simp (disch := first | assumption | omega | (simp; done) | (simp; omega) | (simp only [bt, and_true]; first | done | omega | (simp; done))) [↓zkt, beq, List.take_of_length_le, List.drop_append, List.take_append, endOk, wk, wk2, wk1, wkM, wkL, wkLL, List.drop_eq_nil_of_le, hcl]
  · simp at t s
    obtain ⟨m, rfl⟩ : ∃ m : Nat, n = m + 64 := ⟨(n - 64).toNat, by omega⟩
    have e1 : IntKind.i64.wrap ((m : Int) + 64 - 64) = m := by rw [wrap_i64] <;> omega
    have e2 : IntKind.u64.wrap (m : Int) = m := by rw [wrap_u64] <;> omega
    have e3 : ((m : Int) + 64).toNat = m + 64 := by omega
    have e4 : vv (vOf x y >>> (m + 64)) = .agg [.int .u64 0, .int .u64 ((x >>> m : Nat) : Int)] := by
      rw [right_far x y _ hy hx (by omega), Nat.add_sub_cancel]
      have := vv_vOf (hi := 0) (lo := x >>> m) (shr_lt hx)
      simpa [vOf] using this
    rw [e3, e4, e1, e2, ishr_u64 x m hx]
    refine ⟨by omega, ?_⟩
    simp (disch := first | assumption | omega | (simp; done) | (simp; omega) | (simp only [bt, and_true]; first | done | omega | (simp; done))) [↓zkt, beq, List.take_of_length_le, List.drop_append, List.take_append, endOk, wk, wk2, wk1, wkM, wkL, wkLL, List.drop_eq_nil_of_le, hcl]
  · simp at t s
    obtain ⟨m, rfl⟩ : ∃ m : Nat, n = m := ⟨n.toNat, by omega⟩
    have hm : m < 64 := by omega
    have e1 : IntKind.i64.wrap (64 - (m : Int)) = ((64 - m : Nat) : Int) := by rw [wrap_i64] <;> omega
    have e2 : IntKind.u64.wrap (m : Int) = m := by rw [wrap_u64] <;> omega
    have e3 : IntKind.u64.wrap ((64 - m : Nat) : Int) = ((64 - m : Nat) : Int) := by rw [wrap_u64] <;> omega
    have e4 : vv (vOf x y >>> m) = .agg [.int .u64 ((x >>> m : Nat) : Int), .int .u64 (((y >>> m ||| (x <<< (64 - m)) % 2 ^ 64 : Nat)) : Int)] := by
      unfold vv
      rw [right_hi x y m hy, right_lo x y m hy hm]
    rw [e1, e2, e3, Int.toNat_natCast, e4, ishr_u64 x m hx, ishr_u64 y m hy, ishl_u64, ior_u64 _ _ (shr_lt hy) (Nat.mod_lt _ (by decide))]
    refine ⟨by omega, by omega, by omega, ?_⟩
    simp (disch := first | assumption | omega | (simp; done) | (simp; omega) | (simp only [bt, and_true]; first | done | omega | (simp; done))) [↓zkt, beq, List.take_of_length_le, List.drop_append, List.take_append, endOk, wk, wk2, wk1, wkM, wkL, wkLL, List.drop_eq_nil_of_le, hcl]

theorem zeros_bys {n : Nat} : List.replicate n (AV.int .u8 0) = bys (List.replicate n 0) := by simp [bys, ofByte]
theorem u8_of (a : Nat) : UInt8.ofNat (((a % 2 ^ 64 : Nat) : Int) % 256).toNat = UInt8.ofNat a := by
  rw [UInt8.ofNat_eq_iff_mod_eq_toNat, UInt8.toNat_ofNat']
  omega
/-- the first k bytes written, the others zero -/
def filled (l : List UInt8) (k : Nat) : List UInt8 := l.take k ++ List.replicate (l.length - k) 0
theorem filled_zero (l : List UInt8) : filled l 0 = List.replicate l.length 0 := by simp [filled]
theorem filled_all (l : List UInt8) : filled l l.length = l := by simp [filled]
theorem filled_len (l : List UInt8) (k : Nat) (h : k ≤ l.length) : (filled l k).length = l.length := by simp [filled]; omega
theorem filled_step (l : List UInt8) (k : Nat) (h : k < l.length) : (filled l k).take k ++ [l[k]] ++ (filled l k).drop (k + 1) = filled l (k + 1) := by
  unfold filled
  have e1 : (l.take k).length = k := by simp; omega
  rw [List.take_append_of_le_length (by omega), List.drop_append, List.take_of_length_le (by omega), e1, List.drop_of_length_le (by omega), List.nil_append, List.drop_replicate, List.take_succ_eq_append_getElem h, Nat.add_sub_cancel_left]
  rfl

def p_vAll : List AV → AHeap → (AV → Prop) → Prop
  | [.agg [.int .u64 hi, .int .u64 lo]], _, K => isV hi lo ∧ K (.agg (bys (beN (vOf hi.toNat lo.toNat) 16)))
  | _, _, _ => False

theorem ok_vAll : EntOk Try.prog 118 (Ent.pure p_vAll) := by
  refine EntOk.pure fun args H K h => ?_
  unfold p_vAll at h
  split at h
  rotate_left
  · exact h.elim
  rename_i hi lo
  obtain ⟨⟨h0, h1, h2, h3⟩, hK⟩ := h
  refine ⟨_, hK, ?_⟩
  obtain ⟨x, rfl⟩ := u64_lift h0
  obtain ⟨y, rfl⟩ := u64_lift h2
  clear hK h0 h2
  rw [Int.toNat_natCast, Int.toNat_natCast]
  have hx : x < 2 ^ 64 := by omega
  have hy : y < 2 ^ 64 := by omega
  refine ACalls.of_aw (Ω := [(134, Ent.pure p_vRight)]) (T := assoc []) mixed (TblOk.cons ok_vRight TblOk.nil) Try.func118 (by kernel_rfl) (by rfl) (rs := [.cell 2 161]) (by rfl) (by kernel_rfl) (by simp only [Try.ntmps118, List.length_cons, List.length_nil]; decide) (Nat.le_refl _) fun hcl hlt => ?_
  change aw _ _ _ (KI Try.prog [(134, Ent.pure p_vRight)] (aEnd Try.prog [.cell 2 161] H.nx _ _) []) _ _
  clear hlt
  have hv := vOf_lt hx hy
  generalize hvo : vOf x y = v at hv ⊢
  simp only [↓bwp, bwq, List.tail_nil, List.tail_cons, List.headD_nil, List.headD_cons, ne_eq, reduceCtorEq, Nat.reduceEqDiff, Nat.reduceAdd, Nat.reduceMul, Nat.reduceSub, Nat.reduceLeDiff, Nat.reduceLT, Int.reduceMul, Int.reduceAdd, Int.reduceSub, List.map_cons, List.map_nil, Option.map_some, Option.map_none, Option.elim_some, if_true, if_false, List.append_nil, List.nil_append, bvq, rEq, List.cons_append, Int.reduceToNat, List.getElem?_cons_zero, List.getElem?_cons_succ, TD.agg, List.drop_succ_cons, List.drop_zero, List.take_succ_cons, List.take_zero, List.take_nil, List.drop_nil, List.getD_cons_zero, List.getD_cons_succ, splice, zhb, zhc, Option.isSome_some, Option.isSome_none, List.getElem?_nil, zhd, zhe, rLen, rBin, rInt, rStr, rUn, zhf, zhg, zhh, zhi, zhj, rBox, zhk, zhl, zhm, zhn, zho, zhp, zhq, zhr, zhs, zht, zhu, zhv, zhw, zhx, zhy, zhz, zia, zib, zic, bound, addL, addT, grow, room, List.length_cons, List.length_nil, List.length_map, frOf, byq, ti_bytes, ti_int, ti_uint, ti_u8, ti_bool, ti_string, ti_u64, ti_val, ti_a16, ↓blp, blq, zeros_bys]
  refine loop_intro (A := Nat) (fun k => [(5, .int .i64 (k : Int)), (3, .ptr (H.nx + 1 + 1) 0), (1, .ptr H.nx 0), (2, .ptr (H.nx + 1) 0)])
    (fun k => ((H.push (.cells [.int .u64 (x : Int), .int .u64 (y : Int)])).push (.cells (bys (List.replicate 16 0)))).push (.cells (bys (filled (beN v 16) k)))) (fun k => k ≤ 16) (fun k => 16 - k) 0 (by omega) ?_ fun k hk => ?_
  · simp only [bnq, enter, subF, ltF, ne_eq, Nat.reduceEqDiff, reduceCtorEq, filled_zero, beN_len, true_or, and_true]
    all_goals rfl
  simp only [↓bwp, bwq, List.tail_nil, List.tail_cons, List.headD_nil, List.headD_cons, ne_eq, reduceCtorEq, Nat.reduceEqDiff, Nat.reduceAdd, Nat.reduceMul, Nat.reduceSub, Nat.reduceLeDiff, Nat.reduceLT, Int.reduceMul, Int.reduceAdd, Int.reduceSub, List.map_cons, List.map_nil, Option.map_some, Option.map_none, Option.elim_some, if_true, if_false, List.append_nil, List.nil_append, bvq, rEq, List.cons_append, Int.reduceToNat, List.getElem?_cons_zero, List.getElem?_cons_succ, TD.agg, List.drop_succ_cons, List.drop_zero, List.take_succ_cons, List.take_zero, List.take_nil, List.drop_nil, List.getD_cons_zero, List.getD_cons_succ, splice, zhb, zhc, Option.isSome_some, Option.isSome_none, List.getElem?_nil, zhd, zhe, rLen, rBin, rInt, rStr, rUn, zhf, zhg, zhh, zhi, zhj, rBox, zhk, zhl, zhm, zhn, zho, zhp, zhq, zhr, zhs, zht, zhu, zhv, zhw, zhx, zhy, zhz, zia, zib, zic, bound, addL, addT, grow, room, List.length_cons, List.length_nil, List.length_map, frOf, byq, ti_bytes, ti_int, ti_uint, ti_u8, ti_bool, ti_string, ti_u64, ti_val, ti_a16, ↓blp, blq]
  refine cond_split (fun hc => ?_) (fun hc => ?_)
  · have hk : k < 16 := by simp at hc; omega
    have e1 : IntKind.i64.wrap (15 - (k : Int)) = ((15 - k : Nat) : Int) := by rw [wrap_i64] <;> omega
    have e2 : IntKind.i64.wrap (8 * ((15 - k : Nat) : Int)) = ((8 * (15 - k) : Nat) : Int) := by rw [wrap_i64] <;> omega
    have e3 : IntKind.i64.wrap ((k : Int) + 1) = ((k + 1 : Nat) : Int) := by rw [wrap_i64] <;> omega
    simp only [↓bwp, bwq, List.tail_nil, List.tail_cons, List.headD_nil, List.headD_cons, ne_eq, reduceCtorEq, Nat.reduceEqDiff, Nat.reduceAdd, Nat.reduceMul, Nat.reduceSub, Nat.reduceLeDiff, Nat.reduceLT, Int.reduceMul, Int.reduceAdd, Int.reduceSub, List.map_cons, List.map_nil, Option.map_some, Option.map_none, Option.elim_some, if_true, if_false, List.append_nil, List.nil_append, bvq, rEq, List.cons_append, Int.reduceToNat, List.getElem?_cons_zero, List.getElem?_cons_succ, TD.agg, List.drop_succ_cons, List.drop_zero, List.take_succ_cons, List.take_zero, List.take_nil, List.drop_nil, List.getD_cons_zero, List.getD_cons_succ, splice, zhb, zhc, Option.isSome_some, Option.isSome_none, List.getElem?_nil, zhd, zhe, rLen, rBin, rInt, rStr, rUn, zhf, zhg, zhh, zhi, zhj, rBox, zhk, zhl, zhm, zhn, zho, zhp, zhq, zhr, zhs, zht, zhu, zhv, zhw, zhx, zhy, zhz, zia, zib, zic, bound, addL, addT, grow, room, List.length_cons, List.length_nil, List.length_map, frOf, byq, ti_bytes, ti_int, ti_uint, ti_u8, ti_bool, ti_string, ti_u64, ti_val, ti_a16, ↓blp, blq, e1, e2, e3, p_vRight, isV, vv, Int.toNat_natCast, hvo, wrap_u8, u8_of, Nat.zero_add, zjv]
    have hs : splice (bys (filled (beN v 16) k)) k (bys [UInt8.ofNat (v >>> (8 * (15 - k)))]) = bys (filled (beN v 16) (k + 1)) := by
      rw [zkv (by rw [filled_len _ _ (by rw [beN_len]; omega), beN_len]; simp; omega), ← filled_step _ _ (by rw [beN_len]; exact hk)]
      simp [beN]
    rw [filled_len _ _ (by rw [beN_len]; omega), beN_len, hs]
    refine ⟨by omega, by omega, by omega, k + 1, by omega, by omega, ?_⟩
    simp only [bnq, enter, subF, ltF, ne_eq, Nat.reduceEqDiff, reduceCtorEq, true_or, and_self]
  · have hk : k = 16 := by simp at hc; omega
    subst hk
    have ef : filled (beN v 16) 16 = beN v 16 := by have := filled_all (beN v 16); rwa [beN_len] at this
    have h16 : (bys (beN v 16)).length = 16 := by rw [zjp, beN_len]
    have e0 : splice (bys (List.replicate 16 0)) 0 (bys (beN v 16)) = bys (beN v 16) := by
      rw [zkv (by simp [beN_len])]; simp [beN_len]
    have et : List.take 16 (beN v 16) = beN v 16 := List.take_of_length_le (by rw [beN_len]; omega)
    simp only [↓bwp, bwq, List.tail_nil, List.tail_cons, List.headD_nil, List.headD_cons, ne_eq, reduceCtorEq, Nat.reduceEqDiff, Nat.reduceAdd, Nat.reduceMul, Nat.reduceSub, Nat.reduceLeDiff, Nat.reduceLT, Int.reduceMul, Int.reduceAdd, Int.reduceSub, List.map_cons, List.map_nil, Option.map_some, Option.map_none, Option.elim_some, if_true, if_false, List.append_nil, List.nil_append, bvq, rEq, List.cons_append, Int.reduceToNat, List.getElem?_cons_zero, List.getElem?_cons_succ, TD.agg, List.drop_succ_cons, List.drop_zero, List.take_succ_cons, List.take_zero, List.take_nil, List.drop_nil, List.getD_cons_zero, List.getD_cons_succ, splice, zhb, zhc, Option.isSome_some, Option.isSome_none, List.getElem?_nil, zhd, zhe, rLen, rBin, rInt, rStr, rUn, zhf, zhg, zhh, zhi, zhj, rBox, zhk, zhl, zhm, zhn, zho, zhp, zhq, zhr, zhs, zht, zhu, zhv, zhw, zhx, zhy, zhz, zia, zib, zic, bound, addL, addT, grow, room, List.length_cons, List.length_nil, List.length_map, frOf, byq, ti_bytes, ti_int, ti_uint, ti_u8, ti_bool, ti_string, ti_u64, ti_val, ti_a16, ↓blp, blq, ef, beN_len, et, e0]
    refine ⟨by simp, ?_⟩
    simp (disch := first | assumption | omega | (simp; done) | (simp; omega) | (simp only [bt, and_true]; first | done | omega | (simp; done))) [↓zkt, beq, List.take_of_length_le, List.drop_append, List.take_append, endOk, wk, wk2, wk1, wkM, wkL, wkLL, List.drop_eq_nil_of_le, hcl]

def p_vBytesF : List AV → AHeap → (AV → Prop) → Prop
  | [.agg [.int .u64 hi, .int .u64 lo]], _, K => isV hi lo ∧ K (.slice .any 1 (bys (vBytes (vOf hi.toNat lo.toNat))))
  | _, _, _ => False

theorem ok_vBytesF : EntOk Try.prog 95 (Ent.pure p_vBytesF) := by
  refine EntOk.pure fun args H K h => ?_
  unfold p_vBytesF at h
  split at h
  rotate_left
  · exact h.elim
  rename_i hi lo
  obtain ⟨⟨h0, h1, h2, h3⟩, hK⟩ := h
  refine ⟨_, hK, ?_⟩
  obtain ⟨x, rfl⟩ := u64_lift h0
  obtain ⟨y, rfl⟩ := u64_lift h2
  clear hK h0 h2
  rw [Int.toNat_natCast, Int.toNat_natCast]
  have hx : x < 2 ^ 64 := by omega
  have hy : y < 2 ^ 64 := by omega
  refine ACalls.of_aw (Ω := [(118, Ent.pure p_vAll), (119, Ent.pure p_vLenF)]) (T := assoc []) mixed (TblOk.cons ok_vAll (TblOk.cons ok_vLenF TblOk.nil)) Try.func95 (by kernel_rfl) (by rfl) (rs := [.tmp 2]) (by rfl) (by kernel_rfl) (by simp only [Try.ntmps95, List.length_cons, List.length_nil]; decide) (Nat.le_refl _) fun hcl hlt => ?_
  change aw _ _ _ (KI Try.prog [(118, Ent.pure p_vAll), (119, Ent.pure p_vLenF)] (aEnd Try.prog [.tmp 2] H.nx _ _) []) _ _
  clear hlt
  have hv := vOf_lt hx hy
  generalize hvo : vOf x y = v at hv ⊢
  have b1 : bl v ≤ 128 := bl_le.2 hv
  have w1 : IntKind.i64.wrap (((bl v : Nat) : Int) + 7) = ((bl v + 7 : Nat) : Int) := by rw [wrap_i64] <;> omega
  have w2 : IntKind.i64.wrap (((bl v + 7 : Nat) : Int).tdiv 8) = (((bl v + 7) / 8 : Nat) : Int) := by
    rw [Int.tdiv_eq_ediv_of_nonneg (by omega), wrap_i64] <;> omega
  have w3 : max (1 : Int) (((bl v + 7) / 8 : Nat) : Int) = (vLen v : Nat) := by unfold vLen; omega
  have hle := vLen_le hv
  have w4 : IntKind.i64.wrap (16 - ((vLen v : Nat) : Int)) = ((16 - vLen v : Nat) : Int) := by rw [wrap_i64] <;> omega
  have e0 : splice (bys (List.replicate 16 0)) 0 (bys (beN v 16)) = bys (beN v 16) := by
    rw [zkv (by simp [beN_len])]; simp [beN_len]
  have e5 : ((16 : Nat) : Int) - ((16 - vLen v : Nat) : Int) = ((vLen v : Nat) : Int) := by omega
  have e6 : rowsOf 1 (vLen v) (bys ((beN v 16).drop (16 - vLen v))) = bys (vBytes v) := by
    rw [beN_drop v 16 _ hle, zkw (by rw [beN_len]; exact Nat.le_refl _), List.take_of_length_le (by rw [beN_len]; exact Nat.le_refl _)]; rfl
  have e7 : (vBytes v).length = vLen v := beN_len _ _
  simp only [↓bwp, bwq, zav, List.tail_nil, List.tail_cons, List.headD_nil, List.headD_cons, ne_eq, reduceCtorEq, Nat.reduceEqDiff, Nat.reduceAdd, Nat.reduceMul, Nat.reduceSub, Nat.reduceLeDiff, Nat.reduceLT, Int.reduceMul, Int.reduceAdd, Int.reduceSub, List.map_cons, List.map_nil, Option.map_some, Option.map_none, Option.elim_some, if_true, if_false, List.append_nil, List.nil_append, bvq, rEq, List.cons_append, Int.reduceToNat, List.getElem?_cons_zero, List.getElem?_cons_succ, TD.agg, List.drop_succ_cons, List.drop_zero, List.take_succ_cons, List.take_zero, List.take_nil, List.drop_nil, List.getD_cons_zero, List.getD_cons_succ, splice, zhb, zhc, Option.isSome_some, Option.isSome_none, List.getElem?_nil, zhd, zhe, rLen, rBin, rInt, rStr, rUn, zhf, zhg, zhh, zhi, zhj, rBox, zhk, zhl, zhm, zhn, zho, zhp, zhq, zhr, zhs, zht, zhu, zhv, zhw, zhx, zhy, zhz, zia, zib, zic, bound, addL, addT, grow, room, List.length_cons, List.length_nil, List.length_map, frOf, byq, ti_bytes, ti_int, ti_uint, ti_u8, ti_bool, ti_string, ti_u64, ti_val, ti_a16, ↓blp, blq, p_vAll, p_vLenF, isV, Int.toNat_natCast, hvo, w1, w2, w3, w4, zeros_bys, beN_len, e0, e5, e6, e7, List.length_replicate]
  refine ⟨by omega, by omega, by decide, by omega, by omega, ?_⟩
  simp (disch := first | assumption | omega | (simp; done) | (simp; omega) | (simp only [bt, and_true]; first | done | omega | (simp; done))) [↓zkt, beq, List.take_of_length_le, List.drop_append, List.take_append, endOk, wk, wk2, wk1, wkM, wkL, wkLL, List.drop_eq_nil_of_le, hcl]
end Go.AL
