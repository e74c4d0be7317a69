/- Contracts and plain laws, a part of the proof; no condition of its own. -/
import Derived.Test.YtepgdamgklfnmaaC02
import Derived.Test.YtepgdamgklfnmaaLVal
open Go Go.AL Go.Proofs
namespace Go.AL
set_option linter.all false
set_option maxRecDepth 10000
theorem ti_u64 : ti Try.prog 27 = some ⟨.int .u64, 1, 8, .int .u64 0⟩ := by kernel_rfl
theorem ti_val : ti Try.prog 29 = some ⟨.struct [(0, 27, false), (1, 27, false)], 2, 16, .agg [.int .u64 0, .int .u64 0]⟩ := by kernel_rfl
theorem ti_a16 : ti Try.prog 164 = some ⟨.array 16 5, 16, 16, .agg (List.replicate 16 (.int .u8 0))⟩ := by kernel_rfl
attribute [go_sem] ti_u64 ti_val ti_a16

def p_Len64 : List AV → AHeap → (AV → Prop) → Prop
  | [.int .u64 n], _, K => (0 ≤ n ∧ n < 18446744073709551616) ∧ K (.int .i64 (bl n.toNat : Nat))
  | _, _, _ => False

/-- the table of lengths -/
def lenTab : List UInt8 := (List.range 256).map fun n => UInt8.ofNat (bl n)
theorem lenTab_eq : ([0, 1, 2, 2, 3, 3, 3, 3, 4, 4, 4, 4, 4, 4, 4, 4, 5, 5, 5, 5, 5, 5, 5, 5, 5, 5, 5, 5, 5, 5, 5, 5, 6, 6, 6, 6, 6, 6, 6, 6, 6, 6, 6, 6, 6, 6, 6, 6, 6, 6, 6, 6, 6, 6, 6, 6, 6, 6, 6, 6, 6, 6, 6, 6].append [7, 7, 7, 7, 7, 7, 7, 7, 7, 7, 7, 7, 7, 7, 7, 7, 7, 7, 7, 7, 7, 7, 7, 7, 7, 7, 7, 7, 7, 7, 7, 7, 7, 7, 7, 7, 7, 7, 7, 7, 7, 7, 7, 7, 7, 7, 7, 7, 7, 7, 7, 7, 7, 7, 7, 7, 7, 7, 7, 7, 7, 7, 7, 7]).append ([8, 8, 8, 8, 8, 8, 8, 8, 8, 8, 8, 8, 8, 8, 8, 8, 8, 8, 8, 8, 8, 8, 8, 8, 8, 8, 8, 8, 8, 8, 8, 8, 8, 8, 8, 8, 8, 8, 8, 8, 8, 8, 8, 8, 8, 8, 8, 8, 8, 8, 8, 8, 8, 8, 8, 8, 8, 8, 8, 8, 8, 8, 8, 8].append [8, 8, 8, 8, 8, 8, 8, 8, 8, 8, 8, 8, 8, 8, 8, 8, 8, 8, 8, 8, 8, 8, 8, 8, 8, 8, 8, 8, 8, 8, 8, 8, 8, 8, 8, 8, 8, 8, 8, 8, 8, 8, 8, 8, 8, 8, 8, 8, 8, 8, 8, 8, 8, 8, 8, 8, 8, 8, 8, 8, 8, 8, 8, 8]) = lenTab := by decide +kernel
theorem lenTab_len : lenTab.length = 256 := by simp [lenTab]
theorem lenTab_get (n : Nat) (h : n < 256) : (lenTab.getD n 0).toNat = bl n := by
  unfold lenTab
  rw [List.getD_eq_getElem?_getD, List.getElem?_map, List.getElem?_range h]
  have : bl n ≤ 8 := bl_le.2 h
  simp only [Option.map_some, Option.getD_some]
  rw [UInt8.toNat_ofNat_of_lt' (by simp [UInt8.size]; omega)]

/-- one way through Len64: shifts by s in all -/
theorem len64_end {m s : Nat} {H : AHeap} (hcl : H.Closed) (hm : m < 2 ^ 64) (h : m >>> s < 256) (hs : s = 0 ∨ 2 ^ s ≤ m) :
    (0 ≤ IntKind.u8.wrap ((m >>> s : Nat) : Int) ∧ IntKind.u8.wrap ((m >>> s : Nat) : Int) < (lenTab.length : Int)) ∧
    endOk H (AV.int IntKind.i64 (IntKind.i64.wrap ((s : Int) + IntKind.i64.wrap ((lenTab.getD (IntKind.u8.wrap ((m >>> s : Nat) : Int)).toNat 0).toNat : Int)))) H (AV.int IntKind.i64 (bl m : Nat)) := by
  have e : IntKind.u8.wrap ((m >>> s : Nat) : Int) = ((m >>> s : Nat) : Int) := by
    have : IntKind.u8.wrap ((m >>> s : Nat) : Int) = ((m >>> s : Nat) : Int) % 256 := by simp [IntKind.wrap, IntKind.signed, IntKind.bits]
    rw [this]
    generalize m >>> s = x at h ⊢
    omega
  rw [e, lenTab_len, Int.toNat_natCast, lenTab_get _ h]
  refine ⟨⟨Int.natCast_nonneg _, by generalize m >>> s = x at h ⊢; omega⟩, ?_⟩
  have hb : bl m = s + bl (m >>> s) := by
    rcases hs with rfl | hs
    · simp
    · exact bl_shift m s hs
  have h8 : bl (m >>> s) ≤ 8 := bl_le.2 h
  have h64 : bl m ≤ 64 := bl_le.2 hm
  have e2 : IntKind.i64.wrap ((bl (m >>> s) : Nat) : Int) = (bl (m >>> s) : Nat) := by rw [wrap_i64] <;> omega
  have e3 : IntKind.i64.wrap ((s : Int) + (bl (m >>> s) : Nat)) = (bl m : Nat) := by rw [wrap_i64] <;> omega
  rw [e2, e3]
  simp [endOk, wk, wk2, wk1, zmc, hcl, zml]

theorem ok_Len64 : EntOk Try.prog 114 (Ent.pure p_Len64) := by
  refine EntOk.pure fun args H K h => ?_
  unfold p_Len64 at h
  split at h
  rotate_left
  · exact h.elim
  rename_i n
  obtain ⟨⟨h0, h1⟩, hK⟩ := h
  refine ⟨_, hK, ?_⟩
  obtain ⟨m, rfl⟩ := u64_lift h0
  clear hK h0
  rw [Int.toNat_natCast]
  have hm : m < 2 ^ 64 := by omega
  clear h1
  refine ACalls.of_aw (Ω := []) (T := assoc []) mixed TblOk.nil Try.func114 (by kernel_rfl) (by rfl) (rs := [.tmp 2]) (by rfl) (by kernel_rfl) (by simp only [Try.ntmps114, List.length_cons, List.length_nil]; decide) (Nat.le_refl _) fun hcl hlt => ?_
  change aw _ _ _ (KI Try.prog [] (aEnd Try.prog [.tmp 2] H.nx _ _) []) _ _
  clear hlt
  have s32 : ∀ a : Nat, a < 2 ^ 64 → ishr .u64 (a : Int) 32 = ((a >>> 32 : Nat) : Int) := fun a h => ishr_u64 a 32 h
  have s16 : ∀ a : Nat, a < 2 ^ 64 → ishr .u64 (a : Int) 16 = ((a >>> 16 : Nat) : Int) := fun a h => ishr_u64 a 16 h
  have s8 : ∀ a : Nat, a < 2 ^ 64 → ishr .u64 (a : Int) 8 = ((a >>> 8 : Nat) : Int) := fun a h => ishr_u64 a 8 h
  have q1 : m >>> 32 < 2 ^ 64 := shr_lt hm
  have q2 : m >>> 16 < 2 ^ 64 := shr_lt hm
  have q3 : m >>> 32 >>> 16 < 2 ^ 64 := shr_lt q1
  have w48 : IntKind.i64.wrap 48 = 48 := by decide
  have w40 : IntKind.i64.wrap 40 = 40 := by decide
  have w24 : IntKind.i64.wrap 24 = 24 := by decide
  have w56 : IntKind.i64.wrap (48 + 8) = 56 := by decide
  have w56' : IntKind.i64.wrap 56 = 56 := by decide
  have wn : ∀ k : Nat, (0 ≤ IntKind.u8.wrap ((m >>> k : Nat) : Int)) = True := fun k => eq_true (by simp [IntKind.wrap, IntKind.signed, IntKind.bits]; try omega)
  have q4 : m >>> 48 < 2 ^ 64 := shr_lt hm
  simp only [go_sem, zav, reduceCtorEq, Nat.reduceEqDiff, Nat.reduceAdd, Nat.reduceMul, Nat.reduceSub, Nat.reduceLeDiff, Nat.reduceLT, Int.reduceMul, Int.reduceAdd, Int.reduceSub, Int.reduceToNat, byq, lenTab_eq, s32, s16, s8, hm, q1, q2, q3, q4, w48, w40, w24, w56, w56', ← Nat.shiftRight_add]
  have sr : ∀ k : Nat, m >>> k = m / 2 ^ k := fun k => Nat.shiftRight_eq_div_pow m k
  have fin := fun s => @len64_end m s H hcl hm
  refine both_split (fun t1 => ⟨by decide, both_split (fun t2 => ⟨by decide, both_split (fun t3 => ⟨by decide, ?_⟩) (fun t3 => ?_)⟩) (fun t2 => both_split (fun t3 => ⟨by decide, ?_⟩) (fun t3 => ?_))⟩)
    (fun t1 => both_split (fun t2 => ⟨by decide, both_split (fun t3 => ⟨by decide, ?_⟩) (fun t3 => ?_)⟩) (fun t2 => both_split (fun t3 => ⟨by decide, ?_⟩) (fun t3 => ?_)))
  all_goals simp only [decide_eq_true_eq, decide_eq_false_iff_not, sr, ge_iff_le] at t1 t2 t3
  · first | exact fin 56 (by rw [sr]; omega) (.inr (by omega)) | exact ⟨(fin 56 (by rw [sr]; omega) (.inr (by omega))).1.2, (fin 56 (by rw [sr]; omega) (.inr (by omega))).2⟩
  · first | exact fin 48 (by rw [sr]; omega) (.inr (by omega)) | exact ⟨(fin 48 (by rw [sr]; omega) (.inr (by omega))).1.2, (fin 48 (by rw [sr]; omega) (.inr (by omega))).2⟩
  · first | exact fin 40 (by rw [sr]; omega) (.inr (by omega)) | exact ⟨(fin 40 (by rw [sr]; omega) (.inr (by omega))).1.2, (fin 40 (by rw [sr]; omega) (.inr (by omega))).2⟩
  · first | exact fin 32 (by rw [sr]; omega) (.inr (by omega)) | exact ⟨(fin 32 (by rw [sr]; omega) (.inr (by omega))).1.2, (fin 32 (by rw [sr]; omega) (.inr (by omega))).2⟩
  · first | exact fin 24 (by rw [sr]; omega) (.inr (by omega)) | exact ⟨(fin 24 (by rw [sr]; omega) (.inr (by omega))).1.2, (fin 24 (by rw [sr]; omega) (.inr (by omega))).2⟩
  · first | exact fin 16 (by rw [sr]; omega) (.inr (by omega)) | exact ⟨(fin 16 (by rw [sr]; omega) (.inr (by omega))).1.2, (fin 16 (by rw [sr]; omega) (.inr (by omega))).2⟩
  · first | exact fin 8 (by rw [sr]; omega) (.inr (by omega)) | exact ⟨(fin 8 (by rw [sr]; omega) (.inr (by omega))).1.2, (fin 8 (by rw [sr]; omega) (.inr (by omega))).2⟩
  · first | exact fin 0 (by rw [sr]; omega) (.inl rfl) | exact ⟨(fin 0 (by rw [sr]; omega) (.inl rfl)).1.2, (fin 0 (by rw [sr]; omega) (.inl rfl)).2⟩

def p_vLenF : List AV → AHeap → (AV → Prop) → Prop
  | [.agg [.int .u64 hi, .int .u64 lo]], _, K => (0 ≤ hi ∧ hi < 18446744073709551616 ∧ 0 ≤ lo ∧ lo < 18446744073709551616) ∧ K (.int .i64 (bl (vOf hi.toNat lo.toNat) : Nat))
  | _, _, _ => False

theorem ok_vLenF : EntOk Try.prog 103 (Ent.pure p_vLenF) := by
  refine EntOk.pure fun args H K h => ?_
  unfold p_vLenF at h
  split at h
  rotate_left
  · exact h.elim
  rename_i hi lo
  obtain ⟨⟨h0, h1, h2, h3⟩, hK⟩ := h
  refine ⟨_, hK, ?_⟩
  obtain ⟨x, rfl⟩ := u64_lift h0
  obtain ⟨y, rfl⟩ := u64_lift h2
  clear hK h0 h2
  rw [Int.toNat_natCast, Int.toNat_natCast]
  have hx : x < 2 ^ 64 := by omega
  have hy : y < 2 ^ 64 := by omega
  refine ACalls.of_aw (Ω := [(114, Ent.pure p_Len64)]) (T := assoc []) mixed (TblOk.cons ok_Len64 TblOk.nil) Try.func103 (by kernel_rfl) (by rfl) (rs := [.tmp 2]) (by rfl) (by kernel_rfl) (by simp only [Try.ntmps103, List.length_cons, List.length_nil]; decide) (Nat.le_refl _) fun hcl hlt => ?_
  change aw _ _ _ (KI Try.prog [(114, Ent.pure p_Len64)] (aEnd Try.prog [.tmp 2] H.nx _ _) []) _ _
  clear hlt
  have b1 : bl x ≤ 64 := bl_le.2 hx
  have hw : IntKind.i64.wrap (64 + ((bl x : Nat) : Int)) = ((64 + bl x : Nat) : Int) := by rw [wrap_i64] <;> omega
  simp only [go_sem, zav, reduceCtorEq, Nat.reduceEqDiff, Nat.reduceAdd, Nat.reduceMul, Nat.reduceSub, Nat.reduceLeDiff, Nat.reduceLT, Int.reduceMul, Int.reduceAdd, Int.reduceSub, Int.reduceToNat, byq, p_Len64, Int.toNat_natCast, hw]
  rw [bl_vOf hy]
  refine both_split (fun t => ?_) (fun t => ?_)
  · have t' : x ≠ 0 := by simpa using t
    rw [if_neg t']
    repeat refine ⟨by omega, ?_⟩
    simp (disch := first | assumption | omega | (simp; done) | (simp; omega) | (simp only [bt, and_true]; first | done | omega | (simp; done))) [↓zlu, beq, List.take_of_length_le, List.drop_append, List.take_append, endOk, wk, wk2, wk1, wkM, wkL, wkLL, List.drop_eq_nil_of_le, hcl]
  · have t' : x = 0 := by simpa using t
    rw [if_pos t']
    repeat refine ⟨by omega, ?_⟩
    simp (disch := first | assumption | omega | (simp; done) | (simp; omega) | (simp only [bt, and_true]; first | done | omega | (simp; done))) [↓zlu, beq, List.take_of_length_le, List.drop_append, List.take_append, endOk, wk, wk2, wk1, wkM, wkL, wkLL, List.drop_eq_nil_of_le, hcl]

def isV (hi lo : Int) : Prop := 0 ≤ hi ∧ hi < 18446744073709551616 ∧ 0 ≤ lo ∧ lo < 18446744073709551616

def p_vRight : List AV → AHeap → (AV → Prop) → Prop
  | [.agg [.int .u64 hi, .int .u64 lo], .int .i64 n], _, K => (isV hi lo ∧ n < 9223372036854775808) ∧ K (vv (vOf hi.toNat lo.toNat >>> n.toNat))
  | _, _, _ => False

theorem ok_vRight : EntOk Try.prog 110 (Ent.pure p_vRight) := by
  refine EntOk.pure fun args H K h => ?_
  unfold p_vRight at h
  split at h
  rotate_left
  · exact h.elim
  rename_i hi lo n
  obtain ⟨⟨⟨h0, h1, h2, h3⟩, hn⟩, hK⟩ := h
  refine ⟨_, hK, ?_⟩
  obtain ⟨x, rfl⟩ := u64_lift h0
  obtain ⟨y, rfl⟩ := u64_lift h2
  clear hK h0 h2
  rw [Int.toNat_natCast, Int.toNat_natCast]
  have hx : x < 2 ^ 64 := by omega
  have hy : y < 2 ^ 64 := by omega
  refine ACalls.of_aw (Ω := []) (T := assoc []) mixed TblOk.nil Try.func110 (by kernel_rfl) (by rfl) (rs := [.cell 4 29]) (by rfl) (by kernel_rfl) (by simp only [Try.ntmps110, List.length_cons, List.length_nil]; decide) (Nat.le_refl _) fun hcl hlt => ?_
  change aw _ _ _ (KI Try.prog [] (aEnd Try.prog [.cell 4 29] H.nx _ _) []) _ _
  clear hlt
  simp only [go_sem, zav, reduceCtorEq, Nat.reduceEqDiff, Nat.reduceAdd, Nat.reduceMul, Nat.reduceSub, Nat.reduceLeDiff, Nat.reduceLT, Int.reduceMul, Int.reduceAdd, Int.reduceSub, Int.reduceToNat, byq]
  refine both_split (fun t => ?_) (fun t => both_split (fun s => ?_) (fun s => ?_))
  · have t' : n.toNat = 0 := by simp at t; omega
    rw [t', Nat.shiftRight_zero, vv_vOf hy]
    simp (disch := first | assumption | omega | (simp; done) | (simp; omega) | (simp only [bt, and_true]; first | done | omega | (simp; done))) [↓zlu, beq, List.take_of_length_le, List.drop_append, List.take_append, endOk, wk, wk2, wk1, wkM, wkL, wkLL, List.drop_eq_nil_of_le, hcl]
  · simp at t s
    obtain ⟨m, rfl⟩ : ∃ m : Nat, n = m + 64 := ⟨(n - 64).toNat, by omega⟩
    have e1 : IntKind.i64.wrap ((m : Int) + 64 - 64) = m := by rw [wrap_i64] <;> omega
    have e2 : IntKind.u64.wrap (m : Int) = m := by rw [wrap_u64] <;> omega
    have e3 : ((m : Int) + 64).toNat = m + 64 := by omega
    have e4 : vv (vOf x y >>> (m + 64)) = .agg [.int .u64 0, .int .u64 ((x >>> m : Nat) : Int)] := by
      rw [right_far x y _ hy hx (by omega), Nat.add_sub_cancel]
      have := vv_vOf (hi := 0) (lo := x >>> m) (shr_lt hx)
      simpa [vOf] using this
    rw [e3, e4, e1, e2, ishr_u64 x m hx]
    repeat refine ⟨by omega, ?_⟩
    simp (disch := first | assumption | omega | (simp; done) | (simp; omega) | (simp only [bt, and_true]; first | done | omega | (simp; done))) [↓zlu, beq, List.take_of_length_le, List.drop_append, List.take_append, endOk, wk, wk2, wk1, wkM, wkL, wkLL, List.drop_eq_nil_of_le, hcl]
  · simp at t s
    obtain ⟨m, rfl⟩ : ∃ m : Nat, n = m := ⟨n.toNat, by omega⟩
    have hm : m < 64 := by omega
    have e1 : IntKind.i64.wrap (64 - (m : Int)) = ((64 - m : Nat) : Int) := by rw [wrap_i64] <;> omega
    have e2 : IntKind.u64.wrap (m : Int) = m := by rw [wrap_u64] <;> omega
    have e3 : IntKind.u64.wrap ((64 - m : Nat) : Int) = ((64 - m : Nat) : Int) := by rw [wrap_u64] <;> omega
    have e4 : vv (vOf x y >>> m) = .agg [.int .u64 ((x >>> m : Nat) : Int), .int .u64 (((y >>> m ||| (x <<< (64 - m)) % 2 ^ 64 : Nat)) : Int)] := by
      unfold vv
      rw [right_hi x y m hy, right_lo x y m hy hm]
    rw [e1, e2, e3, Int.toNat_natCast, e4, ishr_u64 x m hx, ishr_u64 y m hy, ishl_u64, ior_u64 _ _ (shr_lt hy) (Nat.mod_lt _ (by decide))]
    repeat refine ⟨by omega, ?_⟩
    simp (disch := first | assumption | omega | (simp; done) | (simp; omega) | (simp only [bt, and_true]; first | done | omega | (simp; done))) [↓zlu, beq, List.take_of_length_le, List.drop_append, List.take_append, endOk, wk, wk2, wk1, wkM, wkL, wkLL, List.drop_eq_nil_of_le, hcl]

end Go.AL

