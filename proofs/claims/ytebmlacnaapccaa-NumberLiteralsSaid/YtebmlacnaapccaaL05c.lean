/- Contracts and plain laws, a part of the proof; no condition of its own. -/
import Derived.Test.YtebmlacnaapccaaR05d
open Go Go.AL Go.Proofs
namespace Go.AL
set_option linter.all false
set_option maxRecDepth 10000
theorem both_beq {α : Type} [BEq α] [LawfulBEq α] {x : α} {A B : Prop} (h : A) : both (x == x) A B := both_split (fun _ => h) (fun h => by simp at h)
theorem both_bne {α : Type} [BEq α] [LawfulBEq α] {x : α} {A B : Prop} (h : B) : both (x != x) A B := both_split (fun h => by simp at h) (fun _ => h)
theorem both_tt {t : Bool} {A B : Prop} (e : t = true) (h : A) : both t A B := both_split (fun _ => h) (fun h => by simp [e] at h)
theorem both_ff {t : Bool} {A B : Prop} (e : t = false) (h : B) : both t A B := both_split (fun h => by simp [e] at h) (fun _ => h)
/-- a row of texts -/
def sAV (l : List (List UInt8)) : List AV := l.map .str
theorem sAV_length {l : List (List UInt8)} : (sAV l).length = l.length := by simp [sAV]
theorem sAV_get {l : List (List UInt8)} {i : Nat} (h : i < l.length) : (sAV l).getD i .junk = .str (l.getD i []) := by simp [sAV, List.getD_eq_getElem?_getD, h]
theorem sAV_lt {n : Nat} {l : List (List UInt8)} : AV.lt n (.slice .any 1 (sAV l)) := lt_slice fun x hx => by
  obtain ⟨s, _, rfl⟩ := List.mem_map.1 hx
  simp only [zky]
/-- a digit of a value in hexadecimal -/
def hexTab : List UInt8 := [48, 49, 50, 51, 52, 53, 54, 55, 56, 57, 97, 98, 99, 100, 101, 102]
def hexd (v k : Nat) : List UInt8 := ([48, 120] : List UInt8) ++ (List.range k).map fun j => hexTab.getD ((v >>> (124 - 4 * j)) % 16) 0
theorem hexd_succ (v k : Nat) : hexd v (k + 1) = hexd v k ++ [hexTab.getD ((v >>> (124 - 4 * k)) % 16) 0] := by simp [hexd, List.range_succ]
theorem hexTab_dg : ∀ d, d < 16 → dg (hexTab.getD d 0) = d := by decide
theorem hexd_len (v k : Nat) : (hexd v k).length = k + 2 := by simp [hexd]
theorem litB_append (b : Nat) : ∀ (s : List UInt8) (n m : Nat) (t : List UInt8), litB b n s = some m → litB b n (s ++ t) = litB b m t
  | [], n, m, t, h => by simp only [litB] at h; cases h; rfl
  | c :: s, n, m, t, h => by
    simp only [litB, List.cons_append] at h ⊢
    split at h
    · split at h
      · rename_i h1 h2
        rw [if_pos h1, if_pos h2]; exact litB_append b s _ _ t h
      · cases h
    · cases h
theorem litB_hex {v : Nat} (hv : v < 2 ^ 128) : ∀ k, k ≤ 32 → litB 16 0 ((hexd v k).drop 2) = some (v >>> (128 - 4 * k))
  | 0, _ => by
    have : v >>> 128 = 0 := by rw [Nat.shiftRight_eq_div_pow, Nat.div_eq_of_lt hv]
    simp [hexd, litB, this]
  | k + 1, h => by
    have ih := litB_hex hv k (by omega)
    have e : (hexd v (k + 1)).drop 2 = (hexd v k).drop 2 ++ [hexTab.getD ((v >>> (124 - 4 * k)) % 16) 0] := by
      rw [hexd_succ, List.drop_append_of_le_length (by rw [hexd_len]; omega)]
    rw [e, litB_append 16 _ _ _ _ ih]
    have hd := hexTab_dg ((v >>> (124 - 4 * k)) % 16) (Nat.mod_lt _ (by decide))
    have hs : v >>> (128 - 4 * k) * 16 + (v >>> (124 - 4 * k)) % 16 = v >>> (124 - 4 * k) := by
      have e2 : 128 - 4 * k = (124 - 4 * k) + 4 := by omega
      rw [e2, Nat.shiftRight_add]
      generalize v >>> (124 - 4 * k) = z
      rw [Nat.shiftRight_eq_div_pow]; omega
    have hlt : v >>> (124 - 4 * k) < 2 ^ 128 := Nat.lt_of_le_of_lt (Nat.shiftRight_le _ _) hv
    simp only [litB]
    rw [hd, if_pos (Nat.mod_lt _ (by decide)), hs, if_pos hlt]
    rw [show 128 - 4 * (k + 1) = 124 - 4 * k by omega]
theorem lit_hex {v : Nat} (hv : v < 2 ^ 128) : lit (hexd v 32) = some v := by
  unfold lit
  have h1 : hasP (hexd v 32) [48, 120] = true := by simp [hasP, hexd]
  rw [if_pos h1, if_neg (by intro h; have := congrArg List.length h; rw [List.length_drop, hexd_len] at this; simp at this), litB_hex hv 32 (Nat.le_refl _)]
  rfl
theorem hex_hi {x y v i : Nat} (h : vOf x y = v) (hx : x < 2 ^ 64) (hy : y < 2 ^ 64) (h1 : 64 ≤ i) (h2 : i < 128) : (x >>> (i % 64)) % 16 = (v >>> i) % 16 := by
  rw [← h, right_far x y i hy hx h1, show i % 64 = i - 64 by omega]
theorem hex_lo {x y v i : Nat} (h : vOf x y = v) (h1 : i ≤ 60) : (y >>> (i % 64)) % 16 = (v >>> i) % 16 := by
  rw [← h, show i % 64 = i by omega, Nat.shiftRight_eq_div_pow, Nat.shiftRight_eq_div_pow]
  have e : vOf x y = 2 ^ i * (x * 2 ^ (60 - i) * 16) + y := by
    unfold vOf
    have : (2 : Nat) ^ 64 = 2 ^ i * (2 ^ (60 - i) * 16) := by
      rw [← Nat.mul_assoc, ← Nat.pow_add, show i + (60 - i) = 60 by omega]
    rw [this, ← Nat.mul_assoc, Nat.mul_comm x, Nat.mul_assoc, Nat.mul_assoc]
    congr 2
    rw [Nat.mul_left_comm]
    exact Nat.mul_comm _ _
  rw [e, Nat.mul_add_div (Nat.pow_pos (by decide)), Nat.mul_comm, Nat.mul_add_mod]
theorem iand_255 (a : Int) : 0 ≤ iand .i64 a 255 ∧ iand .i64 a 255 ≤ 255 := by
  have h : (BitVec.ofInt 64 a &&& BitVec.ofInt 64 255).toNat ≤ 255 := by
    rw [BitVec.toNat_and]
    exact Nat.and_le_right
  show 0 ≤ IntKind.i64.wrap ((BitVec.ofInt 64 a &&& BitVec.ofInt 64 255).toNat : Int) ∧ IntKind.i64.wrap ((BitVec.ofInt 64 a &&& BitVec.ofInt 64 255).toNat : Int) ≤ 255
  generalize (BitVec.ofInt 64 a &&& BitVec.ofInt 64 255).toNat = z at h
  rw [wrap_i64] <;> omega
theorem rows_junk {l : List UInt8} {n k : Nat} (h : n = l.length) : rowsOf 1 n (bys l ++ List.replicate k AV.junk) = bys l := by
  subst h
  induction l with
  | nil => rfl
  | cons a l ih =>
    show rowsOf 1 (l.length + 1) (ofByte a :: (bys l ++ List.replicate k AV.junk)) = ofByte a :: bys l
    simp only [rowsOf, if_true, List.drop_succ_cons, List.drop_zero, ih]
    rfl
theorem u8_byte (n : Int) : ∃ e : UInt8, AV.int .u8 (IntKind.u8.wrap n) = ofByte e := ⟨_, wrap_u8⟩
theorem iand_63 {n : Nat} (h : n < 128) : iand .i64 (n : Int) 63 = ((n % 64 : Nat) : Int) := by
  revert h; revert n; decide +kernel
theorem dtx_len128 {n : Nat} (h : n < 2 ^ 128) : (dtx n []).length ≤ 40 := by
  have := dtx_len n [] 40 (by omega) (by decide)
  simpa using this
theorem dtx_ne (n : Nat) (b : List UInt8) : dtx n b ≠ [] := by
  induction n using Nat.strongRecOn generalizing b with
  | _ n ih =>
    rw [dtx]
    split
    · simp
    · exact ih (n / 10) (by omega) _

theorem lt_sliceL' {n sz : Nat} {m : Mark} {xs : List AV} : (AV.slice m sz xs).lt n = ((∀ id, m = .own id → id < n) ∧ ltL n xs) := by
  rw [AV.lt]; exact propext ⟨fun h => ⟨h.1, ltL_iff.2 h.2⟩, fun h => ⟨h.1, ltL_iff.1 h.2⟩⟩
theorem litB_lt {b : Nat} : ∀ (s : List UInt8) (m n : Nat), m < 2 ^ 128 → litB b m s = some n → n < 2 ^ 128
  | [], m, n, h, e => by simp only [litB] at e; cases e; exact h
  | c :: s, m, n, h, e => by
    simp only [litB] at e
    split at e
    · split at e
      · rename_i h1 h2; exact litB_lt s _ n h2 e
      · cases e
    · cases e
theorem lit_lt {s : List UInt8} {n : Nat} (h : lit s = some n) : n < 2 ^ 128 := by
  unfold lit at h
  split at h
  · split at h
    · cases h
    · exact litB_lt _ _ _ (by decide) h
  · split at h
    · cases h
    · exact litB_lt _ _ _ (by decide) h
def p_NumberLiterals : List AV → AHeap → (AV → Prop) → Prop
  | [.str s, .agg [.int .u64 hi, .int .u64 lo], .int .u8 zs, .int .i64 pl, .int .u8 by_], _, K => (s.length ≤ 140737488351232 ∧ isV hi lo ∧ (0 ≤ zs ∧ zs ≤ 255)) ∧ K (.bool true)
  | _, _, _ => False
set_option maxHeartbeats 4000000 in
theorem ok_NumberLiterals : EntOk Try.prog 7 (Ent.pure p_NumberLiterals) := by
  refine EntOk.pure fun args H K h => ?_
  unfold p_NumberLiterals at h
  split at h
  rotate_left
  · exact h.elim
  rename_i s hi lo zs pl by_
  obtain ⟨⟨hs, ⟨v0, v1, v2, v3⟩, z0, z1⟩, hK⟩ := h
  refine ⟨_, hK, ?_⟩
  clear hK
  obtain ⟨x, rfl⟩ := u64_lift v0
  obtain ⟨y, rfl⟩ := u64_lift v2
  have hx : x < 2 ^ 64 := by omega
  have hy : y < 2 ^ 64 := by omega
  refine ACalls.of_aw (Ω := [(21, Ent.pure p_NFrom), (9, Ent.pure p_NText), (25, Ent.pure p_NLiteral), (26, Ent.pure p_rLiteral), (10, Ent.pure p_rText), (17, Ent.pure p_begun)]) (T := assoc [(24, [[], [], [], [], [], [], [], [6], [], [6, 7, 8]]), (28, [[], [], [], [], [3], [], [], [], [2, 3, 4]]), (16, [[3]]), (18, [[11]])]) mixed (TblOk.cons ok_NFrom (TblOk.cons ok_NText (TblOk.cons ok_NLiteral (TblOk.cons ok_rLiteral (TblOk.cons ok_rText (TblOk.cons ok_begun TblOk.nil)))))) Try.func7 (by kernel_rfl) (by rfl) (rs := [.tmp 10]) (by rfl) (by kernel_rfl) (by simp only [Try.ntmps7, List.length_cons, List.length_nil]; decide) (Nat.le_refl _) fun hcl hlt => ?_
  change aw _ _ _ (KI Try.prog [(21, Ent.pure p_NFrom), (9, Ent.pure p_NText), (25, Ent.pure p_NLiteral), (26, Ent.pure p_rLiteral), (10, Ent.pure p_rText), (17, Ent.pure p_begun)] (aEnd Try.prog [.tmp 10] H.nx _ _ (assoc [(24, [[], [], [], [], [], [], [], [6], [], [6, 7, 8]]), (28, [[], [], [], [], [3], [], [], [], [2, 3, 4]]), (16, [[3]]), (18, [[11]])])) []) _ _
  clear hlt
  have hv : vOf x y < 2 ^ 128 := vOf_lt hx hy
  have hvz : ((x : Int) * 2 ^ 64 + y) = ((vOf x y : Nat) : Int) := by unfold vOf; omega
  have ht : txt ((vOf x y : Nat) : Int) = dtx (vOf x y) [] := by unfold txt; rw [if_neg (by omega), Int.natAbs_natCast]
  simp only [↓bwp, bwq, List.tail_nil, List.tail_cons, List.headD_nil, List.headD_cons, ne_eq, reduceCtorEq, Nat.reduceEqDiff, Nat.reduceAdd, Nat.reduceMul, Nat.reduceSub, Nat.reduceLeDiff, Nat.reduceLT, Int.reduceMul, Int.reduceAdd, Int.reduceSub, List.map_cons, List.map_nil, Option.map_some, Option.map_none, Option.elim_some, if_true, if_false, List.append_nil, List.nil_append, bvq, rEq, List.cons_append, Int.reduceToNat, List.getElem?_cons_zero, List.getElem?_cons_succ, TD.agg, List.drop_succ_cons, List.drop_zero, List.take_succ_cons, List.take_zero, List.take_nil, List.drop_nil, List.getD_cons_zero, List.getD_cons_succ, splice, zgu, zgv, Option.isSome_some, Option.isSome_none, List.getElem?_nil, zgw, zgx, rLen, rBin, rInt, rStr, rUn, zgy, zgz, zha, zhb, zhc, rBox, zhd, zhe, zhf, zhg, zhh, zhi, zhj, zhk, zhl, zhm, zhn, zho, zhp, zhq, zhr, zhs, zht, zhu, zhv, bound, addL, addT, grow, room, List.length_cons, List.length_nil, List.length_map, frOf, ti_int, ti_value, ti_u64, ti_Number, ti_words, ti_bool, ti_ints, ti_Int, ti_uint, ti_bytes, ti_u8, ti_string, ti_bits, ti_vals, ti_bools, ti_strs, ↓blp, blq, p_NFrom, p_NText]
  refine ⟨by omega, by omega, (x : Int) * 2 ^ 64 + y, ⟨rfl, by omega, by omega⟩, ?_⟩
  rw [hvz, ht]
  clear hvz ht
  have hlen := dtx_len128 hv
  have hne := dtx_ne (vOf x y) []
  generalize hvo : vOf x y = v at *
  generalize hdec : dtx v [] = dec at *
  generalize hs50 : (s.take (min (s.length : Int) 50).toNat).drop (0 : Int).toNat = s1
  have hs1 : s1.length ≤ 50 := by rw [← hs50]; simp; omega
  refine loop_introW (A := Nat) (fun k => [(0, .str s1), (2, .int .u8 zs), (3, .int .i64 pl), (4, .int .u8 by_), (6, .ptr H.nx 0), (11, .str dec), (12, .str (hexd v k)), (13, .int .i64 (124 - 4 * (k : Int)))])
    (fun k => H.push (.cells [.int .u64 (x : Int), .int .u64 (y : Int)])) (fun k => k ≤ 32) (fun k => 32 - k) 0 (by omega) ?_ fun k hk => ?_
  · have h0 : hexd v 0 = [48, 120] := by simp [hexd]
    (simp only [bkq, enterW, subW, ltF, ne_eq, Nat.reduceEqDiff, reduceCtorEq, h0]; try simp (disch := first | assumption | omega | (simp; done) | (simp; omega) | (simp only [bt, and_true]; first | done | omega | (simp; done))) [↓zkf, beq, List.take_of_length_le, List.drop_append, List.take_append, endOk, wk, wk2, wk1, wkM, wkL, wkLL, List.drop_eq_nil_of_le, byq, biq, isDs_ints, hcl, h0]; try (repeat' (first | assumption | omega | exact True.intro | refine And.intro ?_ ?_ | refine closed_buf ?_ | refine closed_set_buf ?_ | refine closed_cells ?_ ?_ | refine closed_set ?_ ?_ | refine closed_del ?_ | exact AHeap.Le.refl _ | refine AHeap.Le.push ?_ _ | refine AHeap.Le.del ?_ ?_ | (simp only [bt, and_true, true_and, h0]; first | done | omega | (simp; done)))))
    trace_state
  simp only [↓bwp, bwq, List.tail_nil, List.tail_cons, List.headD_nil, List.headD_cons, ne_eq, reduceCtorEq, Nat.reduceEqDiff, Nat.reduceAdd, Nat.reduceMul, Nat.reduceSub, Nat.reduceLeDiff, Nat.reduceLT, Int.reduceMul, Int.reduceAdd, Int.reduceSub, List.map_cons, List.map_nil, Option.map_some, Option.map_none, Option.elim_some, if_true, if_false, List.append_nil, List.nil_append, bvq, rEq, List.cons_append, Int.reduceToNat, List.getElem?_cons_zero, List.getElem?_cons_succ, TD.agg, List.drop_succ_cons, List.drop_zero, List.take_succ_cons, List.take_zero, List.take_nil, List.drop_nil, List.getD_cons_zero, List.getD_cons_succ, splice, zgu, zgv, Option.isSome_some, Option.isSome_none, List.getElem?_nil, zgw, zgx, rLen, rBin, rInt, rStr, rUn, zgy, zgz, zha, zhb, zhc, rBox, zhd, zhe, zhf, zhg, zhh, zhi, zhj, zhk, zhl, zhm, zhn, zho, zhp, zhq, zhr, zhs, zht, zhu, zhv, bound, addL, addT, grow, room, List.length_cons, List.length_nil, List.length_map, frOf, ti_int, ti_value, ti_u64, ti_Number, ti_words, ti_bool, ti_ints, ti_Int, ti_uint, ti_bytes, ti_u8, ti_string, ti_bits, ti_vals, ti_bools, ti_strs, ↓blp, blq]
  refine cond_split (fun h1 => ?_) (fun h1 => ?_)
  · have hk' : k < 32 := by simp at h1; omega
    have ei : (124 - 4 * (k : Int)) = ((124 - 4 * k : Nat) : Int) := by omega
    have e63 := @iand_63 (124 - 4 * k) (by omega)
    have ew : IntKind.u64.wrap (((124 - 4 * k) % 64 : Nat) : Int) = (((124 - 4 * k) % 64 : Nat) : Int) := by rw [wrap_u64] <;> omega
    have e4 : IntKind.i64.wrap (((124 - 4 * k : Nat) : Int) - 4) = 124 - 4 * ((k + 1 : Nat) : Int) := by rw [wrap_i64] <;> omega
    have hl := hexd_len v k
    have hms : maxStr = 9223372036854775807 := rfl
    have e15 : ∀ a : Nat, a < 2 ^ 64 → iand .u64 (a : Int) 15 = ((a % 16 : Nat) : Int) := fun a ha => by
      have := iand_u64 a 15 ha (by decide)
      rw [show ((15 : Nat) : Int) = 15 from rfl] at this
      rw [this, show a &&& 15 = a % 2 ^ 4 from Nat.and_two_pow_sub_one_eq_mod a 4]
    have lt16 : ∀ a : Nat, a % 16 < 16 := fun a => Nat.mod_lt _ (by decide)
    have lt16i : ∀ a : Nat, (0 : Int) ≤ ((a % 16 : Nat) : Int) ∧ ((a % 16 : Nat) : Int) < ((16 : Nat) : Int) := fun a => by have := lt16 a; omega
    have htab : ∀ a : Nat, AV.int .u8 (((([48, 49, 50, 51, 52, 53, 54, 55, 56, 57, 97, 98, 99, 100, 101, 102] : List UInt8).getD (a % 16) 0).toNat : Nat) : Int) = ofByte (hexTab.getD (a % 16) 0) := fun a => rfl
    rw [ei]
    simp only [↓bwp, bwq, List.tail_nil, List.tail_cons, List.headD_nil, List.headD_cons, ne_eq, reduceCtorEq, Nat.reduceEqDiff, Nat.reduceAdd, Nat.reduceMul, Nat.reduceSub, Nat.reduceLeDiff, Nat.reduceLT, Int.reduceMul, Int.reduceAdd, Int.reduceSub, List.map_cons, List.map_nil, Option.map_some, Option.map_none, Option.elim_some, if_true, if_false, List.append_nil, List.nil_append, bvq, rEq, List.cons_append, Int.reduceToNat, List.getElem?_cons_zero, List.getElem?_cons_succ, TD.agg, List.drop_succ_cons, List.drop_zero, List.take_succ_cons, List.take_zero, List.take_nil, List.drop_nil, List.getD_cons_zero, List.getD_cons_succ, splice, zgu, zgv, Option.isSome_some, Option.isSome_none, List.getElem?_nil, zgw, zgx, rLen, rBin, rInt, rStr, rUn, zgy, zgz, zha, zhb, zhc, rBox, zhd, zhe, zhf, zhg, zhh, zhi, zhj, zhk, zhl, zhm, zhn, zho, zhp, zhq, zhr, zhs, zht, zhu, zhv, bound, addL, addT, grow, room, List.length_cons, List.length_nil, List.length_map, frOf, ti_int, ti_value, ti_u64, ti_Number, ti_words, ti_bool, ti_ints, ti_Int, ti_uint, ti_bytes, ti_u8, ti_string, ti_bits, ti_vals, ti_bools, ti_strs, ↓blp, blq, e63, ew]
    refine ⟨by omega, cond_split (fun h2 => ?_) (fun h2 => ?_)⟩
    · have hk2 : k ≤ 15 := by simp at h2; omega
      have hsh := hex_hi hvo hx hy (show 64 ≤ 124 - 4 * k by omega) (by omega)
      simp only [↓bwp, bwq, List.tail_nil, List.tail_cons, List.headD_nil, List.headD_cons, ne_eq, reduceCtorEq, Nat.reduceEqDiff, Nat.reduceAdd, Nat.reduceMul, Nat.reduceSub, Nat.reduceLeDiff, Nat.reduceLT, Int.reduceMul, Int.reduceAdd, Int.reduceSub, List.map_cons, List.map_nil, Option.map_some, Option.map_none, Option.elim_some, if_true, if_false, List.append_nil, List.nil_append, bvq, rEq, List.cons_append, Int.reduceToNat, List.getElem?_cons_zero, List.getElem?_cons_succ, TD.agg, List.drop_succ_cons, List.drop_zero, List.take_succ_cons, List.take_zero, List.take_nil, List.drop_nil, List.getD_cons_zero, List.getD_cons_succ, splice, zgu, zgv, Option.isSome_some, Option.isSome_none, List.getElem?_nil, zgw, zgx, rLen, rBin, rInt, rStr, rUn, zgy, zgz, zha, zhb, zhc, rBox, zhd, zhe, zhf, zhg, zhh, zhi, zhj, zhk, zhl, zhm, zhn, zho, zhp, zhq, zhr, zhs, zht, zhu, zhv, bound, addL, addT, grow, room, List.length_cons, List.length_nil, List.length_map, frOf, byq, ti_int, ti_value, ti_u64, ti_Number, ti_words, ti_bool, ti_ints, ti_Int, ti_uint, ti_bytes, ti_u8, ti_string, ti_bits, ti_vals, ti_bools, ti_strs, ↓blp, blq, e63, ew, e4, ishr_u64 x _ hx, e15 _ (shr_lt hx), Int.toNat_natCast, htab, hsh, zjh, zjq, zjn, ← hexd_succ]
      refine ⟨by omega, lt16i _, by rw [hl]; simp [hms]; omega, k + 1, by omega, by omega, ?_⟩
      (simp only [bkq, enterW, subW, ltF, ne_eq, Nat.reduceEqDiff, reduceCtorEq]; try simp (disch := first | assumption | omega | (simp; done) | (simp; omega) | (simp only [bt, and_true]; first | done | omega | (simp; done))) [↓zkf, beq, List.take_of_length_le, List.drop_append, List.take_append, endOk, wk, wk2, wk1, wkM, wkL, wkLL, List.drop_eq_nil_of_le, byq, biq, isDs_ints, hcl]; try (repeat' (first | assumption | omega | exact True.intro | refine And.intro ?_ ?_ | refine closed_buf ?_ | refine closed_set_buf ?_ | refine closed_cells ?_ ?_ | refine closed_set ?_ ?_ | refine closed_del ?_ | exact AHeap.Le.refl _ | refine AHeap.Le.push ?_ _ | refine AHeap.Le.del ?_ ?_ | (simp only [bt, and_true, true_and]; first | done | omega | (simp; done)))))
    · have hk2 : 16 ≤ k := by simp at h2; omega
      have hsh := @hex_lo x y v (124 - 4 * k) hvo (by omega)
      simp only [↓bwp, bwq, List.tail_nil, List.tail_cons, List.headD_nil, List.headD_cons, ne_eq, reduceCtorEq, Nat.reduceEqDiff, Nat.reduceAdd, Nat.reduceMul, Nat.reduceSub, Nat.reduceLeDiff, Nat.reduceLT, Int.reduceMul, Int.reduceAdd, Int.reduceSub, List.map_cons, List.map_nil, Option.map_some, Option.map_none, Option.elim_some, if_true, if_false, List.append_nil, List.nil_append, bvq, rEq, List.cons_append, Int.reduceToNat, List.getElem?_cons_zero, List.getElem?_cons_succ, TD.agg, List.drop_succ_cons, List.drop_zero, List.take_succ_cons, List.take_zero, List.take_nil, List.drop_nil, List.getD_cons_zero, List.getD_cons_succ, splice, zgu, zgv, Option.isSome_some, Option.isSome_none, List.getElem?_nil, zgw, zgx, rLen, rBin, rInt, rStr, rUn, zgy, zgz, zha, zhb, zhc, rBox, zhd, zhe, zhf, zhg, zhh, zhi, zhj, zhk, zhl, zhm, zhn, zho, zhp, zhq, zhr, zhs, zht, zhu, zhv, bound, addL, addT, grow, room, List.length_cons, List.length_nil, List.length_map, frOf, byq, ti_int, ti_value, ti_u64, ti_Number, ti_words, ti_bool, ti_ints, ti_Int, ti_uint, ti_bytes, ti_u8, ti_string, ti_bits, ti_vals, ti_bools, ti_strs, ↓blp, blq, e63, ew, e4, ishr_u64 y _ hy, e15 _ (shr_lt hy), Int.toNat_natCast, htab, hsh, zjh, zjq, zjn, ← hexd_succ]
      refine ⟨lt16i _, by rw [hl]; simp [hms]; omega, k + 1, by omega, by omega, ?_⟩
      (simp only [bkq, enterW, subW, ltF, ne_eq, Nat.reduceEqDiff, reduceCtorEq]; try simp (disch := first | assumption | omega | (simp; done) | (simp; omega) | (simp only [bt, and_true]; first | done | omega | (simp; done))) [↓zkf, beq, List.take_of_length_le, List.drop_append, List.take_append, endOk, wk, wk2, wk1, wkM, wkL, wkLL, List.drop_eq_nil_of_le, byq, biq, isDs_ints, hcl]; try (repeat' (first | assumption | omega | exact True.intro | refine And.intro ?_ ?_ | refine closed_buf ?_ | refine closed_set_buf ?_ | refine closed_cells ?_ ?_ | refine closed_set ?_ ?_ | refine closed_del ?_ | exact AHeap.Le.refl _ | refine AHeap.Le.push ?_ _ | refine AHeap.Le.del ?_ ?_ | (simp only [bt, and_true, true_and]; first | done | omega | (simp; done)))))
  have hk' : k = 32 := by simp at h1; omega
  subst hk'
  have hlh := hexd_len v 32
  have hlit := lit_hex hv
  generalize hexd v 32 = hex at *
  obtain ⟨zn, rfl⟩ := Int.eq_ofNat_of_zero_le z0
  simp only [↓bwp, bwq, List.tail_nil, List.tail_cons, List.headD_nil, List.headD_cons, ne_eq, reduceCtorEq, Nat.reduceEqDiff, Nat.reduceAdd, Nat.reduceMul, Nat.reduceSub, Nat.reduceLeDiff, Nat.reduceLT, Int.reduceMul, Int.reduceAdd, Int.reduceSub, List.map_cons, List.map_nil, Option.map_some, Option.map_none, Option.elim_some, if_true, if_false, List.append_nil, List.nil_append, bvq, rEq, List.cons_append, Int.reduceToNat, List.getElem?_cons_zero, List.getElem?_cons_succ, TD.agg, List.drop_succ_cons, List.drop_zero, List.take_succ_cons, List.take_zero, List.take_nil, List.drop_nil, List.getD_cons_zero, List.getD_cons_succ, splice, zgu, zgv, Option.isSome_some, Option.isSome_none, List.getElem?_nil, zgw, zgx, rLen, rBin, rInt, rStr, rUn, zgy, zgz, zha, zhb, zhc, rBox, zhd, zhe, zhf, zhg, zhh, zhi, zhj, zhk, zhl, zhm, zhn, zho, zhp, zhq, zhr, zhs, zht, zhu, zhv, bound, addL, addT, grow, room, List.length_cons, List.length_nil, List.length_map, frOf, ti_int, ti_value, ti_u64, ti_Number, ti_words, ti_bool, ti_ints, ti_Int, ti_uint, ti_bytes, ti_u8, ti_string, ti_bits, ti_vals, ti_bools, ti_strs, ↓blp, blq]
  refine loop_introW (A := Nat) (fun k => [(0, .str s1), (2, .int .u8 (zn : Int)), (3, .int .i64 pl), (4, .int .u8 by_), (6, .ptr H.nx 0), (11, .str dec), (12, .str hex), (15, .str (List.replicate k 48)), (16, .int .i64 (k : Int))])
    (fun k => H.push (.cells [.int .u64 (x : Int), .int .u64 (y : Int)])) (fun k => k ≤ zn % 20) (fun k => zn % 20 - k) 0 (by omega) ?_ fun k hk => ?_
  · (simp only [bkq, enterW, subW, ltF, ne_eq, Nat.reduceEqDiff, reduceCtorEq, List.replicate_zero]; try simp (disch := first | assumption | omega | (simp; done) | (simp; omega) | (simp only [bt, and_true]; first | done | omega | (simp; done))) [↓zkf, beq, List.take_of_length_le, List.drop_append, List.take_append, endOk, wk, wk2, wk1, wkM, wkL, wkLL, List.drop_eq_nil_of_le, byq, biq, isDs_ints, hcl, List.replicate_zero]; try (repeat' (first | assumption | omega | exact True.intro | refine And.intro ?_ ?_ | refine closed_buf ?_ | refine closed_set_buf ?_ | refine closed_cells ?_ ?_ | refine closed_set ?_ ?_ | refine closed_del ?_ | exact AHeap.Le.refl _ | refine AHeap.Le.push ?_ _ | refine AHeap.Le.del ?_ ?_ | (simp only [bt, and_true, true_and, List.replicate_zero]; first | done | omega | (simp; done)))))
  have ez : (IntKind.i64.wrap (zn : Int)).tmod 20 = ((zn % 20 : Nat) : Int) := by rw [wrap_i64 (by omega) (by omega), Int.tmod_eq_emod_of_nonneg (by omega)]; omega
  simp only [↓bwp, bwq, List.tail_nil, List.tail_cons, List.headD_nil, List.headD_cons, ne_eq, reduceCtorEq, Nat.reduceEqDiff, Nat.reduceAdd, Nat.reduceMul, Nat.reduceSub, Nat.reduceLeDiff, Nat.reduceLT, Int.reduceMul, Int.reduceAdd, Int.reduceSub, List.map_cons, List.map_nil, Option.map_some, Option.map_none, Option.elim_some, if_true, if_false, List.append_nil, List.nil_append, bvq, rEq, List.cons_append, Int.reduceToNat, List.getElem?_cons_zero, List.getElem?_cons_succ, TD.agg, List.drop_succ_cons, List.drop_zero, List.take_succ_cons, List.take_zero, List.take_nil, List.drop_nil, List.getD_cons_zero, List.getD_cons_succ, splice, zgu, zgv, Option.isSome_some, Option.isSome_none, List.getElem?_nil, zgw, zgx, rLen, rBin, rInt, rStr, rUn, zgy, zgz, zha, zhb, zhc, rBox, zhd, zhe, zhf, zhg, zhh, zhi, zhj, zhk, zhl, zhm, zhn, zho, zhp, zhq, zhr, zhs, zht, zhu, zhv, bound, addL, addT, grow, room, List.length_cons, List.length_nil, List.length_map, frOf, ti_int, ti_value, ti_u64, ti_Number, ti_words, ti_bool, ti_ints, ti_Int, ti_uint, ti_bytes, ti_u8, ti_string, ti_bits, ti_vals, ti_bools, ti_strs, ↓blp, blq, ez]
  refine ⟨by decide, cond_split (fun h3 => ?_) (fun h3 => ?_)⟩
  · have hk3 : k < zn % 20 := by simp at h3; omega
    have e5 : IntKind.i64.wrap ((k : Int) + 1) = ((k + 1 : Nat) : Int) := by rw [wrap_i64] <;> omega
    have er : List.replicate k (48 : UInt8) ++ [48] = List.replicate (k + 1) 48 := by rw [List.replicate_succ']
    have hms : maxStr = 9223372036854775807 := rfl
    simp only [↓bwp, bwq, List.tail_nil, List.tail_cons, List.headD_nil, List.headD_cons, ne_eq, reduceCtorEq, Nat.reduceEqDiff, Nat.reduceAdd, Nat.reduceMul, Nat.reduceSub, Nat.reduceLeDiff, Nat.reduceLT, Int.reduceMul, Int.reduceAdd, Int.reduceSub, List.map_cons, List.map_nil, Option.map_some, Option.map_none, Option.elim_some, if_true, if_false, List.append_nil, List.nil_append, bvq, rEq, List.cons_append, Int.reduceToNat, List.getElem?_cons_zero, List.getElem?_cons_succ, TD.agg, List.drop_succ_cons, List.drop_zero, List.take_succ_cons, List.take_zero, List.take_nil, List.drop_nil, List.getD_cons_zero, List.getD_cons_succ, splice, zgu, zgv, Option.isSome_some, Option.isSome_none, List.getElem?_nil, zgw, zgx, rLen, rBin, rInt, rStr, rUn, zgy, zgz, zha, zhb, zhc, rBox, zhd, zhe, zhf, zhg, zhh, zhi, zhj, zhk, zhl, zhm, zhn, zho, zhp, zhq, zhr, zhs, zht, zhu, zhv, bound, addL, addT, grow, room, List.length_cons, List.length_nil, List.length_map, frOf, ti_int, ti_value, ti_u64, ti_Number, ti_words, ti_bool, ti_ints, ti_Int, ti_uint, ti_bytes, ti_u8, ti_string, ti_bits, ti_vals, ti_bools, ti_strs, ↓blp, blq, e5, er, List.length_replicate]
    refine ⟨by rw [hms]; omega, k + 1, by omega, by omega, ?_⟩
    (simp only [bkq, enterW, subW, ltF, ne_eq, Nat.reduceEqDiff, reduceCtorEq]; try simp (disch := first | assumption | omega | (simp; done) | (simp; omega) | (simp only [bt, and_true]; first | done | omega | (simp; done))) [↓zkf, beq, List.take_of_length_le, List.drop_append, List.take_append, endOk, wk, wk2, wk1, wkM, wkL, wkLL, List.drop_eq_nil_of_le, byq, biq, isDs_ints, hcl]; try (repeat' (first | assumption | omega | exact True.intro | refine And.intro ?_ ?_ | refine closed_buf ?_ | refine closed_set_buf ?_ | refine closed_cells ?_ ?_ | refine closed_set ?_ ?_ | refine closed_del ?_ | exact AHeap.Le.refl _ | refine AHeap.Le.push ?_ _ | refine AHeap.Le.del ?_ ?_ | (simp only [bt, and_true, true_and]; first | done | omega | (simp; done)))))
  have hk3 : k = zn % 20 := by simp at h3; omega
  have hlr : (List.replicate k (48 : UInt8)).length ≤ 19 := by rw [List.length_replicate]; omega
  clear hk3 hk ez h3
  generalize List.replicate k (48 : UInt8) = long at *
  have hms : maxStr = 9223372036854775807 := rfl
  have hbl : (long ++ dec).length ≤ 59 := by rw [List.length_append]; omega
  have hbn : bys (long ++ dec) ≠ [] := by rw [Ne, zkk]; simp [hne]
  have hbn2 : 0 < (long ++ dec).length := by
    have : 0 < dec.length := List.length_pos_iff.2 hne
    rw [List.length_append]; omega
  simp only [↓bwp, bwq, List.tail_nil, List.tail_cons, List.headD_nil, List.headD_cons, ne_eq, reduceCtorEq, Nat.reduceEqDiff, Nat.reduceAdd, Nat.reduceMul, Nat.reduceSub, Nat.reduceLeDiff, Nat.reduceLT, Int.reduceMul, Int.reduceAdd, Int.reduceSub, List.map_cons, List.map_nil, Option.map_some, Option.map_none, Option.elim_some, if_true, if_false, List.append_nil, List.nil_append, bvq, rEq, List.cons_append, Int.reduceToNat, List.getElem?_cons_zero, List.getElem?_cons_succ, TD.agg, List.drop_succ_cons, List.drop_zero, List.take_succ_cons, List.take_zero, List.take_nil, List.drop_nil, List.getD_cons_zero, List.getD_cons_succ, splice, zgu, zgv, Option.isSome_some, Option.isSome_none, List.getElem?_nil, zgw, zgx, rLen, rBin, rInt, rStr, rUn, zgy, zgz, zha, zhb, zhc, rBox, zhd, zhe, zhf, zhg, zhh, zhi, zhj, zhk, zhl, zhm, zhn, zho, zhp, zhq, zhr, zhs, zht, zhu, zhv, bound, addL, addT, grow, room, List.length_cons, List.length_nil, List.length_map, frOf, ti_int, ti_value, ti_u64, ti_Number, ti_words, ti_bool, ti_ints, ti_Int, ti_uint, ti_bytes, ti_u8, ti_string, ti_bits, ti_vals, ti_bools, ti_strs, ↓blp, blq, bhq, stepH, toMs, strK, pubK, pubF, pubV, List.take_succ_cons, List.take_zero, List.drop_succ_cons, List.drop_zero, byq]
  refine ⟨by rw [hms]; omega, by omega, hbn, fun kk => ?_⟩
  have hll : (long.length : Int) + dec.length = ((long ++ dec).length : Nat) := by rw [List.length_append]; omega
  generalize hbd : long ++ dec = bd at *
  refine cond_split (fun h4 => ?_) (fun h4 => absurd h4 (by rw [decide_eq_true (by omega)]; simp))
  have hi255 : 0 ≤ iand .i64 pl 255 ∧ iand .i64 pl 255 ≤ 255 := iand_255 pl
  obtain ⟨ix, hix, hixl⟩ : ∃ ix : Nat, (iand .i64 pl 255).tmod ((bd.length : Nat) : Int) = (ix : Int) ∧ ix < bd.length := by
    rw [Int.tmod_eq_emod_of_nonneg hi255.1]
    have h1 := Int.emod_nonneg (iand .i64 pl 255) (show ((bd.length : Nat) : Int) ≠ 0 by omega)
    have h2 := Int.emod_lt_of_pos (iand .i64 pl 255) (show (0 : Int) < ((bd.length : Nat) : Int) by omega)
    exact ⟨((iand .i64 pl 255) % ((bd.length : Nat) : Int)).toNat, by omega, by omega⟩
  have hgd : (bys bd ++ List.replicate kk AV.junk).getD ix .junk = ofByte bd[ix] := by
    rw [List.getD_eq_getElem?_getD, List.getElem?_append_left (by rw [zjb]; exact hixl), ← List.getD_eq_getElem?_getD, bys_get hixl]
    simp [List.getD_eq_getElem?_getD, hixl]
  obtain ⟨e, he⟩ : ∃ e : UInt8, AV.int .u8 (ixor .u8 ((bd[ix].toNat : Nat) : Int) by_) = ofByte e := by unfold ixor; exact u8_byte _
  have hsp : splice (bys bd ++ List.replicate kk AV.junk) ix (bys [e]) = bys (bd.set ix e) ++ List.replicate kk AV.junk := by
    show splice _ ix [ofByte e] = _
    rw [splice_one, List.set_append_left _ _ (by rw [zjb]; exact hixl)]
    congr 1
    unfold bys; rw [List.map_set]
  have hrw : rowsOf 1 bd.length (bys (bd.set ix e) ++ List.replicate kk AV.junk) = bys (bd.set ix e) := rows_junk (by rw [List.length_set])
  generalize bd[ix] = c at *
  have hgd' : (bys bd ++ List.replicate kk AV.junk).getD ix .junk = .int .u8 ((c.toNat : Nat) : Int) := hgd
  have hlc : (bys bd ++ List.replicate kk AV.junk).length = bd.length + kk := by rw [List.length_append, zjb, List.length_replicate]
  simp only [↓bwp, bwq, List.tail_nil, List.tail_cons, List.headD_nil, List.headD_cons, ne_eq, reduceCtorEq, Nat.reduceEqDiff, Nat.reduceAdd, Nat.reduceMul, Nat.reduceSub, Nat.reduceLeDiff, Nat.reduceLT, Int.reduceMul, Int.reduceAdd, Int.reduceSub, List.map_cons, List.map_nil, Option.map_some, Option.map_none, Option.elim_some, if_true, if_false, List.append_nil, List.nil_append, bvq, rEq, List.cons_append, Int.reduceToNat, List.getElem?_cons_zero, List.getElem?_cons_succ, TD.agg, List.drop_succ_cons, List.drop_zero, List.take_succ_cons, List.take_zero, List.take_nil, List.drop_nil, List.getD_cons_zero, List.getD_cons_succ, splice, zgu, zgv, Option.isSome_some, Option.isSome_none, List.getElem?_nil, zgw, zgx, rLen, rBin, rInt, rStr, rUn, zgy, zgz, zha, zhb, zhc, rBox, zhd, zhe, zhf, zhg, zhh, zhi, zhj, zhk, zhl, zhm, zhn, zho, zhp, zhq, zhr, zhs, zht, zhu, zhv, bound, addL, addT, grow, room, List.length_cons, List.length_nil, List.length_map, frOf, ti_int, ti_value, ti_u64, ti_Number, ti_words, ti_bool, ti_ints, ti_Int, ti_uint, ti_bytes, ti_u8, ti_string, ti_bits, ti_vals, ti_bools, ti_strs, ↓blp, blq, bhq, stepH, toMs, strK, pubK, pubF, pubV, List.take_succ_cons, List.take_zero, List.drop_succ_cons, List.drop_zero, byq, hix, hgd', he, hsp, hlc, hbd]
  refine ⟨by omega, by omega, by omega, by omega, by omega, 1, bd.length, by rw [hms]; omega, by rw [hms]; omega, by rw [hms]; omega, by rw [hms]; omega, ?_⟩
  have hle1 : (1 = 1 ∧ bd.length ≤ bd.length) = True := eq_true ⟨rfl, Nat.le_refl _⟩
  simp only [↓bwp, bwq, List.tail_nil, List.tail_cons, List.headD_nil, List.headD_cons, ne_eq, reduceCtorEq, Nat.reduceEqDiff, Nat.reduceAdd, Nat.reduceMul, Nat.reduceSub, Nat.reduceLeDiff, Nat.reduceLT, Int.reduceMul, Int.reduceAdd, Int.reduceSub, List.map_cons, List.map_nil, Option.map_some, Option.map_none, Option.elim_some, if_true, if_false, List.append_nil, List.nil_append, bvq, rEq, List.cons_append, Int.reduceToNat, List.getElem?_cons_zero, List.getElem?_cons_succ, TD.agg, List.drop_succ_cons, List.drop_zero, List.take_succ_cons, List.take_zero, List.take_nil, List.drop_nil, List.getD_cons_zero, List.getD_cons_succ, splice, zgu, zgv, Option.isSome_some, Option.isSome_none, List.getElem?_nil, zgw, zgx, rLen, rBin, rInt, rStr, rUn, zgy, zgz, zha, zhb, zhc, rBox, zhd, zhe, zhf, zhg, zhh, zhi, zhj, zhk, zhl, zhm, zhn, zho, zhp, zhq, zhr, zhs, zht, zhu, zhv, bound, addL, addT, grow, room, List.length_cons, List.length_nil, List.length_map, frOf, ti_int, ti_value, ti_u64, ti_Number, ti_words, ti_bool, ti_ints, ti_Int, ti_uint, ti_bytes, ti_u8, ti_string, ti_bits, ti_vals, ti_bools, ti_strs, ↓blp, blq, bhq, stepH, toMs, strK, pubK, pubF, pubV, List.take_succ_cons, List.take_zero, List.drop_succ_cons, List.drop_zero, byq, hle1, hrw, Nat.le_refl, eq_self]
  generalize hL : [s1, dec, bd, hex, [48, 120] ++ s1, dec ++ [48], dec ++ dec, bd.set ix e, []] = L
  have hLl : L.length = 9 := by rw [← hL]; rfl
  have hLb : ∀ i, i < 9 → (L.getD i []).length ≤ 200 := by
    intro i hi
    rw [← hL]
    rcases (by omega : i = 0 ∨ i = 1 ∨ i = 2 ∨ i = 3 ∨ i = 4 ∨ i = 5 ∨ i = 6 ∨ i = 7 ∨ i = 8) with rfl | rfl | rfl | rfl | rfl | rfl | rfl | rfl | rfl <;> simp <;> omega
  refine loop_introW (A := Nat) (fun k => [(6, .ptr H.nx 0), (12, .str hex), (101, .slice .any 1 (sAV L)), (102, .int .i64 9), (103, .int .i64 (k : Int))])
    (fun k => H.push (.cells [.int .u64 (x : Int), .int .u64 (y : Int)])) (fun k => k ≤ 9) (fun k => 9 - k) 0 (by omega) ?_ fun k hk => ?_
  · rw [← hL]
    (simp only [bkq, enterW, subW, ltF, ne_eq, Nat.reduceEqDiff, reduceCtorEq, sAV, List.map_cons, List.map_nil, List.cons_append, List.nil_append]; try simp (disch := first | assumption | omega | (simp; done) | (simp; omega) | (simp only [bt, and_true]; first | done | omega | (simp; done))) [↓zkf, beq, List.take_of_length_le, List.drop_append, List.take_append, endOk, wk, wk2, wk1, wkM, wkL, wkLL, List.drop_eq_nil_of_le, byq, biq, isDs_ints, hcl, sAV, List.map_cons, List.map_nil, List.cons_append, List.nil_append]; try (repeat' (first | assumption | omega | exact True.intro | refine And.intro ?_ ?_ | refine closed_buf ?_ | refine closed_set_buf ?_ | refine closed_cells ?_ ?_ | refine closed_set ?_ ?_ | refine closed_del ?_ | exact AHeap.Le.refl _ | refine AHeap.Le.push ?_ _ | refine AHeap.Le.del ?_ ?_ | (simp only [bt, and_true, true_and, sAV, List.map_cons, List.map_nil, List.cons_append, List.nil_append]; first | done | omega | (simp; done)))))
    simp [lt_sliceL', zll, zlm, zky]
  simp only [↓bwp, bwq, List.tail_nil, List.tail_cons, List.headD_nil, List.headD_cons, ne_eq, reduceCtorEq, Nat.reduceEqDiff, Nat.reduceAdd, Nat.reduceMul, Nat.reduceSub, Nat.reduceLeDiff, Nat.reduceLT, Int.reduceMul, Int.reduceAdd, Int.reduceSub, List.map_cons, List.map_nil, Option.map_some, Option.map_none, Option.elim_some, if_true, if_false, List.append_nil, List.nil_append, bvq, rEq, List.cons_append, Int.reduceToNat, List.getElem?_cons_zero, List.getElem?_cons_succ, TD.agg, List.drop_succ_cons, List.drop_zero, List.take_succ_cons, List.take_zero, List.take_nil, List.drop_nil, List.getD_cons_zero, List.getD_cons_succ, splice, zgu, zgv, Option.isSome_some, Option.isSome_none, List.getElem?_nil, zgw, zgx, rLen, rBin, rInt, rStr, rUn, zgy, zgz, zha, zhb, zhc, rBox, zhd, zhe, zhf, zhg, zhh, zhi, zhj, zhk, zhl, zhm, zhn, zho, zhp, zhq, zhr, zhs, zht, zhu, zhv, bound, addL, addT, grow, room, List.length_cons, List.length_nil, List.length_map, frOf, ti_int, ti_value, ti_u64, ti_Number, ti_words, ti_bool, ti_ints, ti_Int, ti_uint, ti_bytes, ti_u8, ti_string, ti_bits, ti_vals, ti_bools, ti_strs, ↓blp, blq]
  refine cond_split (fun h5 => ?_) (fun h5 => ?_)
  · have hk5 : k < 9 := by simp at h5; omega
    have hg5 : (sAV L).getD k .junk = .str (L.getD k []) := sAV_get (by omega)
    have hb5 := hLb k hk5
    have e5 : IntKind.i64.wrap ((k : Int) + 1) = ((k + 1 : Nat) : Int) := by rw [wrap_i64] <;> omega
    generalize L.getD k [] = t at *
    have hlv : ∀ n, lit t = some n → n < 2 ^ 128 := fun n => lit_lt
    cases hlt : lit t with
    | none =>
      simp only [↓bwp, bwq, List.tail_nil, List.tail_cons, List.headD_nil, List.headD_cons, ne_eq, reduceCtorEq, Nat.reduceEqDiff, Nat.reduceAdd, Nat.reduceMul, Nat.reduceSub, Nat.reduceLeDiff, Nat.reduceLT, Int.reduceMul, Int.reduceAdd, Int.reduceSub, List.map_cons, List.map_nil, Option.map_some, Option.map_none, Option.elim_some, if_true, if_false, List.append_nil, List.nil_append, bvq, rEq, List.cons_append, Int.reduceToNat, List.getElem?_cons_zero, List.getElem?_cons_succ, TD.agg, List.drop_succ_cons, List.drop_zero, List.take_succ_cons, List.take_zero, List.take_nil, List.drop_nil, List.getD_cons_zero, List.getD_cons_succ, splice, zgu, zgv, Option.isSome_some, Option.isSome_none, List.getElem?_nil, zgw, zgx, rLen, rBin, rInt, rStr, rUn, zgy, zgz, zha, zhb, zhc, rBox, zhd, zhe, zhf, zhg, zhh, zhi, zhj, zhk, zhl, zhm, zhn, zho, zhp, zhq, zhr, zhs, zht, zhu, zhv, bound, addL, addT, grow, room, List.length_cons, List.length_nil, List.length_map, frOf, ti_int, ti_value, ti_u64, ti_Number, ti_words, ti_bool, ti_ints, ti_Int, ti_uint, ti_bytes, ti_u8, ti_string, ti_bits, ti_vals, ti_bools, ti_strs, ↓blp, blq, Int.toNat_natCast, sAV_length, hLl, hg5, p_NLiteral, p_rLiteral, hlt, nLit, zLit, nAV, zAV, zas, bne_self_eq_false]
      refine ⟨by omega, by omega, by omega, both_ff rfl ⟨k + 1, by omega, by omega, ?_⟩⟩
      rw [e5]
      (simp only [bkq, enterW, subW, ltF, ne_eq, Nat.reduceEqDiff, reduceCtorEq, sAV_lt]; try simp (disch := first | assumption | omega | (simp; done) | (simp; omega) | (simp only [bt, and_true]; first | done | omega | (simp; done))) [↓zkf, beq, List.take_of_length_le, List.drop_append, List.take_append, endOk, wk, wk2, wk1, wkM, wkL, wkLL, List.drop_eq_nil_of_le, byq, biq, isDs_ints, hcl, sAV_lt]; try (repeat' (first | assumption | omega | exact True.intro | refine And.intro ?_ ?_ | refine closed_buf ?_ | refine closed_set_buf ?_ | refine closed_cells ?_ ?_ | refine closed_set ?_ ?_ | refine closed_del ?_ | exact AHeap.Le.refl _ | refine AHeap.Le.push ?_ _ | refine AHeap.Le.del ?_ ?_ | (simp only [bt, and_true, true_and, sAV_lt]; first | done | omega | (simp; done)))))
    | some n =>
      simp only [↓bwp, bwq, List.tail_nil, List.tail_cons, List.headD_nil, List.headD_cons, ne_eq, reduceCtorEq, Nat.reduceEqDiff, Nat.reduceAdd, Nat.reduceMul, Nat.reduceSub, Nat.reduceLeDiff, Nat.reduceLT, Int.reduceMul, Int.reduceAdd, Int.reduceSub, List.map_cons, List.map_nil, Option.map_some, Option.map_none, Option.elim_some, if_true, if_false, List.append_nil, List.nil_append, bvq, rEq, List.cons_append, Int.reduceToNat, List.getElem?_cons_zero, List.getElem?_cons_succ, TD.agg, List.drop_succ_cons, List.drop_zero, List.take_succ_cons, List.take_zero, List.take_nil, List.drop_nil, List.getD_cons_zero, List.getD_cons_succ, splice, zgu, zgv, Option.isSome_some, Option.isSome_none, List.getElem?_nil, zgw, zgx, rLen, rBin, rInt, rStr, rUn, zgy, zgz, zha, zhb, zhc, rBox, zhd, zhe, zhf, zhg, zhh, zhi, zhj, zhk, zhl, zhm, zhn, zho, zhp, zhq, zhr, zhs, zht, zhu, zhv, bound, addL, addT, grow, room, List.length_cons, List.length_nil, List.length_map, frOf, ti_int, ti_value, ti_u64, ti_Number, ti_words, ti_bool, ti_ints, ti_Int, ti_uint, ti_bytes, ti_u8, ti_string, ti_bits, ti_vals, ti_bools, ti_strs, ↓blp, blq, Int.toNat_natCast, sAV_length, hLl, hg5, p_NLiteral, p_rLiteral, hlt, nLit, zLit, nAV, zAV, p_NText, p_rText, zas, bne_self_eq_false]
      have hn := hlv n hlt
      have hsn : small (n : Int) := small_of 60 (by rw [Int.natAbs_natCast]; omega) (by decide)
      refine ⟨by omega, by omega, by omega, both_ff rfl ⟨(n : Int), ⟨rfl, by omega, by omega⟩, (n : Int), ⟨rfl, hsn⟩, both_ff (by simp) ?_⟩⟩
      simp only [↓bwp, bwq, List.tail_nil, List.tail_cons, List.headD_nil, List.headD_cons, ne_eq, reduceCtorEq, Nat.reduceEqDiff, Nat.reduceAdd, Nat.reduceMul, Nat.reduceSub, Nat.reduceLeDiff, Nat.reduceLT, Int.reduceMul, Int.reduceAdd, Int.reduceSub, List.map_cons, List.map_nil, Option.map_some, Option.map_none, Option.elim_some, if_true, if_false, List.append_nil, List.nil_append, bvq, rEq, List.cons_append, Int.reduceToNat, List.getElem?_cons_zero, List.getElem?_cons_succ, TD.agg, List.drop_succ_cons, List.drop_zero, List.take_succ_cons, List.take_zero, List.take_nil, List.drop_nil, List.getD_cons_zero, List.getD_cons_succ, splice, zgu, zgv, Option.isSome_some, Option.isSome_none, List.getElem?_nil, zgw, zgx, rLen, rBin, rInt, rStr, rUn, zgy, zgz, zha, zhb, zhc, rBox, zhd, zhe, zhf, zhg, zhh, zhi, zhj, zhk, zhl, zhm, zhn, zho, zhp, zhq, zhr, zhs, zht, zhu, zhv, bound, addL, addT, grow, room, List.length_cons, List.length_nil, List.length_map, frOf, ti_int, ti_value, ti_u64, ti_Number, ti_words, ti_bool, ti_ints, ti_Int, ti_uint, ti_bytes, ti_u8, ti_string, ti_bits, ti_vals, ti_bools, ti_strs, ↓blp, blq, zas, e5]
      refine ⟨k + 1, by omega, by omega, ?_⟩
      (simp only [bkq, enterW, subW, ltF, ne_eq, Nat.reduceEqDiff, reduceCtorEq, sAV_lt]; try simp (disch := first | assumption | omega | (simp; done) | (simp; omega) | (simp only [bt, and_true]; first | done | omega | (simp; done))) [↓zkf, beq, List.take_of_length_le, List.drop_append, List.take_append, endOk, wk, wk2, wk1, wkM, wkL, wkLL, List.drop_eq_nil_of_le, byq, biq, isDs_ints, hcl, sAV_lt]; try (repeat' (first | assumption | omega | exact True.intro | refine And.intro ?_ ?_ | refine closed_buf ?_ | refine closed_set_buf ?_ | refine closed_cells ?_ ?_ | refine closed_set ?_ ?_ | refine closed_del ?_ | exact AHeap.Le.refl _ | refine AHeap.Le.push ?_ _ | refine AHeap.Le.del ?_ ?_ | (simp only [bt, and_true, true_and, sAV_lt]; first | done | omega | (simp; done)))))
  · have hk5 : k = 9 := by simp at h5; omega
    simp only [↓bwp, bwq, List.tail_nil, List.tail_cons, List.headD_nil, List.headD_cons, ne_eq, reduceCtorEq, Nat.reduceEqDiff, Nat.reduceAdd, Nat.reduceMul, Nat.reduceSub, Nat.reduceLeDiff, Nat.reduceLT, Int.reduceMul, Int.reduceAdd, Int.reduceSub, List.map_cons, List.map_nil, Option.map_some, Option.map_none, Option.elim_some, if_true, if_false, List.append_nil, List.nil_append, bvq, rEq, List.cons_append, Int.reduceToNat, List.getElem?_cons_zero, List.getElem?_cons_succ, TD.agg, List.drop_succ_cons, List.drop_zero, List.take_succ_cons, List.take_zero, List.take_nil, List.drop_nil, List.getD_cons_zero, List.getD_cons_succ, splice, zgu, zgv, Option.isSome_some, Option.isSome_none, List.getElem?_nil, zgw, zgx, rLen, rBin, rInt, rStr, rUn, zgy, zgz, zha, zhb, zhc, rBox, zhd, zhe, zhf, zhg, zhh, zhi, zhj, zhk, zhl, zhm, zhn, zho, zhp, zhq, zhr, zhs, zht, zhu, zhv, bound, addL, addT, grow, room, List.length_cons, List.length_nil, List.length_map, frOf, ti_int, ti_value, ti_u64, ti_Number, ti_words, ti_bool, ti_ints, ti_Int, ti_uint, ti_bytes, ti_u8, ti_string, ti_bits, ti_vals, ti_bools, ti_strs, ↓blp, blq, p_NLiteral, p_NFrom, hlit, nLit, nAV, p_begun, teq_num, eqg_num]
    have hvz : ((x : Int) * 2 ^ 64 + y) = (v : Int) := by rw [← hvo]; unfold vOf; omega
    refine ⟨by omega, by omega, both_tt (by rw [hvz]; simp) ?_⟩
    simp (disch := first | assumption | omega | (simp; done) | (simp; omega) | (simp only [bt, and_true]; first | done | omega | (simp; done))) [↓zkf, beq, List.take_of_length_le, List.drop_append, List.take_append, endOk, wk, wk2, wk1, wkM, wkL, wkLL, List.drop_eq_nil_of_le, hcl]
end Go.AL
