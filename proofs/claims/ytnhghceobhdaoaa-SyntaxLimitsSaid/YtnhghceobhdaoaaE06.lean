/- Contracts and plain laws, a part of the proof; no condition of its own. -/
import Derived.Test.YtnhghceobhdaoaaD06
open List renaming length_cons → yaz, length_nil → yba, tail_nil → yaa, tail_cons → yab, headD_nil → yac, headD_cons → yad, map_cons → yae, map_nil → yaf, append_nil → yaj, nil_append → yak, cons_append → yal, getElem?_cons_zero → yam, getElem?_cons_succ → yan, drop_succ_cons → yao, drop_zero → yap, take_succ_cons → yaq, take_zero → yar, take_nil → yas, drop_nil → yat, getD_cons_zero → yau, getD_cons_succ → yav, getElem?_nil → yay, length_map → ybb, take_of_length_le → ybc, drop_append → ybd, take_append → ybe, drop_eq_nil_of_le → ybf
open Option renaming map_some → yag, map_none → yah, elim_some → yai, isSome_some → yaw, isSome_none → yax
open Go Go.AL Go.Proofs
namespace Go.AL
set_option linter.all false
set_option maxRecDepth 10000
theorem ti_codes : ti Try.prog 76 = some ⟨.struct [(0, 22, false), (1, 3, false)], 2, 32, .agg [.slice .nil 1 [], .int .i64 0]⟩ := by kernel_rfl
theorem mod_lt {x n : Int} (hn : 1 ≤ n) : 0 ≤ (x.tmod n + n).tmod n ∧ (x.tmod n + n).tmod n < n := by
  have h1 := Int.lt_tmod_of_pos x (show 0 < n by omega)
  rw [Int.tmod_eq_emod_of_nonneg (by omega)]
  exact ⟨Int.emod_nonneg _ (by omega), Int.emod_lt_of_pos _ (by omega)⟩
def p_Mod : List AV → AHeap → (AV → Prop) → Prop
  | [.int .i64 x, .int .i64 n], _, K => (-9223372036854775808 ≤ x ∧ x ≤ 9223372036854775807 ∧ 1 ≤ n ∧ n ≤ 1000000000) ∧ K (.int .i64 ((x.tmod n + n).tmod n))
  | _, _, _ => False
theorem ytb5 : (type_of% @ti_int) ∧ (type_of% @ti_value) ∧ (type_of% @ti_u64) ∧ (type_of% @ti_Number) ∧ (type_of% @ti_words) ∧ (type_of% @ti_bool) ∧ (type_of% @ti_ints) ∧ (type_of% @ti_Int) ∧ (type_of% @ti_uint) ∧ (type_of% @ti_bytes) ∧ (type_of% @ti_u8) ∧ (type_of% @ti_string) ∧ (type_of% @ti_bits) ∧ (type_of% @ti_strs) ∧ (type_of% @ti_xTok) ∧ (type_of% @ti_fTok) ∧ (type_of% @ti_xToks) ∧ (type_of% @ti_fToks) ∧ (type_of% @ti_errno) ∧ (type_of% @ti_codes) :=
  ⟨@ti_int, @ti_value, @ti_u64, @ti_Number, @ti_words, @ti_bool, @ti_ints, @ti_Int, @ti_uint, @ti_bytes, @ti_u8, @ti_string, @ti_bits, @ti_strs, @ti_xTok, @ti_fTok, @ti_xToks, @ti_fToks, @ti_errno, @ti_codes⟩
theorem ok_Mod : EntOk Try.prog 14 (Ent.pure p_Mod) := by
  refine EntOk.pure fun args H K h => ?_
  unfold p_Mod at h
  split at h
  rotate_left
  · exact h.elim
  rename_i x n
  obtain ⟨⟨hx1, hx2, hn1, hn2⟩, hK⟩ := h
  refine ⟨_, hK, ?_⟩
  clear hK
  refine ACalls.of_aw (Ω := []) (T := assoc []) mixed TblOk.nil Try.func14 (by kernel_rfl) (by rfl) (rs := [.tmp 4]) (by rfl) (by kernel_rfl) (by simp only [Try.ntmps14, yaz, yba]; decide) (Nat.le_refl _) fun hcl hlt => ?_
  change aw _ _ _ (KI Try.prog [] (aEnd Try.prog [.tmp 4] H.nx _ _) []) _ _
  clear hlt
  simp only [↓bwp, bwq, yaa, yab, yac, yad, ne_eq, reduceCtorEq, Nat.reduceEqDiff, Nat.reduceAdd, Nat.reduceMul, Nat.reduceSub, Nat.reduceLeDiff, Nat.reduceLT, Int.reduceMul, Int.reduceAdd, Int.reduceSub, yae, yaf, yag, yah, yai, if_true, if_false, yaj, yak, bvq, rEq, yal, Int.reduceToNat, yam, yan, TD.agg, yao, yap, yaq, yar, yas, yat, yau, yav, splice, zhb, zhc, yaw, yax, yay, zhd, zhe, rLen, rBin, rInt, rStr, rUn, zhf, zhg, zhh, zhi, zhj, rBox, zhk, zhl, zhm, zhn, zho, zhp, zhq, zhr, zhs, zht, zhu, zhv, zhw, zhx, zhy, zhz, zia, zib, zic, bound, addL, addT, grow, room, yaz, yba, ybb, frOf, ytb5, ↓blp, blq]
  refine cond_split (fun h => by simp at h; omega) (fun _ => ?_)
  have b1 : -n < x.tmod n ∧ x.tmod n < n := by
    have h1 := Int.lt_tmod_of_pos x (show 0 < n by omega)
    have h2 := Int.tmod_lt_of_pos x (show 0 < n by omega)
    exact ⟨h1, h2⟩
  have e1 : IntKind.i64.wrap (x.tmod n + n) = x.tmod n + n := by rw [wrap_i64] <;> omega
  simp only [↓bwp, bwq, yaa, yab, yac, yad, ne_eq, reduceCtorEq, Nat.reduceEqDiff, Nat.reduceAdd, Nat.reduceMul, Nat.reduceSub, Nat.reduceLeDiff, Nat.reduceLT, Int.reduceMul, Int.reduceAdd, Int.reduceSub, yae, yaf, yag, yah, yai, if_true, if_false, yaj, yak, bvq, rEq, yal, Int.reduceToNat, yam, yan, TD.agg, yao, yap, yaq, yar, yas, yat, yau, yav, splice, zhb, zhc, yaw, yax, yay, zhd, zhe, rLen, rBin, rInt, rStr, rUn, zhf, zhg, zhh, zhi, zhj, rBox, zhk, zhl, zhm, zhn, zho, zhp, zhq, zhr, zhs, zht, zhu, zhv, zhw, zhx, zhy, zhz, zia, zib, zic, bound, addL, addT, grow, room, yaz, yba, ybb, frOf, ytb5, ↓blp, blq, e1]
  refine ⟨by omega, by omega, ?_⟩
  simp (disch := first | assumption | omega | (simp; done) | (simp; omega) | (simp only [bt, and_true]; first | done | omega | (simp; done))) [↓zkt, beq, ybc, ybd, ybe, endOk, wk, wk2, wk1, wkM, wkL, wkLL, ybf, hcl]
theorem toks_get {l : List Tok} {k : Nat} (h : k < l.length) : (toks l).getD k .junk = tkAV l[k] := by simp [toks, List.getD_eq_getElem?_getD, h]
end Go.AL

