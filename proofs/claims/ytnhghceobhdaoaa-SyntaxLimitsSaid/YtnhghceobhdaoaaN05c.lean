/- Contracts and plain laws, a part of the proof; no condition of its own. -/
import Derived.Test.YtnhghceobhdaoaaN05
import Derived.Test.YtnhghceobhdaoaaLNum
open List renaming length_cons → yaz, length_nil → yba, tail_nil → yaa, tail_cons → yab, headD_nil → yac, headD_cons → yad, map_cons → yae, map_nil → yaf, append_nil → yaj, nil_append → yak, cons_append → yal, getElem?_cons_zero → yam, getElem?_cons_succ → yan, drop_succ_cons → yao, drop_zero → yap, take_succ_cons → yaq, take_zero → yar, take_nil → yas, drop_nil → yat, getD_cons_zero → yau, getD_cons_succ → yav, getElem?_nil → yay, length_map → ybb, take_of_length_le → ybc, drop_append → ybd, take_append → ybe, drop_eq_nil_of_le → ybf
open Option renaming map_some → yag, map_none → yah, elim_some → yai, isSome_some → yaw, isSome_none → yax
open Go Go.AL Go.Proofs
namespace Go.AL
set_option linter.all false
set_option maxRecDepth 10000
theorem ti_uint : ti Try.prog 135 = some ⟨.int .u64, 1, 8, .int .u64 0⟩ := by kernel_rfl
theorem ti_bytes : ti Try.prog 22 = some ⟨.slice 5, 1, 24, .slice .nil 1 []⟩ := by kernel_rfl
theorem ti_u8 : ti Try.prog 5 = some ⟨.int .u8, 1, 1, .int .u8 0⟩ := by kernel_rfl
theorem ti_string : ti Try.prog 9 = some ⟨.string, 1, 16, .str []⟩ := by kernel_rfl

/-- the value of a number, and whether it has one -/
def valAV (a : Int) : AV := if 0 ≤ a ∧ a < 2 ^ 128 then .tup [.agg [.int .u64 (a / 2 ^ 64), .int .u64 (a % 2 ^ 64)], .bool true] else .tup [.agg [.int .u64 0, .int .u64 0], .bool false]
def p_NValue : List AV → AHeap → (AV → Prop) → Prop
  | [x], _, K => ∃ a, (x = nAV a ∧ isN a) ∧ K (valAV a)
  | _, _, _ => False
theorem ytb1 : (type_of% @ti_int) ∧ (type_of% @ti_value) ∧ (type_of% @ti_u64) ∧ (type_of% @ti_Number) ∧ (type_of% @ti_words) ∧ (type_of% @ti_uint) ∧ (type_of% @ti_bytes) ∧ (type_of% @ti_u8) ∧ (type_of% @ti_string) :=
  ⟨@ti_int, @ti_value, @ti_u64, @ti_Number, @ti_words, @ti_uint, @ti_bytes, @ti_u8, @ti_string⟩
theorem ok_NValue : EntOk Try.prog 84 (Ent.pure p_NValue) := by
  refine EntOk.pure fun args H K h => ?_
  unfold p_NValue at h
  split at h
  rotate_left
  · exact h.elim
  obtain ⟨a, ⟨rfl, ha⟩, hK⟩ := h
  refine ⟨_, hK, ?_⟩
  refine ACalls.of_aw (Ω := []) (T := assoc []) mixed TblOk.nil Try.func84 (by kernel_rfl) (by rfl) (rs := [.cell 2 46,.tmp 3]) (by rfl) (by kernel_rfl) (by simp only [Try.ntmps84, yaz, yba]; decide) (Nat.le_refl _) fun hcl hlt => ?_
  change aw _ _ _ (KI Try.prog [] (aEnd Try.prog [.cell 2 46,.tmp 3] H.nx _ _) []) _ _
  clear hlt hK
  have hf := w_fits ha
  simp only [↓bwp, bwq, yaa, yab, yac, yad, ne_eq, reduceCtorEq, Nat.reduceEqDiff, Nat.reduceAdd, Nat.reduceMul, Nat.reduceSub, Nat.reduceLeDiff, Nat.reduceLT, Int.reduceMul, Int.reduceAdd, Int.reduceSub, yae, yaf, yag, yah, yai, if_true, if_false, yaj, yak, bvq, rEq, yal, Int.reduceToNat, yam, yan, TD.agg, yao, yap, yaq, yar, yas, yat, yau, yav, splice, zhb, zhc, yaw, yax, yay, zhd, zhe, rLen, rBin, rInt, rStr, rUn, zhf, zhg, zhh, zhi, zhj, rBox, zhk, zhl, zhm, zhn, zho, zhp, zhq, zhr, zhs, zht, zhu, zhv, zhw, zhx, zhy, zhz, zia, zib, zic, bound, addL, addT, grow, room, yaz, yba, ybb, frOf, byq, ytb1, ↓blp, blq, nAV]
  refine ⟨by omega, cond_split (fun h1 => ?_) (fun h1 => ?_)⟩
  · have h1' : ¬ (0 ≤ a ∧ a < 2 ^ 128) := fun h => by rw [← hf] at h; simp [h] at h1
    simp only [↓bwp, bwq, yaa, yab, yac, yad, ne_eq, reduceCtorEq, Nat.reduceEqDiff, Nat.reduceAdd, Nat.reduceMul, Nat.reduceSub, Nat.reduceLeDiff, Nat.reduceLT, Int.reduceMul, Int.reduceAdd, Int.reduceSub, yae, yaf, yag, yah, yai, if_true, if_false, yaj, yak, bvq, rEq, yal, Int.reduceToNat, yam, yan, TD.agg, yao, yap, yaq, yar, yas, yat, yau, yav, splice, zhb, zhc, yaw, yax, yay, zhd, zhe, rLen, rBin, rInt, rStr, rUn, zhf, zhg, zhh, zhi, zhj, rBox, zhk, zhl, zhm, zhn, zho, zhp, zhq, zhr, zhs, zht, zhu, zhv, zhw, zhx, zhy, zhz, zia, zib, zic, bound, addL, addT, grow, room, yaz, yba, ybb, frOf, byq, ytb1, ↓blp, blq, valAV, if_neg h1']
    simp (disch := first | assumption | omega | (simp; done) | (simp; omega) | (simp only [bt, and_true]; first | done | omega | (simp; done))) [↓zkt, beq, ybc, ybd, ybe, endOk, wk, wk2, wk1, wkM, wkL, wkLL, ybf, hcl]
  · have h1' : (0 ≤ a ∧ a < 2 ^ 128) := by rw [← hf]; simpa using h1
    have e1 : w1 a = a / 2 ^ 64 := by unfold w1; omega
    have e0 : w0 a = a % 2 ^ 64 := rfl
    simp only [↓bwp, bwq, yaa, yab, yac, yad, ne_eq, reduceCtorEq, Nat.reduceEqDiff, Nat.reduceAdd, Nat.reduceMul, Nat.reduceSub, Nat.reduceLeDiff, Nat.reduceLT, Int.reduceMul, Int.reduceAdd, Int.reduceSub, yae, yaf, yag, yah, yai, if_true, if_false, yaj, yak, bvq, rEq, yal, Int.reduceToNat, yam, yan, TD.agg, yao, yap, yaq, yar, yas, yat, yau, yav, splice, zhb, zhc, yaw, yax, yay, zhd, zhe, rLen, rBin, rInt, rStr, rUn, zhf, zhg, zhh, zhi, zhj, rBox, zhk, zhl, zhm, zhn, zho, zhp, zhq, zhr, zhs, zht, zhu, zhv, zhw, zhx, zhy, zhz, zia, zib, zic, bound, addL, addT, grow, room, yaz, yba, ybb, frOf, byq, ytb1, ↓blp, blq, valAV, if_pos h1', e1, e0]
    refine ⟨by omega, by omega, ?_⟩
    simp (disch := first | assumption | omega | (simp; done) | (simp; omega) | (simp only [bt, and_true]; first | done | omega | (simp; done))) [↓zkt, beq, ybc, ybd, ybe, endOk, wk, wk2, wk1, wkM, wkL, wkLL, ybf, hcl]

end Go.AL

