/- Contracts and plain laws, a part of the proof; no condition of its own. -/
import Derived.Test.YtnhghceobhdaoaaS07v
import Derived.Test.YtnhghceobhdaoaaS07c
open List renaming length_cons → yaz, length_nil → yba, tail_nil → yaa, tail_cons → yab, headD_nil → yac, headD_cons → yad, map_cons → yae, map_nil → yaf, append_nil → yaj, nil_append → yak, cons_append → yal, getElem?_cons_zero → yam, getElem?_cons_succ → yan, drop_succ_cons → yao, drop_zero → yap, take_succ_cons → yaq, take_zero → yar, take_nil → yas, drop_nil → yat, getD_cons_zero → yau, getD_cons_succ → yav, getElem?_nil → yay, length_map → ybb, take_of_length_le → ybc, drop_append → ybd, take_append → ybe, drop_eq_nil_of_le → ybf
open Option renaming map_some → yag, map_none → yah, elim_some → yai, isSome_some → yaw, isSome_none → yax
open Go Go.AL Go.Proofs
namespace Go.AL
set_option linter.all false
set_option maxRecDepth 10000
theorem ti_nodeR : ti Try.prog 151 = some ⟨.struct [(0, 3, false), (1, 3, false), (2, 3, false), (3, 9, false), (4, 9, false), (5, 46, false)], 7, 72, .agg [.int .i64 0, .int .i64 0, .int .i64 0, .str [], .str [], .int .u64 0, .int .u64 0]⟩ := by kernel_rfl
theorem ti_nodesR : ti Try.prog 66 = some ⟨.slice 151, 1, 24, .slice .nil 1 []⟩ := by kernel_rfl
theorem ti_parserR : ti Try.prog 149 = some ⟨.struct [(0, 32, false), (1, 3, false), (2, 4, false), (3, 66, false)], 4, 64, .agg [.slice .nil 1 [], .int .i64 0, .bool false, .slice .nil 1 []]⟩ := by kernel_rfl
def rst (m : Mark) (l : List Tok) (p : Nat) (b : Bool) (tb : Nat) (t : List Nd) : AObj := .cells [.slice m 3 (toks l), .int .i64 (p : Int), .bool b, .slice (.own tb) 7 (nds t)]
def onQ (o : Option AObj) (K : Mark → List Tok → Nat → Bool → Nat → List Nd → Prop) : Prop := ∃ m l p b tb t, o = some (rst m l p b tb t) ∧ K m l p b tb t
@[congr] theorem onQ_congr {o o' : Option AObj} {K : Mark → List Tok → Nat → Bool → Nat → List Nd → Prop} (h : o = o') : onQ o K = onQ o' K := by rw [h]
theorem onQ_some {m : Mark} {l : List Tok} {p tb : Nat} {b : Bool} {t : List Nd} {K : Mark → List Tok → Nat → Bool → Nat → List Nd → Prop} : onQ (some (rst m l p b tb t)) K = K m l p b tb t := by
  refine propext ⟨fun ⟨m', l', p', b', tb', t', h, hk⟩ => ?_, fun h => ⟨m, l, p, b, tb, t, rfl, h⟩⟩
  simp only [rst, Option.some.injEq, AObj.cells.injEq, List.cons.injEq, AV.slice.injEq, AV.int.injEq, AV.bool.injEq, Mark.own.injEq, true_and, and_true] at h
  obtain ⟨⟨rfl, h1⟩, h2, rfl, rfl, h3⟩ := h
  have := toks_inj h1
  have := nds_inj h3
  have : p = p' := by omega
  subst_vars
  exact hk
theorem onQ_some' {m : Mark} {l : List Tok} {p tb : Nat} {b : Bool} {t : List Nd} {K : Mark → List Tok → Nat → Bool → Nat → List Nd → Prop} : onQ (some (.cells [.slice m 3 (toks l), .int .i64 (p : Int), .bool b, .slice (.own tb) 7 (nds t)])) K = K m l p b tb t := onQ_some
theorem rst_closed {H : AHeap} {id : Nat} {m : Mark} {l : List Tok} {p tb : Nat} {b : Bool} {t : List Nd} (hg : H.get id = some (rst m l p b tb t)) (hcl : H.Closed) (p' : Nat) (b' : Bool) (t' : List Nd) : (H.set id (rst m l p' b' tb t')).Closed := by
  have h0 := hcl id _ hg 0 (by simp)
  have h2 := hcl id _ hg 3 (by simp)
  simp only [List.getElem_cons_zero, List.getElem_cons_succ, toks_lt', nds_lt] at h0 h2
  refine closed_set hcl ?_
  simp only [zlz, zma, toks_lt', nds_lt, zlk, zll, and_true, true_and]
  exact ⟨h0, h2⟩
def e_zNode : List AV → AHeap → (AEnd → AHeap → Prop) → Prop
  | [.ptr id 0, .agg [.int .i64 op, .int .i64 a, .int .i64 b, .str nm, .str att, .int .u64 hi, .int .u64 lo]], H, K => onQ (H.get id) fun m l p bd tb t =>
      (0 ≤ op ∧ 0 ≤ a ∧ 0 ≤ b ∧ isV hi lo ∧ id ≠ tb ∧ H.get tb = some (.buf 7 t.length) ∧ t.length ≤ 100000) ∧
      K (.ret (.int .i64 (t.length : Int))) ((H.set id (rst m l p bd tb (t ++ [⟨op.toNat, a.toNat, b.toNat, nm, att, vOf hi.toNat lo.toNat⟩]))).set tb (.buf 7 (t.length + 1)))
  | _, _, _ => False
theorem ytb7 : (type_of% @ti_int) ∧ (type_of% @ti_value) ∧ (type_of% @ti_u64) ∧ (type_of% @ti_Number) ∧ (type_of% @ti_words) ∧ (type_of% @ti_bool) ∧ (type_of% @ti_ints) ∧ (type_of% @ti_Int) ∧ (type_of% @ti_uint) ∧ (type_of% @ti_bytes) ∧ (type_of% @ti_u8) ∧ (type_of% @ti_string) ∧ (type_of% @ti_bits) ∧ (type_of% @ti_strs) ∧ (type_of% @ti_xTok) ∧ (type_of% @ti_fTok) ∧ (type_of% @ti_xToks) ∧ (type_of% @ti_fToks) ∧ (type_of% @ti_errno) ∧ (type_of% @ti_codes) ∧ (type_of% @ti_node) ∧ (type_of% @ti_nodes) ∧ (type_of% @ti_parser) ∧ (type_of% @ti_operator) ∧ (type_of% @ti_operators) ∧ (type_of% @ti_wrong) ∧ (type_of% @ti_bools) ∧ (type_of% @ti_nodeR) ∧ (type_of% @ti_nodesR) ∧ (type_of% @ti_parserR) :=
  ⟨@ti_int, @ti_value, @ti_u64, @ti_Number, @ti_words, @ti_bool, @ti_ints, @ti_Int, @ti_uint, @ti_bytes, @ti_u8, @ti_string, @ti_bits, @ti_strs, @ti_xTok, @ti_fTok, @ti_xToks, @ti_fToks, @ti_errno, @ti_codes, @ti_node, @ti_nodes, @ti_parser, @ti_operator, @ti_operators, @ti_wrong, @ti_bools, @ti_nodeR, @ti_nodesR, @ti_parserR⟩
theorem ok_zNode : EntOk Try.prog 129 (Ent.effect e_zNode) := by
  refine EntOk.effect fun args H K h => ?_
  unfold e_zNode at h
  split at h
  rotate_left
  · exact h.elim
  rename_i id op a b nm att hi lo
  obtain ⟨m, l, p, bd, tb, t, hg, ⟨h1, h2, h3, ⟨h4, h5, h6, h7⟩, hne, htb, htl⟩, hK⟩ := h
  refine ⟨_, _, hK, ?_⟩
  clear hK
  obtain ⟨op, rfl⟩ := u64_lift h1
  obtain ⟨a, rfl⟩ := u64_lift h2
  obtain ⟨b, rfl⟩ := u64_lift h3
  obtain ⟨hi, rfl⟩ := u64_lift h4
  obtain ⟨lo, rfl⟩ := u64_lift h6
  simp only [Int.toNat_natCast]
  refine ACalls.of_aw (Ω := []) (T := assoc [(1, [[], [], [], [], [], [], [5], [4, 5], [], [], [4, 5]])]) mixed TblOk.nil Try.func129 (by kernel_rfl) (by rfl) (rs := [.tmp 4]) (by rfl) (by kernel_rfl) (by simp only [Try.ntmps129, yaz, yba]; decide) (Nat.le_refl _) fun hcl hlt => ?_
  change aw _ _ _ (KI Try.prog [] (aEnd Try.prog [.tmp 4] H.nx _ _ (assoc [(1, [[], [], [], [], [], [], [5], [4, 5], [], [], [4, 5]])])) []) _ _
  clear hlt
  have hid := AHeap.get_lt hg
  have htbl := AHeap.get_lt htb
  have hcs := cells_some (cs := [.slice m 3 (toks l), .int .i64 (p : Int), .bool bd, .slice (.own tb) 7 (nds t)]) hg
  have f1 := far_of hid
  have f2 := far_of htbl
  have g1 : (id = tb) = False := eq_false hne
  have g2 : (tb = id) = False := eq_false fun e => hne e.symm
  have e1 : nds t ++ [AV.agg [.int .i64 (op : Int), .int .i64 (a : Int), .int .i64 (b : Int), .str nm, .str att, .int .u64 (hi : Int), .int .u64 (lo : Int)]] = nds (t ++ [⟨op, a, b, nm, att, vOf hi lo⟩]) := by
    rw [← nds_snoc]; unfold ndAV; simp only; rw [vOf_hi (by omega), vOf_lo (by omega)]
  have e2 : IntKind.i64.wrap (((t.length + 1 : Nat) : Int) - 1) = (t.length : Int) := by rw [wrap_i64] <;> omega
  have hcl1 := rst_closed hg hcl p bd (t ++ [⟨op, a, b, nm, att, vOf hi lo⟩])
  have hcl2 : ((H.set id (rst m l p bd tb (t ++ [⟨op, a, b, nm, att, vOf hi lo⟩]))).set tb (.buf 7 (t.length + 1))).Closed := closed_set_buf hcl1
  have s1 := set_comm' (H := H) hne
  have s2 := fun o => (cells_set_far (H := H) hne o).trans hcs
  have s3 : ∀ o cs, cellsOf? ((H.set id (.cells cs)).set tb o) id = some cs := fun o cs => by rw [cells_set_far hne, cells_set hid, if_pos rfl]
  simp only [↓bwp, bwq, yaa, yab, yac, yad, ne_eq, reduceCtorEq, Nat.reduceEqDiff, Nat.reduceAdd, Nat.reduceMul, Nat.reduceSub, Nat.reduceLeDiff, Nat.reduceLT, Int.reduceMul, Int.reduceAdd, Int.reduceSub, yae, yaf, yag, yah, yai, if_true, if_false, yaj, yak, bvq, rEq, yal, Int.reduceToNat, yam, yan, TD.agg, yao, yap, yaq, yar, yas, yat, yau, yav, splice, zhb, zhc, yaw, yax, yay, zhd, zhe, rLen, rBin, rInt, rStr, rUn, zhf, zhg, zhh, zhi, zhj, rBox, zhk, zhl, zhm, zhn, zho, zhp, zhq, zhr, zhs, zht, zhu, zhv, zhw, zhx, zhy, zhz, zia, zib, zic, bound, addL, addT, grow, room, yaz, yba, ybb, frOf, ytb7, ↓blp, blq, hcs, nds_length, f1, f2, g1, g2, htb, heap_get_set, if_pos htbl, e1, s1, s2, s3, e2, List.length_append]
  refine ⟨⟨by omega, by omega, by simp [allOne, AV.cells, AV.one]⟩, ?_⟩
  simp only [rst] at hcl2 ⊢
  simp (disch := first | assumption | omega | (simp; done) | (simp; omega) | (simp only [bt, and_true]; first | done | omega | (simp; done))) [↓zkt, beq, ybc, ybd, ybe, endOk, wk, wk2, wk1, wkM, wkL, wkLL, ybf, hcl2, htbl, nds_lt]
def p_zSee : List AV → AHeap → (AV → Prop) → Prop
  | [.ptr id 0, .str s], H, K => onQ (H.get id) fun m l p b tb t => (p ≤ l.length ∧ l.length ≤ 100000) ∧ K (.bool (!b && isS l p s))
  | _, _, _ => False
theorem ok_zSee : EntOk Try.prog 140 (Ent.pure p_zSee) := by
  refine EntOk.pure fun args H K h => ?_
  unfold p_zSee at h
  split at h
  rotate_left
  · exact h.elim
  rename_i id s
  obtain ⟨m, l, p, b, tb, t, hg, ⟨hp, hl⟩, hK⟩ := h
  have hid := AHeap.get_lt hg
  have hcs := cells_some (cs := [.slice m 3 (toks l), .int .i64 (p : Int), .bool b, .slice (.own tb) 7 (nds t)]) hg
  refine ⟨_, hK, ?_⟩
  clear hK
  refine ACalls.of_aw (Ω := []) (T := assoc []) mixed TblOk.nil Try.func140 (by kernel_rfl) (by rfl) (rs := [.tmp 4]) (by rfl) (by kernel_rfl) (by simp only [Try.ntmps140, yaz, yba]; decide) (Nat.le_refl _) fun hcl hlt => ?_
  change aw _ _ _ (KI Try.prog [] (aEnd Try.prog [.tmp 4] H.nx _ _ (assoc [])) []) _ _
  clear hlt
  cases b with
  | true =>
    simp only [↓bwp, bwq, yaa, yab, yac, yad, ne_eq, reduceCtorEq, Nat.reduceEqDiff, Nat.reduceAdd, Nat.reduceMul, Nat.reduceSub, Nat.reduceLeDiff, Nat.reduceLT, Int.reduceMul, Int.reduceAdd, Int.reduceSub, yae, yaf, yag, yah, yai, if_true, if_false, yaj, yak, bvq, rEq, yal, Int.reduceToNat, yam, yan, TD.agg, yao, yap, yaq, yar, yas, yat, yau, yav, splice, zhb, zhc, yaw, yax, yay, zhd, zhe, rLen, rBin, rInt, rStr, rUn, zhf, zhg, zhh, zhi, zhj, rBox, zhk, zhl, zhm, zhn, zho, zhp, zhq, zhr, zhs, zht, zhu, zhv, zhw, zhx, zhy, zhz, zia, zib, zic, bound, addL, addT, grow, room, yaz, yba, ybb, frOf, ytb7, ↓blp, blq, hcs]
    simp (disch := first | assumption | omega | (simp; done) | (simp; omega) | (simp only [bt, and_true]; first | done | omega | (simp; done))) [↓zkt, beq, ybc, ybd, ybe, endOk, wk, wk2, wk1, wkM, wkL, wkLL, ybf, hcl]
  | false =>
    by_cases hlt0 : p < l.length
    · rcases htk : l[p] with ⟨k, x, z⟩
      have hgd := tok_get hlt0 htk
      have d1 : decide ((p : Int) < (l.length : Int)) = true := by simp; omega
      rw [isS_at hlt0 htk]
      by_cases hk : k = 3
      · subst hk
        have d2 : (((3 : Nat) : Int) == 3) = true := rfl
        simp only [↓bwp, bwq, yaa, yab, yac, yad, ne_eq, reduceCtorEq, Nat.reduceEqDiff, Nat.reduceAdd, Nat.reduceMul, Nat.reduceSub, Nat.reduceLeDiff, Nat.reduceLT, Int.reduceMul, Int.reduceAdd, Int.reduceSub, yae, yaf, yag, yah, yai, if_true, if_false, yaj, yak, bvq, rEq, yal, Int.reduceToNat, yam, yan, TD.agg, yao, yap, yaq, yar, yas, yat, yau, yav, splice, zhb, zhc, yaw, yax, yay, zhd, zhe, rLen, rBin, rInt, rStr, rUn, zhf, zhg, zhh, zhi, zhj, rBox, zhk, zhl, zhm, zhn, zho, zhp, zhq, zhr, zhs, zht, zhu, zhv, zhw, zhx, zhy, zhz, zia, zib, zic, bound, addL, addT, grow, room, yaz, yba, ybb, frOf, ytb7, ↓blp, blq, hcs, toks_length, hgd, d1, d2, Int.toNat_natCast]
        refine ⟨by omega, by omega, ?_⟩
        simp (disch := first | assumption | omega | (simp; done) | (simp; omega) | (simp only [bt, and_true]; first | done | omega | (simp; done))) [↓zkt, beq, ybc, ybd, ybe, endOk, wk, wk2, wk1, wkM, wkL, wkLL, ybf, hcl]
      · have d2 : ((k : Int) == 3) = false := by simp; omega
        have d3 : (k == 3) = false := by simpa using hk
        simp only [↓bwp, bwq, yaa, yab, yac, yad, ne_eq, reduceCtorEq, Nat.reduceEqDiff, Nat.reduceAdd, Nat.reduceMul, Nat.reduceSub, Nat.reduceLeDiff, Nat.reduceLT, Int.reduceMul, Int.reduceAdd, Int.reduceSub, yae, yaf, yag, yah, yai, if_true, if_false, yaj, yak, bvq, rEq, yal, Int.reduceToNat, yam, yan, TD.agg, yao, yap, yaq, yar, yas, yat, yau, yav, splice, zhb, zhc, yaw, yax, yay, zhd, zhe, rLen, rBin, rInt, rStr, rUn, zhf, zhg, zhh, zhi, zhj, rBox, zhk, zhl, zhm, zhn, zho, zhp, zhq, zhr, zhs, zht, zhu, zhv, zhw, zhx, zhy, zhz, zia, zib, zic, bound, addL, addT, grow, room, yaz, yba, ybb, frOf, ytb7, ↓blp, blq, hcs, toks_length, hgd, d1, d2, Int.toNat_natCast]
        refine ⟨by omega, ?_⟩
        simp (disch := first | assumption | omega | (simp; done) | (simp; omega) | (simp only [bt, and_true]; first | done | omega | (simp; done))) [↓zkt, beq, ybc, ybd, ybe, endOk, wk, wk2, wk1, wkM, wkL, wkLL, ybf, hcl, d3]
    · have d1 : decide ((p : Int) < (l.length : Int)) = false := by simp; omega
      rw [isS_end (by omega)]
      simp only [↓bwp, bwq, yaa, yab, yac, yad, ne_eq, reduceCtorEq, Nat.reduceEqDiff, Nat.reduceAdd, Nat.reduceMul, Nat.reduceSub, Nat.reduceLeDiff, Nat.reduceLT, Int.reduceMul, Int.reduceAdd, Int.reduceSub, yae, yaf, yag, yah, yai, if_true, if_false, yaj, yak, bvq, rEq, yal, Int.reduceToNat, yam, yan, TD.agg, yao, yap, yaq, yar, yas, yat, yau, yav, splice, zhb, zhc, yaw, yax, yay, zhd, zhe, rLen, rBin, rInt, rStr, rUn, zhf, zhg, zhh, zhi, zhj, rBox, zhk, zhl, zhm, zhn, zho, zhp, zhq, zhr, zhs, zht, zhu, zhv, zhw, zhx, zhy, zhz, zia, zib, zic, bound, addL, addT, grow, room, yaz, yba, ybb, frOf, ytb7, ↓blp, blq, hcs, toks_length, d1]
      simp (disch := first | assumption | omega | (simp; done) | (simp; omega) | (simp only [bt, and_true]; first | done | omega | (simp; done))) [↓zkt, beq, ybc, ybd, ybe, endOk, wk, wk2, wk1, wkM, wkL, wkLL, ybf, hcl]
def e_zTake : List AV → AHeap → (AEnd → AHeap → Prop) → Prop
  | [.ptr id 0, .str s], H, K => onQ (H.get id) fun m l p b tb t => (p ≤ l.length ∧ l.length ≤ 100000) ∧
      if (!b && isS l p s) = true then K (.ret (.bool true)) (H.set id (rst m l (p + 1) b tb t)) else K (.ret (.bool false)) H
  | _, _, _ => False
theorem ok_zTake : EntOk Try.prog 128 (Ent.effect e_zTake) := by
  refine EntOk.effect fun args H K h => ?_
  unfold e_zTake at h
  split at h
  rotate_left
  · exact h.elim
  rename_i id s
  obtain ⟨m, l, p, b, tb, t, hg, ⟨hp, hl⟩, hK⟩ := h
  have hid := AHeap.get_lt hg
  have hcs := cells_some (cs := [.slice m 3 (toks l), .int .i64 (p : Int), .bool b, .slice (.own tb) 7 (nds t)]) hg
  have e1 : IntKind.i64.wrap ((p : Int) + 1) = ((p + 1 : Nat) : Int) := by rw [wrap_i64] <;> omega
  cases hs : (!b && isS l p s) with
  | true =>
    rw [hs, if_pos rfl] at hK
    refine ⟨_, _, hK, ?_⟩
    clear hK
    refine ACalls.of_aw (Ω := [(140, Ent.pure p_zSee)]) (T := assoc []) mixed (TblOk.cons ok_zSee TblOk.nil) Try.func128 (by kernel_rfl) (by rfl) (rs := [.tmp 4]) (by rfl) (by kernel_rfl) (by simp only [Try.ntmps128, yaz, yba]; decide) (Nat.le_refl _) fun hcl hlt => ?_
    change aw _ _ _ (KI Try.prog [(140, Ent.pure p_zSee)] (aEnd Try.prog [.tmp 4] H.nx _ _) []) _ _
    clear hlt
    have hcl1 := rst_closed hg hcl (p + 1) b t
    simp only [↓bwp, bwq, yaa, yab, yac, yad, ne_eq, reduceCtorEq, Nat.reduceEqDiff, Nat.reduceAdd, Nat.reduceMul, Nat.reduceSub, Nat.reduceLeDiff, Nat.reduceLT, Int.reduceMul, Int.reduceAdd, Int.reduceSub, yae, yaf, yag, yah, yai, if_true, if_false, yaj, yak, bvq, rEq, yal, Int.reduceToNat, yam, yan, TD.agg, yao, yap, yaq, yar, yas, yat, yau, yav, splice, zhb, zhc, yaw, yax, yay, zhd, zhe, rLen, rBin, rInt, rStr, rUn, zhf, zhg, zhh, zhi, zhj, rBox, zhk, zhl, zhm, zhn, zho, zhp, zhq, zhr, zhs, zht, zhu, zhv, zhw, zhx, zhy, zhz, zia, zib, zic, bound, addL, addT, grow, room, yaz, yba, ybb, frOf, ytb7, ↓blp, blq, p_zSee, hg, onQ_some, hp, hl, hs, hcs, e1]
    change endOk (H.set id (rst m l (p + 1) b tb t)) _ _ _
    simp (disch := first | assumption | omega | (simp; done) | (simp; omega) | (simp only [bt, and_true]; first | done | omega | (simp; done))) [↓zkt, beq, ybc, ybd, ybe, endOk, wk, wk2, wk1, wkM, wkL, wkLL, ybf, hcl1]
  | false =>
    rw [hs, if_neg (by simp)] at hK
    refine ⟨_, _, hK, ?_⟩
    clear hK
    refine ACalls.of_aw (Ω := [(140, Ent.pure p_zSee)]) (T := assoc []) mixed (TblOk.cons ok_zSee TblOk.nil) Try.func128 (by kernel_rfl) (by rfl) (rs := [.tmp 4]) (by rfl) (by kernel_rfl) (by simp only [Try.ntmps128, yaz, yba]; decide) (Nat.le_refl _) fun hcl hlt => ?_
    change aw _ _ _ (KI Try.prog [(140, Ent.pure p_zSee)] (aEnd Try.prog [.tmp 4] H.nx _ _) []) _ _
    clear hlt
    simp only [↓bwp, bwq, yaa, yab, yac, yad, ne_eq, reduceCtorEq, Nat.reduceEqDiff, Nat.reduceAdd, Nat.reduceMul, Nat.reduceSub, Nat.reduceLeDiff, Nat.reduceLT, Int.reduceMul, Int.reduceAdd, Int.reduceSub, yae, yaf, yag, yah, yai, if_true, if_false, yaj, yak, bvq, rEq, yal, Int.reduceToNat, yam, yan, TD.agg, yao, yap, yaq, yar, yas, yat, yau, yav, splice, zhb, zhc, yaw, yax, yay, zhd, zhe, rLen, rBin, rInt, rStr, rUn, zhf, zhg, zhh, zhi, zhj, rBox, zhk, zhl, zhm, zhn, zho, zhp, zhq, zhr, zhs, zht, zhu, zhv, zhw, zhx, zhy, zhz, zia, zib, zic, bound, addL, addT, grow, room, yaz, yba, ybb, frOf, ytb7, ↓blp, blq, p_zSee, hg, onQ_some, hp, hl, hs, hcs, e1]
    simp (disch := first | assumption | omega | (simp; done) | (simp; omega) | (simp only [bt, and_true]; first | done | omega | (simp; done))) [↓zkt, beq, ybc, ybd, ybe, endOk, wk, wk2, wk1, wkM, wkL, wkLL, ybf, hcl]
def e_zVar : List AV → AHeap → (AEnd → AHeap → Prop) → Prop
  | [.ptr id 0, .str x], H, K => onQ (H.get id) fun m l p b tb t => (b = false ∧ id ≠ tb ∧ H.get tb = some (.buf 7 t.length) ∧ t.length ≤ 100000 ∧ p ≤ l.length ∧ l.length ≤ 100000) ∧
      if isS l p [58, 58] = true then
        onW (wordT l (p + 1)) (fun y => K (.ret (.int .i64 (t.length : Int))) ((H.set id (rst m l (p + 1 + 1) false tb (t ++ [⟨3, 0, 0, x, y, 0⟩]))).set tb (.buf 7 (t.length + 1)))) (K (.ret (.int .i64 0)) (H.set id (rst m l (p + 1) true tb t)))
      else K (.ret (.int .i64 (t.length : Int))) ((H.set id (rst m l p false tb (t ++ [⟨3, 0, 0, x, [], 0⟩]))).set tb (.buf 7 (t.length + 1)))
  | _, _, _ => False
set_option maxHeartbeats 1000000 in
theorem ok_zVar : EntOk Try.prog 157 (Ent.effect e_zVar) := by
  refine EntOk.effect fun args H K h => ?_
  unfold e_zVar at h
  split at h
  rotate_left
  · exact h.elim
  rename_i id x
  obtain ⟨m, l, p, b, tb, t, hg, ⟨rfl, hne, htb, ht, hp, hl⟩, hK⟩ := h
  have hid := AHeap.get_lt hg
  have htbl := AHeap.get_lt htb
  have hcs := cells_some (cs := [.slice m 3 (toks l), .int .i64 (p : Int), .bool false, .slice (.own tb) 7 (nds t)]) hg
  have f1 := far_of hid
  have f2 := far_of htbl
  have g1 : (id = tb) = False := eq_false hne
  have hgi : ∀ o, (H.set id o).get id = some o := fun o => AHeap.get_set_same _ _ hid
  have hgt : ∀ o, (H.set id o).get tb = some (.buf 7 t.length) := fun o => by rw [AHeap.get_set_ne _ _ (fun e => hne e.symm)]; exact htb
  have hss : ∀ X Y, (H.set id X).set id Y = H.set id Y := fun X Y => by simp only [AHeap.set]; congr 1; funext k; by_cases hk : k = id <;> simp [hk]
  have hcc : ∀ cs, cellsOf? (H.set id (.cells cs)) id = some cs := fun cs => by rw [cells_set hid, if_pos rfl]
  cases hs : isS l p [58, 58] with
  | false =>
    rw [hs, if_neg (by simp)] at hK
    refine ⟨_, _, hK, ?_⟩
    clear hK
    refine ACalls.of_aw (Ω := [(128, Ent.effect e_zTake), (129, Ent.effect e_zNode)]) (T := assoc [(7, [[], [], [], [], [], [], [], [], [], [], [], [], [], [], [], [5, 9, 13]])]) mixed (TblOk.cons ok_zTake (TblOk.cons ok_zNode TblOk.nil)) Try.func157 (by kernel_rfl) (by rfl) (rs := [.tmp 4]) (by rfl) (by kernel_rfl) (by simp only [Try.ntmps157, yaz, yba]; decide) (Nat.le_refl _) fun hcl hlt => ?_
    change aw _ _ _ (KI Try.prog [(128, Ent.effect e_zTake), (129, Ent.effect e_zNode)] (aEnd Try.prog [.tmp 4] H.nx _ _ (assoc [(7, [[], [], [], [], [], [], [], [], [], [], [], [], [], [], [], [5, 9, 13]])])) []) _ _
    clear hlt
    have hcl1 := rst_closed hg hcl p false (t ++ [⟨3, 0, 0, x, [], 0⟩])
    have hcl2 : ((H.set id (rst m l p false tb (t ++ [⟨3, 0, 0, x, [], 0⟩]))).set tb (.buf 7 (t.length + 1))).Closed := closed_set_buf hcl1
    simp only [↓bwp, bwq, yaa, yab, yac, yad, ne_eq, reduceCtorEq, Nat.reduceEqDiff, Nat.reduceAdd, Nat.reduceMul, Nat.reduceSub, Nat.reduceLeDiff, Nat.reduceLT, Int.reduceMul, Int.reduceAdd, Int.reduceSub, yae, yaf, yag, yah, yai, if_true, if_false, yaj, yak, bvq, rEq, yal, Int.reduceToNat, yam, yan, TD.agg, yao, yap, yaq, yar, yas, yat, yau, yav, splice, zhb, zhc, yaw, yax, yay, zhd, zhe, rLen, rBin, rInt, rStr, rUn, zhf, zhg, zhh, zhi, zhj, rBox, zhk, zhl, zhm, zhn, zho, zhp, zhq, zhr, zhs, zht, zhu, zhv, zhw, zhx, zhy, zhz, zia, zib, zic, bound, addL, addT, grow, room, yaz, yba, ybb, frOf, ytb7, ↓blp, blq, e_zTake, e_zNode, hg, onQ_some, hp, hl, hs, Bool.not_false, Bool.true_and, if_false, hne, ne_eq, g1, not_false_eq_true, htb, ht, vOf00, isV00, Int.reduceLE]
    simp (disch := first | assumption | omega | (simp; done) | (simp; omega) | (simp only [bt, and_true]; first | done | omega | (simp; done))) [↓zkt, beq, ybc, ybd, ybe, endOk, wk, wk2, wk1, wkM, wkL, wkLL, ybf, hcl2]
  | true =>
    rw [hs, if_pos rfl] at hK
    have hlt0 := isS_lt hs
    have e1 : IntKind.i64.wrap (((p + 1 : Nat) : Int) + 1) = ((p + 1 + 1 : Nat) : Int) := by rw [wrap_i64] <;> omega
    have e2 : IntKind.i64.wrap (((p + 1 + 1 : Nat) : Int) - 1) = ((p + 1 : Nat) : Int) := by rw [wrap_i64] <;> omega
    unfold wordT at hK
    by_cases hlt1 : p + 1 < l.length
    · rcases htk : l[p + 1] with ⟨k, y, z⟩
      have hgd := tok_get hlt1 htk
      rw [List.getElem?_eq_getElem hlt1, htk] at hK
      dsimp only at hK
      have d1 : (((p + 1 : Nat) : Int) == (l.length : Int)) = false := by simp; omega
      by_cases hk : k = 2
      · subst hk
        rw [if_pos rfl, onW_some] at hK
        refine ⟨_, _, hK, ?_⟩
        clear hK
        refine ACalls.of_aw (Ω := [(128, Ent.effect e_zTake), (129, Ent.effect e_zNode)]) (T := assoc [(7, [[], [], [], [], [], [], [], [], [], [], [], [], [], [], [], [5, 9, 13]])]) mixed (TblOk.cons ok_zTake (TblOk.cons ok_zNode TblOk.nil)) Try.func157 (by kernel_rfl) (by rfl) (rs := [.tmp 4]) (by rfl) (by kernel_rfl) (by simp only [Try.ntmps157, yaz, yba]; decide) (Nat.le_refl _) fun hcl hlt => ?_
        change aw _ _ _ (KI Try.prog [(128, Ent.effect e_zTake), (129, Ent.effect e_zNode)] (aEnd Try.prog [.tmp 4] H.nx _ _ (assoc [(7, [[], [], [], [], [], [], [], [], [], [], [], [], [], [], [], [5, 9, 13]])])) []) _ _
        clear hlt
        have d2 : (((2 : Nat) : Int) != 2) = false := rfl
        have hcl1 := rst_closed hg hcl (p + 1 + 1) false (t ++ [⟨3, 0, 0, x, y, 0⟩])
        have hcl2 : ((H.set id (rst m l (p + 1 + 1) false tb (t ++ [⟨3, 0, 0, x, y, 0⟩]))).set tb (.buf 7 (t.length + 1))).Closed := closed_set_buf hcl1
        simp only [↓bwp, bwq, yaa, yab, yac, yad, ne_eq, reduceCtorEq, Nat.reduceEqDiff, Nat.reduceAdd, Nat.reduceMul, Nat.reduceSub, Nat.reduceLeDiff, Nat.reduceLT, Int.reduceMul, Int.reduceAdd, Int.reduceSub, yae, yaf, yag, yah, yai, if_true, if_false, yaj, yak, bvq, rEq, yal, Int.reduceToNat, yam, yan, TD.agg, yao, yap, yaq, yar, yas, yat, yau, yav, splice, zhb, zhc, yaw, yax, yay, zhd, zhe, rLen, rBin, rInt, rStr, rUn, zhf, zhg, zhh, zhi, zhj, rBox, zhk, zhl, zhm, zhn, zho, zhp, zhq, zhr, zhs, zht, zhu, zhv, zhw, zhx, zhy, zhz, zia, zib, zic, bound, addL, addT, grow, room, yaz, yba, ybb, frOf, ytb7, ↓blp, blq, e_zTake, e_zNode, hg, onQ_some, onQ_some', hp, hl, hs, Bool.not_false, Bool.true_and, if_true, hne, ne_eq, g1, not_false_eq_true, hgi, hgt, hss, hcc, ht, vOf00, isV00, Int.reduceLE, rst, toks_length, hgd, d1, d2, e1, e2, Int.toNat_natCast]
        refine ⟨by omega, by omega, ?_⟩
        change endOk ((H.set id (rst m l (p + 1 + 1) false tb (t ++ [⟨3, 0, 0, x, y, 0⟩]))).set tb (.buf 7 (t.length + 1))) _ ((H.set id (rst m l (p + 1 + 1) false tb (t ++ [⟨3, 0, 0, x, y, 0⟩]))).set tb (.buf 7 (t.length + 1))) _
        simp (disch := first | assumption | omega | (simp; done) | (simp; omega) | (simp only [bt, and_true]; first | done | omega | (simp; done))) [↓zkt, beq, ybc, ybd, ybe, endOk, wk, wk2, wk1, wkM, wkL, wkLL, ybf, hcl2]
      · have d2 : ((k : Int) != 2) = true := by simp; omega
        rw [if_neg hk, onW_none] at hK
        refine ⟨_, _, hK, ?_⟩
        clear hK
        refine ACalls.of_aw (Ω := [(128, Ent.effect e_zTake), (129, Ent.effect e_zNode)]) (T := assoc [(7, [[], [], [], [], [], [], [], [], [], [], [], [], [], [], [], [5, 9, 13]])]) mixed (TblOk.cons ok_zTake (TblOk.cons ok_zNode TblOk.nil)) Try.func157 (by kernel_rfl) (by rfl) (rs := [.tmp 4]) (by rfl) (by kernel_rfl) (by simp only [Try.ntmps157, yaz, yba]; decide) (Nat.le_refl _) fun hcl hlt => ?_
        change aw _ _ _ (KI Try.prog [(128, Ent.effect e_zTake), (129, Ent.effect e_zNode)] (aEnd Try.prog [.tmp 4] H.nx _ _ (assoc [(7, [[], [], [], [], [], [], [], [], [], [], [], [], [], [], [], [5, 9, 13]])])) []) _ _
        clear hlt
        have hcl1 := rst_closed hg hcl (p + 1) true t
        simp only [↓bwp, bwq, yaa, yab, yac, yad, ne_eq, reduceCtorEq, Nat.reduceEqDiff, Nat.reduceAdd, Nat.reduceMul, Nat.reduceSub, Nat.reduceLeDiff, Nat.reduceLT, Int.reduceMul, Int.reduceAdd, Int.reduceSub, yae, yaf, yag, yah, yai, if_true, if_false, yaj, yak, bvq, rEq, yal, Int.reduceToNat, yam, yan, TD.agg, yao, yap, yaq, yar, yas, yat, yau, yav, splice, zhb, zhc, yaw, yax, yay, zhd, zhe, rLen, rBin, rInt, rStr, rUn, zhf, zhg, zhh, zhi, zhj, rBox, zhk, zhl, zhm, zhn, zho, zhp, zhq, zhr, zhs, zht, zhu, zhv, zhw, zhx, zhy, zhz, zia, zib, zic, bound, addL, addT, grow, room, yaz, yba, ybb, frOf, ytb7, ↓blp, blq, e_zTake, e_zNode, hg, onQ_some, onQ_some', hp, hl, hs, Bool.not_false, Bool.true_and, if_true, hne, ne_eq, g1, not_false_eq_true, hgi, hgt, hss, hcc, ht, rst, toks_length, hgd, d1, d2, Int.toNat_natCast]
        refine ⟨by omega, ?_⟩
        change endOk (H.set id (rst m l (p + 1) true tb t)) _ (H.set id (rst m l (p + 1) true tb t)) _
        simp (disch := first | assumption | omega | (simp; done) | (simp; omega) | (simp only [bt, and_true]; first | done | omega | (simp; done))) [↓zkt, beq, ybc, ybd, ybe, endOk, wk, wk2, wk1, wkM, wkL, wkLL, ybf, hcl1]
    · have hpe : p + 1 = l.length := by omega
      rw [List.getElem?_eq_none (by omega)] at hK
      dsimp only at hK
      rw [onW_none] at hK
      refine ⟨_, _, hK, ?_⟩
      clear hK
      refine ACalls.of_aw (Ω := [(128, Ent.effect e_zTake), (129, Ent.effect e_zNode)]) (T := assoc [(7, [[], [], [], [], [], [], [], [], [], [], [], [], [], [], [], [5, 9, 13]])]) mixed (TblOk.cons ok_zTake (TblOk.cons ok_zNode TblOk.nil)) Try.func157 (by kernel_rfl) (by rfl) (rs := [.tmp 4]) (by rfl) (by kernel_rfl) (by simp only [Try.ntmps157, yaz, yba]; decide) (Nat.le_refl _) fun hcl hlt => ?_
      change aw _ _ _ (KI Try.prog [(128, Ent.effect e_zTake), (129, Ent.effect e_zNode)] (aEnd Try.prog [.tmp 4] H.nx _ _ (assoc [(7, [[], [], [], [], [], [], [], [], [], [], [], [], [], [], [], [5, 9, 13]])])) []) _ _
      clear hlt
      have d1 : (((p + 1 : Nat) : Int) == (l.length : Int)) = true := by simp; omega
      have hcl1 := rst_closed hg hcl (p + 1) true t
      simp only [↓bwp, bwq, yaa, yab, yac, yad, ne_eq, reduceCtorEq, Nat.reduceEqDiff, Nat.reduceAdd, Nat.reduceMul, Nat.reduceSub, Nat.reduceLeDiff, Nat.reduceLT, Int.reduceMul, Int.reduceAdd, Int.reduceSub, yae, yaf, yag, yah, yai, if_true, if_false, yaj, yak, bvq, rEq, yal, Int.reduceToNat, yam, yan, TD.agg, yao, yap, yaq, yar, yas, yat, yau, yav, splice, zhb, zhc, yaw, yax, yay, zhd, zhe, rLen, rBin, rInt, rStr, rUn, zhf, zhg, zhh, zhi, zhj, rBox, zhk, zhl, zhm, zhn, zho, zhp, zhq, zhr, zhs, zht, zhu, zhv, zhw, zhx, zhy, zhz, zia, zib, zic, bound, addL, addT, grow, room, yaz, yba, ybb, frOf, ytb7, ↓blp, blq, e_zTake, e_zNode, hg, onQ_some, onQ_some', hp, hl, hs, Bool.not_false, Bool.true_and, if_true, hne, ne_eq, g1, not_false_eq_true, hgi, hgt, hss, hcc, ht, rst, toks_length, d1, Int.toNat_natCast]
      change endOk (H.set id (rst m l (p + 1) true tb t)) _ (H.set id (rst m l (p + 1) true tb t)) _
      simp (disch := first | assumption | omega | (simp; done) | (simp; omega) | (simp only [bt, and_true]; first | done | omega | (simp; done))) [↓zkt, beq, ybc, ybd, ybe, endOk, wk, wk2, wk1, wkM, wkL, wkLL, ybf, hcl1]
end Go.AL

