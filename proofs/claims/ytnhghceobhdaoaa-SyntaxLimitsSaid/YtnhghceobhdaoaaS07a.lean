/- Contracts and plain laws, a part of the proof; no condition of its own. -/
import Derived.Test.YtnhghceobhdaoaaE06
import Derived.Test.YtnhghceobhdaoaaLSyn
open List renaming map_cons → yae, length_cons → yaz, length_nil → yba, tail_nil → yaa, tail_cons → yab, headD_nil → yac, headD_cons → yad, map_nil → yaf, append_nil → yaj, nil_append → yak, cons_append → yal, getElem?_cons_zero → yam, getElem?_cons_succ → yan, drop_succ_cons → yao, drop_zero → yap, take_succ_cons → yaq, take_zero → yar, take_nil → yas, drop_nil → yat, getD_cons_zero → yau, getD_cons_succ → yav, getElem?_nil → yay, length_map → ybb, take_of_length_le → ybc, drop_append → ybd, take_append → ybe, drop_eq_nil_of_le → ybf
open Option renaming map_some → yag, map_none → yah, elim_some → yai, isSome_some → yaw, isSome_none → yax
open Go Go.AL Go.Proofs
namespace Go.AL
set_option linter.all false
set_option maxRecDepth 10000
theorem ti_node : ti Try.prog 73 = some ⟨.struct [(0, 3, false), (1, 3, false), (2, 3, false), (3, 9, false), (4, 9, false), (5, 46, false)], 7, 72, .agg [.int .i64 0, .int .i64 0, .int .i64 0, .str [], .str [], .int .u64 0, .int .u64 0]⟩ := by kernel_rfl
theorem ti_nodes : ti Try.prog 65 = some ⟨.slice 73, 1, 24, .slice .nil 1 []⟩ := by kernel_rfl
theorem ti_parser : ti Try.prog 169 = some ⟨.struct [(0, 28, false), (1, 3, false), (2, 65, false)], 3, 56, .agg [.slice .nil 1 [], .int .i64 0, .slice .nil 1 []]⟩ := by kernel_rfl
theorem ti_operator : ti Try.prog 183 = some ⟨.struct [(0, 3, false), (1, 9, false)], 2, 24, .agg [.int .i64 0, .str []]⟩ := by kernel_rfl
theorem ti_operators : ti Try.prog 180 = some ⟨.slice 183, 1, 24, .slice .nil 1 []⟩ := by kernel_rfl
theorem ti_wrong : ti Try.prog 166 = some ⟨.int .i64, 1, 8, .int .i64 0⟩ := by kernel_rfl
def ndAV (n : Nd) : AV := .agg [.int .i64 (n.op : Int), .int .i64 (n.a : Int), .int .i64 (n.b : Int), .str n.name, .str n.attr, .int .u64 ((n.v / 2 ^ 64 : Nat) : Int), .int .u64 ((n.v % 2 ^ 64 : Nat) : Int)]
def nds (t : List Nd) : List AV := t.map ndAV
theorem nds_length {t : List Nd} : (nds t).length = t.length := by simp [nds]
theorem nds_snoc {t : List Nd} {n : Nd} : nds t ++ [ndAV n] = nds (t ++ [n]) := by simp [nds]
theorem nds_lt {n : Nat} {m : Mark} {t : List Nd} : AV.lt n (.slice m 7 (nds t)) = ∀ id, m = .own id → id < n := by
  rw [AV.lt]
  refine propext ⟨fun h => h.1, fun h => ⟨h, fun j hj => ?_⟩⟩
  simp only [nds, List.getElem_map, ndAV]
  simp [zlw, zlz, zma, zlk, zlm]
theorem toks_lt' {n : Nat} {m : Mark} {l : List Tok} : AV.lt n (.slice m 3 (toks l)) = ∀ id, m = .own id → id < n := by
  rw [AV.lt]
  refine propext ⟨fun h => h.1, fun h => ⟨h, fun j hj => ?_⟩⟩
  simp only [toks, List.getElem_map, tkAV]
  simp [zlw, zlz, zma, zlk, zlm]
theorem toks_inj : ∀ {l l' : List Tok}, toks l = toks l' → l = l'
  | [], [], _ => rfl
  | [], _ :: _, h => by cases h
  | _ :: _, [], h => by cases h
  | (a, b, c) :: l, (a', b', c') :: l', h => by
    simp only [toks, yae, List.cons.injEq, tkAV, AV.agg.injEq, AV.int.injEq, AV.str.injEq, true_and, and_true] at h
    obtain ⟨⟨h1, h2, h3⟩, h4⟩ := h
    rw [toks_inj h4]
    congr 1
    simp only [Prod.mk.injEq]
    exact ⟨by omega, h2, by omega⟩
theorem nds_inj : ∀ {l l' : List Nd}, nds l = nds l' → l = l'
  | [], [], _ => rfl
  | [], _ :: _, h => by cases h
  | _ :: _, [], h => by cases h
  | ⟨a1, a2, a3, a4, a5, a6⟩ :: l, ⟨b1, b2, b3, b4, b5, b6⟩ :: l', h => by
    simp only [nds, yae, List.cons.injEq, ndAV, AV.agg.injEq, AV.int.injEq, AV.str.injEq, true_and, and_true] at h
    obtain ⟨⟨h1, h2, h3, h4, h5, h6, h7⟩, h8⟩ := h
    rw [nds_inj h8]
    congr 1
    simp only [Nd.mk.injEq]
    exact ⟨by omega, by omega, by omega, h4, h5, by omega⟩
def panicK (v : AV) (Kp : AV → AHeap → Prop) (H : AHeap) : Prop := match v with
  | .iface t v => Kp (.iface t v) H
  | _ => False
@[congr] theorem panicK_congr {v v' : AV} {Kp : AV → AHeap → Prop} {H : AHeap} (h : v = v') : panicK v Kp H = panicK v' Kp H := by rw [h]
theorem panicK_iface {t : TypeId} {v : AV} {Kp : AV → AHeap → Prop} {H : AHeap} : panicK (.iface t v) Kp H = Kp (.iface t v) H := rfl
theorem ao_panic {P : Program} {Ω : Tbl} {ops : Array Oper} {rest : List Oper} {K : Fr → AHeap → Prop} {Kp : Fr → AV → AHeap → Prop} {fr : Fr} {H : AHeap} {d : Option Tmp} {x : Operand} {t : TypeId} {pos : String} {aft : Array Edge} :
    awOps P Ω ops (Oper.mk d (.panic x) t pos aft none :: rest) K Kp fr H = panicK (ev fr x) (Kp fr) H := (rfl)
/-- the parser in memory -/
def pst (m : Mark) (l : List Tok) (p tb : Nat) (t : List Nd) : AObj := .cells [.slice m 3 (toks l), .int .i64 (p : Int), .slice (.own tb) 7 (nds t)]
def onP (o : Option AObj) (K : Mark → List Tok → Nat → Nat → List Nd → Prop) : Prop := ∃ m l p tb t, o = some (pst m l p tb t) ∧ K m l p tb t
@[congr] theorem onP_congr {o o' : Option AObj} {K : Mark → List Tok → Nat → Nat → List Nd → Prop} (h : o = o') : onP o K = onP o' K := by rw [h]
theorem onP_some {m : Mark} {l : List Tok} {p tb : Nat} {t : List Nd} {K : Mark → List Tok → Nat → Nat → List Nd → Prop} : onP (some (pst m l p tb t)) K = K m l p tb t := by
  refine propext ⟨fun ⟨m', l', p', tb', t', h, hk⟩ => ?_, fun h => ⟨m, l, p, tb, t, rfl, h⟩⟩
  simp only [pst, Option.some.injEq, AObj.cells.injEq, List.cons.injEq, AV.slice.injEq, AV.int.injEq, Mark.own.injEq, true_and, and_true] at h
  obtain ⟨⟨rfl, h1⟩, h2, rfl, h3⟩ := h
  have := toks_inj h1
  have := nds_inj h3
  have : p = p' := by omega
  subst_vars
  exact hk
theorem onP_some' {m : Mark} {l : List Tok} {p tb : Nat} {t : List Nd} {K : Mark → List Tok → Nat → Nat → List Nd → Prop} : onP (some (.cells [.slice m 3 (toks l), .int .i64 (p : Int), .slice (.own tb) 7 (nds t)])) K = K m l p tb t := onP_some
def e_yFail : List AV → AHeap → (AEnd → AHeap → Prop) → Prop
  | [.ptr id 0], H, K => onP (H.get id) fun m l p tb t => K (.panic (.iface 166 (.int .i64 (p : Int)))) H
  | _, _, _ => False
theorem ytb6 : (type_of% @ti_int) ∧ (type_of% @ti_value) ∧ (type_of% @ti_u64) ∧ (type_of% @ti_Number) ∧ (type_of% @ti_words) ∧ (type_of% @ti_bool) ∧ (type_of% @ti_ints) ∧ (type_of% @ti_Int) ∧ (type_of% @ti_uint) ∧ (type_of% @ti_bytes) ∧ (type_of% @ti_u8) ∧ (type_of% @ti_string) ∧ (type_of% @ti_bits) ∧ (type_of% @ti_strs) ∧ (type_of% @ti_xTok) ∧ (type_of% @ti_fTok) ∧ (type_of% @ti_xToks) ∧ (type_of% @ti_fToks) ∧ (type_of% @ti_errno) ∧ (type_of% @ti_codes) ∧ (type_of% @ti_node) ∧ (type_of% @ti_nodes) ∧ (type_of% @ti_parser) ∧ (type_of% @ti_operator) ∧ (type_of% @ti_operators) ∧ (type_of% @ti_wrong) :=
  ⟨@ti_int, @ti_value, @ti_u64, @ti_Number, @ti_words, @ti_bool, @ti_ints, @ti_Int, @ti_uint, @ti_bytes, @ti_u8, @ti_string, @ti_bits, @ti_strs, @ti_xTok, @ti_fTok, @ti_xToks, @ti_fToks, @ti_errno, @ti_codes, @ti_node, @ti_nodes, @ti_parser, @ti_operator, @ti_operators, @ti_wrong⟩
theorem ok_yFail : EntOk Try.prog 125 (Ent.effect e_yFail) := by
  refine EntOk.effect fun args H K h => ?_
  unfold e_yFail at h
  split at h
  rotate_left
  · exact h.elim
  rename_i id
  obtain ⟨m, l, p, tb, t, hg, hK⟩ := h
  refine ⟨_, _, hK, ?_⟩
  clear hK
  refine ACalls.of_aw (Ω := []) (T := assoc []) mixed TblOk.nil Try.func125 (by kernel_rfl) (by rfl) (rs := []) (by rfl) (by kernel_rfl) (by simp only [Try.ntmps125, yaz, yba]; decide) (Nat.le_refl _) fun hcl hlt => ?_
  change aw _ _ _ (KI Try.prog [] (aEnd Try.prog [] H.nx _ _) []) _ _
  clear hlt
  have hcs := cells_some (cs := [.slice m 3 (toks l), .int .i64 (p : Int), .slice (.own tb) 7 (nds t)]) hg
  simp only [↓bwp, bwq, yaa, yab, yac, yad, ne_eq, reduceCtorEq, Nat.reduceEqDiff, Nat.reduceAdd, Nat.reduceMul, Nat.reduceSub, Nat.reduceLeDiff, Nat.reduceLT, Int.reduceMul, Int.reduceAdd, Int.reduceSub, yae, yaf, yag, yah, yai, if_true, if_false, yaj, yak, bvq, rEq, yal, Int.reduceToNat, yam, yan, TD.agg, yao, yap, yaq, yar, yas, yat, yau, yav, splice, zhb, zhc, yaw, yax, yay, zhd, zhe, rLen, rBin, rInt, rStr, rUn, zhf, zhg, zhh, zhi, zhj, rBox, zhk, zhl, zhm, zhn, zho, zhp, zhq, zhr, zhs, zht, zhu, zhv, zhw, zhx, zhy, zhz, zia, zib, zic, bound, addL, addT, grow, room, yaz, yba, ybb, frOf, ytb6, ↓blp, blq, hcs, ↓ao_panic, panicK_iface]
  simp (disch := first | assumption | omega | (simp; done) | (simp; omega) | (simp only [bt, and_true]; first | done | omega | (simp; done))) [↓zkt, beq, ybc, ybd, ybe, endOk, wk, wk2, wk1, wkM, wkL, wkLL, ybf, hcl]
def e_yAdd : List AV → AHeap → (AEnd → AHeap → Prop) → Prop
  | [.ptr id 0, .agg [.int .i64 op, .int .i64 a, .int .i64 b, .str nm, .str att, .int .u64 hi, .int .u64 lo]], H, K => onP (H.get id) fun m l p tb t =>
      (0 ≤ op ∧ 0 ≤ a ∧ 0 ≤ b ∧ isV hi lo ∧ id ≠ tb ∧ H.get tb = some (.buf 7 t.length) ∧ t.length ≤ 100000) ∧
      K (.ret (.int .i64 (t.length : Int))) ((H.set id (pst m l p tb (t ++ [⟨op.toNat, a.toNat, b.toNat, nm, att, vOf hi.toNat lo.toNat⟩]))).set tb (.buf 7 (t.length + 1)))
  | _, _, _ => False
theorem pst_closed {H : AHeap} {id : Nat} {m : Mark} {l : List Tok} {p tb : Nat} {t : List Nd} (hg : H.get id = some (pst m l p tb t)) (hcl : H.Closed) (p' : Nat) (t' : List Nd) : (H.set id (pst m l p' tb t')).Closed := by
  have h0 := hcl id _ hg 0 (by simp)
  have h2 := hcl id _ hg 2 (by simp)
  simp only [List.getElem_cons_zero, List.getElem_cons_succ, toks_lt', nds_lt] at h0 h2
  refine closed_set hcl ?_
  simp only [zlz, zma, toks_lt', nds_lt, zlk, and_true, true_and]
  exact ⟨h0, h2⟩
theorem set_comm' {H : AHeap} {i j : Nat} (h : i ≠ j) (o c : AObj) : (H.set j o).set i c = (H.set i c).set j o := by
  simp only [AHeap.set]
  congr 1
  funext k
  by_cases h1 : k = i
  · subst h1; simp [h]
  · simp [h1]
theorem cells_set_far {H : AHeap} {i j : Nat} (h : i ≠ j) (o : AObj) : cellsOf? (H.set j o) i = cellsOf? H i := by
  unfold cellsOf?; rw [AHeap.get_set_ne _ _ h]
theorem ok_yAdd : EntOk Try.prog 138 (Ent.effect e_yAdd) := by
  refine EntOk.effect fun args H K h => ?_
  unfold e_yAdd at h
  split at h
  rotate_left
  · exact h.elim
  rename_i id op a b nm att hi lo
  obtain ⟨m, l, p, tb, t, hg, ⟨h1, h2, h3, ⟨h4, h5, h6, h7⟩, hne, htb, htl⟩, hK⟩ := h
  refine ⟨_, _, hK, ?_⟩
  clear hK
  obtain ⟨op, rfl⟩ := u64_lift h1
  obtain ⟨a, rfl⟩ := u64_lift h2
  obtain ⟨b, rfl⟩ := u64_lift h3
  obtain ⟨hi, rfl⟩ := u64_lift h4
  obtain ⟨lo, rfl⟩ := u64_lift h6
  simp only [Int.toNat_natCast]
  refine ACalls.of_aw (Ω := []) (T := assoc [(1, [[], [], [], [], [], [], [5], [4, 5], [], [], [4, 5]])]) mixed TblOk.nil Try.func138 (by kernel_rfl) (by rfl) (rs := [.tmp 4]) (by rfl) (by kernel_rfl) (by simp only [Try.ntmps138, yaz, yba]; decide) (Nat.le_refl _) fun hcl hlt => ?_
  change aw _ _ _ (KI Try.prog [] (aEnd Try.prog [.tmp 4] H.nx _ _ (assoc [(1, [[], [], [], [], [], [], [5], [4, 5], [], [], [4, 5]])])) []) _ _
  clear hlt
  have hid := AHeap.get_lt hg
  have htbl := AHeap.get_lt htb
  have hcs := cells_some (cs := [.slice m 3 (toks l), .int .i64 (p : Int), .slice (.own tb) 7 (nds t)]) hg
  have f1 := far_of hid
  have f2 := far_of htbl
  have g1 : (id = tb) = False := eq_false hne
  have g2 : (tb = id) = False := eq_false fun e => hne e.symm
  have e1 : nds t ++ [AV.agg [.int .i64 (op : Int), .int .i64 (a : Int), .int .i64 (b : Int), .str nm, .str att, .int .u64 (hi : Int), .int .u64 (lo : Int)]] = nds (t ++ [⟨op, a, b, nm, att, vOf hi lo⟩]) := by
    rw [← nds_snoc]; unfold ndAV; simp only; rw [vOf_hi (by omega), vOf_lo (by omega)]
  have e2 : IntKind.i64.wrap (((t.length + 1 : Nat) : Int) - 1) = (t.length : Int) := by rw [wrap_i64] <;> omega
  have hcl1 := pst_closed hg hcl p (t ++ [⟨op, a, b, nm, att, vOf hi lo⟩])
  have hcl2 : ((H.set id (pst m l p tb (t ++ [⟨op, a, b, nm, att, vOf hi lo⟩]))).set tb (.buf 7 (t.length + 1))).Closed := closed_set_buf hcl1
  have s1 := set_comm' (H := H) hne
  have s2 := fun o => (cells_set_far (H := H) hne o).trans hcs
  have s3 : ∀ o cs, cellsOf? ((H.set id (.cells cs)).set tb o) id = some cs := fun o cs => by rw [cells_set_far hne, cells_set hid, if_pos rfl]
  simp only [↓bwp, bwq, yaa, yab, yac, yad, ne_eq, reduceCtorEq, Nat.reduceEqDiff, Nat.reduceAdd, Nat.reduceMul, Nat.reduceSub, Nat.reduceLeDiff, Nat.reduceLT, Int.reduceMul, Int.reduceAdd, Int.reduceSub, yae, yaf, yag, yah, yai, if_true, if_false, yaj, yak, bvq, rEq, yal, Int.reduceToNat, yam, yan, TD.agg, yao, yap, yaq, yar, yas, yat, yau, yav, splice, zhb, zhc, yaw, yax, yay, zhd, zhe, rLen, rBin, rInt, rStr, rUn, zhf, zhg, zhh, zhi, zhj, rBox, zhk, zhl, zhm, zhn, zho, zhp, zhq, zhr, zhs, zht, zhu, zhv, zhw, zhx, zhy, zhz, zia, zib, zic, bound, addL, addT, grow, room, yaz, yba, ybb, frOf, ytb6, ↓blp, blq, hcs, nds_length, f1, f2, g1, g2, htb, heap_get_set, if_pos htbl, e1, s1, s2, s3, e2, List.length_append]
  refine ⟨⟨by omega, by omega, by simp [allOne, AV.cells, AV.one]⟩, ?_⟩
  simp only [pst] at hcl2 ⊢
  simp (disch := first | assumption | omega | (simp; done) | (simp; omega) | (simp only [bt, and_true]; first | done | omega | (simp; done))) [↓zkt, beq, ybc, ybd, ybe, endOk, wk, wk2, wk1, wkM, wkL, wkLL, ybf, hcl2, htbl, nds_lt]
  trace_state
theorem isS_at {l : List Tok} {p k z : Nat} {x s : List UInt8} (hp : p < l.length) (h : l[p] = (k, x, z)) : isS l p s = (k == 3 && x == s) := by
  unfold isS; rw [List.getElem?_eq_getElem hp, h]
theorem isS_end {l : List Tok} {p : Nat} {s : List UInt8} (hp : l.length ≤ p) : isS l p s = false := by
  unfold isS; rw [List.getElem?_eq_none hp]
theorem tok_get {l : List Tok} {p k z : Nat} {x : List UInt8} (hp : p < l.length) (h : l[p] = (k, x, z)) : (toks l).getD p .junk = .agg [.int .i64 (k : Int), .str x, .int .i64 (z : Int)] := by
  rw [toks_get hp, h]; rfl
def e_ySym : List AV → AHeap → (AEnd → AHeap → Prop) → Prop
  | [.ptr id 0, .str s], H, K => onP (H.get id) fun m l p tb t => (p ≤ l.length ∧ l.length ≤ 100000) ∧
      if isS l p s = true then K (.ret (.bool true)) (H.set id (pst m l (p + 1) tb t)) else K (.ret (.bool false)) H
  | _, _, _ => False
theorem ok_ySym : EntOk Try.prog 137 (Ent.effect e_ySym) := by
  refine EntOk.effect fun args H K h => ?_
  unfold e_ySym at h
  split at h
  rotate_left
  · exact h.elim
  rename_i id s
  obtain ⟨m, l, p, tb, t, hg, ⟨hp, hl⟩, hK⟩ := h
  have hid := AHeap.get_lt hg
  have hcs := cells_some (cs := [.slice m 3 (toks l), .int .i64 (p : Int), .slice (.own tb) 7 (nds t)]) hg
  have e1 : IntKind.i64.wrap ((p : Int) + 1) = ((p + 1 : Nat) : Int) := by rw [wrap_i64] <;> omega
  by_cases hlt0 : p < l.length
  · rcases htk : l[p] with ⟨k, x, z⟩
    have hgd := tok_get hlt0 htk
    rw [isS_at hlt0 htk] at hK
    have d1 : ((p : Int) == (l.length : Int)) = false := by simp; omega
    by_cases hk : k = 3
    · subst hk
      by_cases hx : x = s
      · subst hx
        simp only [beq_self_eq_true, Bool.and_self, if_true] at hK
        refine ⟨_, _, hK, ?_⟩
        clear hK
        refine ACalls.of_aw (Ω := []) (T := assoc []) mixed TblOk.nil Try.func137 (by kernel_rfl) (by rfl) (rs := [.tmp 4]) (by rfl) (by kernel_rfl) (by simp only [Try.ntmps137, yaz, yba]; decide) (Nat.le_refl _) fun hcl hlt => ?_
        change aw _ _ _ (KI Try.prog [] (aEnd Try.prog [.tmp 4] H.nx _ _ (assoc [])) []) _ _
        clear hlt
        have hcl1 := pst_closed hg hcl (p + 1) t
        simp only [↓bwp, bwq, yaa, yab, yac, yad, ne_eq, reduceCtorEq, Nat.reduceEqDiff, Nat.reduceAdd, Nat.reduceMul, Nat.reduceSub, Nat.reduceLeDiff, Nat.reduceLT, Int.reduceMul, Int.reduceAdd, Int.reduceSub, yae, yaf, yag, yah, yai, if_true, if_false, yaj, yak, bvq, rEq, yal, Int.reduceToNat, yam, yan, TD.agg, yao, yap, yaq, yar, yas, yat, yau, yav, splice, zhb, zhc, yaw, yax, yay, zhd, zhe, rLen, rBin, rInt, rStr, rUn, zhf, zhg, zhh, zhi, zhj, rBox, zhk, zhl, zhm, zhn, zho, zhp, zhq, zhr, zhs, zht, zhu, zhv, zhw, zhx, zhy, zhz, zia, zib, zic, bound, addL, addT, grow, room, yaz, yba, ybb, frOf, ytb6, ↓blp, blq, hcs, toks_length, hgd, d1, Int.toNat_natCast, e1, beq_self_eq_true, bne_self_eq_false]
        refine ⟨by omega, both_ff rfl ⟨by omega, ?_⟩⟩
        change endOk (H.set id (pst m l (p + 1) tb t)) _ _ _
        simp (disch := first | assumption | omega | (simp; done) | (simp; omega) | (simp only [bt, and_true]; first | done | omega | (simp; done))) [↓zkt, beq, ybc, ybd, ybe, endOk, wk, wk2, wk1, wkM, wkL, wkLL, ybf, hcl1]
      · have d3 : (x == s) = false := by simpa using hx
        rw [d3, Bool.and_false, if_neg (by simp)] at hK
        refine ⟨_, _, hK, ?_⟩
        clear hK
        refine ACalls.of_aw (Ω := []) (T := assoc []) mixed TblOk.nil Try.func137 (by kernel_rfl) (by rfl) (rs := [.tmp 4]) (by rfl) (by kernel_rfl) (by simp only [Try.ntmps137, yaz, yba]; decide) (Nat.le_refl _) fun hcl hlt => ?_
        change aw _ _ _ (KI Try.prog [] (aEnd Try.prog [.tmp 4] H.nx _ _ (assoc [])) []) _ _
        clear hlt
        simp only [↓bwp, bwq, yaa, yab, yac, yad, ne_eq, reduceCtorEq, Nat.reduceEqDiff, Nat.reduceAdd, Nat.reduceMul, Nat.reduceSub, Nat.reduceLeDiff, Nat.reduceLT, Int.reduceMul, Int.reduceAdd, Int.reduceSub, yae, yaf, yag, yah, yai, if_true, if_false, yaj, yak, bvq, rEq, yal, Int.reduceToNat, yam, yan, TD.agg, yao, yap, yaq, yar, yas, yat, yau, yav, splice, zhb, zhc, yaw, yax, yay, zhd, zhe, rLen, rBin, rInt, rStr, rUn, zhf, zhg, zhh, zhi, zhj, rBox, zhk, zhl, zhm, zhn, zho, zhp, zhq, zhr, zhs, zht, zhu, zhv, zhw, zhx, zhy, zhz, zia, zib, zic, bound, addL, addT, grow, room, yaz, yba, ybb, frOf, ytb6, ↓blp, blq, hcs, toks_length, hgd, d1, d3, Int.toNat_natCast, e1, beq_self_eq_true, bne_self_eq_false]
        refine ⟨by omega, both_ff rfl ⟨by omega, ?_⟩⟩
        simp (disch := first | assumption | omega | (simp; done) | (simp; omega) | (simp only [bt, and_true]; first | done | omega | (simp; done))) [↓zkt, beq, ybc, ybd, ybe, endOk, wk, wk2, wk1, wkM, wkL, wkLL, ybf, hcl]
    · have d3 : (k == 3) = false := by simpa using hk
      rw [d3, Bool.false_and, if_neg (by simp)] at hK
      refine ⟨_, _, hK, ?_⟩
      clear hK
      refine ACalls.of_aw (Ω := []) (T := assoc []) mixed TblOk.nil Try.func137 (by kernel_rfl) (by rfl) (rs := [.tmp 4]) (by rfl) (by kernel_rfl) (by simp only [Try.ntmps137, yaz, yba]; decide) (Nat.le_refl _) fun hcl hlt => ?_
      change aw _ _ _ (KI Try.prog [] (aEnd Try.prog [.tmp 4] H.nx _ _ (assoc [])) []) _ _
      clear hlt
      have d4 : ((k : Int) != 3) = true := by simp; omega
      simp only [↓bwp, bwq, yaa, yab, yac, yad, ne_eq, reduceCtorEq, Nat.reduceEqDiff, Nat.reduceAdd, Nat.reduceMul, Nat.reduceSub, Nat.reduceLeDiff, Nat.reduceLT, Int.reduceMul, Int.reduceAdd, Int.reduceSub, yae, yaf, yag, yah, yai, if_true, if_false, yaj, yak, bvq, rEq, yal, Int.reduceToNat, yam, yan, TD.agg, yao, yap, yaq, yar, yas, yat, yau, yav, splice, zhb, zhc, yaw, yax, yay, zhd, zhe, rLen, rBin, rInt, rStr, rUn, zhf, zhg, zhh, zhi, zhj, rBox, zhk, zhl, zhm, zhn, zho, zhp, zhq, zhr, zhs, zht, zhu, zhv, zhw, zhx, zhy, zhz, zia, zib, zic, bound, addL, addT, grow, room, yaz, yba, ybb, frOf, ytb6, ↓blp, blq, hcs, toks_length, hgd, d1, d4, Int.toNat_natCast, e1, beq_self_eq_true, bne_self_eq_false]
      refine ⟨by omega, ?_⟩
      simp (disch := first | assumption | omega | (simp; done) | (simp; omega) | (simp only [bt, and_true]; first | done | omega | (simp; done))) [↓zkt, beq, ybc, ybd, ybe, endOk, wk, wk2, wk1, wkM, wkL, wkLL, ybf, hcl]
  · have hpe : p = l.length := by omega
    subst hpe
    rw [isS_end (Nat.le_refl _), if_neg (by simp)] at hK
    refine ⟨_, _, hK, ?_⟩
    clear hK
    refine ACalls.of_aw (Ω := []) (T := assoc []) mixed TblOk.nil Try.func137 (by kernel_rfl) (by rfl) (rs := [.tmp 4]) (by rfl) (by kernel_rfl) (by simp only [Try.ntmps137, yaz, yba]; decide) (Nat.le_refl _) fun hcl hlt => ?_
    change aw _ _ _ (KI Try.prog [] (aEnd Try.prog [.tmp 4] H.nx _ _ (assoc [])) []) _ _
    clear hlt
    simp only [↓bwp, bwq, yaa, yab, yac, yad, ne_eq, reduceCtorEq, Nat.reduceEqDiff, Nat.reduceAdd, Nat.reduceMul, Nat.reduceSub, Nat.reduceLeDiff, Nat.reduceLT, Int.reduceMul, Int.reduceAdd, Int.reduceSub, yae, yaf, yag, yah, yai, if_true, if_false, yaj, yak, bvq, rEq, yal, Int.reduceToNat, yam, yan, TD.agg, yao, yap, yaq, yar, yas, yat, yau, yav, splice, zhb, zhc, yaw, yax, yay, zhd, zhe, rLen, rBin, rInt, rStr, rUn, zhf, zhg, zhh, zhi, zhj, rBox, zhk, zhl, zhm, zhn, zho, zhp, zhq, zhr, zhs, zht, zhu, zhv, zhw, zhx, zhy, zhz, zia, zib, zic, bound, addL, addT, grow, room, yaz, yba, ybb, frOf, ytb6, ↓blp, blq, hcs, toks_length, beq_self_eq_true]
    simp (disch := first | assumption | omega | (simp; done) | (simp; omega) | (simp only [bt, and_true]; first | done | omega | (simp; done))) [↓zkt, beq, ybc, ybd, ybe, endOk, wk, wk2, wk1, wkM, wkL, wkLL, ybf, hcl]
def wordT (l : List Tok) (p : Nat) : Option (List UInt8) := match l[p]? with
  | none => none
  | some (k, x, _) => if k = 2 then some x else none
def onW (o : Option (List UInt8)) (K1 : List UInt8 → Prop) (K2 : Prop) : Prop := match o with
  | some x => K1 x
  | none => K2
@[congr] theorem onW_congr {o o' : Option (List UInt8)} {K1 : List UInt8 → Prop} {K2 : Prop} (h : o = o') : onW o K1 K2 = onW o' K1 K2 := by rw [h]
theorem onW_some {x : List UInt8} {K1 : List UInt8 → Prop} {K2 : Prop} : onW (some x) K1 K2 = K1 x := rfl
theorem onW_none {K1 : List UInt8 → Prop} {K2 : Prop} : onW none K1 K2 = K2 := rfl
def e_yWord : List AV → AHeap → (AEnd → AHeap → Prop) → Prop
  | [.ptr id 0, .int .i64 kd], H, K => onP (H.get id) fun m l p tb t => (kd = 2 ∧ p ≤ l.length ∧ l.length ≤ 100000) ∧
      onW (wordT l p) (fun x => K (.ret (.str x)) (H.set id (pst m l (p + 1) tb t))) (K (.panic (.iface 166 (.int .i64 (p : Int)))) H)
  | _, _, _ => False
theorem ok_yWord : EntOk Try.prog 159 (Ent.effect e_yWord) := by
  refine EntOk.effect fun args H K h => ?_
  unfold e_yWord at h
  split at h
  rotate_left
  · exact h.elim
  rename_i id kd
  obtain ⟨m, l, p, tb, t, hg, ⟨rfl, hp, hl⟩, hK⟩ := h
  have hid := AHeap.get_lt hg
  have hcs := cells_some (cs := [.slice m 3 (toks l), .int .i64 (p : Int), .slice (.own tb) 7 (nds t)]) hg
  have e1 : IntKind.i64.wrap ((p : Int) + 1) = ((p + 1 : Nat) : Int) := by rw [wrap_i64] <;> omega
  have e2 : IntKind.i64.wrap (((p + 1 : Nat) : Int) - 1) = (p : Int) := by rw [wrap_i64] <;> omega
  unfold wordT at hK
  by_cases hlt0 : p < l.length
  · rcases htk : l[p] with ⟨k, x, z⟩
    have hgd := tok_get hlt0 htk
    rw [List.getElem?_eq_getElem hlt0, htk] at hK
    dsimp only at hK
    have d1 : ((p : Int) == (l.length : Int)) = false := by simp; omega
    by_cases hk : k = 2
    · subst hk
      rw [if_pos rfl, onW_some] at hK
      refine ⟨_, _, hK, ?_⟩
      clear hK
      refine ACalls.of_aw (Ω := [(125, Ent.effect e_yFail)]) (T := assoc []) mixed (TblOk.cons ok_yFail TblOk.nil) Try.func159 (by kernel_rfl) (by rfl) (rs := [.tmp 4]) (by rfl) (by kernel_rfl) (by simp only [Try.ntmps159, yaz, yba]; decide) (by simp [zjk]) fun hcl hlt => ?_
      change aw _ _ _ (KI Try.prog [(125, Ent.effect e_yFail)] (aEnd Try.prog [.tmp 4] H.nx _ _ (assoc [])) []) _ _
      clear hlt
      have hcl1 := pst_closed hg hcl (p + 1) t
      simp only [↓bwp, bwq, yaa, yab, yac, yad, ne_eq, reduceCtorEq, Nat.reduceEqDiff, Nat.reduceAdd, Nat.reduceMul, Nat.reduceSub, Nat.reduceLeDiff, Nat.reduceLT, Int.reduceMul, Int.reduceAdd, Int.reduceSub, yae, yaf, yag, yah, yai, if_true, if_false, yaj, yak, bvq, rEq, yal, Int.reduceToNat, yam, yan, TD.agg, yao, yap, yaq, yar, yas, yat, yau, yav, splice, zhb, zhc, yaw, yax, yay, zhd, zhe, rLen, rBin, rInt, rStr, rUn, zhf, zhg, zhh, zhi, zhj, rBox, zhk, zhl, zhm, zhn, zho, zhp, zhq, zhr, zhs, zht, zhu, zhv, zhw, zhx, zhy, zhz, zia, zib, zic, bound, addL, addT, grow, room, yaz, yba, ybb, frOf, ytb6, ↓blp, blq, hcs, toks_length, hgd, d1, Int.toNat_natCast, e1, e2, cells_set hid, beq_self_eq_true, bne_self_eq_false]
      refine ⟨by omega, cond_ff rfl ?_⟩
      simp only [↓bwp, bwq, yaa, yab, yac, yad, ne_eq, reduceCtorEq, Nat.reduceEqDiff, Nat.reduceAdd, Nat.reduceMul, Nat.reduceSub, Nat.reduceLeDiff, Nat.reduceLT, Int.reduceMul, Int.reduceAdd, Int.reduceSub, yae, yaf, yag, yah, yai, if_true, if_false, yaj, yak, bvq, rEq, yal, Int.reduceToNat, yam, yan, TD.agg, yao, yap, yaq, yar, yas, yat, yau, yav, splice, zhb, zhc, yaw, yax, yay, zhd, zhe, rLen, rBin, rInt, rStr, rUn, zhf, zhg, zhh, zhi, zhj, rBox, zhk, zhl, zhm, zhn, zho, zhp, zhq, zhr, zhs, zht, zhu, zhv, zhw, zhx, zhy, zhz, zia, zib, zic, bound, addL, addT, grow, room, yaz, yba, ybb, frOf, ytb6, ↓blp, blq, hcs, toks_length, hgd, d1, Int.toNat_natCast, e1, e2, cells_set hid, beq_self_eq_true, bne_self_eq_false]
      refine ⟨by omega, ?_⟩
      change endOk (H.set id (pst m l (p + 1) tb t)) _ _ _
      simp (disch := first | assumption | omega | (simp; done) | (simp; omega) | (simp only [bt, and_true]; first | done | omega | (simp; done))) [↓zkt, beq, ybc, ybd, ybe, endOk, wk, wk2, wk1, wkM, wkL, wkLL, ybf, hcl1]
    · have d3 : (k == 2) = false := by simpa using hk
      rw [if_neg hk, onW_none] at hK
      refine ⟨_, _, hK, ?_⟩
      clear hK
      refine ACalls.of_aw (Ω := [(125, Ent.effect e_yFail)]) (T := assoc []) mixed (TblOk.cons ok_yFail TblOk.nil) Try.func159 (by kernel_rfl) (by rfl) (rs := [.tmp 4]) (by rfl) (by kernel_rfl) (by simp only [Try.ntmps159, yaz, yba]; decide) (Nat.le_refl _) fun hcl hlt => ?_
      change aw _ _ _ (KI Try.prog [(125, Ent.effect e_yFail)] (aEnd Try.prog [.tmp 4] H.nx _ _ (assoc [])) []) _ _
      clear hlt
      have d4 : ((k : Int) != 2) = true := by simp; omega
      simp only [↓bwp, bwq, yaa, yab, yac, yad, ne_eq, reduceCtorEq, Nat.reduceEqDiff, Nat.reduceAdd, Nat.reduceMul, Nat.reduceSub, Nat.reduceLeDiff, Nat.reduceLT, Int.reduceMul, Int.reduceAdd, Int.reduceSub, yae, yaf, yag, yah, yai, if_true, if_false, yaj, yak, bvq, rEq, yal, Int.reduceToNat, yam, yan, TD.agg, yao, yap, yaq, yar, yas, yat, yau, yav, splice, zhb, zhc, yaw, yax, yay, zhd, zhe, rLen, rBin, rInt, rStr, rUn, zhf, zhg, zhh, zhi, zhj, rBox, zhk, zhl, zhm, zhn, zho, zhp, zhq, zhr, zhs, zht, zhu, zhv, zhw, zhx, zhy, zhz, zia, zib, zic, bound, addL, addT, grow, room, yaz, yba, ybb, frOf, ytb6, ↓blp, blq, hcs, toks_length, hgd, d1, d4, Int.toNat_natCast, e1, e_yFail, hg, onP_some]
      refine ⟨by omega, ?_⟩
      simp (disch := first | assumption | omega | (simp; done) | (simp; omega) | (simp only [bt, and_true]; first | done | omega | (simp; done))) [↓zkt, beq, ybc, ybd, ybe, endOk, wk, wk2, wk1, wkM, wkL, wkLL, ybf, hcl]
  · have hpe : p = l.length := by omega
    subst hpe
    rw [List.getElem?_eq_none (Nat.le_refl _)] at hK
    dsimp only at hK
    rw [onW_none] at hK
    refine ⟨_, _, hK, ?_⟩
    clear hK
    refine ACalls.of_aw (Ω := [(125, Ent.effect e_yFail)]) (T := assoc []) mixed (TblOk.cons ok_yFail TblOk.nil) Try.func159 (by kernel_rfl) (by rfl) (rs := [.tmp 4]) (by rfl) (by kernel_rfl) (by simp only [Try.ntmps159, yaz, yba]; decide) (Nat.le_refl _) fun hcl hlt => ?_
    change aw _ _ _ (KI Try.prog [(125, Ent.effect e_yFail)] (aEnd Try.prog [.tmp 4] H.nx _ _ (assoc [])) []) _ _
    clear hlt
    simp only [↓bwp, bwq, yaa, yab, yac, yad, ne_eq, reduceCtorEq, Nat.reduceEqDiff, Nat.reduceAdd, Nat.reduceMul, Nat.reduceSub, Nat.reduceLeDiff, Nat.reduceLT, Int.reduceMul, Int.reduceAdd, Int.reduceSub, yae, yaf, yag, yah, yai, if_true, if_false, yaj, yak, bvq, rEq, yal, Int.reduceToNat, yam, yan, TD.agg, yao, yap, yaq, yar, yas, yat, yau, yav, splice, zhb, zhc, yaw, yax, yay, zhd, zhe, rLen, rBin, rInt, rStr, rUn, zhf, zhg, zhh, zhi, zhj, rBox, zhk, zhl, zhm, zhn, zho, zhp, zhq, zhr, zhs, zht, zhu, zhv, zhw, zhx, zhy, zhz, zia, zib, zic, bound, addL, addT, grow, room, yaz, yba, ybb, frOf, ytb6, ↓blp, blq, hcs, toks_length, beq_self_eq_true, e_yFail, hg, onP_some]
    simp (disch := first | assumption | omega | (simp; done) | (simp; omega) | (simp only [bt, and_true]; first | done | omega | (simp; done))) [↓zkt, beq, ybc, ybd, ybe, endOk, wk, wk2, wk1, wkM, wkL, wkLL, ybf, hcl]
def opsAV (l : List (Nat × List UInt8)) : List AV := l.map fun o => .agg [.int .i64 (o.1 : Int), .str o.2]
theorem opsAV_length {l : List (Nat × List UInt8)} : (opsAV l).length = l.length := by simp [opsAV]
theorem opsAV_inj : ∀ {l l' : List (Nat × List UInt8)}, opsAV l = opsAV l' → l = l'
  | [], [], _ => rfl
  | [], _ :: _, h => by cases h
  | _ :: _, [], h => by cases h
  | (a, b) :: l, (a', b') :: l', h => by
    simp only [opsAV, yae, List.cons.injEq, AV.agg.injEq, AV.int.injEq, AV.str.injEq, true_and, and_true] at h
    obtain ⟨⟨h1, h2⟩, h4⟩ := h
    rw [opsAV_inj h4]
    congr 1
    simp only [Prod.mk.injEq]
    exact ⟨by omega, h2⟩
theorem opsAV_lt {n : Nat} {l : List (Nat × List UInt8)} : AV.lt n (.slice .any 2 (opsAV l)) := lt_slice fun x hx => by
  simp only [opsAV, List.mem_map] at hx
  obtain ⟨o, _, rfl⟩ := hx
  simp [zlw, zlz, zma, zlk, zlm]
theorem opsC_AV : [AV.agg [.int .i64 8, .str [61, 61]], .agg [.int .i64 9, .str [33, 61]], .agg [.int .i64 10, .str [60]], .agg [.int .i64 11, .str [60, 61]], .agg [.int .i64 12, .str [62]], .agg [.int .i64 13, .str [62, 61]]] = opsAV opsC := rfl
theorem opsS_AV : [AV.agg [.int .i64 6, .str [43]], .agg [.int .i64 7, .str [45]]] = opsAV opsS := rfl
def p_yCompares : List AV → AHeap → (AV → Prop) → Prop
  | [], _, K => K (.slice .any 2 (opsAV opsC))
  | _, _, _ => False
theorem ok_yCompares : EntOk Try.prog 150 (Ent.pure p_yCompares) := by
  refine EntOk.pure fun args H K h => ?_
  unfold p_yCompares at h
  split at h
  rotate_left
  · exact h.elim
  refine ⟨_, h, ?_⟩
  clear h
  refine ACalls.of_aw (Ω := []) (T := assoc []) mixed TblOk.nil Try.func150 (by kernel_rfl) (by rfl) (rs := [.tmp 0]) (by rfl) (by kernel_rfl) (by simp only [Try.ntmps150, yaz, yba]; decide) (Nat.le_refl _) fun hcl hlt => ?_
  change aw _ _ _ (KI Try.prog [] (aEnd Try.prog [.tmp 0] H.nx _ _) []) _ _
  clear hlt
  simp only [↓bwp, bwq, yaa, yab, yac, yad, ne_eq, reduceCtorEq, Nat.reduceEqDiff, Nat.reduceAdd, Nat.reduceMul, Nat.reduceSub, Nat.reduceLeDiff, Nat.reduceLT, Int.reduceMul, Int.reduceAdd, Int.reduceSub, yae, yaf, yag, yah, yai, if_true, if_false, yaj, yak, bvq, rEq, yal, Int.reduceToNat, yam, yan, TD.agg, yao, yap, yaq, yar, yas, yat, yau, yav, splice, zhb, zhc, yaw, yax, yay, zhd, zhe, rLen, rBin, rInt, rStr, rUn, zhf, zhg, zhh, zhi, zhj, rBox, zhk, zhl, zhm, zhn, zho, zhp, zhq, zhr, zhs, zht, zhu, zhv, zhw, zhx, zhy, zhz, zia, zib, zic, bound, addL, addT, grow, room, yaz, yba, ybb, frOf, ytb6, ↓blp, blq, opsC_AV]
  simp (disch := first | assumption | omega | (simp; done) | (simp; omega) | (simp only [bt, and_true]; first | done | omega | (simp; done))) [↓zkt, beq, ybc, ybd, ybe, endOk, wk, wk2, wk1, wkM, wkL, wkLL, ybf, hcl, opsAV_lt]
def p_ySums : List AV → AHeap → (AV → Prop) → Prop
  | [], _, K => K (.slice .any 2 (opsAV opsS))
  | _, _, _ => False
theorem ok_ySums : EntOk Try.prog 153 (Ent.pure p_ySums) := by
  refine EntOk.pure fun args H K h => ?_
  unfold p_ySums at h
  split at h
  rotate_left
  · exact h.elim
  refine ⟨_, h, ?_⟩
  clear h
  refine ACalls.of_aw (Ω := []) (T := assoc []) mixed TblOk.nil Try.func153 (by kernel_rfl) (by rfl) (rs := [.tmp 0]) (by rfl) (by kernel_rfl) (by simp only [Try.ntmps153, yaz, yba]; decide) (Nat.le_refl _) fun hcl hlt => ?_
  change aw _ _ _ (KI Try.prog [] (aEnd Try.prog [.tmp 0] H.nx _ _) []) _ _
  clear hlt
  simp only [↓bwp, bwq, yaa, yab, yac, yad, ne_eq, reduceCtorEq, Nat.reduceEqDiff, Nat.reduceAdd, Nat.reduceMul, Nat.reduceSub, Nat.reduceLeDiff, Nat.reduceLT, Int.reduceMul, Int.reduceAdd, Int.reduceSub, yae, yaf, yag, yah, yai, if_true, if_false, yaj, yak, bvq, rEq, yal, Int.reduceToNat, yam, yan, TD.agg, yao, yap, yaq, yar, yas, yat, yau, yav, splice, zhb, zhc, yaw, yax, yay, zhd, zhe, rLen, rBin, rInt, rStr, rUn, zhf, zhg, zhh, zhi, zhj, rBox, zhk, zhl, zhm, zhn, zho, zhp, zhq, zhr, zhs, zht, zhu, zhv, zhw, zhx, zhy, zhz, zia, zib, zic, bound, addL, addT, grow, room, yaz, yba, ybb, frOf, ytb6, ↓blp, blq, opsS_AV]
  simp (disch := first | assumption | omega | (simp; done) | (simp; omega) | (simp only [bt, and_true]; first | done | omega | (simp; done))) [↓zkt, beq, ybc, ybd, ybe, endOk, wk, wk2, wk1, wkM, wkL, wkLL, ybf, hcl, opsAV_lt]
def onOps (x : List AV) (K : List (Nat × List UInt8) → Prop) : Prop := ∃ l, x = opsAV l ∧ K l
theorem onOps_some {l : List (Nat × List UInt8)} {K : List (Nat × List UInt8) → Prop} : onOps (opsAV l) K = K l :=
  propext ⟨fun ⟨l', h, hk⟩ => by rw [opsAV_inj h]; exact hk, fun h => ⟨l, rfl, h⟩⟩
def onN (o : Option Nat) (K1 : Nat → Prop) (K2 : Prop) : Prop := match o with
  | some x => K1 x
  | none => K2
@[congr] theorem onN_congr {o o' : Option Nat} {K1 : Nat → Prop} {K2 : Prop} (h : o = o') : onN o K1 K2 = onN o' K1 K2 := by rw [h]
theorem onN_some {x : Nat} {K1 : Nat → Prop} {K2 : Prop} : onN (some x) K1 K2 = K1 x := rfl
theorem onN_none {K1 : Nat → Prop} {K2 : Prop} : onN none K1 K2 = K2 := rfl
def e_yOper : List AV → AHeap → (AEnd → AHeap → Prop) → Prop
  | [.ptr id 0, .slice _ 2 x], H, K => onP (H.get id) fun m l p tb t => onOps x fun ops => (p ≤ l.length ∧ l.length ≤ 100000 ∧ ops.length ≤ 100) ∧
      onN (opOf l p ops) (fun k => K (.ret (.int .i64 (k : Int))) (H.set id (pst m l (p + 1) tb t))) (K (.ret (.int .i64 0)) H)
  | _, _, _ => False
theorem opsAV_get {l : List (Nat × List UInt8)} {k : Nat} (h : k < l.length) : (opsAV l).getD k .junk = .agg [.int .i64 (l[k].1 : Int), .str l[k].2] := by simp [opsAV, List.getD_eq_getElem?_getD, h]
theorem ok_yOper : EntOk Try.prog 149 (Ent.effect e_yOper) := by
  refine EntOk.effect fun args H K h => ?_
  unfold e_yOper at h
  split at h
  rotate_left
  · exact h.elim
  rename_i id mo x
  obtain ⟨m, l, p, tb, t, hg, ops, rfl, ⟨hp, hl, ho⟩, hK⟩ := h
  have hid := AHeap.get_lt hg
  have f1 := far_of hid
  cases hop : opOf l p ops with
  | some k =>
    rw [hop, onN_some] at hK
    refine ⟨_, _, hK, ?_⟩
    clear hK
    refine ACalls.of_aw (Ω := [(137, Ent.effect e_ySym)]) (T := assoc []) mixed (TblOk.cons ok_ySym TblOk.nil) Try.func149 (by kernel_rfl) (by rfl) (rs := [.tmp 4]) (by rfl) (by kernel_rfl) (by simp only [Try.ntmps149, yaz, yba]; decide) (by simp [zjk]) fun hcl hlt => ?_
    change aw _ _ _ (KI Try.prog [(137, Ent.effect e_ySym)] (aEnd Try.prog [.tmp 4] H.nx _ _) []) _ _
    have hltm : ∀ n', H.nx ≤ n' → AV.lt n' (.slice .any 2 (opsAV ops)) := fun n' _ => opsAV_lt
    clear hlt
    have hcl1 := pst_closed hg hcl (p + 1) t
    simp only [↓bwp, bwq, yaa, yab, yac, yad, ne_eq, reduceCtorEq, Nat.reduceEqDiff, Nat.reduceAdd, Nat.reduceMul, Nat.reduceSub, Nat.reduceLeDiff, Nat.reduceLT, Int.reduceMul, Int.reduceAdd, Int.reduceSub, yae, yaf, yag, yah, yai, if_true, if_false, yaj, yak, bvq, rEq, yal, Int.reduceToNat, yam, yan, TD.agg, yao, yap, yaq, yar, yas, yat, yau, yav, splice, zhb, zhc, yaw, yax, yay, zhd, zhe, rLen, rBin, rInt, rStr, rUn, zhf, zhg, zhh, zhi, zhj, rBox, zhk, zhl, zhm, zhn, zho, zhp, zhq, zhr, zhs, zht, zhu, zhv, zhw, zhx, zhy, zhz, zia, zib, zic, bound, addL, addT, grow, room, yaz, yba, ybb, frOf, ytb6, ↓blp, blq, opsAV_length]
    refine loop_introW (A := Nat) (fun i => [(9, .int .i64 (i : Int)), (8, .int .i64 (ops.length : Int)), (7, .slice .any 2 (opsAV ops)), (0, .ptr id 0)]) (fun _ => H) (fun i => i ≤ ops.length ∧ opOf l p (ops.drop i) = some k) (fun i => ops.length - i) 0 ⟨by omega, hop⟩ ?_ fun i hi => ?_
    · (simp only [bkq, enterW, subW, ltF, ne_eq, Nat.reduceEqDiff, reduceCtorEq, opsAV_lt, hid]; try simp (disch := first | assumption | omega | (simp; done) | (simp; omega) | (simp only [bt, and_true]; first | done | omega | (simp; done))) [↓zkt, beq, ybc, ybd, ybe, endOk, wk, wk2, wk1, wkM, wkL, wkLL, ybf, byq, biq, isDs_ints, hcl, opsAV_lt, hid]; try (repeat' (first | assumption | omega | exact True.intro | refine And.intro ?_ ?_ | refine closed_buf ?_ | refine closed_set_buf ?_ | refine closed_cells ?_ ?_ | refine closed_set ?_ ?_ | refine closed_del ?_ | exact AHeap.Le.refl _ | refine AHeap.Le.push ?_ _ | refine AHeap.Le.del ?_ ?_ | (simp only [bt, and_true, true_and, opsAV_lt, hid]; first | done | omega | (simp; done)))))
    obtain ⟨hi, hop'⟩ := hi
    simp only [↓bwp, bwq, yaa, yab, yac, yad, ne_eq, reduceCtorEq, Nat.reduceEqDiff, Nat.reduceAdd, Nat.reduceMul, Nat.reduceSub, Nat.reduceLeDiff, Nat.reduceLT, Int.reduceMul, Int.reduceAdd, Int.reduceSub, yae, yaf, yag, yah, yai, if_true, if_false, yaj, yak, bvq, rEq, yal, Int.reduceToNat, yam, yan, TD.agg, yao, yap, yaq, yar, yas, yat, yau, yav, splice, zhb, zhc, yaw, yax, yay, zhd, zhe, rLen, rBin, rInt, rStr, rUn, zhf, zhg, zhh, zhi, zhj, rBox, zhk, zhl, zhm, zhn, zho, zhp, zhq, zhr, zhs, zht, zhu, zhv, zhw, zhx, zhy, zhz, zia, zib, zic, bound, addL, addT, grow, room, yaz, yba, ybb, frOf, ytb6, ↓blp, blq]
    refine cond_split (fun h1 => ?_) (fun h1 => ?_)
    · have hi1 : i < ops.length := by simp at h1; omega
      have e5 : IntKind.i64.wrap ((i : Int) + 1) = ((i + 1 : Nat) : Int) := by rw [wrap_i64] <;> omega
      have hgo := opsAV_get hi1
      rw [List.drop_eq_getElem_cons hi1] at hop'
      rcases hok : ops[i] with ⟨ko, so⟩
      rw [hok] at hop' hgo
      unfold opOf at hop'
      by_cases hs : isS l p so = true
      · rw [if_pos hs] at hop'
        cases hop'
        simp only [↓bwp, bwq, yaa, yab, yac, yad, ne_eq, reduceCtorEq, Nat.reduceEqDiff, Nat.reduceAdd, Nat.reduceMul, Nat.reduceSub, Nat.reduceLeDiff, Nat.reduceLT, Int.reduceMul, Int.reduceAdd, Int.reduceSub, yae, yaf, yag, yah, yai, if_true, if_false, yaj, yak, bvq, rEq, yal, Int.reduceToNat, yam, yan, TD.agg, yao, yap, yaq, yar, yas, yat, yau, yav, splice, zhb, zhc, yaw, yax, yay, zhd, zhe, rLen, rBin, rInt, rStr, rUn, zhf, zhg, zhh, zhi, zhj, rBox, zhk, zhl, zhm, zhn, zho, zhp, zhq, zhr, zhs, zht, zhu, zhv, zhw, zhx, zhy, zhz, zia, zib, zic, bound, addL, addT, grow, room, yaz, yba, ybb, frOf, ytb6, ↓blp, blq, Int.toNat_natCast, opsAV_length, hgo, e_ySym, f1, hg, onP_some, hs, if_true, hp, hl]
        refine ⟨by omega, ?_⟩
        simp (disch := first | assumption | omega | (simp; done) | (simp; omega) | (simp only [bt, and_true]; first | done | omega | (simp; done))) [↓zkt, beq, ybc, ybd, ybe, endOk, wk, wk2, wk1, wkM, wkL, wkLL, ybf, hcl1]
      · rw [if_neg hs] at hop'
        have hs' : isS l p so = false := by simpa using hs
        simp only [↓bwp, bwq, yaa, yab, yac, yad, ne_eq, reduceCtorEq, Nat.reduceEqDiff, Nat.reduceAdd, Nat.reduceMul, Nat.reduceSub, Nat.reduceLeDiff, Nat.reduceLT, Int.reduceMul, Int.reduceAdd, Int.reduceSub, yae, yaf, yag, yah, yai, if_true, if_false, yaj, yak, bvq, rEq, yal, Int.reduceToNat, yam, yan, TD.agg, yao, yap, yaq, yar, yas, yat, yau, yav, splice, zhb, zhc, yaw, yax, yay, zhd, zhe, rLen, rBin, rInt, rStr, rUn, zhf, zhg, zhh, zhi, zhj, rBox, zhk, zhl, zhm, zhn, zho, zhp, zhq, zhr, zhs, zht, zhu, zhv, zhw, zhx, zhy, zhz, zia, zib, zic, bound, addL, addT, grow, room, yaz, yba, ybb, frOf, ytb6, ↓blp, blq, Int.toNat_natCast, opsAV_length, hgo, e_ySym, f1, hg, onP_some, hs', if_false, hp, hl, e5]
        refine ⟨by omega, i + 1, ⟨by omega, hop'⟩, by omega, ?_⟩
        (simp only [bkq, enterW, subW, ltF, ne_eq, Nat.reduceEqDiff, reduceCtorEq, opsAV_lt, hid]; try simp (disch := first | assumption | omega | (simp; done) | (simp; omega) | (simp only [bt, and_true]; first | done | omega | (simp; done))) [↓zkt, beq, ybc, ybd, ybe, endOk, wk, wk2, wk1, wkM, wkL, wkLL, ybf, byq, biq, isDs_ints, hcl, opsAV_lt, hid]; try (repeat' (first | assumption | omega | exact True.intro | refine And.intro ?_ ?_ | refine closed_buf ?_ | refine closed_set_buf ?_ | refine closed_cells ?_ ?_ | refine closed_set ?_ ?_ | refine closed_del ?_ | exact AHeap.Le.refl _ | refine AHeap.Le.push ?_ _ | refine AHeap.Le.del ?_ ?_ | (simp only [bt, and_true, true_and, opsAV_lt, hid]; first | done | omega | (simp; done)))))
    · exfalso
      have hi1 : ops.length ≤ i := by simp at h1; omega
      rw [ybf hi1] at hop'
      cases hop'
  | none =>
    rw [hop, onN_none] at hK
    refine ⟨_, _, hK, ?_⟩
    clear hK
    refine ACalls.of_aw (Ω := [(137, Ent.effect e_ySym)]) (T := assoc []) mixed (TblOk.cons ok_ySym TblOk.nil) Try.func149 (by kernel_rfl) (by rfl) (rs := [.tmp 4]) (by rfl) (by kernel_rfl) (by simp only [Try.ntmps149, yaz, yba]; decide) (Nat.le_refl _) fun hcl hlt => ?_
    change aw _ _ _ (KI Try.prog [(137, Ent.effect e_ySym)] (aEnd Try.prog [.tmp 4] H.nx _ _) []) _ _
    clear hlt
    simp only [↓bwp, bwq, yaa, yab, yac, yad, ne_eq, reduceCtorEq, Nat.reduceEqDiff, Nat.reduceAdd, Nat.reduceMul, Nat.reduceSub, Nat.reduceLeDiff, Nat.reduceLT, Int.reduceMul, Int.reduceAdd, Int.reduceSub, yae, yaf, yag, yah, yai, if_true, if_false, yaj, yak, bvq, rEq, yal, Int.reduceToNat, yam, yan, TD.agg, yao, yap, yaq, yar, yas, yat, yau, yav, splice, zhb, zhc, yaw, yax, yay, zhd, zhe, rLen, rBin, rInt, rStr, rUn, zhf, zhg, zhh, zhi, zhj, rBox, zhk, zhl, zhm, zhn, zho, zhp, zhq, zhr, zhs, zht, zhu, zhv, zhw, zhx, zhy, zhz, zia, zib, zic, bound, addL, addT, grow, room, yaz, yba, ybb, frOf, ytb6, ↓blp, blq, opsAV_length]
    refine loop_introW (A := Nat) (fun i => [(9, .int .i64 (i : Int)), (8, .int .i64 (ops.length : Int)), (7, .slice .any 2 (opsAV ops)), (0, .ptr id 0)]) (fun _ => H) (fun i => i ≤ ops.length ∧ opOf l p (ops.drop i) = none) (fun i => ops.length - i) 0 ⟨by omega, hop⟩ ?_ fun i hi => ?_
    · (simp only [bkq, enterW, subW, ltF, ne_eq, Nat.reduceEqDiff, reduceCtorEq, opsAV_lt, hid]; try simp (disch := first | assumption | omega | (simp; done) | (simp; omega) | (simp only [bt, and_true]; first | done | omega | (simp; done))) [↓zkt, beq, ybc, ybd, ybe, endOk, wk, wk2, wk1, wkM, wkL, wkLL, ybf, byq, biq, isDs_ints, hcl, opsAV_lt, hid]; try (repeat' (first | assumption | omega | exact True.intro | refine And.intro ?_ ?_ | refine closed_buf ?_ | refine closed_set_buf ?_ | refine closed_cells ?_ ?_ | refine closed_set ?_ ?_ | refine closed_del ?_ | exact AHeap.Le.refl _ | refine AHeap.Le.push ?_ _ | refine AHeap.Le.del ?_ ?_ | (simp only [bt, and_true, true_and, opsAV_lt, hid]; first | done | omega | (simp; done)))))
    obtain ⟨hi, hop'⟩ := hi
    simp only [↓bwp, bwq, yaa, yab, yac, yad, ne_eq, reduceCtorEq, Nat.reduceEqDiff, Nat.reduceAdd, Nat.reduceMul, Nat.reduceSub, Nat.reduceLeDiff, Nat.reduceLT, Int.reduceMul, Int.reduceAdd, Int.reduceSub, yae, yaf, yag, yah, yai, if_true, if_false, yaj, yak, bvq, rEq, yal, Int.reduceToNat, yam, yan, TD.agg, yao, yap, yaq, yar, yas, yat, yau, yav, splice, zhb, zhc, yaw, yax, yay, zhd, zhe, rLen, rBin, rInt, rStr, rUn, zhf, zhg, zhh, zhi, zhj, rBox, zhk, zhl, zhm, zhn, zho, zhp, zhq, zhr, zhs, zht, zhu, zhv, zhw, zhx, zhy, zhz, zia, zib, zic, bound, addL, addT, grow, room, yaz, yba, ybb, frOf, ytb6, ↓blp, blq]
    refine cond_split (fun h1 => ?_) (fun h1 => ?_)
    · have hi1 : i < ops.length := by simp at h1; omega
      have e5 : IntKind.i64.wrap ((i : Int) + 1) = ((i + 1 : Nat) : Int) := by rw [wrap_i64] <;> omega
      have hgo := opsAV_get hi1
      rw [List.drop_eq_getElem_cons hi1] at hop'
      rcases hok : ops[i] with ⟨ko, so⟩
      rw [hok] at hop' hgo
      unfold opOf at hop'
      by_cases hs : isS l p so = true
      · rw [if_pos hs] at hop'; cases hop'
      · rw [if_neg hs] at hop'
        have hs' : isS l p so = false := by simpa using hs
        simp only [↓bwp, bwq, yaa, yab, yac, yad, ne_eq, reduceCtorEq, Nat.reduceEqDiff, Nat.reduceAdd, Nat.reduceMul, Nat.reduceSub, Nat.reduceLeDiff, Nat.reduceLT, Int.reduceMul, Int.reduceAdd, Int.reduceSub, yae, yaf, yag, yah, yai, if_true, if_false, yaj, yak, bvq, rEq, yal, Int.reduceToNat, yam, yan, TD.agg, yao, yap, yaq, yar, yas, yat, yau, yav, splice, zhb, zhc, yaw, yax, yay, zhd, zhe, rLen, rBin, rInt, rStr, rUn, zhf, zhg, zhh, zhi, zhj, rBox, zhk, zhl, zhm, zhn, zho, zhp, zhq, zhr, zhs, zht, zhu, zhv, zhw, zhx, zhy, zhz, zia, zib, zic, bound, addL, addT, grow, room, yaz, yba, ybb, frOf, ytb6, ↓blp, blq, Int.toNat_natCast, opsAV_length, hgo, e_ySym, f1, hg, onP_some, hs', if_false, hp, hl, e5]
        refine ⟨by omega, i + 1, ⟨by omega, hop'⟩, by omega, ?_⟩
        (simp only [bkq, enterW, subW, ltF, ne_eq, Nat.reduceEqDiff, reduceCtorEq, opsAV_lt, hid]; try simp (disch := first | assumption | omega | (simp; done) | (simp; omega) | (simp only [bt, and_true]; first | done | omega | (simp; done))) [↓zkt, beq, ybc, ybd, ybe, endOk, wk, wk2, wk1, wkM, wkL, wkLL, ybf, byq, biq, isDs_ints, hcl, opsAV_lt, hid]; try (repeat' (first | assumption | omega | exact True.intro | refine And.intro ?_ ?_ | refine closed_buf ?_ | refine closed_set_buf ?_ | refine closed_cells ?_ ?_ | refine closed_set ?_ ?_ | refine closed_del ?_ | exact AHeap.Le.refl _ | refine AHeap.Le.push ?_ _ | refine AHeap.Le.del ?_ ?_ | (simp only [bt, and_true, true_and, opsAV_lt, hid]; first | done | omega | (simp; done)))))
    · simp only [↓bwp, bwq, yaa, yab, yac, yad, ne_eq, reduceCtorEq, Nat.reduceEqDiff, Nat.reduceAdd, Nat.reduceMul, Nat.reduceSub, Nat.reduceLeDiff, Nat.reduceLT, Int.reduceMul, Int.reduceAdd, Int.reduceSub, yae, yaf, yag, yah, yai, if_true, if_false, yaj, yak, bvq, rEq, yal, Int.reduceToNat, yam, yan, TD.agg, yao, yap, yaq, yar, yas, yat, yau, yav, splice, zhb, zhc, yaw, yax, yay, zhd, zhe, rLen, rBin, rInt, rStr, rUn, zhf, zhg, zhh, zhi, zhj, rBox, zhk, zhl, zhm, zhn, zho, zhp, zhq, zhr, zhs, zht, zhu, zhv, zhw, zhx, zhy, zhz, zia, zib, zic, bound, addL, addT, grow, room, yaz, yba, ybb, frOf, ytb6, ↓blp, blq]
      simp (disch := first | assumption | omega | (simp; done) | (simp; omega) | (simp only [bt, and_true]; first | done | omega | (simp; done))) [↓zkt, beq, ybc, ybd, ybe, endOk, wk, wk2, wk1, wkM, wkL, wkLL, ybf, hcl]
end Go.AL

