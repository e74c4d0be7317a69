/- Contracts and plain laws, a part of the proof; no condition of its own. -/
import Derived.Test.YtknhoembfohbiaaE06
import Derived.Test.YtknhoembfohbiaaLSyn
open List renaming map_cons → yae, length_cons → yaz, length_nil → yba, take_of_length_le → ybc, drop_append → ybd, take_append → ybe, drop_eq_nil_of_le → ybf
open Go Go.AL Go.Proofs
namespace Go.AL
set_option linter.all false
set_option maxRecDepth 10000
theorem ti_node : ti Try.prog 66 = some ⟨.struct [(0, 3, false), (1, 3, false), (2, 3, false), (3, 9, false), (4, 9, false), (5, 64, false)], 7, 72, .agg [.int .i64 0, .int .i64 0, .int .i64 0, .str [], .str [], .int .u64 0, .int .u64 0]⟩ := by kernel_rfl
theorem ti_nodes : ti Try.prog 38 = some ⟨.slice 66, 1, 24, .slice .nil 1 []⟩ := by kernel_rfl
theorem ti_parser : ti Try.prog 240 = some ⟨.struct [(0, 26, false), (1, 3, false), (2, 38, false)], 3, 56, .agg [.slice .nil 1 [], .int .i64 0, .slice .nil 1 []]⟩ := by kernel_rfl
theorem ti_operator : ti Try.prog 310 = some ⟨.struct [(0, 3, false), (1, 9, false)], 2, 24, .agg [.int .i64 0, .str []]⟩ := by kernel_rfl
theorem ti_operators : ti Try.prog 307 = some ⟨.slice 310, 1, 24, .slice .nil 1 []⟩ := by kernel_rfl
theorem ti_wrong : ti Try.prog 237 = some ⟨.int .i64, 1, 8, .int .i64 0⟩ := by kernel_rfl
attribute [go_sem] ti_node ti_nodes ti_parser ti_operator ti_operators ti_wrong
def ndAV (n : Nd) : AV := .agg [.int .i64 (n.op : Int), .int .i64 (n.a : Int), .int .i64 (n.b : Int), .str n.name, .str n.attr, .int .u64 ((n.v / 2 ^ 64 : Nat) : Int), .int .u64 ((n.v % 2 ^ 64 : Nat) : Int)]
def nds (t : List Nd) : List AV := t.map ndAV
theorem nds_length {t : List Nd} : (nds t).length = t.length := by simp [nds]
theorem nds_snoc {t : List Nd} {n : Nd} : nds t ++ [ndAV n] = nds (t ++ [n]) := by simp [nds]
theorem nds_lt {n : Nat} {m : Mark} {t : List Nd} : AV.lt n (.slice m 7 (nds t)) = ∀ id, m = .own id → id < n := by
  rw [AV.lt]
  refine propext ⟨fun h => h.1, fun h => ⟨h, fun j hj => ?_⟩⟩
  simp only [nds, List.getElem_map, ndAV]
  simp [zmi, zml, zmm, zlw, zly]
theorem toks_lt' {n : Nat} {m : Mark} {l : List Tok} : AV.lt n (.slice m 3 (toks l)) = ∀ id, m = .own id → id < n := by
  rw [AV.lt]
  refine propext ⟨fun h => h.1, fun h => ⟨h, fun j hj => ?_⟩⟩
  simp only [toks, List.getElem_map, tkAV]
  simp [zmi, zml, zmm, zlw, zly]
theorem toks_inj : ∀ {l l' : List Tok}, toks l = toks l' → l = l'
  | [], [], _ => rfl
  | [], _ :: _, h => by cases h
  | _ :: _, [], h => by cases h
  | (a, b, c) :: l, (a', b', c') :: l', h => by
    simp only [toks, yae, List.cons.injEq, tkAV, AV.agg.injEq, AV.int.injEq, AV.str.injEq, true_and, and_true] at h
    obtain ⟨⟨h1, h2, h3⟩, h4⟩ := h
    rw [toks_inj h4]
    congr 1
    simp only [Prod.mk.injEq]
    exact ⟨by omega, h2, by omega⟩
theorem nds_inj : ∀ {l l' : List Nd}, nds l = nds l' → l = l'
  | [], [], _ => rfl
  | [], _ :: _, h => by cases h
  | _ :: _, [], h => by cases h
  | ⟨a1, a2, a3, a4, a5, a6⟩ :: l, ⟨b1, b2, b3, b4, b5, b6⟩ :: l', h => by
    simp only [nds, yae, List.cons.injEq, ndAV, AV.agg.injEq, AV.int.injEq, AV.str.injEq, true_and, and_true] at h
    obtain ⟨⟨h1, h2, h3, h4, h5, h6, h7⟩, h8⟩ := h
    rw [nds_inj h8]
    congr 1
    simp only [Nd.mk.injEq]
    exact ⟨by omega, by omega, by omega, h4, h5, by omega⟩
def panicK (v : AV) (Kp : AV → AHeap → Prop) (H : AHeap) : Prop := match v with
  | .iface t v => Kp (.iface t v) H
  | _ => False
@[congr] theorem panicK_congr {v v' : AV} {Kp : AV → AHeap → Prop} {H : AHeap} (h : v = v') : panicK v Kp H = panicK v' Kp H := by rw [h]
theorem panicK_iface {t : TypeId} {v : AV} {Kp : AV → AHeap → Prop} {H : AHeap} : panicK (.iface t v) Kp H = Kp (.iface t v) H := rfl
theorem ao_panic {P : Program} {Ω : Tbl} {ops : Array Oper} {rest : List Oper} {K : Fr → AHeap → Prop} {Kp : Fr → AV → AHeap → Prop} {fr : Fr} {H : AHeap} {d : Option Tmp} {x : Operand} {t : TypeId} {pos : String} {aft : Array Edge} :
    awOps P Ω ops (Oper.mk d (.panic x) t pos aft none :: rest) K Kp fr H = panicK (ev fr x) (Kp fr) H := (rfl)
/-- the parser in memory -/
def pst (m : Mark) (l : List Tok) (p tb : Nat) (t : List Nd) : AObj := .cells [.slice m 3 (toks l), .int .i64 (p : Int), .slice (.own tb) 7 (nds t)]
def onP (o : Option AObj) (K : Mark → List Tok → Nat → Nat → List Nd → Prop) : Prop := ∃ m l p tb t, o = some (pst m l p tb t) ∧ K m l p tb t
@[congr] theorem onP_congr {o o' : Option AObj} {K : Mark → List Tok → Nat → Nat → List Nd → Prop} (h : o = o') : onP o K = onP o' K := by rw [h]
theorem onP_some {m : Mark} {l : List Tok} {p tb : Nat} {t : List Nd} {K : Mark → List Tok → Nat → Nat → List Nd → Prop} : onP (some (pst m l p tb t)) K = K m l p tb t := by
  refine propext ⟨fun ⟨m', l', p', tb', t', h, hk⟩ => ?_, fun h => ⟨m, l, p, tb, t, rfl, h⟩⟩
  simp only [pst, Option.some.injEq, AObj.cells.injEq, List.cons.injEq, AV.slice.injEq, AV.int.injEq, Mark.own.injEq, true_and, and_true] at h
  obtain ⟨⟨rfl, h1⟩, h2, rfl, h3⟩ := h
  have := toks_inj h1
  have := nds_inj h3
  have : p = p' := by omega
  subst_vars
  exact hk
theorem onP_some' {m : Mark} {l : List Tok} {p tb : Nat} {t : List Nd} {K : Mark → List Tok → Nat → Nat → List Nd → Prop} : onP (some (.cells [.slice m 3 (toks l), .int .i64 (p : Int), .slice (.own tb) 7 (nds t)])) K = K m l p tb t := onP_some
def e_yFail : List AV → AHeap → (AEnd → AHeap → Prop) → Prop
  | [.ptr id 0], H, K => onP (H.get id) fun m l p tb t => K (.panic (.iface 237 (.int .i64 (p : Int)))) H
  | _, _, _ => False
theorem ok_yFail : EntOk Try.prog 152 (Ent.effect e_yFail) := by
  refine EntOk.effect fun args H K h => ?_
  unfold e_yFail at h
  split at h
  rotate_left
  · exact h.elim
  rename_i id
  obtain ⟨m, l, p, tb, t, hg, hK⟩ := h
  refine ⟨_, _, hK, ?_⟩
  clear hK
  refine ACalls.of_aw (Ω := []) (T := assoc []) mixed TblOk.nil Try.func152 (by kernel_rfl) (by rfl) (rs := []) (by rfl) (by kernel_rfl) (by simp only [Try.ntmps152, yaz, yba]; decide) (Nat.le_refl _) fun hcl hlt => ?_
  change aw _ _ _ (KI Try.prog [] (aEnd Try.prog [] H.nx _ _) []) _ _
  clear hlt
  have hcs := cells_some (cs := [.slice m 3 (toks l), .int .i64 (p : Int), .slice (.own tb) 7 (nds t)]) hg
  simp only [go_sem, reduceCtorEq, Nat.reduceEqDiff, Nat.reduceAdd, Nat.reduceMul, Nat.reduceSub, Nat.reduceLeDiff, Nat.reduceLT, Int.reduceMul, Int.reduceAdd, Int.reduceSub, Int.reduceToNat, hcs, ↓ao_panic, panicK_iface]
  simp (disch := first | assumption | omega | (simp; done) | (simp; omega) | (simp only [bt, and_true]; first | done | omega | (simp; done))) [↓zlf, beq, ybc, ybd, ybe, endOk, wk, wk2, wk1, wkM, wkL, wkLL, ybf, hcl]
def e_yAdd : List AV → AHeap → (AEnd → AHeap → Prop) → Prop
  | [.ptr id 0, .agg [.int .i64 op, .int .i64 a, .int .i64 b, .str nm, .str att, .int .u64 hi, .int .u64 lo]], H, K => onP (H.get id) fun m l p tb t =>
      (0 ≤ op ∧ 0 ≤ a ∧ 0 ≤ b ∧ isV hi lo ∧ id ≠ tb ∧ H.get tb = some (.buf 7 t.length) ∧ t.length ≤ 100000) ∧
      K (.ret (.int .i64 (t.length : Int))) ((H.set id (pst m l p tb (t ++ [⟨op.toNat, a.toNat, b.toNat, nm, att, vOf hi.toNat lo.toNat⟩]))).set tb (.buf 7 (t.length + 1)))
  | _, _, _ => False
theorem pst_closed {H : AHeap} {id : Nat} {m : Mark} {l : List Tok} {p tb : Nat} {t : List Nd} (hg : H.get id = some (pst m l p tb t)) (hcl : H.Closed) (p' : Nat) (t' : List Nd) : (H.set id (pst m l p' tb t')).Closed := by
  have h0 := hcl id _ hg 0 (by simp)
  have h2 := hcl id _ hg 2 (by simp)
  simp only [List.getElem_cons_zero, List.getElem_cons_succ, toks_lt', nds_lt] at h0 h2
  refine closed_set hcl ?_
  simp only [zml, zmm, toks_lt', nds_lt, zlw, and_true, true_and]
  exact ⟨h0, h2⟩
theorem set_comm' {H : AHeap} {i j : Nat} (h : i ≠ j) (o c : AObj) : (H.set j o).set i c = (H.set i c).set j o := by
  simp only [AHeap.set]
  congr 1
  funext k
  by_cases h1 : k = i
  · subst h1; simp [h]
  · simp [h1]
theorem cells_set_far {H : AHeap} {i j : Nat} (h : i ≠ j) (o : AObj) : cellsOf? (H.set j o) i = cellsOf? H i := by
  unfold cellsOf?; rw [AHeap.get_set_ne _ _ h]
theorem ok_yAdd : EntOk Try.prog 200 (Ent.effect e_yAdd) := by
  refine EntOk.effect fun args H K h => ?_
  unfold e_yAdd at h
  split at h
  rotate_left
  · exact h.elim
  rename_i id op a b nm att hi lo
  obtain ⟨m, l, p, tb, t, hg, ⟨h1, h2, h3, ⟨h4, h5, h6, h7⟩, hne, htb, htl⟩, hK⟩ := h
  refine ⟨_, _, hK, ?_⟩
  clear hK
  obtain ⟨op, rfl⟩ := u64_lift h1
  obtain ⟨a, rfl⟩ := u64_lift h2
  obtain ⟨b, rfl⟩ := u64_lift h3
  obtain ⟨hi, rfl⟩ := u64_lift h4
  obtain ⟨lo, rfl⟩ := u64_lift h6
  simp only [Int.toNat_natCast]
  refine ACalls.of_aw (Ω := []) (T := assoc [(1, [[], [], [], [], [], [], [5], [4, 5], [], [], [4, 5]])]) mixed TblOk.nil Try.func200 (by kernel_rfl) (by rfl) (rs := [.tmp 4]) (by rfl) (by kernel_rfl) (by simp only [Try.ntmps200, yaz, yba]; decide) (Nat.le_refl _) fun hcl hlt => ?_
  change aw _ _ _ (KI Try.prog [] (aEnd Try.prog [.tmp 4] H.nx _ _ (assoc [(1, [[], [], [], [], [], [], [5], [4, 5], [], [], [4, 5]])])) []) _ _
  clear hlt
  have hid := AHeap.get_lt hg
  have htbl := AHeap.get_lt htb
  have hcs := cells_some (cs := [.slice m 3 (toks l), .int .i64 (p : Int), .slice (.own tb) 7 (nds t)]) hg
  have f1 := far_of hid
  have f2 := far_of htbl
  have g1 : (id = tb) = False := eq_false hne
  have g2 : (tb = id) = False := eq_false fun e => hne e.symm
  have e1 : nds t ++ [AV.agg [.int .i64 (op : Int), .int .i64 (a : Int), .int .i64 (b : Int), .str nm, .str att, .int .u64 (hi : Int), .int .u64 (lo : Int)]] = nds (t ++ [⟨op, a, b, nm, att, vOf hi lo⟩]) := by
    rw [← nds_snoc]; unfold ndAV; simp only; rw [vOf_hi (by omega), vOf_lo (by omega)]
  have e2 : IntKind.i64.wrap (((t.length + 1 : Nat) : Int) - 1) = (t.length : Int) := by rw [wrap_i64] <;> omega
  have hcl1 := pst_closed hg hcl p (t ++ [⟨op, a, b, nm, att, vOf hi lo⟩])
  have hcl2 : ((H.set id (pst m l p tb (t ++ [⟨op, a, b, nm, att, vOf hi lo⟩]))).set tb (.buf 7 (t.length + 1))).Closed := closed_set_buf hcl1
  have s1 := set_comm' (H := H) hne
  have s2 := fun o => (cells_set_far (H := H) hne o).trans hcs
  have s3 : ∀ o cs, cellsOf? ((H.set id (.cells cs)).set tb o) id = some cs := fun o cs => by rw [cells_set_far hne, cells_set hid, if_pos rfl]
  simp only [go_sem, reduceCtorEq, Nat.reduceEqDiff, Nat.reduceAdd, Nat.reduceMul, Nat.reduceSub, Nat.reduceLeDiff, Nat.reduceLT, Int.reduceMul, Int.reduceAdd, Int.reduceSub, Int.reduceToNat, hcs, nds_length, f1, f2, g1, g2, htb, heap_get_set, if_pos htbl, e1, s1, s2, s3, e2, List.length_append]
  refine ⟨⟨by omega, by omega, by simp [allOne, AV.cells, AV.one]⟩, ?_⟩
  simp only [pst] at hcl2 ⊢
  simp (disch := first | assumption | omega | (simp; done) | (simp; omega) | (simp only [bt, and_true]; first | done | omega | (simp; done))) [↓zlf, beq, ybc, ybd, ybe, endOk, wk, wk2, wk1, wkM, wkL, wkLL, ybf, hcl2, htbl, nds_lt]
  trace_state
theorem isS_at {l : List Tok} {p k z : Nat} {x s : List UInt8} (hp : p < l.length) (h : l[p] = (k, x, z)) : isS l p s = (k == 3 && x == s) := by
  unfold isS; rw [List.getElem?_eq_getElem hp, h]
theorem isS_end {l : List Tok} {p : Nat} {s : List UInt8} (hp : l.length ≤ p) : isS l p s = false := by
  unfold isS; rw [List.getElem?_eq_none hp]
theorem tok_get {l : List Tok} {p k z : Nat} {x : List UInt8} (hp : p < l.length) (h : l[p] = (k, x, z)) : (toks l).getD p .junk = .agg [.int .i64 (k : Int), .str x, .int .i64 (z : Int)] := by
  rw [toks_get hp, h]; rfl
def e_ySym : List AV → AHeap → (AEnd → AHeap → Prop) → Prop
  | [.ptr id 0, .str s], H, K => onP (H.get id) fun m l p tb t => (p ≤ l.length ∧ l.length ≤ 100000) ∧
      if isS l p s = true then K (.ret (.bool true)) (H.set id (pst m l (p + 1) tb t)) else K (.ret (.bool false)) H
  | _, _, _ => False
theorem ok_ySym : EntOk Try.prog 199 (Ent.effect e_ySym) := by
  refine EntOk.effect fun args H K h => ?_
  unfold e_ySym at h
  split at h
  rotate_left
  · exact h.elim
  rename_i id s
  obtain ⟨m, l, p, tb, t, hg, ⟨hp, hl⟩, hK⟩ := h
  have hid := AHeap.get_lt hg
  have hcs := cells_some (cs := [.slice m 3 (toks l), .int .i64 (p : Int), .slice (.own tb) 7 (nds t)]) hg
  have e1 : IntKind.i64.wrap ((p : Int) + 1) = ((p + 1 : Nat) : Int) := by rw [wrap_i64] <;> omega
  by_cases hlt0 : p < l.length
  · rcases htk : l[p] with ⟨k, x, z⟩
    have hgd := tok_get hlt0 htk
    rw [isS_at hlt0 htk] at hK
    have d1 : ((p : Int) == (l.length : Int)) = false := by simp; omega
    by_cases hk : k = 3
    · subst hk
      by_cases hx : x = s
      · subst hx
        simp only [beq_self_eq_true, Bool.and_self, if_true] at hK
        refine ⟨_, _, hK, ?_⟩
        clear hK
        refine ACalls.of_aw (Ω := []) (T := assoc []) mixed TblOk.nil Try.func199 (by kernel_rfl) (by rfl) (rs := [.tmp 4]) (by rfl) (by kernel_rfl) (by simp only [Try.ntmps199, yaz, yba]; decide) (Nat.le_refl _) fun hcl hlt => ?_
        change aw _ _ _ (KI Try.prog [] (aEnd Try.prog [.tmp 4] H.nx _ _ (assoc [])) []) _ _
        clear hlt
        have hcl1 := pst_closed hg hcl (p + 1) t
        simp only [go_sem, reduceCtorEq, Nat.reduceEqDiff, Nat.reduceAdd, Nat.reduceMul, Nat.reduceSub, Nat.reduceLeDiff, Nat.reduceLT, Int.reduceMul, Int.reduceAdd, Int.reduceSub, Int.reduceToNat, hcs, toks_length, hgd, d1, Int.toNat_natCast, e1, beq_self_eq_true, bne_self_eq_false]
        refine ⟨by omega, both_ff rfl ⟨by omega, ?_⟩⟩
        change endOk (H.set id (pst m l (p + 1) tb t)) _ _ _
        simp (disch := first | assumption | omega | (simp; done) | (simp; omega) | (simp only [bt, and_true]; first | done | omega | (simp; done))) [↓zlf, beq, ybc, ybd, ybe, endOk, wk, wk2, wk1, wkM, wkL, wkLL, ybf, hcl1]
      · have d3 : (x == s) = false := by simpa using hx
        rw [d3, Bool.and_false, if_neg (by simp)] at hK
        refine ⟨_, _, hK, ?_⟩
        clear hK
        refine ACalls.of_aw (Ω := []) (T := assoc []) mixed TblOk.nil Try.func199 (by kernel_rfl) (by rfl) (rs := [.tmp 4]) (by rfl) (by kernel_rfl) (by simp only [Try.ntmps199, yaz, yba]; decide) (Nat.le_refl _) fun hcl hlt => ?_
        change aw _ _ _ (KI Try.prog [] (aEnd Try.prog [.tmp 4] H.nx _ _ (assoc [])) []) _ _
        clear hlt
        simp only [go_sem, reduceCtorEq, Nat.reduceEqDiff, Nat.reduceAdd, Nat.reduceMul, Nat.reduceSub, Nat.reduceLeDiff, Nat.reduceLT, Int.reduceMul, Int.reduceAdd, Int.reduceSub, Int.reduceToNat, hcs, toks_length, hgd, d1, d3, Int.toNat_natCast, e1, beq_self_eq_true, bne_self_eq_false]
        refine ⟨by omega, both_ff rfl ⟨by omega, ?_⟩⟩
        simp (disch := first | assumption | omega | (simp; done) | (simp; omega) | (simp only [bt, and_true]; first | done | omega | (simp; done))) [↓zlf, beq, ybc, ybd, ybe, endOk, wk, wk2, wk1, wkM, wkL, wkLL, ybf, hcl]
    · have d3 : (k == 3) = false := by simpa using hk
      rw [d3, Bool.false_and, if_neg (by simp)] at hK
      refine ⟨_, _, hK, ?_⟩
      clear hK
      refine ACalls.of_aw (Ω := []) (T := assoc []) mixed TblOk.nil Try.func199 (by kernel_rfl) (by rfl) (rs := [.tmp 4]) (by rfl) (by kernel_rfl) (by simp only [Try.ntmps199, yaz, yba]; decide) (Nat.le_refl _) fun hcl hlt => ?_
      change aw _ _ _ (KI Try.prog [] (aEnd Try.prog [.tmp 4] H.nx _ _ (assoc [])) []) _ _
      clear hlt
      have d4 : ((k : Int) != 3) = true := by simp; omega
      simp only [go_sem, reduceCtorEq, Nat.reduceEqDiff, Nat.reduceAdd, Nat.reduceMul, Nat.reduceSub, Nat.reduceLeDiff, Nat.reduceLT, Int.reduceMul, Int.reduceAdd, Int.reduceSub, Int.reduceToNat, hcs, toks_length, hgd, d1, d4, Int.toNat_natCast, e1, beq_self_eq_true, bne_self_eq_false]
      refine ⟨by omega, ?_⟩
      simp (disch := first | assumption | omega | (simp; done) | (simp; omega) | (simp only [bt, and_true]; first | done | omega | (simp; done))) [↓zlf, beq, ybc, ybd, ybe, endOk, wk, wk2, wk1, wkM, wkL, wkLL, ybf, hcl]
  · have hpe : p = l.length := by omega
    subst hpe
    rw [isS_end (Nat.le_refl _), if_neg (by simp)] at hK
    refine ⟨_, _, hK, ?_⟩
    clear hK
    refine ACalls.of_aw (Ω := []) (T := assoc []) mixed TblOk.nil Try.func199 (by kernel_rfl) (by rfl) (rs := [.tmp 4]) (by rfl) (by kernel_rfl) (by simp only [Try.ntmps199, yaz, yba]; decide) (Nat.le_refl _) fun hcl hlt => ?_
    change aw _ _ _ (KI Try.prog [] (aEnd Try.prog [.tmp 4] H.nx _ _ (assoc [])) []) _ _
    clear hlt
    simp only [go_sem, reduceCtorEq, Nat.reduceEqDiff, Nat.reduceAdd, Nat.reduceMul, Nat.reduceSub, Nat.reduceLeDiff, Nat.reduceLT, Int.reduceMul, Int.reduceAdd, Int.reduceSub, Int.reduceToNat, hcs, toks_length, beq_self_eq_true]
    simp (disch := first | assumption | omega | (simp; done) | (simp; omega) | (simp only [bt, and_true]; first | done | omega | (simp; done))) [↓zlf, beq, ybc, ybd, ybe, endOk, wk, wk2, wk1, wkM, wkL, wkLL, ybf, hcl]
def wordT (l : List Tok) (p : Nat) : Option (List UInt8) := match l[p]? with
  | none => none
  | some (k, x, _) => if k = 2 then some x else none
def onW (o : Option (List UInt8)) (K1 : List UInt8 → Prop) (K2 : Prop) : Prop := match o with
  | some x => K1 x
  | none => K2
@[congr] theorem onW_congr {o o' : Option (List UInt8)} {K1 : List UInt8 → Prop} {K2 : Prop} (h : o = o') : onW o K1 K2 = onW o' K1 K2 := by rw [h]
theorem onW_some {x : List UInt8} {K1 : List UInt8 → Prop} {K2 : Prop} : onW (some x) K1 K2 = K1 x := rfl
theorem onW_none {K1 : List UInt8 → Prop} {K2 : Prop} : onW none K1 K2 = K2 := rfl
def e_yWord : List AV → AHeap → (AEnd → AHeap → Prop) → Prop
  | [.ptr id 0, .int .i64 kd], H, K => onP (H.get id) fun m l p tb t => (kd = 2 ∧ p ≤ l.length ∧ l.length ≤ 100000) ∧
      onW (wordT l p) (fun x => K (.ret (.str x)) (H.set id (pst m l (p + 1) tb t))) (K (.panic (.iface 237 (.int .i64 (p : Int)))) H)
  | _, _, _ => False
theorem ok_yWord : EntOk Try.prog 241 (Ent.effect e_yWord) := by
  refine EntOk.effect fun args H K h => ?_
  unfold e_yWord at h
  split at h
  rotate_left
  · exact h.elim
  rename_i id kd
  obtain ⟨m, l, p, tb, t, hg, ⟨rfl, hp, hl⟩, hK⟩ := h
  have hid := AHeap.get_lt hg
  have hcs := cells_some (cs := [.slice m 3 (toks l), .int .i64 (p : Int), .slice (.own tb) 7 (nds t)]) hg
  have e1 : IntKind.i64.wrap ((p : Int) + 1) = ((p + 1 : Nat) : Int) := by rw [wrap_i64] <;> omega
  have e2 : IntKind.i64.wrap (((p + 1 : Nat) : Int) - 1) = (p : Int) := by rw [wrap_i64] <;> omega
  unfold wordT at hK
  by_cases hlt0 : p < l.length
  · rcases htk : l[p] with ⟨k, x, z⟩
    have hgd := tok_get hlt0 htk
    rw [List.getElem?_eq_getElem hlt0, htk] at hK
    dsimp only at hK
    have d1 : ((p : Int) == (l.length : Int)) = false := by simp; omega
    by_cases hk : k = 2
    · subst hk
      rw [if_pos rfl, onW_some] at hK
      refine ⟨_, _, hK, ?_⟩
      clear hK
      refine ACalls.of_aw (Ω := [(152, Ent.effect e_yFail)]) (T := assoc []) mixed (TblOk.cons ok_yFail TblOk.nil) Try.func241 (by kernel_rfl) (by rfl) (rs := [.tmp 4]) (by rfl) (by kernel_rfl) (by simp only [Try.ntmps241, yaz, yba]; decide) (by simp [zjw]) fun hcl hlt => ?_
      change aw _ _ _ (KI Try.prog [(152, Ent.effect e_yFail)] (aEnd Try.prog [.tmp 4] H.nx _ _ (assoc [])) []) _ _
      clear hlt
      have hcl1 := pst_closed hg hcl (p + 1) t
      simp only [go_sem, reduceCtorEq, Nat.reduceEqDiff, Nat.reduceAdd, Nat.reduceMul, Nat.reduceSub, Nat.reduceLeDiff, Nat.reduceLT, Int.reduceMul, Int.reduceAdd, Int.reduceSub, Int.reduceToNat, hcs, toks_length, hgd, d1, Int.toNat_natCast, e1, e2, cells_set hid, beq_self_eq_true, bne_self_eq_false]
      refine ⟨by omega, cond_ff rfl ?_⟩
      simp only [go_sem, reduceCtorEq, Nat.reduceEqDiff, Nat.reduceAdd, Nat.reduceMul, Nat.reduceSub, Nat.reduceLeDiff, Nat.reduceLT, Int.reduceMul, Int.reduceAdd, Int.reduceSub, Int.reduceToNat, hcs, toks_length, hgd, d1, Int.toNat_natCast, e1, e2, cells_set hid, beq_self_eq_true, bne_self_eq_false]
      refine ⟨by omega, ?_⟩
      change endOk (H.set id (pst m l (p + 1) tb t)) _ _ _
      simp (disch := first | assumption | omega | (simp; done) | (simp; omega) | (simp only [bt, and_true]; first | done | omega | (simp; done))) [↓zlf, beq, ybc, ybd, ybe, endOk, wk, wk2, wk1, wkM, wkL, wkLL, ybf, hcl1]
    · have d3 : (k == 2) = false := by simpa using hk
      rw [if_neg hk, onW_none] at hK
      refine ⟨_, _, hK, ?_⟩
      clear hK
      refine ACalls.of_aw (Ω := [(152, Ent.effect e_yFail)]) (T := assoc []) mixed (TblOk.cons ok_yFail TblOk.nil) Try.func241 (by kernel_rfl) (by rfl) (rs := [.tmp 4]) (by rfl) (by kernel_rfl) (by simp only [Try.ntmps241, yaz, yba]; decide) (Nat.le_refl _) fun hcl hlt => ?_
      change aw _ _ _ (KI Try.prog [(152, Ent.effect e_yFail)] (aEnd Try.prog [.tmp 4] H.nx _ _ (assoc [])) []) _ _
      clear hlt
      have d4 : ((k : Int) != 2) = true := by simp; omega
      simp only [go_sem, reduceCtorEq, Nat.reduceEqDiff, Nat.reduceAdd, Nat.reduceMul, Nat.reduceSub, Nat.reduceLeDiff, Nat.reduceLT, Int.reduceMul, Int.reduceAdd, Int.reduceSub, Int.reduceToNat, hcs, toks_length, hgd, d1, d4, Int.toNat_natCast, e1, e_yFail, hg, onP_some]
      refine ⟨by omega, ?_⟩
      simp (disch := first | assumption | omega | (simp; done) | (simp; omega) | (simp only [bt, and_true]; first | done | omega | (simp; done))) [↓zlf, beq, ybc, ybd, ybe, endOk, wk, wk2, wk1, wkM, wkL, wkLL, ybf, hcl]
  · have hpe : p = l.length := by omega
    subst hpe
    rw [List.getElem?_eq_none (Nat.le_refl _)] at hK
    dsimp only at hK
    rw [onW_none] at hK
    refine ⟨_, _, hK, ?_⟩
    clear hK
    refine ACalls.of_aw (Ω := [(152, Ent.effect e_yFail)]) (T := assoc []) mixed (TblOk.cons ok_yFail TblOk.nil) Try.func241 (by kernel_rfl) (by rfl) (rs := [.tmp 4]) (by rfl) (by kernel_rfl) (by simp only [Try.ntmps241, yaz, yba]; decide) (Nat.le_refl _) fun hcl hlt => ?_
    change aw _ _ _ (KI Try.prog [(152, Ent.effect e_yFail)] (aEnd Try.prog [.tmp 4] H.nx _ _ (assoc [])) []) _ _
    clear hlt
    simp only [go_sem, reduceCtorEq, Nat.reduceEqDiff, Nat.reduceAdd, Nat.reduceMul, Nat.reduceSub, Nat.reduceLeDiff, Nat.reduceLT, Int.reduceMul, Int.reduceAdd, Int.reduceSub, Int.reduceToNat, hcs, toks_length, beq_self_eq_true, e_yFail, hg, onP_some]
    simp (disch := first | assumption | omega | (simp; done) | (simp; omega) | (simp only [bt, and_true]; first | done | omega | (simp; done))) [↓zlf, beq, ybc, ybd, ybe, endOk, wk, wk2, wk1, wkM, wkL, wkLL, ybf, hcl]
def opsAV (l : List (Nat × List UInt8)) : List AV := l.map fun o => .agg [.int .i64 (o.1 : Int), .str o.2]
theorem opsAV_length {l : List (Nat × List UInt8)} : (opsAV l).length = l.length := by simp [opsAV]
theorem opsAV_inj : ∀ {l l' : List (Nat × List UInt8)}, opsAV l = opsAV l' → l = l'
  | [], [], _ => rfl
  | [], _ :: _, h => by cases h
  | _ :: _, [], h => by cases h
  | (a, b) :: l, (a', b') :: l', h => by
    simp only [opsAV, yae, List.cons.injEq, AV.agg.injEq, AV.int.injEq, AV.str.injEq, true_and, and_true] at h
    obtain ⟨⟨h1, h2⟩, h4⟩ := h
    rw [opsAV_inj h4]
    congr 1
    simp only [Prod.mk.injEq]
    exact ⟨by omega, h2⟩
theorem opsAV_lt {n : Nat} {l : List (Nat × List UInt8)} : AV.lt n (.slice .any 2 (opsAV l)) := lt_slice fun x hx => by
  simp only [opsAV, List.mem_map] at hx
  obtain ⟨o, _, rfl⟩ := hx
  simp [zmi, zml, zmm, zlw, zly]
theorem opsC_AV : [AV.agg [.int .i64 8, .str [61, 61]], .agg [.int .i64 9, .str [33, 61]], .agg [.int .i64 10, .str [60]], .agg [.int .i64 11, .str [60, 61]], .agg [.int .i64 12, .str [62]], .agg [.int .i64 13, .str [62, 61]]] = opsAV opsC := rfl
theorem opsS_AV : [AV.agg [.int .i64 6, .str [43]], .agg [.int .i64 7, .str [45]]] = opsAV opsS := rfl
def p_yCompares : List AV → AHeap → (AV → Prop) → Prop
  | [], _, K => K (.slice .any 2 (opsAV opsC))
  | _, _, _ => False
theorem ok_yCompares : EntOk Try.prog 232 (Ent.pure p_yCompares) := by
  refine EntOk.pure fun args H K h => ?_
  unfold p_yCompares at h
  split at h
  rotate_left
  · exact h.elim
  refine ⟨_, h, ?_⟩
  clear h
  refine ACalls.of_aw (Ω := []) (T := assoc []) mixed TblOk.nil Try.func232 (by kernel_rfl) (by rfl) (rs := [.tmp 0]) (by rfl) (by kernel_rfl) (by simp only [Try.ntmps232, yaz, yba]; decide) (Nat.le_refl _) fun hcl hlt => ?_
  change aw _ _ _ (KI Try.prog [] (aEnd Try.prog [.tmp 0] H.nx _ _) []) _ _
  clear hlt
  simp only [go_sem, reduceCtorEq, Nat.reduceEqDiff, Nat.reduceAdd, Nat.reduceMul, Nat.reduceSub, Nat.reduceLeDiff, Nat.reduceLT, Int.reduceMul, Int.reduceAdd, Int.reduceSub, Int.reduceToNat, opsC_AV]
  simp (disch := first | assumption | omega | (simp; done) | (simp; omega) | (simp only [bt, and_true]; first | done | omega | (simp; done))) [↓zlf, beq, ybc, ybd, ybe, endOk, wk, wk2, wk1, wkM, wkL, wkLL, ybf, hcl, opsAV_lt]
def p_ySums : List AV → AHeap → (AV → Prop) → Prop
  | [], _, K => K (.slice .any 2 (opsAV opsS))
  | _, _, _ => False
theorem ok_ySums : EntOk Try.prog 235 (Ent.pure p_ySums) := by
  refine EntOk.pure fun args H K h => ?_
  unfold p_ySums at h
  split at h
  rotate_left
  · exact h.elim
  refine ⟨_, h, ?_⟩
  clear h
  refine ACalls.of_aw (Ω := []) (T := assoc []) mixed TblOk.nil Try.func235 (by kernel_rfl) (by rfl) (rs := [.tmp 0]) (by rfl) (by kernel_rfl) (by simp only [Try.ntmps235, yaz, yba]; decide) (Nat.le_refl _) fun hcl hlt => ?_
  change aw _ _ _ (KI Try.prog [] (aEnd Try.prog [.tmp 0] H.nx _ _) []) _ _
  clear hlt
  simp only [go_sem, reduceCtorEq, Nat.reduceEqDiff, Nat.reduceAdd, Nat.reduceMul, Nat.reduceSub, Nat.reduceLeDiff, Nat.reduceLT, Int.reduceMul, Int.reduceAdd, Int.reduceSub, Int.reduceToNat, opsS_AV]
  simp (disch := first | assumption | omega | (simp; done) | (simp; omega) | (simp only [bt, and_true]; first | done | omega | (simp; done))) [↓zlf, beq, ybc, ybd, ybe, endOk, wk, wk2, wk1, wkM, wkL, wkLL, ybf, hcl, opsAV_lt]
def onOps (x : List AV) (K : List (Nat × List UInt8) → Prop) : Prop := ∃ l, x = opsAV l ∧ K l
theorem onOps_some {l : List (Nat × List UInt8)} {K : List (Nat × List UInt8) → Prop} : onOps (opsAV l) K = K l :=
  propext ⟨fun ⟨l', h, hk⟩ => by rw [opsAV_inj h]; exact hk, fun h => ⟨l, rfl, h⟩⟩
def onN (o : Option Nat) (K1 : Nat → Prop) (K2 : Prop) : Prop := match o with
  | some x => K1 x
  | none => K2
@[congr] theorem onN_congr {o o' : Option Nat} {K1 : Nat → Prop} {K2 : Prop} (h : o = o') : onN o K1 K2 = onN o' K1 K2 := by rw [h]
theorem onN_some {x : Nat} {K1 : Nat → Prop} {K2 : Prop} : onN (some x) K1 K2 = K1 x := rfl
theorem onN_none {K1 : Nat → Prop} {K2 : Prop} : onN none K1 K2 = K2 := rfl
def e_yOper : List AV → AHeap → (AEnd → AHeap → Prop) → Prop
  | [.ptr id 0, .slice _ 2 x], H, K => onP (H.get id) fun m l p tb t => onOps x fun ops => (p ≤ l.length ∧ l.length ≤ 100000 ∧ ops.length ≤ 100) ∧
      onN (opOf l p ops) (fun k => K (.ret (.int .i64 (k : Int))) (H.set id (pst m l (p + 1) tb t))) (K (.ret (.int .i64 0)) H)
  | _, _, _ => False
theorem opsAV_get {l : List (Nat × List UInt8)} {k : Nat} (h : k < l.length) : (opsAV l).getD k .junk = .agg [.int .i64 (l[k].1 : Int), .str l[k].2] := by simp [opsAV, List.getD_eq_getElem?_getD, h]
theorem ok_yOper : EntOk Try.prog 231 (Ent.effect e_yOper) := by
  refine EntOk.effect fun args H K h => ?_
  unfold e_yOper at h
  split at h
  rotate_left
  · exact h.elim
  rename_i id mo x
  obtain ⟨m, l, p, tb, t, hg, ops, rfl, ⟨hp, hl, ho⟩, hK⟩ := h
  have hid := AHeap.get_lt hg
  have f1 := far_of hid
  cases hop : opOf l p ops with
  | some k =>
    rw [hop, onN_some] at hK
    refine ⟨_, _, hK, ?_⟩
    clear hK
    refine ACalls.of_aw (Ω := [(199, Ent.effect e_ySym)]) (T := assoc []) mixed (TblOk.cons ok_ySym TblOk.nil) Try.func231 (by kernel_rfl) (by rfl) (rs := [.tmp 4]) (by rfl) (by kernel_rfl) (by simp only [Try.ntmps231, yaz, yba]; decide) (by simp [zjw]) fun hcl hlt => ?_
    change aw _ _ _ (KI Try.prog [(199, Ent.effect e_ySym)] (aEnd Try.prog [.tmp 4] H.nx _ _) []) _ _
    have hltm : ∀ n', H.nx ≤ n' → AV.lt n' (.slice .any 2 (opsAV ops)) := fun n' _ => opsAV_lt
    clear hlt
    have hcl1 := pst_closed hg hcl (p + 1) t
    simp only [go_sem, reduceCtorEq, Nat.reduceEqDiff, Nat.reduceAdd, Nat.reduceMul, Nat.reduceSub, Nat.reduceLeDiff, Nat.reduceLT, Int.reduceMul, Int.reduceAdd, Int.reduceSub, Int.reduceToNat, opsAV_length]
    refine loop_introW (A := Nat) (fun i => [(9, .int .i64 (i : Int)), (8, .int .i64 (ops.length : Int)), (7, .slice .any 2 (opsAV ops)), (0, .ptr id 0)]) (fun _ => H) (fun i => i ≤ ops.length ∧ opOf l p (ops.drop i) = some k) (fun i => ops.length - i) 0 ⟨by omega, hop⟩ ?_ fun i hi => ?_
    · (simp only [bkq, enterW, subW, ltF, ne_eq, Nat.reduceEqDiff, reduceCtorEq, opsAV_lt, hid]; try simp (disch := first | assumption | omega | (simp; done) | (simp; omega) | (simp only [bt, and_true]; first | done | omega | (simp; done))) [↓zlf, beq, ybc, ybd, ybe, endOk, wk, wk2, wk1, wkM, wkL, wkLL, ybf, byq, biq, isDs_ints, hcl, opsAV_lt, hid]; try (repeat' (first | assumption | omega | exact True.intro | refine And.intro ?_ ?_ | refine closed_buf ?_ | refine closed_set_buf ?_ | refine closed_cells ?_ ?_ | refine closed_set ?_ ?_ | refine closed_del ?_ | exact AHeap.Le.refl _ | refine AHeap.Le.push ?_ _ | refine AHeap.Le.del ?_ ?_ | (simp only [bt, and_true, true_and, opsAV_lt, hid]; first | done | omega | (simp; done)))))
    obtain ⟨hi, hop'⟩ := hi
    simp only [go_sem, reduceCtorEq, Nat.reduceEqDiff, Nat.reduceAdd, Nat.reduceMul, Nat.reduceSub, Nat.reduceLeDiff, Nat.reduceLT, Int.reduceMul, Int.reduceAdd, Int.reduceSub, Int.reduceToNat]
    refine cond_split (fun h1 => ?_) (fun h1 => ?_)
    · have hi1 : i < ops.length := by simp at h1; omega
      have e5 : IntKind.i64.wrap ((i : Int) + 1) = ((i + 1 : Nat) : Int) := by rw [wrap_i64] <;> omega
      have hgo := opsAV_get hi1
      rw [List.drop_eq_getElem_cons hi1] at hop'
      rcases hok : ops[i] with ⟨ko, so⟩
      rw [hok] at hop' hgo
      unfold opOf at hop'
      by_cases hs : isS l p so = true
      · rw [if_pos hs] at hop'
        cases hop'
        simp only [go_sem, reduceCtorEq, Nat.reduceEqDiff, Nat.reduceAdd, Nat.reduceMul, Nat.reduceSub, Nat.reduceLeDiff, Nat.reduceLT, Int.reduceMul, Int.reduceAdd, Int.reduceSub, Int.reduceToNat, Int.toNat_natCast, opsAV_length, hgo, e_ySym, f1, hg, onP_some, hs, if_true, hp, hl]
        refine ⟨by omega, ?_⟩
        simp (disch := first | assumption | omega | (simp; done) | (simp; omega) | (simp only [bt, and_true]; first | done | omega | (simp; done))) [↓zlf, beq, ybc, ybd, ybe, endOk, wk, wk2, wk1, wkM, wkL, wkLL, ybf, hcl1]
      · rw [if_neg hs] at hop'
        have hs' : isS l p so = false := by simpa using hs
        simp only [go_sem, reduceCtorEq, Nat.reduceEqDiff, Nat.reduceAdd, Nat.reduceMul, Nat.reduceSub, Nat.reduceLeDiff, Nat.reduceLT, Int.reduceMul, Int.reduceAdd, Int.reduceSub, Int.reduceToNat, Int.toNat_natCast, opsAV_length, hgo, e_ySym, f1, hg, onP_some, hs', if_false, hp, hl, e5]
        refine ⟨by omega, i + 1, ⟨by omega, hop'⟩, by omega, ?_⟩
        (simp only [bkq, enterW, subW, ltF, ne_eq, Nat.reduceEqDiff, reduceCtorEq, opsAV_lt, hid]; try simp (disch := first | assumption | omega | (simp; done) | (simp; omega) | (simp only [bt, and_true]; first | done | omega | (simp; done))) [↓zlf, beq, ybc, ybd, ybe, endOk, wk, wk2, wk1, wkM, wkL, wkLL, ybf, byq, biq, isDs_ints, hcl, opsAV_lt, hid]; try (repeat' (first | assumption | omega | exact True.intro | refine And.intro ?_ ?_ | refine closed_buf ?_ | refine closed_set_buf ?_ | refine closed_cells ?_ ?_ | refine closed_set ?_ ?_ | refine closed_del ?_ | exact AHeap.Le.refl _ | refine AHeap.Le.push ?_ _ | refine AHeap.Le.del ?_ ?_ | (simp only [bt, and_true, true_and, opsAV_lt, hid]; first | done | omega | (simp; done)))))
    · exfalso
      have hi1 : ops.length ≤ i := by simp at h1; omega
      rw [ybf hi1] at hop'
      cases hop'
  | none =>
    rw [hop, onN_none] at hK
    refine ⟨_, _, hK, ?_⟩
    clear hK
    refine ACalls.of_aw (Ω := [(199, Ent.effect e_ySym)]) (T := assoc []) mixed (TblOk.cons ok_ySym TblOk.nil) Try.func231 (by kernel_rfl) (by rfl) (rs := [.tmp 4]) (by rfl) (by kernel_rfl) (by simp only [Try.ntmps231, yaz, yba]; decide) (Nat.le_refl _) fun hcl hlt => ?_
    change aw _ _ _ (KI Try.prog [(199, Ent.effect e_ySym)] (aEnd Try.prog [.tmp 4] H.nx _ _) []) _ _
    clear hlt
    simp only [go_sem, reduceCtorEq, Nat.reduceEqDiff, Nat.reduceAdd, Nat.reduceMul, Nat.reduceSub, Nat.reduceLeDiff, Nat.reduceLT, Int.reduceMul, Int.reduceAdd, Int.reduceSub, Int.reduceToNat, opsAV_length]
    refine loop_introW (A := Nat) (fun i => [(9, .int .i64 (i : Int)), (8, .int .i64 (ops.length : Int)), (7, .slice .any 2 (opsAV ops)), (0, .ptr id 0)]) (fun _ => H) (fun i => i ≤ ops.length ∧ opOf l p (ops.drop i) = none) (fun i => ops.length - i) 0 ⟨by omega, hop⟩ ?_ fun i hi => ?_
    · (simp only [bkq, enterW, subW, ltF, ne_eq, Nat.reduceEqDiff, reduceCtorEq, opsAV_lt, hid]; try simp (disch := first | assumption | omega | (simp; done) | (simp; omega) | (simp only [bt, and_true]; first | done | omega | (simp; done))) [↓zlf, beq, ybc, ybd, ybe, endOk, wk, wk2, wk1, wkM, wkL, wkLL, ybf, byq, biq, isDs_ints, hcl, opsAV_lt, hid]; try (repeat' (first | assumption | omega | exact True.intro | refine And.intro ?_ ?_ | refine closed_buf ?_ | refine closed_set_buf ?_ | refine closed_cells ?_ ?_ | refine closed_set ?_ ?_ | refine closed_del ?_ | exact AHeap.Le.refl _ | refine AHeap.Le.push ?_ _ | refine AHeap.Le.del ?_ ?_ | (simp only [bt, and_true, true_and, opsAV_lt, hid]; first | done | omega | (simp; done)))))
    obtain ⟨hi, hop'⟩ := hi
    simp only [go_sem, reduceCtorEq, Nat.reduceEqDiff, Nat.reduceAdd, Nat.reduceMul, Nat.reduceSub, Nat.reduceLeDiff, Nat.reduceLT, Int.reduceMul, Int.reduceAdd, Int.reduceSub, Int.reduceToNat]
    refine cond_split (fun h1 => ?_) (fun h1 => ?_)
    · have hi1 : i < ops.length := by simp at h1; omega
      have e5 : IntKind.i64.wrap ((i : Int) + 1) = ((i + 1 : Nat) : Int) := by rw [wrap_i64] <;> omega
      have hgo := opsAV_get hi1
      rw [List.drop_eq_getElem_cons hi1] at hop'
      rcases hok : ops[i] with ⟨ko, so⟩
      rw [hok] at hop' hgo
      unfold opOf at hop'
      by_cases hs : isS l p so = true
      · rw [if_pos hs] at hop'; cases hop'
      · rw [if_neg hs] at hop'
        have hs' : isS l p so = false := by simpa using hs
        simp only [go_sem, reduceCtorEq, Nat.reduceEqDiff, Nat.reduceAdd, Nat.reduceMul, Nat.reduceSub, Nat.reduceLeDiff, Nat.reduceLT, Int.reduceMul, Int.reduceAdd, Int.reduceSub, Int.reduceToNat, Int.toNat_natCast, opsAV_length, hgo, e_ySym, f1, hg, onP_some, hs', if_false, hp, hl, e5]
        refine ⟨by omega, i + 1, ⟨by omega, hop'⟩, by omega, ?_⟩
        (simp only [bkq, enterW, subW, ltF, ne_eq, Nat.reduceEqDiff, reduceCtorEq, opsAV_lt, hid]; try simp (disch := first | assumption | omega | (simp; done) | (simp; omega) | (simp only [bt, and_true]; first | done | omega | (simp; done))) [↓zlf, beq, ybc, ybd, ybe, endOk, wk, wk2, wk1, wkM, wkL, wkLL, ybf, byq, biq, isDs_ints, hcl, opsAV_lt, hid]; try (repeat' (first | assumption | omega | exact True.intro | refine And.intro ?_ ?_ | refine closed_buf ?_ | refine closed_set_buf ?_ | refine closed_cells ?_ ?_ | refine closed_set ?_ ?_ | refine closed_del ?_ | exact AHeap.Le.refl _ | refine AHeap.Le.push ?_ _ | refine AHeap.Le.del ?_ ?_ | (simp only [bt, and_true, true_and, opsAV_lt, hid]; first | done | omega | (simp; done)))))
    · simp only [go_sem, reduceCtorEq, Nat.reduceEqDiff, Nat.reduceAdd, Nat.reduceMul, Nat.reduceSub, Nat.reduceLeDiff, Nat.reduceLT, Int.reduceMul, Int.reduceAdd, Int.reduceSub, Int.reduceToNat]
      simp (disch := first | assumption | omega | (simp; done) | (simp; omega) | (simp only [bt, and_true]; first | done | omega | (simp; done))) [↓zlf, beq, ybc, ybd, ybe, endOk, wk, wk2, wk1, wkM, wkL, wkLL, ybf, hcl]
end Go.AL


open Go Go.AL Go.Proofs
namespace Go.AL
set_option linter.all false
set_option maxRecDepth 10000
def truthN (op v : Int) : AV := .agg [.int .i64 op, .int .i64 0, .int .i64 0, .str [], .str [], .int .u64 0, .int .u64 v]
def truthAV (s : List UInt8) : AV := if s = sTrue then .tup [truthN 2 1, .bool true] else if s = sFalse then .tup [truthN 2 0, .bool true] else .tup [truthN 0 0, .bool false]
def p_yOf : List AV → AHeap → (AV → Prop) → Prop
  | [.int .u64 n], _, K => K (.agg [.int .u64 0, .int .u64 n])
  | _, _, _ => False
theorem ok_yOf : EntOk Try.prog 87 (Ent.pure p_yOf) := by
  refine EntOk.pure fun args H K h => ?_
  unfold p_yOf at h
  split at h
  rotate_left
  · exact h.elim
  rename_i n
  refine ⟨_, h, ?_⟩
  clear h
  refine ACalls.of_aw (Ω := []) (T := assoc []) mixed TblOk.nil Try.func87 (by kernel_rfl) (by rfl) (rs := [.cell 2 64]) (by rfl) (by kernel_rfl) (by simp only [Try.ntmps87, yaz, yba]; decide) (Nat.le_refl _) fun hcl hlt => ?_
  change aw _ _ _ (KI Try.prog [] (aEnd Try.prog [.cell 2 64] H.nx _ _) []) _ _
  clear hlt
  simp only [go_sem, reduceCtorEq, Nat.reduceEqDiff, Nat.reduceAdd, Nat.reduceMul, Nat.reduceSub, Nat.reduceLeDiff, Nat.reduceLT, Int.reduceMul, Int.reduceAdd, Int.reduceSub, Int.reduceToNat]
  simp (disch := first | assumption | omega | (simp; done) | (simp; omega) | (simp only [bt, and_true]; first | done | omega | (simp; done))) [↓zlf, beq, ybc, ybd, ybe, endOk, wk, wk2, wk1, wkM, wkL, wkLL, ybf, hcl]
def p_yTruth : List AV → AHeap → (AV → Prop) → Prop
  | [.str s], _, K => K (truthAV s)
  | _, _, _ => False
theorem ok_yTruth : EntOk Try.prog 242 (Ent.pure p_yTruth) := by
  refine EntOk.pure fun args H K h => ?_
  unfold p_yTruth at h
  split at h
  rotate_left
  · exact h.elim
  rename_i s
  refine ⟨_, h, ?_⟩
  clear h
  unfold truthAV
  by_cases h1 : s = sTrue
  · rw [if_pos h1]
    subst h1
    refine ACalls.of_aw (Ω := [(87, Ent.pure p_yOf)]) (T := assoc []) mixed (TblOk.cons ok_yOf TblOk.nil) Try.func242 (by kernel_rfl) (by rfl) (rs := [.cell 2 66,.tmp 3]) (by rfl) (by kernel_rfl) (by simp only [Try.ntmps242, yaz, yba]; decide) (Nat.le_refl _) fun hcl hlt => ?_
    change aw _ _ _ (KI Try.prog [(87, Ent.pure p_yOf)] (aEnd Try.prog [.cell 2 66,.tmp 3] H.nx _ _) []) _ _
    clear hlt
    have d1 : (sTrue == [116, 114, 117, 101]) = true := by decide
    simp only [go_sem, reduceCtorEq, Nat.reduceEqDiff, Nat.reduceAdd, Nat.reduceMul, Nat.reduceSub, Nat.reduceLeDiff, Nat.reduceLT, Int.reduceMul, Int.reduceAdd, Int.reduceSub, Int.reduceToNat, p_yOf, d1, zju]
    simp (disch := first | assumption | omega | (simp; done) | (simp; omega) | (simp only [bt, and_true]; first | done | omega | (simp; done))) [↓zlf, beq, ybc, ybd, ybe, endOk, wk, wk2, wk1, wkM, wkL, wkLL, ybf, hcl, truthN]
  · rw [if_neg h1]
    have d1 : (s == [116, 114, 117, 101]) = false := by simpa [sTrue] using h1
    by_cases h2 : s = sFalse
    · rw [if_pos h2]
      subst h2
      refine ACalls.of_aw (Ω := [(87, Ent.pure p_yOf)]) (T := assoc []) mixed (TblOk.cons ok_yOf TblOk.nil) Try.func242 (by kernel_rfl) (by rfl) (rs := [.cell 2 66,.tmp 3]) (by rfl) (by kernel_rfl) (by simp only [Try.ntmps242, yaz, yba]; decide) (Nat.le_refl _) fun hcl hlt => ?_
      change aw _ _ _ (KI Try.prog [(87, Ent.pure p_yOf)] (aEnd Try.prog [.cell 2 66,.tmp 3] H.nx _ _) []) _ _
      clear hlt
      have d2 : (sFalse == [102, 97, 108, 115, 101]) = true := by decide
      simp only [go_sem, reduceCtorEq, Nat.reduceEqDiff, Nat.reduceAdd, Nat.reduceMul, Nat.reduceSub, Nat.reduceLeDiff, Nat.reduceLT, Int.reduceMul, Int.reduceAdd, Int.reduceSub, Int.reduceToNat, p_yOf, d1, d2, zju]
      simp (disch := first | assumption | omega | (simp; done) | (simp; omega) | (simp only [bt, and_true]; first | done | omega | (simp; done))) [↓zlf, beq, ybc, ybd, ybe, endOk, wk, wk2, wk1, wkM, wkL, wkLL, ybf, hcl, truthN]
    · rw [if_neg h2]
      have d2 : (s == [102, 97, 108, 115, 101]) = false := by simpa [sFalse] using h2
      refine ACalls.of_aw (Ω := [(87, Ent.pure p_yOf)]) (T := assoc []) mixed (TblOk.cons ok_yOf TblOk.nil) Try.func242 (by kernel_rfl) (by rfl) (rs := [.cell 2 66,.tmp 3]) (by rfl) (by kernel_rfl) (by simp only [Try.ntmps242, yaz, yba]; decide) (Nat.le_refl _) fun hcl hlt => ?_
      change aw _ _ _ (KI Try.prog [(87, Ent.pure p_yOf)] (aEnd Try.prog [.cell 2 66,.tmp 3] H.nx _ _) []) _ _
      clear hlt
      simp only [go_sem, reduceCtorEq, Nat.reduceEqDiff, Nat.reduceAdd, Nat.reduceMul, Nat.reduceSub, Nat.reduceLeDiff, Nat.reduceLT, Int.reduceMul, Int.reduceAdd, Int.reduceSub, Int.reduceToNat, p_yOf, d1, d2, zju]
      simp (disch := first | assumption | omega | (simp; done) | (simp; omega) | (simp only [bt, and_true]; first | done | omega | (simp; done))) [↓zlf, beq, ybc, ybd, ybe, endOk, wk, wk2, wk1, wkM, wkL, wkLL, ybf, hcl, truthN]
def goodL (l : List Tok) : Prop := ∀ x ∈ l, x.2.1.length ≤ 1000 ∧ (x.1 = 1 → (lit x.2.1).isSome = true)
def preP (H : AHeap) (id tb : Nat) (l : List Tok) (p : Nat) (t : List Nd) : Prop := id ≠ tb ∧ H.get tb = some (.buf 7 t.length) ∧ t.length ≤ p ∧ p ≤ l.length ∧ l.length ≤ 1000 ∧ goodL l ∧ Good t
theorem preP_set {H : AHeap} {id tb p p' : Nat} {m : Mark} {l : List Tok} {t t' : List Nd} (h : preP H id tb l p t) (hp : p' ≤ l.length) (ht : t'.length ≤ p') (hg : Good t') : preP ((H.set id (pst m l p' tb t')).set tb (.buf 7 t'.length)) id tb l p' t' := by
  obtain ⟨h1, h2, h3, h4, h5, h6, h7⟩ := h
  have htb := AHeap.get_lt h2
  refine ⟨h1, ?_, ht, hp, h5, h6, hg⟩
  rw [heap_get_set, if_pos rfl, if_pos (by simpa [zjw] using htb)]
theorem preP_set1 {H : AHeap} {id tb p p' : Nat} {o : AObj} {l : List Tok} {t : List Nd} (h : preP H id tb l p t) (hp : p' ≤ l.length) (ht : t.length ≤ p') : preP (H.set id o) id tb l p' t := by
  obtain ⟨h1, h2, h3, h4, h5, h6, h7⟩ := h
  refine ⟨h1, ?_, ht, hp, h5, h6, h7⟩
  rw [AHeap.get_set_ne _ _ (fun e => h1 e.symm)]; exact h2
def kindAt (l : List Tok) (p : Nat) : Nat := match l[p]? with
  | none => 0
  | some (k, _, _) => k
def litAt (l : List Tok) (p : Nat) : Nat := match l[p]? with
  | none => 0
  | some (_, x, _) => (lit x).getD 0
def e_yLiteral : List AV → AHeap → (AEnd → AHeap → Prop) → Prop
  | [.ptr id 0], H, K => onP (H.get id) fun m l p tb t => (preP H id tb l p t ∧ kindAt l p = 1) ∧
      K (.ret (.int .i64 (t.length : Int))) ((H.set id (pst m l (p + 1) tb (t ++ [⟨1, 0, 0, [], [], litAt l p⟩]))).set tb (.buf 7 (t.length + 1)))
  | _, _, _ => False
theorem ok_yLiteral : EntOk Try.prog 240 (Ent.effect e_yLiteral) := by
  refine EntOk.effect fun args H K h => ?_
  unfold e_yLiteral at h
  split at h
  rotate_left
  · exact h.elim
  rename_i id
  obtain ⟨m, l, p, tb, t, hg, ⟨⟨hne, htb, ht, hp, hl, hgl, hgt⟩, hk⟩, hK⟩ := h
  have hid := AHeap.get_lt hg
  have htbl := AHeap.get_lt htb
  have hcs := cells_some (cs := [.slice m 3 (toks l), .int .i64 (p : Int), .slice (.own tb) 7 (nds t)]) hg
  have f1 := far_of hid
  have f2 := far_of htbl
  have g1 : (id = tb) = False := eq_false hne
  have g2 : (tb = id) = False := eq_false fun e => hne e.symm
  have e1 : IntKind.i64.wrap ((p : Int) + 1) = ((p + 1 : Nat) : Int) := by rw [wrap_i64] <;> omega
  have hlt0 : p < l.length := by
    rcases Nat.lt_or_ge p l.length with h1 | h1
    · exact h1
    · unfold kindAt at hk; rw [List.getElem?_eq_none h1] at hk; cases hk
  rcases htk : l[p] with ⟨k, x, z⟩
  have hgd := tok_get hlt0 htk
  have hk1 : k = 1 := by unfold kindAt at hk; rw [List.getElem?_eq_getElem hlt0, htk] at hk; exact hk
  subst hk1
  have hla : litAt l p = (lit x).getD 0 := by unfold litAt; rw [List.getElem?_eq_getElem hlt0, htk]
  rw [hla] at hK
  obtain ⟨hxl, hxs⟩ := hgl l[p] (List.getElem_mem hlt0)
  rw [htk] at hxl hxs
  dsimp only at hxl hxs
  obtain ⟨n, hn⟩ := Option.isSome_iff_exists.1 (hxs rfl)
  have hn128 := lit_lt hn
  rw [hn] at hK
  dsimp only [Option.getD_some] at hK
  refine ⟨_, _, hK, ?_⟩
  clear hK
  refine ACalls.of_aw (Ω := [(71, Ent.pure p_NLiteral), (152, Ent.effect e_yFail), (141, Ent.pure p_NValue), (200, Ent.effect e_yAdd)]) (T := assoc [(1, [[], [], [], [], [], [], [], [], [], [], [], [3, 7, 10], [], [], [], [], [3, 7, 10, 11]])]) mixed (TblOk.cons ok_NLiteral (TblOk.cons ok_yFail (TblOk.cons ok_NValue (TblOk.cons ok_yAdd TblOk.nil)))) Try.func240 (by kernel_rfl) (by rfl) (rs := [.tmp 2]) (by rfl) (by kernel_rfl) (by simp only [Try.ntmps240, yaz, yba]; decide) (Nat.le_refl _) fun hcl hlt => ?_
  change aw _ _ _ (KI Try.prog [(71, Ent.pure p_NLiteral), (152, Ent.effect e_yFail), (141, Ent.pure p_NValue), (200, Ent.effect e_yAdd)] (aEnd Try.prog [.tmp 2] H.nx _ _ (assoc [(1, [[], [], [], [], [], [], [], [], [], [], [], [3, 7, 10], [], [], [], [], [3, 7, 10, 11]])])) []) _ _
  clear hlt
  have hxl' : x.length ≤ 140737488355328 := by omega
  have hv : valAV (n : Int) = .tup [.agg [.int .u64 ((n / 2 ^ 64 : Nat) : Int), .int .u64 ((n % 2 ^ 64 : Nat) : Int)], .bool true] := by
    unfold valAV
    rw [if_pos ⟨Int.natCast_nonneg n, Int.lt_of_lt_of_le (Int.ofNat_lt.2 hn128) (by decide)⟩]
    rfl
  have hn1 : isN (n : Int) := ⟨Int.le_trans (by decide) (Int.natCast_nonneg n), Int.lt_of_lt_of_le (Int.ofNat_lt.2 hn128) (by decide)⟩
  have hvo : vOf (n / 2 ^ 64) (n % 2 ^ 64) = n := vOf_back n
  have hlo : n / 2 ^ 64 < 18446744073709551616 := by omega
  have hlo2 : n % 2 ^ 64 < 18446744073709551616 := by omega
  have hx1 : (id = H.nx) = False := eq_false (by omega)
  have s1 := set_comm' (H := H) hne
  simp only [go_sem, reduceCtorEq, Nat.reduceEqDiff, Nat.reduceAdd, Nat.reduceMul, Nat.reduceSub, Nat.reduceLeDiff, Nat.reduceLT, Int.reduceMul, Int.reduceAdd, Int.reduceSub, Int.reduceToNat, hcs, toks_length, hgd, Int.toNat_natCast, e1, p_NLiteral, hxl', nLit, hn, hx1, nAV]
  simp only [p_NValue]
  refine ⟨by omega, n, ⟨rfl, hn1⟩, ?_⟩
  rw [hv]
  have hn0 : (0 ≤ n / 2 ^ 64) := Nat.zero_le _
  generalize hw0 : w0 (n : Int) = y0
  generalize hw1 : w1 (n : Int) = y1
  generalize hw2 : w2 (n : Int) = y2
  have hgi : ∀ o, (H.set id o).get id = some o := fun o => AHeap.get_set_same _ _ hid
  have hgt : ∀ o, (H.set id o).get tb = some (.buf 7 t.length) := fun o => by rw [AHeap.get_set_ne _ _ (fun e => hne e.symm)]; exact htb
  have hcl1 := pst_closed hg hcl (p + 1) (t ++ [⟨1, 0, 0, [], [], n⟩])
  have hcl2 : ((H.set id (pst m l (p + 1) tb (t ++ [⟨1, 0, 0, [], [], n⟩]))).set tb (.buf 7 (t.length + 1))).Closed := closed_set_buf hcl1
  simp only [blkP, go_sem, reduceCtorEq, Nat.reduceEqDiff, Nat.reduceAdd, Nat.reduceMul, Nat.reduceSub, Nat.reduceLeDiff, Nat.reduceLT, Int.reduceMul, Int.reduceAdd, Int.reduceSub, Int.reduceToNat, hcs, Int.toNat_natCast, e1, hx1, f1, f2, g1, g2, cells_set hid, e_yAdd, hgi, hgt, onP_some', hvo]
  refine ⟨⟨by decide, by decide, by decide, ⟨by omega, by omega, by omega, by omega⟩, by omega⟩, ?_⟩
  simp (disch := first | assumption | omega | (simp; done) | (simp; omega) | (simp only [bt, and_true]; first | done | omega | (simp; done))) [↓zlf, beq, ybc, ybd, ybe, endOk, wk, wk2, wk1, wkM, wkL, wkLL, ybf, hcl2]
/-! ### The rules -/
def endR (m : Mark) (l : List Tok) (tb id : Nat) (H : AHeap) (K : AEnd → AHeap → Prop) (o : Option PR) : Prop := match o with
  | none => False
  | some (.ok a p t) => K (.ret (.int .i64 (a : Int))) ((H.set id (pst m l p tb t)).set tb (.buf 7 t.length))
  | some (.bad p) => K (.panic (.iface 237 (.int .i64 (p : Int)))) ((H.del id).del tb)
@[congr] theorem endR_congr {m : Mark} {l : List Tok} {tb id : Nat} {H : AHeap} {K : AEnd → AHeap → Prop} {o o' : Option PR} (h : o = o') : endR m l tb id H K o = endR m l tb id H K o' := by rw [h]
theorem endR_ok {m : Mark} {l : List Tok} {tb id a p : Nat} {t : List Nd} {H : AHeap} {K : AEnd → AHeap → Prop} : endR m l tb id H K (some (.ok a p t)) = K (.ret (.int .i64 (a : Int))) ((H.set id (pst m l p tb t)).set tb (.buf 7 t.length)) := rfl
theorem endR_bad {m : Mark} {l : List Tok} {tb id p : Nat} {H : AHeap} {K : AEnd → AHeap → Prop} : endR m l tb id H K (some (.bad p)) = K (.panic (.iface 237 (.int .i64 (p : Int)))) ((H.del id).del tb) := rfl
def e_rule (rl : Rl) (f : Nat) : List AV → AHeap → (AEnd → AHeap → Prop) → Prop
  | [.ptr id 0], H, K => onP (H.get id) fun m l p tb t => preP H id tb l p t ∧ endR m l tb id H K (run l f rl p t)
  | _, _, _ => False
theorem dd_set {H : AHeap} {i j : Nat} {x y : AObj} : (((H.set i x).set j y).del i).del j = (H.del i).del j := by
  simp only [AHeap.set, AHeap.del]
  congr 1
  funext k
  by_cases h1 : k = j
  · simp [h1]
  · by_cases h2 : k = i
    · simp [h1, h2]
    · simp [h1, h2]
theorem dd_set1 {H : AHeap} {i j : Nat} {x : AObj} : ((H.set i x).del i).del j = (H.del i).del j := by
  simp only [AHeap.set, AHeap.del]
  congr 1
  funext k
  by_cases h1 : k = j
  · simp [h1]
  · by_cases h2 : k = i
    · simp [h1, h2]
    · simp [h1, h2]
theorem dd_le {H : AHeap} {i j : Nat} : ((H.del i).del j).Le H := ⟨Nat.le_refl _, fun k x hk => by
  rw [del_get] at hk
  split at hk
  · cases hk
  · rw [del_get] at hk
    split at hk
    · cases hk
    · exact hk⟩
theorem dd_le2 {H : AHeap} {i j : Nat} {x y : AObj} : ((H.del i).del j).Le ((H.set i x).set j y) := by
  have := dd_le (H := (H.set i x).set j y) (i := i) (j := j)
  rwa [dd_set] at this
theorem dd_le1 {H : AHeap} {i j : Nat} {x : AObj} : ((H.del i).del j).Le (H.set i x) := by
  have := dd_le (H := H.set i x) (i := i) (j := j)
  rwa [dd_set1] at this
theorem dd_cl {H : AHeap} {i j : Nat} (h : H.Closed) : ((H.del i).del j).Closed := closed_del (closed_del h)
theorem pre_facts {H : AHeap} {id tb p : Nat} {m : Mark} {l : List Tok} {t : List Nd} (hg : H.get id = some (pst m l p tb t)) (h : preP H id tb l p t) (hcl : H.Closed) :
    (∀ X Y, ((H.set id X).set tb Y).get id = some X) ∧ (∀ X Y, ((H.set id X).set tb Y).get tb = some Y) ∧ (∀ X Y Z, ((H.set id X).set tb Y).set id Z = (H.set id Z).set tb Y) ∧
      (∀ p' t', ((H.set id (pst m l p' tb t')).set tb (.buf 7 t'.length)).Closed) ∧ (∀ X Y Z, ((H.set id X).set tb Y).set tb Z = (H.set id X).set tb Z) := by
  obtain ⟨h1, h2, h3, h4, h5, h6, h7⟩ := h
  have hid := AHeap.get_lt hg
  have htb := AHeap.get_lt h2
  refine ⟨fun X Y => ?_, fun X Y => ?_, fun X Y Z => ?_, fun p' t' => closed_set_buf (pst_closed hg hcl p' t'), fun X Y Z => ?_⟩
  · rw [AHeap.get_set_ne _ _ h1]; exact AHeap.get_set_same _ _ hid
  · exact AHeap.get_set_same _ _ (by simpa [zjw] using htb)
  · rw [set_comm' h1]; congr 1; simp only [AHeap.set]; congr 1; funext k; by_cases hk : k = id <;> simp [hk]
  · simp only [AHeap.set]; congr 1; funext k; by_cases hk : k = tb <;> simp [hk]
end Go.AL

