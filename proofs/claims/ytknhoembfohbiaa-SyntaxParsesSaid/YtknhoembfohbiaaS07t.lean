/- Contracts and plain laws, a part of the proof; no condition of its own. -/
import Derived.Test.YtknhoembfohbiaaS07v
import Derived.Test.YtknhoembfohbiaaS07c
open List renaming length_cons → yaz, length_nil → yba, take_of_length_le → ybc, drop_append → ybd, take_append → ybe, drop_eq_nil_of_le → ybf
open Go Go.AL Go.Proofs
namespace Go.AL
set_option linter.all false
set_option maxRecDepth 10000
theorem ti_nodeR : ti Try.prog 67 = some ⟨.struct [(0, 3, false), (1, 3, false), (2, 3, false), (3, 9, false), (4, 9, false), (5, 64, false)], 7, 72, .agg [.int .i64 0, .int .i64 0, .int .i64 0, .str [], .str [], .int .u64 0, .int .u64 0]⟩ := by kernel_rfl
theorem ti_nodesR : ti Try.prog 39 = some ⟨.slice 67, 1, 24, .slice .nil 1 []⟩ := by kernel_rfl
theorem ti_parserR : ti Try.prog 154 = some ⟨.struct [(0, 43, false), (1, 3, false), (2, 4, false), (3, 39, false)], 4, 64, .agg [.slice .nil 1 [], .int .i64 0, .bool false, .slice .nil 1 []]⟩ := by kernel_rfl
attribute [go_sem] ti_nodeR ti_nodesR ti_parserR
def rst (m : Mark) (l : List Tok) (p : Nat) (b : Bool) (tb : Nat) (t : List Nd) : AObj := .cells [.slice m 3 (toks l), .int .i64 (p : Int), .bool b, .slice (.own tb) 7 (nds t)]
def onQ (o : Option AObj) (K : Mark → List Tok → Nat → Bool → Nat → List Nd → Prop) : Prop := ∃ m l p b tb t, o = some (rst m l p b tb t) ∧ K m l p b tb t
@[congr] theorem onQ_congr {o o' : Option AObj} {K : Mark → List Tok → Nat → Bool → Nat → List Nd → Prop} (h : o = o') : onQ o K = onQ o' K := by rw [h]
theorem onQ_some {m : Mark} {l : List Tok} {p tb : Nat} {b : Bool} {t : List Nd} {K : Mark → List Tok → Nat → Bool → Nat → List Nd → Prop} : onQ (some (rst m l p b tb t)) K = K m l p b tb t := by
  refine propext ⟨fun ⟨m', l', p', b', tb', t', h, hk⟩ => ?_, fun h => ⟨m, l, p, b, tb, t, rfl, h⟩⟩
  simp only [rst, Option.some.injEq, AObj.cells.injEq, List.cons.injEq, AV.slice.injEq, AV.int.injEq, AV.bool.injEq, Mark.own.injEq, true_and, and_true] at h
  obtain ⟨⟨rfl, h1⟩, h2, rfl, rfl, h3⟩ := h
  have := toks_inj h1
  have := nds_inj h3
  have : p = p' := by omega
  subst_vars
  exact hk
theorem onQ_some' {m : Mark} {l : List Tok} {p tb : Nat} {b : Bool} {t : List Nd} {K : Mark → List Tok → Nat → Bool → Nat → List Nd → Prop} : onQ (some (.cells [.slice m 3 (toks l), .int .i64 (p : Int), .bool b, .slice (.own tb) 7 (nds t)])) K = K m l p b tb t := onQ_some
theorem rst_closed {H : AHeap} {id : Nat} {m : Mark} {l : List Tok} {p tb : Nat} {b : Bool} {t : List Nd} (hg : H.get id = some (rst m l p b tb t)) (hcl : H.Closed) (p' : Nat) (b' : Bool) (t' : List Nd) : (H.set id (rst m l p' b' tb t')).Closed := by
  have h0 := hcl id _ hg 0 (by simp)
  have h2 := hcl id _ hg 3 (by simp)
  simp only [List.getElem_cons_zero, List.getElem_cons_succ, toks_lt', nds_lt] at h0 h2
  refine closed_set hcl ?_
  simp only [zml, zmm, toks_lt', nds_lt, zlw, zlx, and_true, true_and]
  exact ⟨h0, h2⟩
def e_zNode : List AV → AHeap → (AEnd → AHeap → Prop) → Prop
  | [.ptr id 0, .agg [.int .i64 op, .int .i64 a, .int .i64 b, .str nm, .str att, .int .u64 hi, .int .u64 lo]], H, K => onQ (H.get id) fun m l p bd tb t =>
      (0 ≤ op ∧ 0 ≤ a ∧ 0 ≤ b ∧ isV hi lo ∧ id ≠ tb ∧ H.get tb = some (.buf 7 t.length) ∧ t.length ≤ 100000) ∧
      K (.ret (.int .i64 (t.length : Int))) ((H.set id (rst m l p bd tb (t ++ [⟨op.toNat, a.toNat, b.toNat, nm, att, vOf hi.toNat lo.toNat⟩]))).set tb (.buf 7 (t.length + 1)))
  | _, _, _ => False
theorem ok_zNode : EntOk Try.prog 156 (Ent.effect e_zNode) := by
  refine EntOk.effect fun args H K h => ?_
  unfold e_zNode at h
  split at h
  rotate_left
  · exact h.elim
  rename_i id op a b nm att hi lo
  obtain ⟨m, l, p, bd, tb, t, hg, ⟨h1, h2, h3, ⟨h4, h5, h6, h7⟩, hne, htb, htl⟩, hK⟩ := h
  refine ⟨_, _, hK, ?_⟩
  clear hK
  obtain ⟨op, rfl⟩ := u64_lift h1
  obtain ⟨a, rfl⟩ := u64_lift h2
  obtain ⟨b, rfl⟩ := u64_lift h3
  obtain ⟨hi, rfl⟩ := u64_lift h4
  obtain ⟨lo, rfl⟩ := u64_lift h6
  simp only [Int.toNat_natCast]
  refine ACalls.of_aw (Ω := []) (T := assoc [(1, [[], [], [], [], [], [], [5], [4, 5], [], [], [4, 5]])]) mixed TblOk.nil Try.func156 (by kernel_rfl) (by rfl) (rs := [.tmp 4]) (by rfl) (by kernel_rfl) (by simp only [Try.ntmps156, yaz, yba]; decide) (Nat.le_refl _) fun hcl hlt => ?_
  change aw _ _ _ (KI Try.prog [] (aEnd Try.prog [.tmp 4] H.nx _ _ (assoc [(1, [[], [], [], [], [], [], [5], [4, 5], [], [], [4, 5]])])) []) _ _
  clear hlt
  have hid := AHeap.get_lt hg
  have htbl := AHeap.get_lt htb
  have hcs := cells_some (cs := [.slice m 3 (toks l), .int .i64 (p : Int), .bool bd, .slice (.own tb) 7 (nds t)]) hg
  have f1 := far_of hid
  have f2 := far_of htbl
  have g1 : (id = tb) = False := eq_false hne
  have g2 : (tb = id) = False := eq_false fun e => hne e.symm
  have e1 : nds t ++ [AV.agg [.int .i64 (op : Int), .int .i64 (a : Int), .int .i64 (b : Int), .str nm, .str att, .int .u64 (hi : Int), .int .u64 (lo : Int)]] = nds (t ++ [⟨op, a, b, nm, att, vOf hi lo⟩]) := by
    rw [← nds_snoc]; unfold ndAV; simp only; rw [vOf_hi (by omega), vOf_lo (by omega)]
  have e2 : IntKind.i64.wrap (((t.length + 1 : Nat) : Int) - 1) = (t.length : Int) := by rw [wrap_i64] <;> omega
  have hcl1 := rst_closed hg hcl p bd (t ++ [⟨op, a, b, nm, att, vOf hi lo⟩])
  have hcl2 : ((H.set id (rst m l p bd tb (t ++ [⟨op, a, b, nm, att, vOf hi lo⟩]))).set tb (.buf 7 (t.length + 1))).Closed := closed_set_buf hcl1
  have s1 := set_comm' (H := H) hne
  have s2 := fun o => (cells_set_far (H := H) hne o).trans hcs
  have s3 : ∀ o cs, cellsOf? ((H.set id (.cells cs)).set tb o) id = some cs := fun o cs => by rw [cells_set_far hne, cells_set hid, if_pos rfl]
  simp only [go_sem, reduceCtorEq, Nat.reduceEqDiff, Nat.reduceAdd, Nat.reduceMul, Nat.reduceSub, Nat.reduceLeDiff, Nat.reduceLT, Int.reduceMul, Int.reduceAdd, Int.reduceSub, Int.reduceToNat, hcs, nds_length, f1, f2, g1, g2, htb, heap_get_set, if_pos htbl, e1, s1, s2, s3, e2, List.length_append]
  refine ⟨⟨by omega, by omega, by simp [allOne, AV.cells, AV.one]⟩, ?_⟩
  simp only [rst] at hcl2 ⊢
  simp (disch := first | assumption | omega | (simp; done) | (simp; omega) | (simp only [bt, and_true]; first | done | omega | (simp; done))) [↓zlf, beq, ybc, ybd, ybe, endOk, wk, wk2, wk1, wkM, wkL, wkLL, ybf, hcl2, htbl, nds_lt]
def p_zSee : List AV → AHeap → (AV → Prop) → Prop
  | [.ptr id 0, .str s], H, K => onQ (H.get id) fun m l p b tb t => (p ≤ l.length ∧ l.length ≤ 100000) ∧ K (.bool (!b && isS l p s))
  | _, _, _ => False
theorem ok_zSee : EntOk Try.prog 202 (Ent.pure p_zSee) := by
  refine EntOk.pure fun args H K h => ?_
  unfold p_zSee at h
  split at h
  rotate_left
  · exact h.elim
  rename_i id s
  obtain ⟨m, l, p, b, tb, t, hg, ⟨hp, hl⟩, hK⟩ := h
  have hid := AHeap.get_lt hg
  have hcs := cells_some (cs := [.slice m 3 (toks l), .int .i64 (p : Int), .bool b, .slice (.own tb) 7 (nds t)]) hg
  refine ⟨_, hK, ?_⟩
  clear hK
  refine ACalls.of_aw (Ω := []) (T := assoc []) mixed TblOk.nil Try.func202 (by kernel_rfl) (by rfl) (rs := [.tmp 4]) (by rfl) (by kernel_rfl) (by simp only [Try.ntmps202, yaz, yba]; decide) (Nat.le_refl _) fun hcl hlt => ?_
  change aw _ _ _ (KI Try.prog [] (aEnd Try.prog [.tmp 4] H.nx _ _ (assoc [])) []) _ _
  clear hlt
  cases b with
  | true =>
    simp only [go_sem, reduceCtorEq, Nat.reduceEqDiff, Nat.reduceAdd, Nat.reduceMul, Nat.reduceSub, Nat.reduceLeDiff, Nat.reduceLT, Int.reduceMul, Int.reduceAdd, Int.reduceSub, Int.reduceToNat, hcs]
    simp (disch := first | assumption | omega | (simp; done) | (simp; omega) | (simp only [bt, and_true]; first | done | omega | (simp; done))) [↓zlf, beq, ybc, ybd, ybe, endOk, wk, wk2, wk1, wkM, wkL, wkLL, ybf, hcl]
  | false =>
    by_cases hlt0 : p < l.length
    · rcases htk : l[p] with ⟨k, x, z⟩
      have hgd := tok_get hlt0 htk
      have d1 : decide ((p : Int) < (l.length : Int)) = true := by simp; omega
      rw [isS_at hlt0 htk]
      by_cases hk : k = 3
      · subst hk
        have d2 : (((3 : Nat) : Int) == 3) = true := rfl
        simp only [go_sem, reduceCtorEq, Nat.reduceEqDiff, Nat.reduceAdd, Nat.reduceMul, Nat.reduceSub, Nat.reduceLeDiff, Nat.reduceLT, Int.reduceMul, Int.reduceAdd, Int.reduceSub, Int.reduceToNat, hcs, toks_length, hgd, d1, d2, Int.toNat_natCast]
        refine ⟨by omega, by omega, ?_⟩
        simp (disch := first | assumption | omega | (simp; done) | (simp; omega) | (simp only [bt, and_true]; first | done | omega | (simp; done))) [↓zlf, beq, ybc, ybd, ybe, endOk, wk, wk2, wk1, wkM, wkL, wkLL, ybf, hcl]
      · have d2 : ((k : Int) == 3) = false := by simp; omega
        have d3 : (k == 3) = false := by simpa using hk
        simp only [go_sem, reduceCtorEq, Nat.reduceEqDiff, Nat.reduceAdd, Nat.reduceMul, Nat.reduceSub, Nat.reduceLeDiff, Nat.reduceLT, Int.reduceMul, Int.reduceAdd, Int.reduceSub, Int.reduceToNat, hcs, toks_length, hgd, d1, d2, Int.toNat_natCast]
        refine ⟨by omega, ?_⟩
        simp (disch := first | assumption | omega | (simp; done) | (simp; omega) | (simp only [bt, and_true]; first | done | omega | (simp; done))) [↓zlf, beq, ybc, ybd, ybe, endOk, wk, wk2, wk1, wkM, wkL, wkLL, ybf, hcl, d3]
    · have d1 : decide ((p : Int) < (l.length : Int)) = false := by simp; omega
      rw [isS_end (by omega)]
      simp only [go_sem, reduceCtorEq, Nat.reduceEqDiff, Nat.reduceAdd, Nat.reduceMul, Nat.reduceSub, Nat.reduceLeDiff, Nat.reduceLT, Int.reduceMul, Int.reduceAdd, Int.reduceSub, Int.reduceToNat, hcs, toks_length, d1]
      simp (disch := first | assumption | omega | (simp; done) | (simp; omega) | (simp only [bt, and_true]; first | done | omega | (simp; done))) [↓zlf, beq, ybc, ybd, ybe, endOk, wk, wk2, wk1, wkM, wkL, wkLL, ybf, hcl]
def e_zTake : List AV → AHeap → (AEnd → AHeap → Prop) → Prop
  | [.ptr id 0, .str s], H, K => onQ (H.get id) fun m l p b tb t => (p ≤ l.length ∧ l.length ≤ 100000) ∧
      if (!b && isS l p s) = true then K (.ret (.bool true)) (H.set id (rst m l (p + 1) b tb t)) else K (.ret (.bool false)) H
  | _, _, _ => False
theorem ok_zTake : EntOk Try.prog 155 (Ent.effect e_zTake) := by
  refine EntOk.effect fun args H K h => ?_
  unfold e_zTake at h
  split at h
  rotate_left
  · exact h.elim
  rename_i id s
  obtain ⟨m, l, p, b, tb, t, hg, ⟨hp, hl⟩, hK⟩ := h
  have hid := AHeap.get_lt hg
  have hcs := cells_some (cs := [.slice m 3 (toks l), .int .i64 (p : Int), .bool b, .slice (.own tb) 7 (nds t)]) hg
  have e1 : IntKind.i64.wrap ((p : Int) + 1) = ((p + 1 : Nat) : Int) := by rw [wrap_i64] <;> omega
  cases hs : (!b && isS l p s) with
  | true =>
    rw [hs, if_pos rfl] at hK
    refine ⟨_, _, hK, ?_⟩
    clear hK
    refine ACalls.of_aw (Ω := [(202, Ent.pure p_zSee)]) (T := assoc []) mixed (TblOk.cons ok_zSee TblOk.nil) Try.func155 (by kernel_rfl) (by rfl) (rs := [.tmp 4]) (by rfl) (by kernel_rfl) (by simp only [Try.ntmps155, yaz, yba]; decide) (Nat.le_refl _) fun hcl hlt => ?_
    change aw _ _ _ (KI Try.prog [(202, Ent.pure p_zSee)] (aEnd Try.prog [.tmp 4] H.nx _ _) []) _ _
    clear hlt
    have hcl1 := rst_closed hg hcl (p + 1) b t
    simp only [go_sem, reduceCtorEq, Nat.reduceEqDiff, Nat.reduceAdd, Nat.reduceMul, Nat.reduceSub, Nat.reduceLeDiff, Nat.reduceLT, Int.reduceMul, Int.reduceAdd, Int.reduceSub, Int.reduceToNat, p_zSee, hg, onQ_some, hp, hl, hs, hcs, e1]
    change endOk (H.set id (rst m l (p + 1) b tb t)) _ _ _
    simp (disch := first | assumption | omega | (simp; done) | (simp; omega) | (simp only [bt, and_true]; first | done | omega | (simp; done))) [↓zlf, beq, ybc, ybd, ybe, endOk, wk, wk2, wk1, wkM, wkL, wkLL, ybf, hcl1]
  | false =>
    rw [hs, if_neg (by simp)] at hK
    refine ⟨_, _, hK, ?_⟩
    clear hK
    refine ACalls.of_aw (Ω := [(202, Ent.pure p_zSee)]) (T := assoc []) mixed (TblOk.cons ok_zSee TblOk.nil) Try.func155 (by kernel_rfl) (by rfl) (rs := [.tmp 4]) (by rfl) (by kernel_rfl) (by simp only [Try.ntmps155, yaz, yba]; decide) (Nat.le_refl _) fun hcl hlt => ?_
    change aw _ _ _ (KI Try.prog [(202, Ent.pure p_zSee)] (aEnd Try.prog [.tmp 4] H.nx _ _) []) _ _
    clear hlt
    simp only [go_sem, reduceCtorEq, Nat.reduceEqDiff, Nat.reduceAdd, Nat.reduceMul, Nat.reduceSub, Nat.reduceLeDiff, Nat.reduceLT, Int.reduceMul, Int.reduceAdd, Int.reduceSub, Int.reduceToNat, p_zSee, hg, onQ_some, hp, hl, hs, hcs, e1]
    simp (disch := first | assumption | omega | (simp; done) | (simp; omega) | (simp only [bt, and_true]; first | done | omega | (simp; done))) [↓zlf, beq, ybc, ybd, ybe, endOk, wk, wk2, wk1, wkM, wkL, wkLL, ybf, hcl]
def e_zVar : List AV → AHeap → (AEnd → AHeap → Prop) → Prop
  | [.ptr id 0, .str x], H, K => onQ (H.get id) fun m l p b tb t => (b = false ∧ id ≠ tb ∧ H.get tb = some (.buf 7 t.length) ∧ t.length ≤ 100000 ∧ p ≤ l.length ∧ l.length ≤ 100000) ∧
      if isS l p [58, 58] = true then
        onW (wordT l (p + 1)) (fun y => K (.ret (.int .i64 (t.length : Int))) ((H.set id (rst m l (p + 1 + 1) false tb (t ++ [⟨3, 0, 0, x, y, 0⟩]))).set tb (.buf 7 (t.length + 1)))) (K (.ret (.int .i64 0)) (H.set id (rst m l (p + 1) true tb t)))
      else K (.ret (.int .i64 (t.length : Int))) ((H.set id (rst m l p false tb (t ++ [⟨3, 0, 0, x, [], 0⟩]))).set tb (.buf 7 (t.length + 1)))
  | _, _, _ => False
set_option maxHeartbeats 1000000 in
theorem ok_zVar : EntOk Try.prog 239 (Ent.effect e_zVar) := by
  refine EntOk.effect fun args H K h => ?_
  unfold e_zVar at h
  split at h
  rotate_left
  · exact h.elim
  rename_i id x
  obtain ⟨m, l, p, b, tb, t, hg, ⟨rfl, hne, htb, ht, hp, hl⟩, hK⟩ := h
  have hid := AHeap.get_lt hg
  have htbl := AHeap.get_lt htb
  have hcs := cells_some (cs := [.slice m 3 (toks l), .int .i64 (p : Int), .bool false, .slice (.own tb) 7 (nds t)]) hg
  have f1 := far_of hid
  have f2 := far_of htbl
  have g1 : (id = tb) = False := eq_false hne
  have hgi : ∀ o, (H.set id o).get id = some o := fun o => AHeap.get_set_same _ _ hid
  have hgt : ∀ o, (H.set id o).get tb = some (.buf 7 t.length) := fun o => by rw [AHeap.get_set_ne _ _ (fun e => hne e.symm)]; exact htb
  have hss : ∀ X Y, (H.set id X).set id Y = H.set id Y := fun X Y => by simp only [AHeap.set]; congr 1; funext k; by_cases hk : k = id <;> simp [hk]
  have hcc : ∀ cs, cellsOf? (H.set id (.cells cs)) id = some cs := fun cs => by rw [cells_set hid, if_pos rfl]
  cases hs : isS l p [58, 58] with
  | false =>
    rw [hs, if_neg (by simp)] at hK
    refine ⟨_, _, hK, ?_⟩
    clear hK
    refine ACalls.of_aw (Ω := [(155, Ent.effect e_zTake), (156, Ent.effect e_zNode)]) (T := assoc [(7, [[], [], [], [], [], [], [], [], [], [], [], [], [], [], [], [5, 9, 13]])]) mixed (TblOk.cons ok_zTake (TblOk.cons ok_zNode TblOk.nil)) Try.func239 (by kernel_rfl) (by rfl) (rs := [.tmp 4]) (by rfl) (by kernel_rfl) (by simp only [Try.ntmps239, yaz, yba]; decide) (Nat.le_refl _) fun hcl hlt => ?_
    change aw _ _ _ (KI Try.prog [(155, Ent.effect e_zTake), (156, Ent.effect e_zNode)] (aEnd Try.prog [.tmp 4] H.nx _ _ (assoc [(7, [[], [], [], [], [], [], [], [], [], [], [], [], [], [], [], [5, 9, 13]])])) []) _ _
    clear hlt
    have hcl1 := rst_closed hg hcl p false (t ++ [⟨3, 0, 0, x, [], 0⟩])
    have hcl2 : ((H.set id (rst m l p false tb (t ++ [⟨3, 0, 0, x, [], 0⟩]))).set tb (.buf 7 (t.length + 1))).Closed := closed_set_buf hcl1
    simp only [go_sem, reduceCtorEq, Nat.reduceEqDiff, Nat.reduceAdd, Nat.reduceMul, Nat.reduceSub, Nat.reduceLeDiff, Nat.reduceLT, Int.reduceMul, Int.reduceAdd, Int.reduceSub, Int.reduceToNat, e_zTake, e_zNode, hg, onQ_some, hp, hl, hs, Bool.not_false, Bool.true_and, if_false, hne, ne_eq, g1, not_false_eq_true, htb, ht, vOf00, isV00, Int.reduceLE]
    simp (disch := first | assumption | omega | (simp; done) | (simp; omega) | (simp only [bt, and_true]; first | done | omega | (simp; done))) [↓zlf, beq, ybc, ybd, ybe, endOk, wk, wk2, wk1, wkM, wkL, wkLL, ybf, hcl2]
  | true =>
    rw [hs, if_pos rfl] at hK
    have hlt0 := isS_lt hs
    have e1 : IntKind.i64.wrap (((p + 1 : Nat) : Int) + 1) = ((p + 1 + 1 : Nat) : Int) := by rw [wrap_i64] <;> omega
    have e2 : IntKind.i64.wrap (((p + 1 + 1 : Nat) : Int) - 1) = ((p + 1 : Nat) : Int) := by rw [wrap_i64] <;> omega
    unfold wordT at hK
    by_cases hlt1 : p + 1 < l.length
    · rcases htk : l[p + 1] with ⟨k, y, z⟩
      have hgd := tok_get hlt1 htk
      rw [List.getElem?_eq_getElem hlt1, htk] at hK
      dsimp only at hK
      have d1 : (((p + 1 : Nat) : Int) == (l.length : Int)) = false := by simp; omega
      by_cases hk : k = 2
      · subst hk
        rw [if_pos rfl, onW_some] at hK
        refine ⟨_, _, hK, ?_⟩
        clear hK
        refine ACalls.of_aw (Ω := [(155, Ent.effect e_zTake), (156, Ent.effect e_zNode)]) (T := assoc [(7, [[], [], [], [], [], [], [], [], [], [], [], [], [], [], [], [5, 9, 13]])]) mixed (TblOk.cons ok_zTake (TblOk.cons ok_zNode TblOk.nil)) Try.func239 (by kernel_rfl) (by rfl) (rs := [.tmp 4]) (by rfl) (by kernel_rfl) (by simp only [Try.ntmps239, yaz, yba]; decide) (Nat.le_refl _) fun hcl hlt => ?_
        change aw _ _ _ (KI Try.prog [(155, Ent.effect e_zTake), (156, Ent.effect e_zNode)] (aEnd Try.prog [.tmp 4] H.nx _ _ (assoc [(7, [[], [], [], [], [], [], [], [], [], [], [], [], [], [], [], [5, 9, 13]])])) []) _ _
        clear hlt
        have d2 : (((2 : Nat) : Int) != 2) = false := rfl
        have hcl1 := rst_closed hg hcl (p + 1 + 1) false (t ++ [⟨3, 0, 0, x, y, 0⟩])
        have hcl2 : ((H.set id (rst m l (p + 1 + 1) false tb (t ++ [⟨3, 0, 0, x, y, 0⟩]))).set tb (.buf 7 (t.length + 1))).Closed := closed_set_buf hcl1
        simp only [go_sem, reduceCtorEq, Nat.reduceEqDiff, Nat.reduceAdd, Nat.reduceMul, Nat.reduceSub, Nat.reduceLeDiff, Nat.reduceLT, Int.reduceMul, Int.reduceAdd, Int.reduceSub, Int.reduceToNat, e_zTake, e_zNode, hg, onQ_some, onQ_some', hp, hl, hs, Bool.not_false, Bool.true_and, if_true, hne, ne_eq, g1, not_false_eq_true, hgi, hgt, hss, hcc, ht, vOf00, isV00, Int.reduceLE, rst, toks_length, hgd, d1, d2, e1, e2, Int.toNat_natCast]
        refine ⟨by omega, by omega, ?_⟩
        change endOk ((H.set id (rst m l (p + 1 + 1) false tb (t ++ [⟨3, 0, 0, x, y, 0⟩]))).set tb (.buf 7 (t.length + 1))) _ ((H.set id (rst m l (p + 1 + 1) false tb (t ++ [⟨3, 0, 0, x, y, 0⟩]))).set tb (.buf 7 (t.length + 1))) _
        simp (disch := first | assumption | omega | (simp; done) | (simp; omega) | (simp only [bt, and_true]; first | done | omega | (simp; done))) [↓zlf, beq, ybc, ybd, ybe, endOk, wk, wk2, wk1, wkM, wkL, wkLL, ybf, hcl2]
      · have d2 : ((k : Int) != 2) = true := by simp; omega
        rw [if_neg hk, onW_none] at hK
        refine ⟨_, _, hK, ?_⟩
        clear hK
        refine ACalls.of_aw (Ω := [(155, Ent.effect e_zTake), (156, Ent.effect e_zNode)]) (T := assoc [(7, [[], [], [], [], [], [], [], [], [], [], [], [], [], [], [], [5, 9, 13]])]) mixed (TblOk.cons ok_zTake (TblOk.cons ok_zNode TblOk.nil)) Try.func239 (by kernel_rfl) (by rfl) (rs := [.tmp 4]) (by rfl) (by kernel_rfl) (by simp only [Try.ntmps239, yaz, yba]; decide) (Nat.le_refl _) fun hcl hlt => ?_
        change aw _ _ _ (KI Try.prog [(155, Ent.effect e_zTake), (156, Ent.effect e_zNode)] (aEnd Try.prog [.tmp 4] H.nx _ _ (assoc [(7, [[], [], [], [], [], [], [], [], [], [], [], [], [], [], [], [5, 9, 13]])])) []) _ _
        clear hlt
        have hcl1 := rst_closed hg hcl (p + 1) true t
        simp only [go_sem, reduceCtorEq, Nat.reduceEqDiff, Nat.reduceAdd, Nat.reduceMul, Nat.reduceSub, Nat.reduceLeDiff, Nat.reduceLT, Int.reduceMul, Int.reduceAdd, Int.reduceSub, Int.reduceToNat, e_zTake, e_zNode, hg, onQ_some, onQ_some', hp, hl, hs, Bool.not_false, Bool.true_and, if_true, hne, ne_eq, g1, not_false_eq_true, hgi, hgt, hss, hcc, ht, rst, toks_length, hgd, d1, d2, Int.toNat_natCast]
        refine ⟨by omega, ?_⟩
        change endOk (H.set id (rst m l (p + 1) true tb t)) _ (H.set id (rst m l (p + 1) true tb t)) _
        simp (disch := first | assumption | omega | (simp; done) | (simp; omega) | (simp only [bt, and_true]; first | done | omega | (simp; done))) [↓zlf, beq, ybc, ybd, ybe, endOk, wk, wk2, wk1, wkM, wkL, wkLL, ybf, hcl1]
    · have hpe : p + 1 = l.length := by omega
      rw [List.getElem?_eq_none (by omega)] at hK
      dsimp only at hK
      rw [onW_none] at hK
      refine ⟨_, _, hK, ?_⟩
      clear hK
      refine ACalls.of_aw (Ω := [(155, Ent.effect e_zTake), (156, Ent.effect e_zNode)]) (T := assoc [(7, [[], [], [], [], [], [], [], [], [], [], [], [], [], [], [], [5, 9, 13]])]) mixed (TblOk.cons ok_zTake (TblOk.cons ok_zNode TblOk.nil)) Try.func239 (by kernel_rfl) (by rfl) (rs := [.tmp 4]) (by rfl) (by kernel_rfl) (by simp only [Try.ntmps239, yaz, yba]; decide) (Nat.le_refl _) fun hcl hlt => ?_
      change aw _ _ _ (KI Try.prog [(155, Ent.effect e_zTake), (156, Ent.effect e_zNode)] (aEnd Try.prog [.tmp 4] H.nx _ _ (assoc [(7, [[], [], [], [], [], [], [], [], [], [], [], [], [], [], [], [5, 9, 13]])])) []) _ _
      clear hlt
      have d1 : (((p + 1 : Nat) : Int) == (l.length : Int)) = true := by simp; omega
      have hcl1 := rst_closed hg hcl (p + 1) true t
      simp only [go_sem, reduceCtorEq, Nat.reduceEqDiff, Nat.reduceAdd, Nat.reduceMul, Nat.reduceSub, Nat.reduceLeDiff, Nat.reduceLT, Int.reduceMul, Int.reduceAdd, Int.reduceSub, Int.reduceToNat, e_zTake, e_zNode, hg, onQ_some, onQ_some', hp, hl, hs, Bool.not_false, Bool.true_and, if_true, hne, ne_eq, g1, not_false_eq_true, hgi, hgt, hss, hcc, ht, rst, toks_length, d1, Int.toNat_natCast]
      change endOk (H.set id (rst m l (p + 1) true tb t)) _ (H.set id (rst m l (p + 1) true tb t)) _
      simp (disch := first | assumption | omega | (simp; done) | (simp; omega) | (simp only [bt, and_true]; first | done | omega | (simp; done))) [↓zlf, beq, ybc, ybd, ybe, endOk, wk, wk2, wk1, wkM, wkL, wkLL, ybf, hcl1]
end Go.AL


open Go Go.AL Go.Proofs
namespace Go.AL
set_option linter.all false
set_option maxRecDepth 10000
def endS (m : Mark) (l : List Tok) (tb id : Nat) (H : AHeap) (K : AV → AHeap → Prop) (p0 : Nat) (t0 : List Nd) (o : Option PR) : Prop := match o with
  | none => False
  | some (.ok a p t) => K (.int .i64 (a : Int)) ((H.set id (rst m l p false tb t)).set tb (.buf 7 t.length))
  | some (.bad p) => ∀ (a : Nat) (t : List Nd), t.length + p0 ≤ t0.length + p → K (.int .i64 (a : Int)) ((H.set id (rst m l p true tb t)).set tb (.buf 7 t.length))
section
variable {m : Mark} {l : List Tok} {tb id p0 : Nat} {H : AHeap} {K : AV → AHeap → Prop} {t0 : List Nd}
@[congr] theorem endS_congr {o o' : Option PR} (h : o = o') : endS m l tb id H K p0 t0 o = endS m l tb id H K p0 t0 o' := by rw [h]
theorem endS_ok {a p : Nat} {t : List Nd} : endS m l tb id H K p0 t0 (some (.ok a p t)) = K (.int .i64 (a : Int)) ((H.set id (rst m l p false tb t)).set tb (.buf 7 t.length)) := rfl
theorem endS_bad {p : Nat} : endS m l tb id H K p0 t0 (some (.bad p)) = ∀ (a : Nat) (t : List Nd), t.length + p0 ≤ t0.length + p → K (.int .i64 (a : Int)) ((H.set id (rst m l p true tb t)).set tb (.buf 7 t.length)) := rfl
end
/-- is there no literal, unless one is allowed -/
def litFree (A : Prop) (l : List Tok) : Prop := ∀ p, kindAt l p = 1 → A
def s_rule (A : Prop) (rl : Rl) (f : Nat) : List AV → AHeap → (AV → AHeap → Prop) → Prop
  | [.ptr id 0], H, K => onQ (H.get id) fun m l p b tb t => (b = false ∧ preP H id tb l p t ∧ litFree A l) ∧ endS m l tb id H K p t (run l f rl p t)
  | _, _, _ => False
def s_zImp (A : Prop) (f : Nat) := s_rule A .imp f
def s_zOr (A : Prop) (f : Nat) := s_rule A .or f
def s_zAnd (A : Prop) (f : Nat) := s_rule A .and f
def s_zNot (A : Prop) (f : Nat) := s_rule A .not f
def s_zCmp (A : Prop) (f : Nat) := s_rule A .cmp f
def s_zSum (A : Prop) (f : Nat) := s_rule A .sum f
def s_zUn (A : Prop) (f : Nat) := s_rule A .un f
def s_zAtom (A : Prop) (f : Nat) := s_rule A .atom f
theorem preP_setR {H : AHeap} {id tb p p' : Nat} {o : AObj} {l : List Tok} {t t' : List Nd} (h : preP H id tb l p t) (hp : p' ≤ l.length) (ht : t'.length ≤ p') (hg : Good t') : preP ((H.set id o).set tb (.buf 7 t'.length)) id tb l p' t' := by
  obtain ⟨h1, h2, h3, h4, h5, h6, h7⟩ := h
  have htb := AHeap.get_lt h2
  refine ⟨h1, ?_, ht, hp, h5, h6, hg⟩
  rw [heap_get_set, if_pos rfl, if_pos (by simpa [zjw] using htb)]
theorem pre_factsR {H : AHeap} {id tb p : Nat} {m : Mark} {l : List Tok} {b : Bool} {t : List Nd} (hg : H.get id = some (rst m l p b tb t)) (h : preP H id tb l p t) (hcl : H.Closed) :
    (∀ X Y, ((H.set id X).set tb Y).get id = some X) ∧ (∀ X Y, ((H.set id X).set tb Y).get tb = some Y) ∧ (∀ X Y Z, ((H.set id X).set tb Y).set id Z = (H.set id Z).set tb Y) ∧
      (∀ p' b' t', ((H.set id (rst m l p' b' tb t')).set tb (.buf 7 t'.length)).Closed) ∧ (∀ X Y Z, ((H.set id X).set tb Y).set tb Z = (H.set id X).set tb Z) := by
  obtain ⟨h1, h2, h3, h4, h5, h6, h7⟩ := h
  have hid := AHeap.get_lt hg
  have htb := AHeap.get_lt h2
  refine ⟨fun X Y => ?_, fun X Y => ?_, fun X Y Z => ?_, fun p' b' t' => closed_set_buf (rst_closed hg hcl p' b' t'), fun X Y Z => ?_⟩
  · rw [AHeap.get_set_ne _ _ h1]; exact AHeap.get_set_same _ _ hid
  · exact AHeap.get_set_same _ _ (by simpa [zjw] using htb)
  · rw [set_comm' h1]; congr 1; simp only [AHeap.set]; congr 1; funext k; by_cases hk : k = id <;> simp [hk]
  · simp only [AHeap.set]; congr 1; funext k; by_cases hk : k = tb <;> simp [hk]
theorem endP_of {n : Nat} {K : AV → AHeap → Prop} {H1 H' : AHeap} {z : Int} (h : K (.int .i64 z) H1) (hn : n ≤ H1.nx) (hl : H1.Le H') (hc : H1.Closed) : endP n K (.int .i64 z) H' :=
  ⟨_, _, h, hn, by simp [zlf], hl, hc, by simp [zlw]⟩
theorem buf_same {H : AHeap} {tb : Nat} {t : List Nd} (h : H.get tb = some (.buf 7 t.length)) {id : Nat} (hne : id ≠ tb) (X : AObj) : H.set id X = (H.set id X).set tb (.buf 7 t.length) := by
  have h2 := AHeap.get_lt h
  unfold AHeap.get at h
  rw [if_pos h2] at h
  simp only [AHeap.set]
  congr 1
  funext k
  by_cases hk : k = tb
  · subst hk; simp [Ne.symm hne, h]
  · simp [hk]
set_option maxHeartbeats 4000000 in
theorem sr_zImp {A : Prop} {f : Nat} (h_zOr : EntOk Try.prog 154 (Ent.some (s_zOr A f))) (h_zImp : EntOk Try.prog 80 (Ent.some (s_zImp A f))) : EntOk Try.prog 80 (Ent.some (s_zImp A (f + 1))) := by
  refine EntOk.some fun args H K h => ?_
  unfold s_zImp s_rule at h
  split at h
  rotate_left
  · exact h.elim
  rename_i id
  obtain ⟨m, l, p, b, tb, t, hg, ⟨rfl, hpre, hfree⟩, hK⟩ := h
  cases ho : run l (f + 1) .imp p t with
  | none => rw [ho] at hK; exact hK.elim
  | some r =>
  rw [ho] at hK
  rw [run] at ho
  simp only [step] at ho
  have hpre' := hpre
  obtain ⟨hne, htb, ht, hp, hl, hgl, hgt⟩ := hpre
  have hid := AHeap.get_lt hg
  have htbl := AHeap.get_lt htb
  have f1 := far_of hid
  have f2 := far_of htbl
  have hl5 : l.length ≤ 100000 := by omega
  have i1 := @Int.natCast_nonneg
  have hne' : (id = tb) = False := eq_false hne
  have hnx : ∀ X Y, H.nx ≤ ((H.set id X).set tb Y).nx := fun X Y => Nat.le_refl _
  refine ACallsP.of_aw (Ω := [(154, Ent.some (s_zOr A f)), (155, Ent.effect e_zTake), (80, Ent.some (s_zImp A f)), (156, Ent.effect e_zNode)]) (T := assoc []) mixed (TblOk.cons h_zOr (TblOk.cons ok_zTake (TblOk.cons h_zImp (TblOk.cons ok_zNode TblOk.nil)))) Try.func80 (by kernel_rfl) (by rfl) (rs := [.tmp 2]) (by rfl) (by kernel_rfl) (by simp only [Try.ntmps80, yaz, yba]; decide) fun hcl hlt => ?_
  change aw _ _ _ (KI Try.prog [(154, Ent.some (s_zOr A f)), (155, Ent.effect e_zTake), (80, Ent.some (s_zImp A f)), (156, Ent.effect e_zNode)] (aEndP Try.prog [.tmp 2] H.nx _) []) _ _
  clear hlt
  obtain ⟨hgi, hgt', hsi, hcl2, hst⟩ := pre_factsR hg hpre' hcl
  rcases thenR_some ho with ⟨q, h1, rfl⟩ | ⟨a, p1, t1, h1, h2⟩
  · have hq := run_post _ h1 hgt trivial hp
    obtain ⟨hq1, hq2⟩ := hq
    simp only [go_sem, reduceCtorEq, Nat.reduceEqDiff, Nat.reduceAdd, Nat.reduceMul, Nat.reduceSub, Nat.reduceLeDiff, Nat.reduceLT, Int.reduceMul, Int.reduceAdd, Int.reduceSub, Int.reduceToNat, hfree, f1, f2, hgi, hgt', hsi, hst, onQ_some, endS_bad, endS_ok, e_zTake, p_zSee, e_zNode, s_rule, hne, ne_eq, hne', hl5, Int.toNat_natCast, vOf00, isV00, i1, Int.reduceLE, eq_self, not_false_eq_true, Bool.not_true, Bool.not_false, Bool.true_and, Bool.false_and, List.length_append, yaz, yba, Nat.zero_add, s_zOr, hg, hpre', h1]
    intro a t' hb
    simp only [blkS, go_sem, reduceCtorEq, Nat.reduceEqDiff, Nat.reduceAdd, Nat.reduceMul, Nat.reduceSub, Nat.reduceLeDiff, Nat.reduceLT, Int.reduceMul, Int.reduceAdd, Int.reduceSub, Int.reduceToNat, hfree, f1, f2, hgi, hgt', hsi, hst, onQ_some, endS_bad, endS_ok, e_zTake, p_zSee, e_zNode, s_rule, hne, ne_eq, hne', hl5, Int.toNat_natCast, vOf00, isV00, i1, Int.reduceLE, eq_self, not_false_eq_true, Bool.not_true, Bool.not_false, Bool.true_and, Bool.false_and, List.length_append, yaz, yba, Nat.zero_add, hq1]
    exact endP_of (hK a t' hb) (hnx _ _) (AHeap.Le.refl _) (hcl2 _ _ _)
  clear ho
  obtain ⟨k1, k2, k3, k4, k5, k6⟩ := run_post _ h1 hgt trivial hp
  simp only [Rl.isL, Bool.false_eq_true, if_false] at k4
  have hp1 : preP ((H.set id (rst m l p1 false tb t1)).set tb (.buf 7 t1.length)) id tb l p1 t1 := preP_setR hpre' k2 (by omega) k5
  cases hs : isS l p1 [45, 62] with
  | false =>
    rw [hs, if_neg (by simp)] at h2
    cases h2
    simp only [go_sem, reduceCtorEq, Nat.reduceEqDiff, Nat.reduceAdd, Nat.reduceMul, Nat.reduceSub, Nat.reduceLeDiff, Nat.reduceLT, Int.reduceMul, Int.reduceAdd, Int.reduceSub, Int.reduceToNat, hfree, f1, f2, hgi, hgt', hsi, hst, onQ_some, endS_bad, endS_ok, e_zTake, p_zSee, e_zNode, s_rule, hne, ne_eq, hne', hl5, Int.toNat_natCast, vOf00, isV00, i1, Int.reduceLE, eq_self, not_false_eq_true, Bool.not_true, Bool.not_false, Bool.true_and, Bool.false_and, List.length_append, yaz, yba, Nat.zero_add, s_zOr, hg, hpre', h1, k2, hs, if_false]
    exact endP_of hK (hnx _ _) (AHeap.Le.refl _) (hcl2 _ _ _)
  | true =>
    rw [hs, if_pos rfl] at h2
    have hlt1 := isS_lt hs
    have hp2 : preP ((H.set id (rst m l (p1 + 1) false tb t1)).set tb (.buf 7 t1.length)) id tb l (p1 + 1) t1 := preP_setR hpre' hlt1 (by omega) k5
    rcases thenR_some h2 with ⟨q, h3, rfl⟩ | ⟨b, p2, t2, h3, h4⟩
    · obtain ⟨hq1, hq2⟩ := run_post _ h3 k5 trivial hlt1
      simp only [go_sem, reduceCtorEq, Nat.reduceEqDiff, Nat.reduceAdd, Nat.reduceMul, Nat.reduceSub, Nat.reduceLeDiff, Nat.reduceLT, Int.reduceMul, Int.reduceAdd, Int.reduceSub, Int.reduceToNat, hfree, f1, f2, hgi, hgt', hsi, hst, onQ_some, endS_bad, endS_ok, e_zTake, p_zSee, e_zNode, s_rule, hne, ne_eq, hne', hl5, Int.toNat_natCast, vOf00, isV00, i1, Int.reduceLE, eq_self, not_false_eq_true, Bool.not_true, Bool.not_false, Bool.true_and, Bool.false_and, List.length_append, yaz, yba, Nat.zero_add, s_zOr, s_zImp, hg, hpre', h1, k2, hs, if_true, hp2, h3]
      intro b t' hb
      have ht2 : t'.length ≤ 100000 := by omega
      simp only [blkS, go_sem, reduceCtorEq, Nat.reduceEqDiff, Nat.reduceAdd, Nat.reduceMul, Nat.reduceSub, Nat.reduceLeDiff, Nat.reduceLT, Int.reduceMul, Int.reduceAdd, Int.reduceSub, Int.reduceToNat, hfree, f1, f2, hgi, hgt', hsi, hst, onQ_some, endS_bad, endS_ok, e_zTake, p_zSee, e_zNode, s_rule, hne, ne_eq, hne', hl5, Int.toNat_natCast, vOf00, isV00, i1, Int.reduceLE, eq_self, not_false_eq_true, Bool.not_true, Bool.not_false, Bool.true_and, Bool.false_and, List.length_append, yaz, yba, Nat.zero_add, hq1, ht2]
      have hK' := hK t'.length (t' ++ [⟨16, a, b, [], [], 0⟩]) (by simp; omega)
      have hc3 := hcl2 q true (t' ++ [⟨16, a, b, [], [], 0⟩])
      simp only [List.length_append, yaz, yba, Nat.zero_add] at hK' hc3
      exact endP_of hK' (hnx _ _) (AHeap.Le.refl _) hc3
    cases h4
    obtain ⟨k1b, k2b, k3b, k4b, k5b, k6b⟩ := run_post _ h3 k5 trivial hlt1
    simp only [Rl.isL, Bool.false_eq_true, if_false] at k4b
    have ht2 : t2.length ≤ 100000 := by omega
    simp only [go_sem, reduceCtorEq, Nat.reduceEqDiff, Nat.reduceAdd, Nat.reduceMul, Nat.reduceSub, Nat.reduceLeDiff, Nat.reduceLT, Int.reduceMul, Int.reduceAdd, Int.reduceSub, Int.reduceToNat, hfree, f1, f2, hgi, hgt', hsi, hst, onQ_some, endS_bad, endS_ok, e_zTake, p_zSee, e_zNode, s_rule, hne, ne_eq, hne', hl5, Int.toNat_natCast, vOf00, isV00, i1, Int.reduceLE, eq_self, not_false_eq_true, Bool.not_true, Bool.not_false, Bool.true_and, Bool.false_and, List.length_append, yaz, yba, Nat.zero_add, s_zOr, s_zImp, hg, hpre', h1, k2, hs, if_true, hp2, h3, ht2, nd2]
    have hc3 := hcl2 p2 false (t2 ++ [⟨16, a, b, [], [], 0⟩])
    simp only [List.length_append, yaz, yba, Nat.zero_add, endS_ok, nd2] at hK hc3
    exact endP_of hK (hnx _ _) (AHeap.Le.refl _) hc3
theorem isS_one {l : List Tok} {p : Nat} {s s' : List UInt8} (h : isS l p s = true) (h' : isS l p s' = true) : s = s' := by
  unfold isS at h h'
  split at h
  · rename_i k x z e
    rw [e] at h'
    simp only [Bool.and_eq_true, beq_iff_eq] at h h'
    rw [← h.2, h'.2]
  · cases h
theorem rst_def {m : Mark} {l : List Tok} {p tb : Nat} {b : Bool} {t : List Nd} : rst m l p b tb t = .cells [.slice m 3 (toks l), .int .i64 (p : Int), .bool b, .slice (.own tb) 7 (nds t)] := rfl
set_option maxHeartbeats 4000000 in
theorem sr_zOr {A : Prop} {f : Nat} (h_zAnd : EntOk Try.prog 201 (Ent.some (s_zAnd A f))) : EntOk Try.prog 154 (Ent.some (s_zOr A (f + 1))) := by
  refine EntOk.some fun args H K h => ?_
  unfold s_zOr s_rule at h
  split at h
  rotate_left
  · exact h.elim
  rename_i id
  obtain ⟨m, l, p, b, tb, t, hg, ⟨rfl, hpre, hfree⟩, hK⟩ := h
  cases ho : run l (f + 1) .or p t with
  | none => rw [ho] at hK; exact hK.elim
  | some r =>
  rw [ho] at hK
  rw [run] at ho
  simp only [step] at ho
  have hpre' := hpre
  obtain ⟨hne, htb, ht, hp, hl, hgl, hgt⟩ := hpre
  have hid := AHeap.get_lt hg
  have htbl := AHeap.get_lt htb
  have f1 := far_of hid
  have f2 := far_of htbl
  have hl5 : l.length ≤ 100000 := by omega
  have i1 := @Int.natCast_nonneg
  have hne' : (id = tb) = False := eq_false hne
  have hnx : ∀ X Y, H.nx ≤ ((H.set id X).set tb Y).nx := fun X Y => Nat.le_refl _
  refine ACallsP.of_aw (Ω := [(201, Ent.some (s_zAnd A f)), (155, Ent.effect e_zTake), (156, Ent.effect e_zNode)]) (T := assoc []) mixed (TblOk.cons h_zAnd (TblOk.cons ok_zTake (TblOk.cons ok_zNode TblOk.nil))) Try.func154 (by kernel_rfl) (by rfl) (rs := [.tmp 2]) (by rfl) (by kernel_rfl) (by simp only [Try.ntmps154, yaz, yba]; decide) fun hcl hlt => ?_
  change aw _ _ _ (KI Try.prog [(201, Ent.some (s_zAnd A f)), (155, Ent.effect e_zTake), (156, Ent.effect e_zNode)] (aEndP Try.prog [.tmp 2] H.nx _) []) _ _
  clear hlt
  obtain ⟨hgi, hgt', hsi, hcl2, hst⟩ := pre_factsR hg hpre' hcl
  rcases thenR_some ho with ⟨q, h1, hrq⟩ | ⟨a, p1, t1, h1, h2⟩
  case' inl =>
    obtain ⟨hq1, hq2⟩ := run_post _ h1 hgt trivial hp
    simp only [go_sem, reduceCtorEq, Nat.reduceEqDiff, Nat.reduceAdd, Nat.reduceMul, Nat.reduceSub, Nat.reduceLeDiff, Nat.reduceLT, Int.reduceMul, Int.reduceAdd, Int.reduceSub, Int.reduceToNat, hfree, f1, f2, hgi, hgt', hsi, hst, onQ_some, endS_bad, endS_ok, e_zTake, p_zSee, e_zNode, s_rule, hne, ne_eq, hne', hl5, Int.toNat_natCast, vOf00, isV00, i1, Int.reduceLE, eq_self, not_false_eq_true, Bool.not_true, Bool.not_false, Bool.true_and, Bool.false_and, List.length_append, yaz, yba, Nat.zero_add, s_zAnd, hg, hpre', h1]
    intro a t' hb
    try simp only [blkS, go_sem, reduceCtorEq, Nat.reduceEqDiff, Nat.reduceAdd, Nat.reduceMul, Nat.reduceSub, Nat.reduceLeDiff, Nat.reduceLT, Int.reduceMul, Int.reduceAdd, Int.reduceSub, Int.reduceToNat, hfree, f1, f2, hgi, hgt', hsi, hst, onQ_some, endS_bad, endS_ok, e_zTake, p_zSee, e_zNode, s_rule, hne, ne_eq, hne', hl5, Int.toNat_natCast, vOf00, isV00, i1, Int.reduceLE, eq_self, not_false_eq_true, Bool.not_true, Bool.not_false, Bool.true_and, Bool.false_and, List.length_append, yaz, yba, Nat.zero_add, hq1]
    refine loop_introW (A := Nat × Nat × Nat × List Nd × Bool) (fun x => [(0, .ptr id 0), (3, .int .i64 (x.2.1 : Int))]) (fun x => (H.set id (rst m l x.2.2.1 x.2.2.2.2 tb x.2.2.2.1)).set tb (.buf 7 x.2.2.2.1.length)) (fun x => (x.2.2.2.2 = false ∧ x.1 ≤ f ∧ run l x.1 (.orL x.2.1) x.2.2.1 x.2.2.2.1 = some r ∧ x.2.2.1 ≤ l.length ∧ x.2.2.2.1.length ≤ x.2.2.1 ∧ Good x.2.2.2.1 ∧ x.2.1 < x.2.2.2.1.length ∧ x.2.2.2.1.length + p ≤ t.length + x.2.2.1) ∨ (x.2.2.2.2 = true ∧ r = .bad x.2.2.1 ∧ x.2.2.1 ≤ l.length ∧ x.2.2.2.1.length + p ≤ t.length + x.2.2.1)) (fun x => if x.2.2.2.2 then 0 else x.1 + 1) (0, a, q, t', true) (.inr ⟨rfl, hrq, hq1, hb⟩) ?_ ?_
    · (simp only [bkq, enterW, subW, ltF, ne_eq, Nat.reduceEqDiff, reduceCtorEq, hcl2, hid]; try simp (disch := first | assumption | omega | (simp; done) | (simp; omega) | (simp only [bt, and_true]; first | done | omega | (simp; done))) [↓zlf, beq, ybc, ybd, ybe, endOk, wk, wk2, wk1, wkM, wkL, wkLL, ybf, byq, biq, isDs_ints, hcl, hcl2, hid]; try (repeat' (first | assumption | omega | exact True.intro | refine And.intro ?_ ?_ | refine closed_buf ?_ | refine closed_set_buf ?_ | refine closed_cells ?_ ?_ | refine closed_set ?_ ?_ | refine closed_del ?_ | exact AHeap.Le.refl _ | refine AHeap.Le.push ?_ _ | refine AHeap.Le.del ?_ ?_ | (simp only [bt, and_true, true_and, hcl2, hid]; first | done | omega | (simp; done)))))
  case' inr =>
    clear ho
    obtain ⟨k1, k2, k3, k4, k5, k6⟩ := run_post _ h1 hgt trivial hp
    simp only [Rl.isL, Bool.false_eq_true, if_false] at k4
    simp only [go_sem, reduceCtorEq, Nat.reduceEqDiff, Nat.reduceAdd, Nat.reduceMul, Nat.reduceSub, Nat.reduceLeDiff, Nat.reduceLT, Int.reduceMul, Int.reduceAdd, Int.reduceSub, Int.reduceToNat, hfree, f1, f2, hgi, hgt', hsi, hst, onQ_some, endS_bad, endS_ok, e_zTake, p_zSee, e_zNode, s_rule, hne, ne_eq, hne', hl5, Int.toNat_natCast, vOf00, isV00, i1, Int.reduceLE, eq_self, not_false_eq_true, Bool.not_true, Bool.not_false, Bool.true_and, Bool.false_and, List.length_append, yaz, yba, Nat.zero_add, s_zAnd, hg, hpre', h1]
    refine loop_introW (A := Nat × Nat × Nat × List Nd × Bool) (fun x => [(0, .ptr id 0), (3, .int .i64 (x.2.1 : Int))]) (fun x => (H.set id (rst m l x.2.2.1 x.2.2.2.2 tb x.2.2.2.1)).set tb (.buf 7 x.2.2.2.1.length)) (fun x => (x.2.2.2.2 = false ∧ x.1 ≤ f ∧ run l x.1 (.orL x.2.1) x.2.2.1 x.2.2.2.1 = some r ∧ x.2.2.1 ≤ l.length ∧ x.2.2.2.1.length ≤ x.2.2.1 ∧ Good x.2.2.2.1 ∧ x.2.1 < x.2.2.2.1.length ∧ x.2.2.2.1.length + p ≤ t.length + x.2.2.1) ∨ (x.2.2.2.2 = true ∧ r = .bad x.2.2.1 ∧ x.2.2.1 ≤ l.length ∧ x.2.2.2.1.length + p ≤ t.length + x.2.2.1)) (fun x => if x.2.2.2.2 then 0 else x.1 + 1) (f, a, p1, t1, false) (.inl ⟨rfl, Nat.le_refl _, h2, k2, (by show t1.length ≤ p1; omega), k5, k1, k3⟩) ?_ ?_
    · (simp only [bkq, enterW, subW, ltF, ne_eq, Nat.reduceEqDiff, reduceCtorEq, hcl2, hid]; try simp (disch := first | assumption | omega | (simp; done) | (simp; omega) | (simp only [bt, and_true]; first | done | omega | (simp; done))) [↓zlf, beq, ybc, ybd, ybe, endOk, wk, wk2, wk1, wkM, wkL, wkLL, ybf, byq, biq, isDs_ints, hcl, hcl2, hid]; try (repeat' (first | assumption | omega | exact True.intro | refine And.intro ?_ ?_ | refine closed_buf ?_ | refine closed_set_buf ?_ | refine closed_cells ?_ ?_ | refine closed_set ?_ ?_ | refine closed_del ?_ | exact AHeap.Le.refl _ | refine AHeap.Le.push ?_ _ | refine AHeap.Le.del ?_ ?_ | (simp only [bt, and_true, true_and, hcl2, hid]; first | done | omega | (simp; done)))))
  all_goals
    clear h1
    intro x hx
    obtain ⟨g, a', p', t', bd⟩ := x
    rcases hx with ⟨hbd, x1, x2, x3, x4, x5, x6, x7⟩ | ⟨hbd, x1, x3, x7⟩
    · dsimp only at hbd x1 x2 x3 x4 x5 x6 x7 ⊢
      subst hbd
      have ht' : t'.length ≤ 100000 := by omega
      cases g with
      | zero => cases x2
      | succ g =>
      rw [run] at x2
      simp only [step] at x2
      cases hs : isS l p' [124, 124] with
      | false =>
        rw [hs, if_neg (by simp)] at x2
        rw [← x2, endS_ok] at hK
        simp only [go_sem, reduceCtorEq, Nat.reduceEqDiff, Nat.reduceAdd, Nat.reduceMul, Nat.reduceSub, Nat.reduceLeDiff, Nat.reduceLT, Int.reduceMul, Int.reduceAdd, Int.reduceSub, Int.reduceToNat, hfree, f1, f2, hgi, hgt', hsi, hst, onQ_some, endS_bad, endS_ok, e_zTake, p_zSee, e_zNode, s_rule, hne, ne_eq, hne', hl5, Int.toNat_natCast, vOf00, isV00, i1, Int.reduceLE, eq_self, not_false_eq_true, Bool.not_true, Bool.not_false, Bool.true_and, Bool.false_and, List.length_append, yaz, yba, Nat.zero_add, x3, hs, if_false]
        exact endP_of hK (hnx _ _) (AHeap.Le.refl _) (hcl2 _ _ _)
      | true =>
        rw [hs, if_pos rfl] at x2
        have hlt1 := isS_lt hs
        have hp2 : preP ((H.set id (rst m l (p' + 1) false tb t')).set tb (.buf 7 t'.length)) id tb l (p' + 1) t' := preP_setR hpre' hlt1 (by omega) x5
        rcases thenR_some x2 with ⟨q2, h3, hr2⟩ | ⟨b, p2, t2, h3, h4⟩
        · have h3' := run_mono (show g ≤ f by omega) h3
          obtain ⟨hq3, hq4⟩ := run_post _ h3 x5 trivial hlt1
          simp only [go_sem, reduceCtorEq, Nat.reduceEqDiff, Nat.reduceAdd, Nat.reduceMul, Nat.reduceSub, Nat.reduceLeDiff, Nat.reduceLT, Int.reduceMul, Int.reduceAdd, Int.reduceSub, Int.reduceToNat, hfree, f1, f2, hgi, hgt', hsi, hst, onQ_some, endS_bad, endS_ok, e_zTake, p_zSee, e_zNode, s_rule, hne, ne_eq, hne', hl5, Int.toNat_natCast, vOf00, isV00, i1, Int.reduceLE, eq_self, not_false_eq_true, Bool.not_true, Bool.not_false, Bool.true_and, Bool.false_and, List.length_append, yaz, yba, Nat.zero_add, s_zAnd, x3, hs, if_true, hp2, h3']
          intro b t2 hb2
          have ht2 : t2.length ≤ 100000 := by omega
          simp only [blkS, go_sem, reduceCtorEq, Nat.reduceEqDiff, Nat.reduceAdd, Nat.reduceMul, Nat.reduceSub, Nat.reduceLeDiff, Nat.reduceLT, Int.reduceMul, Int.reduceAdd, Int.reduceSub, Int.reduceToNat, hfree, f1, f2, hgi, hgt', hsi, hst, onQ_some, endS_bad, endS_ok, e_zTake, p_zSee, e_zNode, s_rule, hne, ne_eq, hne', hl5, Int.toNat_natCast, vOf00, isV00, i1, Int.reduceLE, eq_self, not_false_eq_true, Bool.not_true, Bool.not_false, Bool.true_and, Bool.false_and, List.length_append, yaz, yba, Nat.zero_add, ht2]
          have hc3 := hcl2 q2 true (t2 ++ [⟨15, a', b, [], [], 0⟩])
          refine ⟨(0, t2.length, q2, t2 ++ [⟨15, a', b, [], [], 0⟩], true), .inr ⟨rfl, hr2, hq3, by simp; omega⟩, by simp, ?_⟩
          simp only [List.length_append, yaz, yba, Nat.zero_add] at hc3 ⊢
          (simp only [bkq, enterW, subW, ltF, ne_eq, Nat.reduceEqDiff, reduceCtorEq, hc3, hid]; try simp (disch := first | assumption | omega | (simp; done) | (simp; omega) | (simp only [bt, and_true]; first | done | omega | (simp; done))) [↓zlf, beq, ybc, ybd, ybe, endOk, wk, wk2, wk1, wkM, wkL, wkLL, ybf, byq, biq, isDs_ints, hcl, hc3, hid]; try (repeat' (first | assumption | omega | exact True.intro | refine And.intro ?_ ?_ | refine closed_buf ?_ | refine closed_set_buf ?_ | refine closed_cells ?_ ?_ | refine closed_set ?_ ?_ | refine closed_del ?_ | exact AHeap.Le.refl _ | refine AHeap.Le.push ?_ _ | refine AHeap.Le.del ?_ ?_ | (simp only [bt, and_true, true_and, hc3, hid]; first | done | omega | (simp; done)))))
        · have h3' := run_mono (show g ≤ f by omega) h3
          obtain ⟨k1b, k2b, k3b, k4b, k5b, k6b⟩ := run_post _ h3 x5 trivial hlt1
          simp only [Rl.isL, Bool.false_eq_true, if_false] at k4b
          have ht2 : t2.length ≤ 100000 := by omega
          simp only [go_sem, reduceCtorEq, Nat.reduceEqDiff, Nat.reduceAdd, Nat.reduceMul, Nat.reduceSub, Nat.reduceLeDiff, Nat.reduceLT, Int.reduceMul, Int.reduceAdd, Int.reduceSub, Int.reduceToNat, hfree, f1, f2, hgi, hgt', hsi, hst, onQ_some, endS_bad, endS_ok, e_zTake, p_zSee, e_zNode, s_rule, hne, ne_eq, hne', hl5, Int.toNat_natCast, vOf00, isV00, i1, Int.reduceLE, eq_self, not_false_eq_true, Bool.not_true, Bool.not_false, Bool.true_and, Bool.false_and, List.length_append, yaz, yba, Nat.zero_add, s_zAnd, x3, hs, if_true, hp2, h3', ht2]
          have hc3 := hcl2 p2 false (t2 ++ [⟨15, a', b, [], [], 0⟩])
          refine ⟨(g, t2.length, p2, t2 ++ [⟨15, a', b, [], [], 0⟩], false), .inl ⟨rfl, by dsimp only; omega, h4, k2b, by simp; omega, k5b.snoc ⟨(show 1 ≤ 15 by decide), (show 15 ≤ 16 by decide)⟩ (show (0 : Nat) < 2 ^ 128 by decide) (.inr ⟨by simp only; omega, by simp only; omega⟩), by simp, by simp; omega⟩, by simp, ?_⟩
          simp only [List.length_append, yaz, yba, Nat.zero_add] at hc3 ⊢
          (simp only [bkq, enterW, subW, ltF, ne_eq, Nat.reduceEqDiff, reduceCtorEq, hc3, hid]; try simp (disch := first | assumption | omega | (simp; done) | (simp; omega) | (simp only [bt, and_true]; first | done | omega | (simp; done))) [↓zlf, beq, ybc, ybd, ybe, endOk, wk, wk2, wk1, wkM, wkL, wkLL, ybf, byq, biq, isDs_ints, hcl, hc3, hid]; try (repeat' (first | assumption | omega | exact True.intro | refine And.intro ?_ ?_ | refine closed_buf ?_ | refine closed_set_buf ?_ | refine closed_cells ?_ ?_ | refine closed_set ?_ ?_ | refine closed_del ?_ | exact AHeap.Le.refl _ | refine AHeap.Le.push ?_ _ | refine AHeap.Le.del ?_ ?_ | (simp only [bt, and_true, true_and, hc3, hid]; first | done | omega | (simp; done)))))
    · dsimp only at hbd x1 x3 x7 ⊢
      subst hbd
      rw [x1, endS_bad] at hK
      simp only [go_sem, reduceCtorEq, Nat.reduceEqDiff, Nat.reduceAdd, Nat.reduceMul, Nat.reduceSub, Nat.reduceLeDiff, Nat.reduceLT, Int.reduceMul, Int.reduceAdd, Int.reduceSub, Int.reduceToNat, hfree, f1, f2, hgi, hgt', hsi, hst, onQ_some, endS_bad, endS_ok, e_zTake, p_zSee, e_zNode, s_rule, hne, ne_eq, hne', hl5, Int.toNat_natCast, vOf00, isV00, i1, Int.reduceLE, eq_self, not_false_eq_true, Bool.not_true, Bool.not_false, Bool.true_and, Bool.false_and, List.length_append, yaz, yba, Nat.zero_add, x3, if_false]
      exact endP_of (hK a' t' x7) (hnx _ _) (AHeap.Le.refl _) (hcl2 _ _ _)
set_option maxHeartbeats 4000000 in
theorem sr_zAnd {A : Prop} {f : Nat} (h_zNot : EntOk Try.prog 223 (Ent.some (s_zNot A f))) : EntOk Try.prog 201 (Ent.some (s_zAnd A (f + 1))) := by
  refine EntOk.some fun args H K h => ?_
  unfold s_zAnd s_rule at h
  split at h
  rotate_left
  · exact h.elim
  rename_i id
  obtain ⟨m, l, p, b, tb, t, hg, ⟨rfl, hpre, hfree⟩, hK⟩ := h
  cases ho : run l (f + 1) .and p t with
  | none => rw [ho] at hK; exact hK.elim
  | some r =>
  rw [ho] at hK
  rw [run] at ho
  simp only [step] at ho
  have hpre' := hpre
  obtain ⟨hne, htb, ht, hp, hl, hgl, hgt⟩ := hpre
  have hid := AHeap.get_lt hg
  have htbl := AHeap.get_lt htb
  have f1 := far_of hid
  have f2 := far_of htbl
  have hl5 : l.length ≤ 100000 := by omega
  have i1 := @Int.natCast_nonneg
  have hne' : (id = tb) = False := eq_false hne
  have hnx : ∀ X Y, H.nx ≤ ((H.set id X).set tb Y).nx := fun X Y => Nat.le_refl _
  refine ACallsP.of_aw (Ω := [(223, Ent.some (s_zNot A f)), (155, Ent.effect e_zTake), (156, Ent.effect e_zNode)]) (T := assoc []) mixed (TblOk.cons h_zNot (TblOk.cons ok_zTake (TblOk.cons ok_zNode TblOk.nil))) Try.func201 (by kernel_rfl) (by rfl) (rs := [.tmp 2]) (by rfl) (by kernel_rfl) (by simp only [Try.ntmps201, yaz, yba]; decide) fun hcl hlt => ?_
  change aw _ _ _ (KI Try.prog [(223, Ent.some (s_zNot A f)), (155, Ent.effect e_zTake), (156, Ent.effect e_zNode)] (aEndP Try.prog [.tmp 2] H.nx _) []) _ _
  clear hlt
  obtain ⟨hgi, hgt', hsi, hcl2, hst⟩ := pre_factsR hg hpre' hcl
  rcases thenR_some ho with ⟨q, h1, hrq⟩ | ⟨a, p1, t1, h1, h2⟩
  case' inl =>
    obtain ⟨hq1, hq2⟩ := run_post _ h1 hgt trivial hp
    simp only [go_sem, reduceCtorEq, Nat.reduceEqDiff, Nat.reduceAdd, Nat.reduceMul, Nat.reduceSub, Nat.reduceLeDiff, Nat.reduceLT, Int.reduceMul, Int.reduceAdd, Int.reduceSub, Int.reduceToNat, hfree, f1, f2, hgi, hgt', hsi, hst, onQ_some, endS_bad, endS_ok, e_zTake, p_zSee, e_zNode, s_rule, hne, ne_eq, hne', hl5, Int.toNat_natCast, vOf00, isV00, i1, Int.reduceLE, eq_self, not_false_eq_true, Bool.not_true, Bool.not_false, Bool.true_and, Bool.false_and, List.length_append, yaz, yba, Nat.zero_add, s_zNot, hg, hpre', h1]
    intro a t' hb
    try simp only [blkS, go_sem, reduceCtorEq, Nat.reduceEqDiff, Nat.reduceAdd, Nat.reduceMul, Nat.reduceSub, Nat.reduceLeDiff, Nat.reduceLT, Int.reduceMul, Int.reduceAdd, Int.reduceSub, Int.reduceToNat, hfree, f1, f2, hgi, hgt', hsi, hst, onQ_some, endS_bad, endS_ok, e_zTake, p_zSee, e_zNode, s_rule, hne, ne_eq, hne', hl5, Int.toNat_natCast, vOf00, isV00, i1, Int.reduceLE, eq_self, not_false_eq_true, Bool.not_true, Bool.not_false, Bool.true_and, Bool.false_and, List.length_append, yaz, yba, Nat.zero_add, hq1]
    refine loop_introW (A := Nat × Nat × Nat × List Nd × Bool) (fun x => [(0, .ptr id 0), (3, .int .i64 (x.2.1 : Int))]) (fun x => (H.set id (rst m l x.2.2.1 x.2.2.2.2 tb x.2.2.2.1)).set tb (.buf 7 x.2.2.2.1.length)) (fun x => (x.2.2.2.2 = false ∧ x.1 ≤ f ∧ run l x.1 (.andL x.2.1) x.2.2.1 x.2.2.2.1 = some r ∧ x.2.2.1 ≤ l.length ∧ x.2.2.2.1.length ≤ x.2.2.1 ∧ Good x.2.2.2.1 ∧ x.2.1 < x.2.2.2.1.length ∧ x.2.2.2.1.length + p ≤ t.length + x.2.2.1) ∨ (x.2.2.2.2 = true ∧ r = .bad x.2.2.1 ∧ x.2.2.1 ≤ l.length ∧ x.2.2.2.1.length + p ≤ t.length + x.2.2.1)) (fun x => if x.2.2.2.2 then 0 else x.1 + 1) (0, a, q, t', true) (.inr ⟨rfl, hrq, hq1, hb⟩) ?_ ?_
    · (simp only [bkq, enterW, subW, ltF, ne_eq, Nat.reduceEqDiff, reduceCtorEq, hcl2, hid]; try simp (disch := first | assumption | omega | (simp; done) | (simp; omega) | (simp only [bt, and_true]; first | done | omega | (simp; done))) [↓zlf, beq, ybc, ybd, ybe, endOk, wk, wk2, wk1, wkM, wkL, wkLL, ybf, byq, biq, isDs_ints, hcl, hcl2, hid]; try (repeat' (first | assumption | omega | exact True.intro | refine And.intro ?_ ?_ | refine closed_buf ?_ | refine closed_set_buf ?_ | refine closed_cells ?_ ?_ | refine closed_set ?_ ?_ | refine closed_del ?_ | exact AHeap.Le.refl _ | refine AHeap.Le.push ?_ _ | refine AHeap.Le.del ?_ ?_ | (simp only [bt, and_true, true_and, hcl2, hid]; first | done | omega | (simp; done)))))
  case' inr =>
    clear ho
    obtain ⟨k1, k2, k3, k4, k5, k6⟩ := run_post _ h1 hgt trivial hp
    simp only [Rl.isL, Bool.false_eq_true, if_false] at k4
    simp only [go_sem, reduceCtorEq, Nat.reduceEqDiff, Nat.reduceAdd, Nat.reduceMul, Nat.reduceSub, Nat.reduceLeDiff, Nat.reduceLT, Int.reduceMul, Int.reduceAdd, Int.reduceSub, Int.reduceToNat, hfree, f1, f2, hgi, hgt', hsi, hst, onQ_some, endS_bad, endS_ok, e_zTake, p_zSee, e_zNode, s_rule, hne, ne_eq, hne', hl5, Int.toNat_natCast, vOf00, isV00, i1, Int.reduceLE, eq_self, not_false_eq_true, Bool.not_true, Bool.not_false, Bool.true_and, Bool.false_and, List.length_append, yaz, yba, Nat.zero_add, s_zNot, hg, hpre', h1]
    refine loop_introW (A := Nat × Nat × Nat × List Nd × Bool) (fun x => [(0, .ptr id 0), (3, .int .i64 (x.2.1 : Int))]) (fun x => (H.set id (rst m l x.2.2.1 x.2.2.2.2 tb x.2.2.2.1)).set tb (.buf 7 x.2.2.2.1.length)) (fun x => (x.2.2.2.2 = false ∧ x.1 ≤ f ∧ run l x.1 (.andL x.2.1) x.2.2.1 x.2.2.2.1 = some r ∧ x.2.2.1 ≤ l.length ∧ x.2.2.2.1.length ≤ x.2.2.1 ∧ Good x.2.2.2.1 ∧ x.2.1 < x.2.2.2.1.length ∧ x.2.2.2.1.length + p ≤ t.length + x.2.2.1) ∨ (x.2.2.2.2 = true ∧ r = .bad x.2.2.1 ∧ x.2.2.1 ≤ l.length ∧ x.2.2.2.1.length + p ≤ t.length + x.2.2.1)) (fun x => if x.2.2.2.2 then 0 else x.1 + 1) (f, a, p1, t1, false) (.inl ⟨rfl, Nat.le_refl _, h2, k2, (by show t1.length ≤ p1; omega), k5, k1, k3⟩) ?_ ?_
    · (simp only [bkq, enterW, subW, ltF, ne_eq, Nat.reduceEqDiff, reduceCtorEq, hcl2, hid]; try simp (disch := first | assumption | omega | (simp; done) | (simp; omega) | (simp only [bt, and_true]; first | done | omega | (simp; done))) [↓zlf, beq, ybc, ybd, ybe, endOk, wk, wk2, wk1, wkM, wkL, wkLL, ybf, byq, biq, isDs_ints, hcl, hcl2, hid]; try (repeat' (first | assumption | omega | exact True.intro | refine And.intro ?_ ?_ | refine closed_buf ?_ | refine closed_set_buf ?_ | refine closed_cells ?_ ?_ | refine closed_set ?_ ?_ | refine closed_del ?_ | exact AHeap.Le.refl _ | refine AHeap.Le.push ?_ _ | refine AHeap.Le.del ?_ ?_ | (simp only [bt, and_true, true_and, hcl2, hid]; first | done | omega | (simp; done)))))
  all_goals
    clear h1
    intro x hx
    obtain ⟨g, a', p', t', bd⟩ := x
    rcases hx with ⟨hbd, x1, x2, x3, x4, x5, x6, x7⟩ | ⟨hbd, x1, x3, x7⟩
    · dsimp only at hbd x1 x2 x3 x4 x5 x6 x7 ⊢
      subst hbd
      have ht' : t'.length ≤ 100000 := by omega
      cases g with
      | zero => cases x2
      | succ g =>
      rw [run] at x2
      simp only [step] at x2
      cases hs : isS l p' [38, 38] with
      | false =>
        rw [hs, if_neg (by simp)] at x2
        rw [← x2, endS_ok] at hK
        simp only [go_sem, reduceCtorEq, Nat.reduceEqDiff, Nat.reduceAdd, Nat.reduceMul, Nat.reduceSub, Nat.reduceLeDiff, Nat.reduceLT, Int.reduceMul, Int.reduceAdd, Int.reduceSub, Int.reduceToNat, hfree, f1, f2, hgi, hgt', hsi, hst, onQ_some, endS_bad, endS_ok, e_zTake, p_zSee, e_zNode, s_rule, hne, ne_eq, hne', hl5, Int.toNat_natCast, vOf00, isV00, i1, Int.reduceLE, eq_self, not_false_eq_true, Bool.not_true, Bool.not_false, Bool.true_and, Bool.false_and, List.length_append, yaz, yba, Nat.zero_add, x3, hs, if_false]
        exact endP_of hK (hnx _ _) (AHeap.Le.refl _) (hcl2 _ _ _)
      | true =>
        rw [hs, if_pos rfl] at x2
        have hlt1 := isS_lt hs
        have hp2 : preP ((H.set id (rst m l (p' + 1) false tb t')).set tb (.buf 7 t'.length)) id tb l (p' + 1) t' := preP_setR hpre' hlt1 (by omega) x5
        rcases thenR_some x2 with ⟨q2, h3, hr2⟩ | ⟨b, p2, t2, h3, h4⟩
        · have h3' := run_mono (show g ≤ f by omega) h3
          obtain ⟨hq3, hq4⟩ := run_post _ h3 x5 trivial hlt1
          simp only [go_sem, reduceCtorEq, Nat.reduceEqDiff, Nat.reduceAdd, Nat.reduceMul, Nat.reduceSub, Nat.reduceLeDiff, Nat.reduceLT, Int.reduceMul, Int.reduceAdd, Int.reduceSub, Int.reduceToNat, hfree, f1, f2, hgi, hgt', hsi, hst, onQ_some, endS_bad, endS_ok, e_zTake, p_zSee, e_zNode, s_rule, hne, ne_eq, hne', hl5, Int.toNat_natCast, vOf00, isV00, i1, Int.reduceLE, eq_self, not_false_eq_true, Bool.not_true, Bool.not_false, Bool.true_and, Bool.false_and, List.length_append, yaz, yba, Nat.zero_add, s_zNot, x3, hs, if_true, hp2, h3']
          intro b t2 hb2
          have ht2 : t2.length ≤ 100000 := by omega
          simp only [blkS, go_sem, reduceCtorEq, Nat.reduceEqDiff, Nat.reduceAdd, Nat.reduceMul, Nat.reduceSub, Nat.reduceLeDiff, Nat.reduceLT, Int.reduceMul, Int.reduceAdd, Int.reduceSub, Int.reduceToNat, hfree, f1, f2, hgi, hgt', hsi, hst, onQ_some, endS_bad, endS_ok, e_zTake, p_zSee, e_zNode, s_rule, hne, ne_eq, hne', hl5, Int.toNat_natCast, vOf00, isV00, i1, Int.reduceLE, eq_self, not_false_eq_true, Bool.not_true, Bool.not_false, Bool.true_and, Bool.false_and, List.length_append, yaz, yba, Nat.zero_add, ht2]
          have hc3 := hcl2 q2 true (t2 ++ [⟨14, a', b, [], [], 0⟩])
          refine ⟨(0, t2.length, q2, t2 ++ [⟨14, a', b, [], [], 0⟩], true), .inr ⟨rfl, hr2, hq3, by simp; omega⟩, by simp, ?_⟩
          simp only [List.length_append, yaz, yba, Nat.zero_add] at hc3 ⊢
          (simp only [bkq, enterW, subW, ltF, ne_eq, Nat.reduceEqDiff, reduceCtorEq, hc3, hid]; try simp (disch := first | assumption | omega | (simp; done) | (simp; omega) | (simp only [bt, and_true]; first | done | omega | (simp; done))) [↓zlf, beq, ybc, ybd, ybe, endOk, wk, wk2, wk1, wkM, wkL, wkLL, ybf, byq, biq, isDs_ints, hcl, hc3, hid]; try (repeat' (first | assumption | omega | exact True.intro | refine And.intro ?_ ?_ | refine closed_buf ?_ | refine closed_set_buf ?_ | refine closed_cells ?_ ?_ | refine closed_set ?_ ?_ | refine closed_del ?_ | exact AHeap.Le.refl _ | refine AHeap.Le.push ?_ _ | refine AHeap.Le.del ?_ ?_ | (simp only [bt, and_true, true_and, hc3, hid]; first | done | omega | (simp; done)))))
        · have h3' := run_mono (show g ≤ f by omega) h3
          obtain ⟨k1b, k2b, k3b, k4b, k5b, k6b⟩ := run_post _ h3 x5 trivial hlt1
          simp only [Rl.isL, Bool.false_eq_true, if_false] at k4b
          have ht2 : t2.length ≤ 100000 := by omega
          simp only [go_sem, reduceCtorEq, Nat.reduceEqDiff, Nat.reduceAdd, Nat.reduceMul, Nat.reduceSub, Nat.reduceLeDiff, Nat.reduceLT, Int.reduceMul, Int.reduceAdd, Int.reduceSub, Int.reduceToNat, hfree, f1, f2, hgi, hgt', hsi, hst, onQ_some, endS_bad, endS_ok, e_zTake, p_zSee, e_zNode, s_rule, hne, ne_eq, hne', hl5, Int.toNat_natCast, vOf00, isV00, i1, Int.reduceLE, eq_self, not_false_eq_true, Bool.not_true, Bool.not_false, Bool.true_and, Bool.false_and, List.length_append, yaz, yba, Nat.zero_add, s_zNot, x3, hs, if_true, hp2, h3', ht2]
          have hc3 := hcl2 p2 false (t2 ++ [⟨14, a', b, [], [], 0⟩])
          refine ⟨(g, t2.length, p2, t2 ++ [⟨14, a', b, [], [], 0⟩], false), .inl ⟨rfl, by dsimp only; omega, h4, k2b, by simp; omega, k5b.snoc ⟨(show 1 ≤ 14 by decide), (show 14 ≤ 16 by decide)⟩ (show (0 : Nat) < 2 ^ 128 by decide) (.inr ⟨by simp only; omega, by simp only; omega⟩), by simp, by simp; omega⟩, by simp, ?_⟩
          simp only [List.length_append, yaz, yba, Nat.zero_add] at hc3 ⊢
          (simp only [bkq, enterW, subW, ltF, ne_eq, Nat.reduceEqDiff, reduceCtorEq, hc3, hid]; try simp (disch := first | assumption | omega | (simp; done) | (simp; omega) | (simp only [bt, and_true]; first | done | omega | (simp; done))) [↓zlf, beq, ybc, ybd, ybe, endOk, wk, wk2, wk1, wkM, wkL, wkLL, ybf, byq, biq, isDs_ints, hcl, hc3, hid]; try (repeat' (first | assumption | omega | exact True.intro | refine And.intro ?_ ?_ | refine closed_buf ?_ | refine closed_set_buf ?_ | refine closed_cells ?_ ?_ | refine closed_set ?_ ?_ | refine closed_del ?_ | exact AHeap.Le.refl _ | refine AHeap.Le.push ?_ _ | refine AHeap.Le.del ?_ ?_ | (simp only [bt, and_true, true_and, hc3, hid]; first | done | omega | (simp; done)))))
    · dsimp only at hbd x1 x3 x7 ⊢
      subst hbd
      rw [x1, endS_bad] at hK
      simp only [go_sem, reduceCtorEq, Nat.reduceEqDiff, Nat.reduceAdd, Nat.reduceMul, Nat.reduceSub, Nat.reduceLeDiff, Nat.reduceLT, Int.reduceMul, Int.reduceAdd, Int.reduceSub, Int.reduceToNat, hfree, f1, f2, hgi, hgt', hsi, hst, onQ_some, endS_bad, endS_ok, e_zTake, p_zSee, e_zNode, s_rule, hne, ne_eq, hne', hl5, Int.toNat_natCast, vOf00, isV00, i1, Int.reduceLE, eq_self, not_false_eq_true, Bool.not_true, Bool.not_false, Bool.true_and, Bool.false_and, List.length_append, yaz, yba, Nat.zero_add, x3, if_false]
      exact endP_of (hK a' t' x7) (hnx _ _) (AHeap.Le.refl _) (hcl2 _ _ _)
set_option maxHeartbeats 4000000 in
theorem sr_zSum {A : Prop} {f : Nat} (h_zUn : EntOk Try.prog 233 (Ent.some (s_zUn A f))) : EntOk Try.prog 229 (Ent.some (s_zSum A (f + 1))) := by
  refine EntOk.some fun args H K h => ?_
  unfold s_zSum s_rule at h
  split at h
  rotate_left
  · exact h.elim
  rename_i id
  obtain ⟨m, l, p, b, tb, t, hg, ⟨rfl, hpre, hfree⟩, hK⟩ := h
  cases ho : run l (f + 1) .sum p t with
  | none => rw [ho] at hK; exact hK.elim
  | some r =>
  rw [ho] at hK
  rw [run] at ho
  simp only [step] at ho
  have hpre' := hpre
  obtain ⟨hne, htb, ht, hp, hl, hgl, hgt⟩ := hpre
  have hid := AHeap.get_lt hg
  have htbl := AHeap.get_lt htb
  have f1 := far_of hid
  have f2 := far_of htbl
  have hl5 : l.length ≤ 100000 := by omega
  have i1 := @Int.natCast_nonneg
  have hne' : (id = tb) = False := eq_false hne
  have hnx : ∀ X Y, H.nx ≤ ((H.set id X).set tb Y).nx := fun X Y => Nat.le_refl _
  refine ACallsP.of_aw (Ω := [(233, Ent.some (s_zUn A f)), (202, Ent.pure p_zSee), (156, Ent.effect e_zNode)]) (T := assoc []) mixed (TblOk.cons h_zUn (TblOk.cons ok_zSee (TblOk.cons ok_zNode TblOk.nil))) Try.func229 (by kernel_rfl) (by rfl) (rs := [.tmp 2]) (by rfl) (by kernel_rfl) (by simp only [Try.ntmps229, yaz, yba]; decide) fun hcl hlt => ?_
  change aw _ _ _ (KI Try.prog [(233, Ent.some (s_zUn A f)), (202, Ent.pure p_zSee), (156, Ent.effect e_zNode)] (aEndP Try.prog [.tmp 2] H.nx _) []) _ _
  clear hlt
  obtain ⟨hgi, hgt', hsi, hcl2, hst⟩ := pre_factsR hg hpre' hcl
  rcases thenR_some ho with ⟨q, h1, hrq⟩ | ⟨a, p1, t1, h1, h2⟩
  case' inl =>
    obtain ⟨hq1, hq2⟩ := run_post _ h1 hgt trivial hp
    simp only [go_sem, reduceCtorEq, Nat.reduceEqDiff, Nat.reduceAdd, Nat.reduceMul, Nat.reduceSub, Nat.reduceLeDiff, Nat.reduceLT, Int.reduceMul, Int.reduceAdd, Int.reduceSub, Int.reduceToNat, hfree, f1, f2, hgi, hgt', hsi, hst, onQ_some, endS_bad, endS_ok, e_zTake, p_zSee, e_zNode, s_rule, hne, ne_eq, hne', hl5, Int.toNat_natCast, vOf00, isV00, i1, Int.reduceLE, eq_self, not_false_eq_true, Bool.not_true, Bool.not_false, Bool.true_and, Bool.false_and, List.length_append, yaz, yba, Nat.zero_add, s_zUn, hg, hpre', h1]
    intro a t' hb
    try simp only [blkS, go_sem, reduceCtorEq, Nat.reduceEqDiff, Nat.reduceAdd, Nat.reduceMul, Nat.reduceSub, Nat.reduceLeDiff, Nat.reduceLT, Int.reduceMul, Int.reduceAdd, Int.reduceSub, Int.reduceToNat, hfree, f1, f2, hgi, hgt', hsi, hst, onQ_some, endS_bad, endS_ok, e_zTake, p_zSee, e_zNode, s_rule, hne, ne_eq, hne', hl5, Int.toNat_natCast, vOf00, isV00, i1, Int.reduceLE, eq_self, not_false_eq_true, Bool.not_true, Bool.not_false, Bool.true_and, Bool.false_and, List.length_append, yaz, yba, Nat.zero_add, hq1]
    refine loop_introW (A := Nat × Nat × Nat × List Nd × Bool) (fun x => [(0, .ptr id 0), (3, .int .i64 (x.2.1 : Int))]) (fun x => (H.set id (rst m l x.2.2.1 x.2.2.2.2 tb x.2.2.2.1)).set tb (.buf 7 x.2.2.2.1.length)) (fun x => (x.2.2.2.2 = false ∧ x.1 ≤ f ∧ run l x.1 (.sumL x.2.1) x.2.2.1 x.2.2.2.1 = some r ∧ x.2.2.1 ≤ l.length ∧ x.2.2.2.1.length ≤ x.2.2.1 ∧ Good x.2.2.2.1 ∧ x.2.1 < x.2.2.2.1.length ∧ x.2.2.2.1.length + p ≤ t.length + x.2.2.1) ∨ (x.2.2.2.2 = true ∧ r = .bad x.2.2.1 ∧ x.2.2.1 ≤ l.length ∧ x.2.2.2.1.length + p ≤ t.length + x.2.2.1)) (fun x => if x.2.2.2.2 then 0 else x.1 + 1) (0, a, q, t', true) (.inr ⟨rfl, hrq, hq1, hb⟩) ?_ ?_
    · (simp only [bkq, enterW, subW, ltF, ne_eq, Nat.reduceEqDiff, reduceCtorEq, hcl2, hid]; try simp (disch := first | assumption | omega | (simp; done) | (simp; omega) | (simp only [bt, and_true]; first | done | omega | (simp; done))) [↓zlf, beq, ybc, ybd, ybe, endOk, wk, wk2, wk1, wkM, wkL, wkLL, ybf, byq, biq, isDs_ints, hcl, hcl2, hid]; try (repeat' (first | assumption | omega | exact True.intro | refine And.intro ?_ ?_ | refine closed_buf ?_ | refine closed_set_buf ?_ | refine closed_cells ?_ ?_ | refine closed_set ?_ ?_ | refine closed_del ?_ | exact AHeap.Le.refl _ | refine AHeap.Le.push ?_ _ | refine AHeap.Le.del ?_ ?_ | (simp only [bt, and_true, true_and, hcl2, hid]; first | done | omega | (simp; done)))))
  case' inr =>
    clear ho
    obtain ⟨k1, k2, k3, k4, k5, k6⟩ := run_post _ h1 hgt trivial hp
    simp only [Rl.isL, Bool.false_eq_true, if_false] at k4
    simp only [go_sem, reduceCtorEq, Nat.reduceEqDiff, Nat.reduceAdd, Nat.reduceMul, Nat.reduceSub, Nat.reduceLeDiff, Nat.reduceLT, Int.reduceMul, Int.reduceAdd, Int.reduceSub, Int.reduceToNat, hfree, f1, f2, hgi, hgt', hsi, hst, onQ_some, endS_bad, endS_ok, e_zTake, p_zSee, e_zNode, s_rule, hne, ne_eq, hne', hl5, Int.toNat_natCast, vOf00, isV00, i1, Int.reduceLE, eq_self, not_false_eq_true, Bool.not_true, Bool.not_false, Bool.true_and, Bool.false_and, List.length_append, yaz, yba, Nat.zero_add, s_zUn, hg, hpre', h1]
    refine loop_introW (A := Nat × Nat × Nat × List Nd × Bool) (fun x => [(0, .ptr id 0), (3, .int .i64 (x.2.1 : Int))]) (fun x => (H.set id (rst m l x.2.2.1 x.2.2.2.2 tb x.2.2.2.1)).set tb (.buf 7 x.2.2.2.1.length)) (fun x => (x.2.2.2.2 = false ∧ x.1 ≤ f ∧ run l x.1 (.sumL x.2.1) x.2.2.1 x.2.2.2.1 = some r ∧ x.2.2.1 ≤ l.length ∧ x.2.2.2.1.length ≤ x.2.2.1 ∧ Good x.2.2.2.1 ∧ x.2.1 < x.2.2.2.1.length ∧ x.2.2.2.1.length + p ≤ t.length + x.2.2.1) ∨ (x.2.2.2.2 = true ∧ r = .bad x.2.2.1 ∧ x.2.2.1 ≤ l.length ∧ x.2.2.2.1.length + p ≤ t.length + x.2.2.1)) (fun x => if x.2.2.2.2 then 0 else x.1 + 1) (f, a, p1, t1, false) (.inl ⟨rfl, Nat.le_refl _, h2, k2, (by show t1.length ≤ p1; omega), k5, k1, k3⟩) ?_ ?_
    · (simp only [bkq, enterW, subW, ltF, ne_eq, Nat.reduceEqDiff, reduceCtorEq, hcl2, hid]; try simp (disch := first | assumption | omega | (simp; done) | (simp; omega) | (simp only [bt, and_true]; first | done | omega | (simp; done))) [↓zlf, beq, ybc, ybd, ybe, endOk, wk, wk2, wk1, wkM, wkL, wkLL, ybf, byq, biq, isDs_ints, hcl, hcl2, hid]; try (repeat' (first | assumption | omega | exact True.intro | refine And.intro ?_ ?_ | refine closed_buf ?_ | refine closed_set_buf ?_ | refine closed_cells ?_ ?_ | refine closed_set ?_ ?_ | refine closed_del ?_ | exact AHeap.Le.refl _ | refine AHeap.Le.push ?_ _ | refine AHeap.Le.del ?_ ?_ | (simp only [bt, and_true, true_and, hcl2, hid]; first | done | omega | (simp; done)))))
  all_goals
    clear h1
    intro x hx
    obtain ⟨g, a', p', t', bd⟩ := x
    rcases hx with ⟨hbd, x1, x2, x3, x4, x5, x6, x7⟩ | ⟨hbd, x1, x3, x7⟩
    · dsimp only at hbd x1 x2 x3 x4 x5 x6 x7 ⊢
      subst hbd
      have ht' : t'.length ≤ 100000 := by omega
      cases g with
      | zero => cases x2
      | succ g =>
      rw [run] at x2
      simp only [step] at x2
      have e1 : IntKind.i64.wrap ((p' : Int) + 1) = ((p' + 1 : Nat) : Int) := by rw [wrap_i64] <;> omega
      have hcc : ∀ X Y, cellsOf? ((H.set id (.cells X)).set tb Y) id = some X := fun X Y => by rw [cells_set_far hne, cells_set hid, if_pos rfl]
      cases hs : opOf l p' opsS with
      | none =>
        rw [hs] at x2
        dsimp only at x2
        rw [← x2, endS_ok] at hK
        have hs1 : isS l p' [43] = false := by
          cases h : isS l p' [43] with
          | false => rfl
          | true => simp [opOf, opsS, h] at hs
        have hs2 : isS l p' [45] = false := by
          cases h : isS l p' [45] with
          | false => rfl
          | true => simp [opOf, opsS, hs1, h] at hs
        simp only [go_sem, reduceCtorEq, Nat.reduceEqDiff, Nat.reduceAdd, Nat.reduceMul, Nat.reduceSub, Nat.reduceLeDiff, Nat.reduceLT, Int.reduceMul, Int.reduceAdd, Int.reduceSub, Int.reduceToNat, hfree, f1, f2, hgi, hgt', hsi, hst, onQ_some, endS_bad, endS_ok, e_zTake, p_zSee, e_zNode, s_rule, hne, ne_eq, hne', hl5, Int.toNat_natCast, vOf00, isV00, i1, Int.reduceLE, eq_self, not_false_eq_true, Bool.not_true, Bool.not_false, Bool.true_and, Bool.false_and, List.length_append, yaz, yba, Nat.zero_add, x3, hs1, hs2, Bool.and_false]
        exact endP_of hK (hnx _ _) (AHeap.Le.refl _) (hcl2 _ _ _)
      | some op =>
        rw [hs] at x2
        dsimp only at x2
        obtain ⟨hlt1, so, hso⟩ := opOf_lt hs
        obtain ⟨o1, o2⟩ := opsS_op hso
        have hp2 : preP ((H.set id (rst m l (p' + 1) false tb t')).set tb (.buf 7 t'.length)) id tb l (p' + 1) t' := preP_setR hpre' hlt1 (by omega) x5
        have hcases : (isS l p' [43] = true ∧ isS l p' [45] = false ∧ op = 6) ∨ (isS l p' [43] = false ∧ isS l p' [45] = true ∧ op = 7) := by
          cases h1 : isS l p' [43] with
          | true =>
            left
            simp only [opOf, opsS, h1, if_true] at hs
            cases hs
            refine ⟨rfl, ?_, rfl⟩
            cases h2 : isS l p' [45] with
            | false => rfl
            | true => exact absurd (isS_one h1 h2) (by decide)
          | false =>
            right
            cases h2 : isS l p' [45] with
            | false => simp [opOf, opsS, h1, h2] at hs
            | true => simp [opOf, opsS, h1, h2] at hs; exact ⟨rfl, rfl, hs.symm⟩
        rcases hcases with ⟨hs1, hs2, hop⟩ | ⟨hs1, hs2, hop⟩
        all_goals
          subst hop
          rcases thenR_some x2 with ⟨q2, h3, hr2⟩ | ⟨b, p2, t2, h3, h4⟩
          · have h3' := run_mono (show g ≤ f by omega) h3
            obtain ⟨hq3, hq4⟩ := run_post _ h3 x5 trivial hlt1
            simp only [go_sem, reduceCtorEq, Nat.reduceEqDiff, Nat.reduceAdd, Nat.reduceMul, Nat.reduceSub, Nat.reduceLeDiff, Nat.reduceLT, Int.reduceMul, Int.reduceAdd, Int.reduceSub, Int.reduceToNat, hfree, f1, f2, hgi, hgt', hsi, hst, onQ_some, endS_bad, endS_ok, e_zTake, p_zSee, e_zNode, s_rule, hne, ne_eq, hne', hl5, Int.toNat_natCast, vOf00, isV00, i1, Int.reduceLE, eq_self, not_false_eq_true, Bool.not_true, Bool.not_false, Bool.true_and, Bool.false_and, List.length_append, yaz, yba, Nat.zero_add, s_zUn, x3, hs1, hs2, Bool.and_true, Bool.and_false, onQ_some', rst, hcc, e1]
            simp only [← rst_def, go_sem, reduceCtorEq, Nat.reduceEqDiff, Nat.reduceAdd, Nat.reduceMul, Nat.reduceSub, Nat.reduceLeDiff, Nat.reduceLT, Int.reduceMul, Int.reduceAdd, Int.reduceSub, Int.reduceToNat, hfree, f1, f2, hgi, hgt', hsi, hst, onQ_some, endS_bad, endS_ok, e_zTake, p_zSee, e_zNode, s_rule, hne, ne_eq, hne', hl5, Int.toNat_natCast, vOf00, isV00, i1, Int.reduceLE, eq_self, not_false_eq_true, Bool.not_true, Bool.not_false, Bool.true_and, Bool.false_and, List.length_append, yaz, yba, Nat.zero_add, s_zUn, hp2, h3']
            intro b t2 hb2
            have ht2 : t2.length ≤ 100000 := by omega
            simp only [blkS, go_sem, reduceCtorEq, Nat.reduceEqDiff, Nat.reduceAdd, Nat.reduceMul, Nat.reduceSub, Nat.reduceLeDiff, Nat.reduceLT, Int.reduceMul, Int.reduceAdd, Int.reduceSub, Int.reduceToNat, hfree, f1, f2, hgi, hgt', hsi, hst, onQ_some, endS_bad, endS_ok, e_zTake, p_zSee, e_zNode, s_rule, hne, ne_eq, hne', hl5, Int.toNat_natCast, vOf00, isV00, i1, Int.reduceLE, eq_self, not_false_eq_true, Bool.not_true, Bool.not_false, Bool.true_and, Bool.false_and, List.length_append, yaz, yba, Nat.zero_add, ht2]
            first
            | (have hc3 := hcl2 q2 true (t2 ++ [⟨6, a', b, [], [], 0⟩])
               refine ⟨(0, t2.length, q2, t2 ++ [⟨6, a', b, [], [], 0⟩], true), .inr ⟨rfl, hr2, hq3, by simp; omega⟩, by simp, ?_⟩
               simp only [List.length_append, yaz, yba, Nat.zero_add] at hc3 ⊢
               (simp only [bkq, enterW, subW, ltF, ne_eq, Nat.reduceEqDiff, reduceCtorEq, hc3, hid]; try simp (disch := first | assumption | omega | (simp; done) | (simp; omega) | (simp only [bt, and_true]; first | done | omega | (simp; done))) [↓zlf, beq, ybc, ybd, ybe, endOk, wk, wk2, wk1, wkM, wkL, wkLL, ybf, byq, biq, isDs_ints, hcl, hc3, hid]; try (repeat' (first | assumption | omega | exact True.intro | refine And.intro ?_ ?_ | refine closed_buf ?_ | refine closed_set_buf ?_ | refine closed_cells ?_ ?_ | refine closed_set ?_ ?_ | refine closed_del ?_ | exact AHeap.Le.refl _ | refine AHeap.Le.push ?_ _ | refine AHeap.Le.del ?_ ?_ | (simp only [bt, and_true, true_and, hc3, hid]; first | done | omega | (simp; done)))))
               done)
            | (have hc3 := hcl2 q2 true (t2 ++ [⟨7, a', b, [], [], 0⟩])
               refine ⟨(0, t2.length, q2, t2 ++ [⟨7, a', b, [], [], 0⟩], true), .inr ⟨rfl, hr2, hq3, by simp; omega⟩, by simp, ?_⟩
               simp only [List.length_append, yaz, yba, Nat.zero_add] at hc3 ⊢
               (simp only [bkq, enterW, subW, ltF, ne_eq, Nat.reduceEqDiff, reduceCtorEq, hc3, hid]; try simp (disch := first | assumption | omega | (simp; done) | (simp; omega) | (simp only [bt, and_true]; first | done | omega | (simp; done))) [↓zlf, beq, ybc, ybd, ybe, endOk, wk, wk2, wk1, wkM, wkL, wkLL, ybf, byq, biq, isDs_ints, hcl, hc3, hid]; try (repeat' (first | assumption | omega | exact True.intro | refine And.intro ?_ ?_ | refine closed_buf ?_ | refine closed_set_buf ?_ | refine closed_cells ?_ ?_ | refine closed_set ?_ ?_ | refine closed_del ?_ | exact AHeap.Le.refl _ | refine AHeap.Le.push ?_ _ | refine AHeap.Le.del ?_ ?_ | (simp only [bt, and_true, true_and, hc3, hid]; first | done | omega | (simp; done)))))
               done)
          · have h3' := run_mono (show g ≤ f by omega) h3
            obtain ⟨k1b, k2b, k3b, k4b, k5b, k6b⟩ := run_post _ h3 x5 trivial hlt1
            simp only [Rl.isL, Bool.false_eq_true, if_false] at k4b
            have ht2 : t2.length ≤ 100000 := by omega
            simp only [go_sem, reduceCtorEq, Nat.reduceEqDiff, Nat.reduceAdd, Nat.reduceMul, Nat.reduceSub, Nat.reduceLeDiff, Nat.reduceLT, Int.reduceMul, Int.reduceAdd, Int.reduceSub, Int.reduceToNat, hfree, f1, f2, hgi, hgt', hsi, hst, onQ_some, endS_bad, endS_ok, e_zTake, p_zSee, e_zNode, s_rule, hne, ne_eq, hne', hl5, Int.toNat_natCast, vOf00, isV00, i1, Int.reduceLE, eq_self, not_false_eq_true, Bool.not_true, Bool.not_false, Bool.true_and, Bool.false_and, List.length_append, yaz, yba, Nat.zero_add, s_zUn, x3, hs1, hs2, Bool.and_true, Bool.and_false, onQ_some', rst, hcc, e1]
            simp only [← rst_def, go_sem, reduceCtorEq, Nat.reduceEqDiff, Nat.reduceAdd, Nat.reduceMul, Nat.reduceSub, Nat.reduceLeDiff, Nat.reduceLT, Int.reduceMul, Int.reduceAdd, Int.reduceSub, Int.reduceToNat, hfree, f1, f2, hgi, hgt', hsi, hst, onQ_some, endS_bad, endS_ok, e_zTake, p_zSee, e_zNode, s_rule, hne, ne_eq, hne', hl5, Int.toNat_natCast, vOf00, isV00, i1, Int.reduceLE, eq_self, not_false_eq_true, Bool.not_true, Bool.not_false, Bool.true_and, Bool.false_and, List.length_append, yaz, yba, Nat.zero_add, s_zUn, hp2, h3', ht2]
            first
            | (have hc3 := hcl2 p2 false (t2 ++ [⟨6, a', b, [], [], 0⟩])
               refine ⟨(g, t2.length, p2, t2 ++ [⟨6, a', b, [], [], 0⟩], false), .inl ⟨rfl, by dsimp only; omega, h4, k2b, by simp; omega, k5b.snoc ⟨(show 1 ≤ 6 by decide), (show 6 ≤ 16 by decide)⟩ (show (0 : Nat) < 2 ^ 128 by decide) (.inr ⟨by simp only; omega, by simp only; omega⟩), by simp, by simp; omega⟩, by simp, ?_⟩
               simp only [List.length_append, yaz, yba, Nat.zero_add] at hc3 ⊢
               (simp only [bkq, enterW, subW, ltF, ne_eq, Nat.reduceEqDiff, reduceCtorEq, hc3, hid]; try simp (disch := first | assumption | omega | (simp; done) | (simp; omega) | (simp only [bt, and_true]; first | done | omega | (simp; done))) [↓zlf, beq, ybc, ybd, ybe, endOk, wk, wk2, wk1, wkM, wkL, wkLL, ybf, byq, biq, isDs_ints, hcl, hc3, hid]; try (repeat' (first | assumption | omega | exact True.intro | refine And.intro ?_ ?_ | refine closed_buf ?_ | refine closed_set_buf ?_ | refine closed_cells ?_ ?_ | refine closed_set ?_ ?_ | refine closed_del ?_ | exact AHeap.Le.refl _ | refine AHeap.Le.push ?_ _ | refine AHeap.Le.del ?_ ?_ | (simp only [bt, and_true, true_and, hc3, hid]; first | done | omega | (simp; done)))))
               done)
            | (have hc3 := hcl2 p2 false (t2 ++ [⟨7, a', b, [], [], 0⟩])
               refine ⟨(g, t2.length, p2, t2 ++ [⟨7, a', b, [], [], 0⟩], false), .inl ⟨rfl, by dsimp only; omega, h4, k2b, by simp; omega, k5b.snoc ⟨(show 1 ≤ 7 by decide), (show 7 ≤ 16 by decide)⟩ (show (0 : Nat) < 2 ^ 128 by decide) (.inr ⟨by simp only; omega, by simp only; omega⟩), by simp, by simp; omega⟩, by simp, ?_⟩
               simp only [List.length_append, yaz, yba, Nat.zero_add] at hc3 ⊢
               (simp only [bkq, enterW, subW, ltF, ne_eq, Nat.reduceEqDiff, reduceCtorEq, hc3, hid]; try simp (disch := first | assumption | omega | (simp; done) | (simp; omega) | (simp only [bt, and_true]; first | done | omega | (simp; done))) [↓zlf, beq, ybc, ybd, ybe, endOk, wk, wk2, wk1, wkM, wkL, wkLL, ybf, byq, biq, isDs_ints, hcl, hc3, hid]; try (repeat' (first | assumption | omega | exact True.intro | refine And.intro ?_ ?_ | refine closed_buf ?_ | refine closed_set_buf ?_ | refine closed_cells ?_ ?_ | refine closed_set ?_ ?_ | refine closed_del ?_ | exact AHeap.Le.refl _ | refine AHeap.Le.push ?_ _ | refine AHeap.Le.del ?_ ?_ | (simp only [bt, and_true, true_and, hc3, hid]; first | done | omega | (simp; done)))))
               done)
    · dsimp only at hbd x1 x3 x7 ⊢
      subst hbd
      rw [x1, endS_bad] at hK
      simp only [go_sem, reduceCtorEq, Nat.reduceEqDiff, Nat.reduceAdd, Nat.reduceMul, Nat.reduceSub, Nat.reduceLeDiff, Nat.reduceLT, Int.reduceMul, Int.reduceAdd, Int.reduceSub, Int.reduceToNat, hfree, f1, f2, hgi, hgt', hsi, hst, onQ_some, endS_bad, endS_ok, e_zTake, p_zSee, e_zNode, s_rule, hne, ne_eq, hne', hl5, Int.toNat_natCast, vOf00, isV00, i1, Int.reduceLE, eq_self, not_false_eq_true, Bool.not_true, Bool.not_false, Bool.true_and, Bool.false_and, List.length_append, yaz, yba, Nat.zero_add, x3, if_false]
      exact endP_of (hK a' t' x7) (hnx _ _) (AHeap.Le.refl _) (hcl2 _ _ _)
set_option maxHeartbeats 4000000 in
theorem sr_zNot {A : Prop} {f : Nat} (h_zNot : EntOk Try.prog 223 (Ent.some (s_zNot A f))) (h_zCmp : EntOk Try.prog 227 (Ent.some (s_zCmp A f))) : EntOk Try.prog 223 (Ent.some (s_zNot A (f + 1))) := by
  refine EntOk.some fun args H K h => ?_
  unfold s_zNot s_rule at h
  split at h
  rotate_left
  · exact h.elim
  rename_i id
  obtain ⟨m, l, p, b, tb, t, hg, ⟨rfl, hpre, hfree⟩, hK⟩ := h
  cases ho : run l (f + 1) .not p t with
  | none => rw [ho] at hK; exact hK.elim
  | some r =>
  rw [ho] at hK
  rw [run] at ho
  simp only [step] at ho
  have hpre' := hpre
  obtain ⟨hne, htb, ht, hp, hl, hgl, hgt⟩ := hpre
  have hid := AHeap.get_lt hg
  have htbl := AHeap.get_lt htb
  have f1 := far_of hid
  have f2 := far_of htbl
  have hl5 : l.length ≤ 100000 := by omega
  have i1 := @Int.natCast_nonneg
  have hne' : (id = tb) = False := eq_false hne
  have hnx : ∀ X Y, H.nx ≤ ((H.set id X).set tb Y).nx := fun X Y => Nat.le_refl _
  refine ACallsP.of_aw (Ω := [(155, Ent.effect e_zTake), (223, Ent.some (s_zNot A f)), (156, Ent.effect e_zNode), (227, Ent.some (s_zCmp A f))]) (T := assoc []) mixed (TblOk.cons ok_zTake (TblOk.cons h_zNot (TblOk.cons ok_zNode (TblOk.cons h_zCmp TblOk.nil)))) Try.func223 (by kernel_rfl) (by rfl) (rs := [.tmp 2]) (by rfl) (by kernel_rfl) (by simp only [Try.ntmps223, yaz, yba]; decide) fun hcl hlt => ?_
  change aw _ _ _ (KI Try.prog [(155, Ent.effect e_zTake), (223, Ent.some (s_zNot A f)), (156, Ent.effect e_zNode), (227, Ent.some (s_zCmp A f))] (aEndP Try.prog [.tmp 2] H.nx _) []) _ _
  clear hlt
  obtain ⟨hgi, hgt', hsi, hcl2, hst⟩ := pre_factsR hg hpre' hcl
  have hgi1 : ∀ X, (H.set id X).get id = some X := fun X => AHeap.get_set_same _ _ hid
  have hss : ∀ X Y, (H.set id X).set id Y = H.set id Y := fun X Y => by simp only [AHeap.set]; congr 1; funext k; by_cases hk : k = id <;> simp [hk]
  cases hs : isS l p [33] with
  | false =>
    rw [hs, if_neg (by simp)] at ho
    simp only [go_sem, reduceCtorEq, Nat.reduceEqDiff, Nat.reduceAdd, Nat.reduceMul, Nat.reduceSub, Nat.reduceLeDiff, Nat.reduceLT, Int.reduceMul, Int.reduceAdd, Int.reduceSub, Int.reduceToNat, hfree, f1, f2, hgi, hgt', hsi, hst, onQ_some, endS_bad, endS_ok, e_zTake, p_zSee, e_zNode, s_rule, hne, ne_eq, hne', hl5, Int.toNat_natCast, vOf00, isV00, i1, Int.reduceLE, eq_self, not_false_eq_true, Bool.not_true, Bool.not_false, Bool.true_and, Bool.false_and, List.length_append, yaz, yba, Nat.zero_add, s_zCmp, hg, hp, hs, if_false, hpre', ho]
    cases r with
    | ok a q u =>
      rw [endS_ok] at hK
      simp only [go_sem, reduceCtorEq, Nat.reduceEqDiff, Nat.reduceAdd, Nat.reduceMul, Nat.reduceSub, Nat.reduceLeDiff, Nat.reduceLT, Int.reduceMul, Int.reduceAdd, Int.reduceSub, Int.reduceToNat, hfree, f1, f2, hgi, hgt', hsi, hst, onQ_some, endS_bad, endS_ok, e_zTake, p_zSee, e_zNode, s_rule, hne, ne_eq, hne', hl5, Int.toNat_natCast, vOf00, isV00, i1, Int.reduceLE, eq_self, not_false_eq_true, Bool.not_true, Bool.not_false, Bool.true_and, Bool.false_and, List.length_append, yaz, yba, Nat.zero_add]
      exact endP_of hK (hnx _ _) (AHeap.Le.refl _) (hcl2 _ _ _)
    | bad q =>
      rw [endS_bad] at hK
      simp only [go_sem, reduceCtorEq, Nat.reduceEqDiff, Nat.reduceAdd, Nat.reduceMul, Nat.reduceSub, Nat.reduceLeDiff, Nat.reduceLT, Int.reduceMul, Int.reduceAdd, Int.reduceSub, Int.reduceToNat, hfree, f1, f2, hgi, hgt', hsi, hst, onQ_some, endS_bad, endS_ok, e_zTake, p_zSee, e_zNode, s_rule, hne, ne_eq, hne', hl5, Int.toNat_natCast, vOf00, isV00, i1, Int.reduceLE, eq_self, not_false_eq_true, Bool.not_true, Bool.not_false, Bool.true_and, Bool.false_and, List.length_append, yaz, yba, Nat.zero_add]
      intro a t' hb
      try simp only [blkS, go_sem, reduceCtorEq, Nat.reduceEqDiff, Nat.reduceAdd, Nat.reduceMul, Nat.reduceSub, Nat.reduceLeDiff, Nat.reduceLT, Int.reduceMul, Int.reduceAdd, Int.reduceSub, Int.reduceToNat, hfree, f1, f2, hgi, hgt', hsi, hst, onQ_some, endS_bad, endS_ok, e_zTake, p_zSee, e_zNode, s_rule, hne, ne_eq, hne', hl5, Int.toNat_natCast, vOf00, isV00, i1, Int.reduceLE, eq_self, not_false_eq_true, Bool.not_true, Bool.not_false, Bool.true_and, Bool.false_and, List.length_append, yaz, yba, Nat.zero_add]
      exact endP_of (hK a t' hb) (hnx _ _) (AHeap.Le.refl _) (hcl2 _ _ _)
  | true =>
    rw [hs, if_pos rfl] at ho
    have hlt1 := isS_lt hs
    have hp2 : preP (H.set id (rst m l (p + 1) false tb t)) id tb l (p + 1) t := preP_set1 hpre' hlt1 (by omega)
    rcases thenR_some ho with ⟨q, h3, rfl⟩ | ⟨b, p2, t2, h3, h4⟩
    · obtain ⟨hq3, hq4⟩ := run_post _ h3 hgt trivial hlt1
      rw [endS_bad] at hK
      simp only [go_sem, reduceCtorEq, Nat.reduceEqDiff, Nat.reduceAdd, Nat.reduceMul, Nat.reduceSub, Nat.reduceLeDiff, Nat.reduceLT, Int.reduceMul, Int.reduceAdd, Int.reduceSub, Int.reduceToNat, hfree, f1, f2, hgi, hgt', hsi, hst, onQ_some, endS_bad, endS_ok, e_zTake, p_zSee, e_zNode, s_rule, hne, ne_eq, hne', hl5, Int.toNat_natCast, vOf00, isV00, i1, Int.reduceLE, eq_self, not_false_eq_true, Bool.not_true, Bool.not_false, Bool.true_and, Bool.false_and, List.length_append, yaz, yba, Nat.zero_add, s_zNot, hg, hp, hs, if_true, hgi1, hss, hp2, h3]
      intro b t' hb
      have ht2 : t'.length ≤ 100000 := by omega
      simp only [blkS, go_sem, reduceCtorEq, Nat.reduceEqDiff, Nat.reduceAdd, Nat.reduceMul, Nat.reduceSub, Nat.reduceLeDiff, Nat.reduceLT, Int.reduceMul, Int.reduceAdd, Int.reduceSub, Int.reduceToNat, hfree, f1, f2, hgi, hgt', hsi, hst, onQ_some, endS_bad, endS_ok, e_zTake, p_zSee, e_zNode, s_rule, hne, ne_eq, hne', hl5, Int.toNat_natCast, vOf00, isV00, i1, Int.reduceLE, eq_self, not_false_eq_true, Bool.not_true, Bool.not_false, Bool.true_and, Bool.false_and, List.length_append, yaz, yba, Nat.zero_add, ht2]
      have hK' := hK t'.length (t' ++ [⟨5, b, 0, [], [], 0⟩]) (by simp; omega)
      have hc3 := hcl2 q true (t' ++ [⟨5, b, 0, [], [], 0⟩])
      simp only [List.length_append, yaz, yba, Nat.zero_add] at hK' hc3
      exact endP_of hK' (hnx _ _) (AHeap.Le.refl _) hc3
    cases h4
    obtain ⟨k1b, k2b, k3b, k4b, k5b, k6b⟩ := run_post _ h3 hgt trivial hlt1
    simp only [Rl.isL, Bool.false_eq_true, if_false] at k4b
    have ht2 : t2.length ≤ 100000 := by omega
    simp only [go_sem, reduceCtorEq, Nat.reduceEqDiff, Nat.reduceAdd, Nat.reduceMul, Nat.reduceSub, Nat.reduceLeDiff, Nat.reduceLT, Int.reduceMul, Int.reduceAdd, Int.reduceSub, Int.reduceToNat, hfree, f1, f2, hgi, hgt', hsi, hst, onQ_some, endS_bad, endS_ok, e_zTake, p_zSee, e_zNode, s_rule, hne, ne_eq, hne', hl5, Int.toNat_natCast, vOf00, isV00, i1, Int.reduceLE, eq_self, not_false_eq_true, Bool.not_true, Bool.not_false, Bool.true_and, Bool.false_and, List.length_append, yaz, yba, Nat.zero_add, s_zNot, hg, hp, hs, if_true, hgi1, hss, hp2, h3, ht2, nd2]
    have hc3 := hcl2 p2 false (t2 ++ [⟨5, b, 0, [], [], 0⟩])
    simp only [List.length_append, yaz, yba, Nat.zero_add, endS_ok, nd2] at hK hc3
    exact endP_of hK (hnx _ _) (AHeap.Le.refl _) hc3
set_option maxHeartbeats 4000000 in
theorem sr_zUn {A : Prop} {f : Nat} (h_zUn : EntOk Try.prog 233 (Ent.some (s_zUn A f))) (h_zAtom : EntOk Try.prog 236 (Ent.some (s_zAtom A f))) : EntOk Try.prog 233 (Ent.some (s_zUn A (f + 1))) := by
  refine EntOk.some fun args H K h => ?_
  unfold s_zUn s_rule at h
  split at h
  rotate_left
  · exact h.elim
  rename_i id
  obtain ⟨m, l, p, b, tb, t, hg, ⟨rfl, hpre, hfree⟩, hK⟩ := h
  cases ho : run l (f + 1) .un p t with
  | none => rw [ho] at hK; exact hK.elim
  | some r =>
  rw [ho] at hK
  rw [run] at ho
  simp only [step] at ho
  have hpre' := hpre
  obtain ⟨hne, htb, ht, hp, hl, hgl, hgt⟩ := hpre
  have hid := AHeap.get_lt hg
  have htbl := AHeap.get_lt htb
  have f1 := far_of hid
  have f2 := far_of htbl
  have hl5 : l.length ≤ 100000 := by omega
  have i1 := @Int.natCast_nonneg
  have hne' : (id = tb) = False := eq_false hne
  have hnx : ∀ X Y, H.nx ≤ ((H.set id X).set tb Y).nx := fun X Y => Nat.le_refl _
  refine ACallsP.of_aw (Ω := [(155, Ent.effect e_zTake), (233, Ent.some (s_zUn A f)), (156, Ent.effect e_zNode), (236, Ent.some (s_zAtom A f))]) (T := assoc []) mixed (TblOk.cons ok_zTake (TblOk.cons h_zUn (TblOk.cons ok_zNode (TblOk.cons h_zAtom TblOk.nil)))) Try.func233 (by kernel_rfl) (by rfl) (rs := [.tmp 2]) (by rfl) (by kernel_rfl) (by simp only [Try.ntmps233, yaz, yba]; decide) fun hcl hlt => ?_
  change aw _ _ _ (KI Try.prog [(155, Ent.effect e_zTake), (233, Ent.some (s_zUn A f)), (156, Ent.effect e_zNode), (236, Ent.some (s_zAtom A f))] (aEndP Try.prog [.tmp 2] H.nx _) []) _ _
  clear hlt
  obtain ⟨hgi, hgt', hsi, hcl2, hst⟩ := pre_factsR hg hpre' hcl
  have hgi1 : ∀ X, (H.set id X).get id = some X := fun X => AHeap.get_set_same _ _ hid
  have hss : ∀ X Y, (H.set id X).set id Y = H.set id Y := fun X Y => by simp only [AHeap.set]; congr 1; funext k; by_cases hk : k = id <;> simp [hk]
  cases hs : isS l p [45] with
  | false =>
    rw [hs, if_neg (by simp)] at ho
    simp only [go_sem, reduceCtorEq, Nat.reduceEqDiff, Nat.reduceAdd, Nat.reduceMul, Nat.reduceSub, Nat.reduceLeDiff, Nat.reduceLT, Int.reduceMul, Int.reduceAdd, Int.reduceSub, Int.reduceToNat, hfree, f1, f2, hgi, hgt', hsi, hst, onQ_some, endS_bad, endS_ok, e_zTake, p_zSee, e_zNode, s_rule, hne, ne_eq, hne', hl5, Int.toNat_natCast, vOf00, isV00, i1, Int.reduceLE, eq_self, not_false_eq_true, Bool.not_true, Bool.not_false, Bool.true_and, Bool.false_and, List.length_append, yaz, yba, Nat.zero_add, s_zAtom, hg, hp, hs, if_false, hpre', ho]
    cases r with
    | ok a q u =>
      rw [endS_ok] at hK
      simp only [go_sem, reduceCtorEq, Nat.reduceEqDiff, Nat.reduceAdd, Nat.reduceMul, Nat.reduceSub, Nat.reduceLeDiff, Nat.reduceLT, Int.reduceMul, Int.reduceAdd, Int.reduceSub, Int.reduceToNat, hfree, f1, f2, hgi, hgt', hsi, hst, onQ_some, endS_bad, endS_ok, e_zTake, p_zSee, e_zNode, s_rule, hne, ne_eq, hne', hl5, Int.toNat_natCast, vOf00, isV00, i1, Int.reduceLE, eq_self, not_false_eq_true, Bool.not_true, Bool.not_false, Bool.true_and, Bool.false_and, List.length_append, yaz, yba, Nat.zero_add]
      exact endP_of hK (hnx _ _) (AHeap.Le.refl _) (hcl2 _ _ _)
    | bad q =>
      rw [endS_bad] at hK
      simp only [go_sem, reduceCtorEq, Nat.reduceEqDiff, Nat.reduceAdd, Nat.reduceMul, Nat.reduceSub, Nat.reduceLeDiff, Nat.reduceLT, Int.reduceMul, Int.reduceAdd, Int.reduceSub, Int.reduceToNat, hfree, f1, f2, hgi, hgt', hsi, hst, onQ_some, endS_bad, endS_ok, e_zTake, p_zSee, e_zNode, s_rule, hne, ne_eq, hne', hl5, Int.toNat_natCast, vOf00, isV00, i1, Int.reduceLE, eq_self, not_false_eq_true, Bool.not_true, Bool.not_false, Bool.true_and, Bool.false_and, List.length_append, yaz, yba, Nat.zero_add]
      intro a t' hb
      try simp only [blkS, go_sem, reduceCtorEq, Nat.reduceEqDiff, Nat.reduceAdd, Nat.reduceMul, Nat.reduceSub, Nat.reduceLeDiff, Nat.reduceLT, Int.reduceMul, Int.reduceAdd, Int.reduceSub, Int.reduceToNat, hfree, f1, f2, hgi, hgt', hsi, hst, onQ_some, endS_bad, endS_ok, e_zTake, p_zSee, e_zNode, s_rule, hne, ne_eq, hne', hl5, Int.toNat_natCast, vOf00, isV00, i1, Int.reduceLE, eq_self, not_false_eq_true, Bool.not_true, Bool.not_false, Bool.true_and, Bool.false_and, List.length_append, yaz, yba, Nat.zero_add]
      exact endP_of (hK a t' hb) (hnx _ _) (AHeap.Le.refl _) (hcl2 _ _ _)
  | true =>
    rw [hs, if_pos rfl] at ho
    have hlt1 := isS_lt hs
    have hp2 : preP (H.set id (rst m l (p + 1) false tb t)) id tb l (p + 1) t := preP_set1 hpre' hlt1 (by omega)
    rcases thenR_some ho with ⟨q, h3, rfl⟩ | ⟨b, p2, t2, h3, h4⟩
    · obtain ⟨hq3, hq4⟩ := run_post _ h3 hgt trivial hlt1
      rw [endS_bad] at hK
      simp only [go_sem, reduceCtorEq, Nat.reduceEqDiff, Nat.reduceAdd, Nat.reduceMul, Nat.reduceSub, Nat.reduceLeDiff, Nat.reduceLT, Int.reduceMul, Int.reduceAdd, Int.reduceSub, Int.reduceToNat, hfree, f1, f2, hgi, hgt', hsi, hst, onQ_some, endS_bad, endS_ok, e_zTake, p_zSee, e_zNode, s_rule, hne, ne_eq, hne', hl5, Int.toNat_natCast, vOf00, isV00, i1, Int.reduceLE, eq_self, not_false_eq_true, Bool.not_true, Bool.not_false, Bool.true_and, Bool.false_and, List.length_append, yaz, yba, Nat.zero_add, s_zUn, hg, hp, hs, if_true, hgi1, hss, hp2, h3]
      intro b t' hb
      have ht2 : t'.length ≤ 100000 := by omega
      simp only [blkS, go_sem, reduceCtorEq, Nat.reduceEqDiff, Nat.reduceAdd, Nat.reduceMul, Nat.reduceSub, Nat.reduceLeDiff, Nat.reduceLT, Int.reduceMul, Int.reduceAdd, Int.reduceSub, Int.reduceToNat, hfree, f1, f2, hgi, hgt', hsi, hst, onQ_some, endS_bad, endS_ok, e_zTake, p_zSee, e_zNode, s_rule, hne, ne_eq, hne', hl5, Int.toNat_natCast, vOf00, isV00, i1, Int.reduceLE, eq_self, not_false_eq_true, Bool.not_true, Bool.not_false, Bool.true_and, Bool.false_and, List.length_append, yaz, yba, Nat.zero_add, ht2]
      have hK' := hK t'.length (t' ++ [⟨4, b, 0, [], [], 0⟩]) (by simp; omega)
      have hc3 := hcl2 q true (t' ++ [⟨4, b, 0, [], [], 0⟩])
      simp only [List.length_append, yaz, yba, Nat.zero_add] at hK' hc3
      exact endP_of hK' (hnx _ _) (AHeap.Le.refl _) hc3
    cases h4
    obtain ⟨k1b, k2b, k3b, k4b, k5b, k6b⟩ := run_post _ h3 hgt trivial hlt1
    simp only [Rl.isL, Bool.false_eq_true, if_false] at k4b
    have ht2 : t2.length ≤ 100000 := by omega
    simp only [go_sem, reduceCtorEq, Nat.reduceEqDiff, Nat.reduceAdd, Nat.reduceMul, Nat.reduceSub, Nat.reduceLeDiff, Nat.reduceLT, Int.reduceMul, Int.reduceAdd, Int.reduceSub, Int.reduceToNat, hfree, f1, f2, hgi, hgt', hsi, hst, onQ_some, endS_bad, endS_ok, e_zTake, p_zSee, e_zNode, s_rule, hne, ne_eq, hne', hl5, Int.toNat_natCast, vOf00, isV00, i1, Int.reduceLE, eq_self, not_false_eq_true, Bool.not_true, Bool.not_false, Bool.true_and, Bool.false_and, List.length_append, yaz, yba, Nat.zero_add, s_zUn, hg, hp, hs, if_true, hgi1, hss, hp2, h3, ht2, nd2]
    have hc3 := hcl2 p2 false (t2 ++ [⟨4, b, 0, [], [], 0⟩])
    simp only [List.length_append, yaz, yba, Nat.zero_add, endS_ok, nd2] at hK hc3
    exact endP_of hK (hnx _ _) (AHeap.Le.refl _) hc3
end Go.AL


open Go Go.AL Go.Proofs
namespace Go.AL
set_option linter.all false
set_option maxRecDepth 10000
theorem opOf_cons {l : List Tok} {p k : Nat} {s : List UInt8} {r : List (Nat × List UInt8)} : opOf l p ((k, s) :: r) = if isS l p s then some k else opOf l p r := rfl
theorem opsC_s : [AV.str [61, 61], AV.str [33, 61], AV.str [60], AV.str [60, 61], AV.str [62], AV.str [62, 61]] = sAV (opsC.map Prod.snd) := rfl
theorem opsC_at {i : Nat} (h : i < 6) : ∃ s, opsC.drop i = (8 + i, s) :: opsC.drop (i + 1) ∧ (sAV (opsC.map Prod.snd)).getD i .junk = .str s := by
  rcases (by omega : i = 0 ∨ i = 1 ∨ i = 2 ∨ i = 3 ∨ i = 4 ∨ i = 5) with rfl | rfl | rfl | rfl | rfl | rfl
  all_goals exact ⟨_, rfl, rfl⟩
set_option maxHeartbeats 4000000 in
theorem sr_zCmp {A : Prop} {f : Nat} (h_zSum : EntOk Try.prog 229 (Ent.some (s_zSum A f))) : EntOk Try.prog 227 (Ent.some (s_zCmp A (f + 1))) := by
  refine EntOk.some fun args H K h => ?_
  unfold s_zCmp s_rule at h
  split at h
  rotate_left
  · exact h.elim
  rename_i id
  obtain ⟨m, l, p, b, tb, t, hg, ⟨rfl, hpre, hfree⟩, hK⟩ := h
  cases ho : run l (f + 1) .cmp p t with
  | none => rw [ho] at hK; exact hK.elim
  | some r =>
  rw [ho] at hK
  rw [run] at ho
  simp only [step] at ho
  have hpre' := hpre
  obtain ⟨hne, htb, ht, hp, hl, hgl, hgt⟩ := hpre
  have hid := AHeap.get_lt hg
  have htbl := AHeap.get_lt htb
  have f1 := far_of hid
  have f2 := far_of htbl
  have hl5 : l.length ≤ 100000 := by omega
  have i1 := @Int.natCast_nonneg
  have hne' : (id = tb) = False := eq_false hne
  have hnx : ∀ X Y, H.nx ≤ ((H.set id X).set tb Y).nx := fun X Y => Nat.le_refl _
  refine ACallsP.of_aw (Ω := [(229, Ent.some (s_zSum A f)), (155, Ent.effect e_zTake), (156, Ent.effect e_zNode)]) (T := assoc []) mixed (TblOk.cons h_zSum (TblOk.cons ok_zTake (TblOk.cons ok_zNode TblOk.nil))) Try.func227 (by kernel_rfl) (by rfl) (rs := [.tmp 2]) (by rfl) (by kernel_rfl) (by simp only [Try.ntmps227, yaz, yba]; decide) fun hcl hlt => ?_
  change aw _ _ _ (KI Try.prog [(229, Ent.some (s_zSum A f)), (155, Ent.effect e_zTake), (156, Ent.effect e_zNode)] (aEndP Try.prog [.tmp 2] H.nx _) []) _ _
  clear hlt
  obtain ⟨hgi, hgt', hsi, hcl2, hst⟩ := pre_factsR hg hpre' hcl
  have hsl : (sAV (opsC.map Prod.snd)).length = 6 := rfl
  rcases thenR_some ho with ⟨q, h1, rfl⟩ | ⟨a, p1, t1, h1, h2⟩
  · obtain ⟨hq1, hq2⟩ := run_post _ h1 hgt trivial hp
    rw [endS_bad] at hK
    simp only [go_sem, reduceCtorEq, Nat.reduceEqDiff, Nat.reduceAdd, Nat.reduceMul, Nat.reduceSub, Nat.reduceLeDiff, Nat.reduceLT, Int.reduceMul, Int.reduceAdd, Int.reduceSub, Int.reduceToNat, hfree, f1, f2, hgi, hgt', hsi, hst, onQ_some, endS_bad, endS_ok, e_zTake, p_zSee, e_zNode, s_rule, hne, ne_eq, hne', hl5, Int.toNat_natCast, vOf00, isV00, i1, Int.reduceLE, eq_self, not_false_eq_true, Bool.not_true, Bool.not_false, Bool.true_and, Bool.false_and, List.length_append, yaz, yba, Nat.zero_add, s_zSum, hg, hpre', h1]
    intro a t' hb
    try simp only [blkS, go_sem, reduceCtorEq, Nat.reduceEqDiff, Nat.reduceAdd, Nat.reduceMul, Nat.reduceSub, Nat.reduceLeDiff, Nat.reduceLT, Int.reduceMul, Int.reduceAdd, Int.reduceSub, Int.reduceToNat, hfree, f1, f2, hgi, hgt', hsi, hst, onQ_some, endS_bad, endS_ok, e_zTake, p_zSee, e_zNode, s_rule, hne, ne_eq, hne', hl5, Int.toNat_natCast, vOf00, isV00, i1, Int.reduceLE, eq_self, not_false_eq_true, Bool.not_true, Bool.not_false, Bool.true_and, Bool.false_and, List.length_append, yaz, yba, Nat.zero_add, opsC_s]
    refine loop_introW (A := Nat) (fun i => [(0, .ptr id 0), (3, .int .i64 (a : Int)), (9, .slice .any 1 (sAV (opsC.map Prod.snd))), (10, .int .i64 6), (11, .int .i64 (i : Int))]) (fun _ => (H.set id (rst m l q true tb t')).set tb (.buf 7 t'.length)) (fun i => i ≤ 6) (fun i => 6 - i) 0 (by omega) ?_ fun i hi => ?_
    · (simp only [bkq, enterW, subW, ltF, ne_eq, Nat.reduceEqDiff, reduceCtorEq, hcl2, hid, sAV_lt]; try simp (disch := first | assumption | omega | (simp; done) | (simp; omega) | (simp only [bt, and_true]; first | done | omega | (simp; done))) [↓zlf, beq, ybc, ybd, ybe, endOk, wk, wk2, wk1, wkM, wkL, wkLL, ybf, byq, biq, isDs_ints, hcl, hcl2, hid, sAV_lt]; try (repeat' (first | assumption | omega | exact True.intro | refine And.intro ?_ ?_ | refine closed_buf ?_ | refine closed_set_buf ?_ | refine closed_cells ?_ ?_ | refine closed_set ?_ ?_ | refine closed_del ?_ | exact AHeap.Le.refl _ | refine AHeap.Le.push ?_ _ | refine AHeap.Le.del ?_ ?_ | (simp only [bt, and_true, true_and, hcl2, hid, sAV_lt]; first | done | omega | (simp; done)))))
    simp only [go_sem, reduceCtorEq, Nat.reduceEqDiff, Nat.reduceAdd, Nat.reduceMul, Nat.reduceSub, Nat.reduceLeDiff, Nat.reduceLT, Int.reduceMul, Int.reduceAdd, Int.reduceSub, Int.reduceToNat, hfree, f1, f2, hgi, hgt', hsi, hst, onQ_some, endS_bad, endS_ok, e_zTake, p_zSee, e_zNode, s_rule, hne, ne_eq, hne', hl5, Int.toNat_natCast, vOf00, isV00, i1, Int.reduceLE, eq_self, not_false_eq_true, Bool.not_true, Bool.not_false, Bool.true_and, Bool.false_and, List.length_append, yaz, yba, Nat.zero_add]
    refine cond_split (fun hc => ?_) (fun hc => ?_)
    · have hi6 : i < 6 := by simp at hc; omega
      obtain ⟨s, e1, e2⟩ := opsC_at hi6
      have e5 : IntKind.i64.wrap ((i : Int) + 1) = ((i + 1 : Nat) : Int) := by rw [wrap_i64] <;> omega
      simp only [go_sem, reduceCtorEq, Nat.reduceEqDiff, Nat.reduceAdd, Nat.reduceMul, Nat.reduceSub, Nat.reduceLeDiff, Nat.reduceLT, Int.reduceMul, Int.reduceAdd, Int.reduceSub, Int.reduceToNat, hfree, f1, f2, hgi, hgt', hsi, hst, onQ_some, endS_bad, endS_ok, e_zTake, p_zSee, e_zNode, s_rule, hne, ne_eq, hne', hl5, Int.toNat_natCast, vOf00, isV00, i1, Int.reduceLE, eq_self, not_false_eq_true, Bool.not_true, Bool.not_false, Bool.true_and, Bool.false_and, List.length_append, yaz, yba, Nat.zero_add, hsl, e2, e5, hq1, if_false]
      refine ⟨by omega, i + 1, by omega, by omega, ?_⟩
      (simp only [bkq, enterW, subW, ltF, ne_eq, Nat.reduceEqDiff, reduceCtorEq, hcl2, hid, sAV_lt]; try simp (disch := first | assumption | omega | (simp; done) | (simp; omega) | (simp only [bt, and_true]; first | done | omega | (simp; done))) [↓zlf, beq, ybc, ybd, ybe, endOk, wk, wk2, wk1, wkM, wkL, wkLL, ybf, byq, biq, isDs_ints, hcl, hcl2, hid, sAV_lt]; try (repeat' (first | assumption | omega | exact True.intro | refine And.intro ?_ ?_ | refine closed_buf ?_ | refine closed_set_buf ?_ | refine closed_cells ?_ ?_ | refine closed_set ?_ ?_ | refine closed_del ?_ | exact AHeap.Le.refl _ | refine AHeap.Le.push ?_ _ | refine AHeap.Le.del ?_ ?_ | (simp only [bt, and_true, true_and, hcl2, hid, sAV_lt]; first | done | omega | (simp; done)))))
    · simp only [go_sem, reduceCtorEq, Nat.reduceEqDiff, Nat.reduceAdd, Nat.reduceMul, Nat.reduceSub, Nat.reduceLeDiff, Nat.reduceLT, Int.reduceMul, Int.reduceAdd, Int.reduceSub, Int.reduceToNat, hfree, f1, f2, hgi, hgt', hsi, hst, onQ_some, endS_bad, endS_ok, e_zTake, p_zSee, e_zNode, s_rule, hne, ne_eq, hne', hl5, Int.toNat_natCast, vOf00, isV00, i1, Int.reduceLE, eq_self, not_false_eq_true, Bool.not_true, Bool.not_false, Bool.true_and, Bool.false_and, List.length_append, yaz, yba, Nat.zero_add]
      exact endP_of (hK a t' hb) (hnx _ _) (AHeap.Le.refl _) (hcl2 _ _ _)
  clear ho
  obtain ⟨k1, k2, k3, k4, k5, k6⟩ := run_post _ h1 hgt trivial hp
  simp only [Rl.isL, Bool.false_eq_true, if_false] at k4
  simp only [go_sem, reduceCtorEq, Nat.reduceEqDiff, Nat.reduceAdd, Nat.reduceMul, Nat.reduceSub, Nat.reduceLeDiff, Nat.reduceLT, Int.reduceMul, Int.reduceAdd, Int.reduceSub, Int.reduceToNat, hfree, f1, f2, hgi, hgt', hsi, hst, onQ_some, endS_bad, endS_ok, e_zTake, p_zSee, e_zNode, s_rule, hne, ne_eq, hne', hl5, Int.toNat_natCast, vOf00, isV00, i1, Int.reduceLE, eq_self, not_false_eq_true, Bool.not_true, Bool.not_false, Bool.true_and, Bool.false_and, List.length_append, yaz, yba, Nat.zero_add, s_zSum, hg, hpre', h1]
  try simp only [opsC_s]
  refine loop_introW (A := Nat) (fun i => [(0, .ptr id 0), (3, .int .i64 (a : Int)), (9, .slice .any 1 (sAV (opsC.map Prod.snd))), (10, .int .i64 6), (11, .int .i64 (i : Int))]) (fun _ => (H.set id (rst m l p1 false tb t1)).set tb (.buf 7 t1.length)) (fun i => i ≤ 6 ∧ opOf l p1 (opsC.drop i) = opOf l p1 opsC) (fun i => 6 - i) 0 ⟨by omega, rfl⟩ ?_ fun i hi => ?_
  · (simp only [bkq, enterW, subW, ltF, ne_eq, Nat.reduceEqDiff, reduceCtorEq, hcl2, hid, sAV_lt]; try simp (disch := first | assumption | omega | (simp; done) | (simp; omega) | (simp only [bt, and_true]; first | done | omega | (simp; done))) [↓zlf, beq, ybc, ybd, ybe, endOk, wk, wk2, wk1, wkM, wkL, wkLL, ybf, byq, biq, isDs_ints, hcl, hcl2, hid, sAV_lt]; try (repeat' (first | assumption | omega | exact True.intro | refine And.intro ?_ ?_ | refine closed_buf ?_ | refine closed_set_buf ?_ | refine closed_cells ?_ ?_ | refine closed_set ?_ ?_ | refine closed_del ?_ | exact AHeap.Le.refl _ | refine AHeap.Le.push ?_ _ | refine AHeap.Le.del ?_ ?_ | (simp only [bt, and_true, true_and, hcl2, hid, sAV_lt]; first | done | omega | (simp; done)))))
  obtain ⟨hi, hop⟩ := hi
  simp only [go_sem, reduceCtorEq, Nat.reduceEqDiff, Nat.reduceAdd, Nat.reduceMul, Nat.reduceSub, Nat.reduceLeDiff, Nat.reduceLT, Int.reduceMul, Int.reduceAdd, Int.reduceSub, Int.reduceToNat, hfree, f1, f2, hgi, hgt', hsi, hst, onQ_some, endS_bad, endS_ok, e_zTake, p_zSee, e_zNode, s_rule, hne, ne_eq, hne', hl5, Int.toNat_natCast, vOf00, isV00, i1, Int.reduceLE, eq_self, not_false_eq_true, Bool.not_true, Bool.not_false, Bool.true_and, Bool.false_and, List.length_append, yaz, yba, Nat.zero_add]
  refine cond_split (fun hc => ?_) (fun hc => ?_)
  · have hi6 : i < 6 := by simp at hc; omega
    obtain ⟨s, e1, e2⟩ := opsC_at hi6
    have e5 : IntKind.i64.wrap ((i : Int) + 1) = ((i + 1 : Nat) : Int) := by rw [wrap_i64] <;> omega
    have e6 : IntKind.i64.wrap (8 + (i : Int)) = ((8 + i : Nat) : Int) := by rw [wrap_i64] <;> omega
    rw [e1, opOf_cons] at hop
    cases hs : isS l p1 s with
    | false =>
      rw [hs, if_neg (by simp)] at hop
      simp only [go_sem, reduceCtorEq, Nat.reduceEqDiff, Nat.reduceAdd, Nat.reduceMul, Nat.reduceSub, Nat.reduceLeDiff, Nat.reduceLT, Int.reduceMul, Int.reduceAdd, Int.reduceSub, Int.reduceToNat, hfree, f1, f2, hgi, hgt', hsi, hst, onQ_some, endS_bad, endS_ok, e_zTake, p_zSee, e_zNode, s_rule, hne, ne_eq, hne', hl5, Int.toNat_natCast, vOf00, isV00, i1, Int.reduceLE, eq_self, not_false_eq_true, Bool.not_true, Bool.not_false, Bool.true_and, Bool.false_and, List.length_append, yaz, yba, Nat.zero_add, hsl, e2, e5, k2, hs, if_false]
      refine ⟨by omega, i + 1, ⟨by omega, hop⟩, by omega, ?_⟩
      (simp only [bkq, enterW, subW, ltF, ne_eq, Nat.reduceEqDiff, reduceCtorEq, hcl2, hid, sAV_lt]; try simp (disch := first | assumption | omega | (simp; done) | (simp; omega) | (simp only [bt, and_true]; first | done | omega | (simp; done))) [↓zlf, beq, ybc, ybd, ybe, endOk, wk, wk2, wk1, wkM, wkL, wkLL, ybf, byq, biq, isDs_ints, hcl, hcl2, hid, sAV_lt]; try (repeat' (first | assumption | omega | exact True.intro | refine And.intro ?_ ?_ | refine closed_buf ?_ | refine closed_set_buf ?_ | refine closed_cells ?_ ?_ | refine closed_set ?_ ?_ | refine closed_del ?_ | exact AHeap.Le.refl _ | refine AHeap.Le.push ?_ _ | refine AHeap.Le.del ?_ ?_ | (simp only [bt, and_true, true_and, hcl2, hid, sAV_lt]; first | done | omega | (simp; done)))))
    | true =>
      rw [hs, if_pos rfl] at hop
      rw [← hop] at h2
      dsimp only at h2
      have hlt1 := isS_lt hs
      have hp2 : preP ((H.set id (rst m l (p1 + 1) false tb t1)).set tb (.buf 7 t1.length)) id tb l (p1 + 1) t1 := preP_setR hpre' hlt1 (by omega) k5
      rcases thenR_some h2 with ⟨q, h3, rfl⟩ | ⟨b, p2, t2, h3, h4⟩
      · obtain ⟨hq1, hq2⟩ := run_post _ h3 k5 trivial hlt1
        rw [endS_bad] at hK
        simp only [go_sem, reduceCtorEq, Nat.reduceEqDiff, Nat.reduceAdd, Nat.reduceMul, Nat.reduceSub, Nat.reduceLeDiff, Nat.reduceLT, Int.reduceMul, Int.reduceAdd, Int.reduceSub, Int.reduceToNat, hfree, f1, f2, hgi, hgt', hsi, hst, onQ_some, endS_bad, endS_ok, e_zTake, p_zSee, e_zNode, s_rule, hne, ne_eq, hne', hl5, Int.toNat_natCast, vOf00, isV00, i1, Int.reduceLE, eq_self, not_false_eq_true, Bool.not_true, Bool.not_false, Bool.true_and, Bool.false_and, List.length_append, yaz, yba, Nat.zero_add, s_zSum, hsl, e2, k2, hs, if_true, hp2, h3]
        refine ⟨by omega, fun b t' hb => ?_⟩
        have ht2 : t'.length ≤ 100000 := by omega
        simp only [blkS, go_sem, reduceCtorEq, Nat.reduceEqDiff, Nat.reduceAdd, Nat.reduceMul, Nat.reduceSub, Nat.reduceLeDiff, Nat.reduceLT, Int.reduceMul, Int.reduceAdd, Int.reduceSub, Int.reduceToNat, hfree, f1, f2, hgi, hgt', hsi, hst, onQ_some, endS_bad, endS_ok, e_zTake, p_zSee, e_zNode, s_rule, hne, ne_eq, hne', hl5, Int.toNat_natCast, vOf00, isV00, i1, Int.reduceLE, eq_self, not_false_eq_true, Bool.not_true, Bool.not_false, Bool.true_and, Bool.false_and, List.length_append, yaz, yba, Nat.zero_add, ht2, e6]
        have hK' := hK t'.length (t' ++ [⟨8 + i, a, b, [], [], 0⟩]) (by simp; omega)
        have hc3 := hcl2 q true (t' ++ [⟨8 + i, a, b, [], [], 0⟩])
        simp only [List.length_append, yaz, yba, Nat.zero_add] at hK' hc3
        exact endP_of hK' (hnx _ _) (AHeap.Le.refl _) hc3
      cases h4
      obtain ⟨k1b, k2b, k3b, k4b, k5b, k6b⟩ := run_post _ h3 k5 trivial hlt1
      simp only [Rl.isL, Bool.false_eq_true, if_false] at k4b
      have ht2 : t2.length ≤ 100000 := by omega
      simp only [go_sem, reduceCtorEq, Nat.reduceEqDiff, Nat.reduceAdd, Nat.reduceMul, Nat.reduceSub, Nat.reduceLeDiff, Nat.reduceLT, Int.reduceMul, Int.reduceAdd, Int.reduceSub, Int.reduceToNat, hfree, f1, f2, hgi, hgt', hsi, hst, onQ_some, endS_bad, endS_ok, e_zTake, p_zSee, e_zNode, s_rule, hne, ne_eq, hne', hl5, Int.toNat_natCast, vOf00, isV00, i1, Int.reduceLE, eq_self, not_false_eq_true, Bool.not_true, Bool.not_false, Bool.true_and, Bool.false_and, List.length_append, yaz, yba, Nat.zero_add, s_zSum, hsl, e2, k2, hs, if_true, hp2, h3, ht2, nd2, e6]
      refine ⟨by omega, ?_⟩
      have hc3 := hcl2 p2 false (t2 ++ [⟨8 + i, a, b, [], [], 0⟩])
      simp only [List.length_append, yaz, yba, Nat.zero_add, endS_ok, nd2] at hK hc3
      exact endP_of hK (hnx _ _) (AHeap.Le.refl _) hc3
  · have hi6 : i = 6 := by simp at hc; omega
    subst hi6
    have hno : opOf l p1 opsC = none := by rw [← hop]; rfl
    rw [hno] at h2
    cases h2
    rw [endS_ok] at hK
    simp only [go_sem, reduceCtorEq, Nat.reduceEqDiff, Nat.reduceAdd, Nat.reduceMul, Nat.reduceSub, Nat.reduceLeDiff, Nat.reduceLT, Int.reduceMul, Int.reduceAdd, Int.reduceSub, Int.reduceToNat, hfree, f1, f2, hgi, hgt', hsi, hst, onQ_some, endS_bad, endS_ok, e_zTake, p_zSee, e_zNode, s_rule, hne, ne_eq, hne', hl5, Int.toNat_natCast, vOf00, isV00, i1, Int.reduceLE, eq_self, not_false_eq_true, Bool.not_true, Bool.not_false, Bool.true_and, Bool.false_and, List.length_append, yaz, yba, Nat.zero_add]
    exact endP_of hK (hnx _ _) (AHeap.Le.refl _) (hcl2 _ _ _)
end Go.AL

