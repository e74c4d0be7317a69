/- Contracts and plain laws, a part of the proof; no condition of its own. -/
import Derived.Test.YtepgdamgklfnmaaS11e
open List renaming length_cons → yaz, length_nil → yba, take_succ_cons → yaq, take_zero → yar, drop_succ_cons → yao, drop_zero → yap, length_map → ybb, map_cons → yae, map_nil → yaf, take_of_length_le → ybc, drop_append → ybd, take_append → ybe, drop_eq_nil_of_le → ybf, append_nil → yaj
open Go Go.AL Go.Proofs
namespace Go.AL
set_option linter.all false
set_option maxRecDepth 10000
theorem ti_fentries : ti Try.prog 44 = some ⟨.slice 26, 1, 24, .slice .nil 1 []⟩ := by kernel_rfl
theorem ti_fentry : ti Try.prog 26 = some ⟨.struct [(0, 3, false), (1, 23, false), (2, 3, false), (3, 3, false), (4, 24, false)], 5, 72, .agg [.int .i64 0, .slice .nil 1 [], .int .i64 0, .int .i64 0, .slice .nil 1 []]⟩ := by kernel_rfl
attribute [go_sem] ti_fentries ti_fentry
def gEntries (S : Sch) (b : List UInt8) : Nat → Nat → List SEntry × Nat
  | 0, v => ([], v)
  | k + 1, v => if v < b.length then ((gEntry S b (v + 1) ((cv b v 4 : Nat) : Int)).1 :: (gEntries S b k (gEntry S b (v + 1) ((cv b v 4 : Nat) : Int)).2).1, (gEntries S b k (gEntry S b (v + 1) ((cv b v 4 : Nat) : Int)).2).2) else ([], v)
theorem gEntries_ok {S : Sch} (hG : GenS S) {b : List UInt8} : ∀ (k v : Nat), (gEntries S b k v).1.length ≤ k ∧ ∀ e ∈ (gEntries S b k v).1, ∃ m, GE S (tableAt S m) e
  | 0, v => ⟨Nat.le_refl _, by simp [gEntries]⟩
  | k + 1, v => by
    obtain ⟨i1, i2⟩ := gEntries_ok hG (b := b) k (gEntry S b (v + 1) ((cv b v 4 : Nat) : Int)).2
    unfold gEntries
    split
    · refine ⟨by simp only [yaz]; omega, fun e he => ?_⟩
      rcases List.mem_cons.1 he with rfl | he
      · exact ⟨_, gEntry_ok hG⟩
      · exact i2 e he
    · exact ⟨by simp, by simp⟩
theorem lt_ownE {i j : Nat} {es : List SEntry} (h : i < j := by omega) : AV.lt j (.slice (.own i) 5 (es.map entryAV)) := by
  rw [lt_sliceL]
  refine ⟨fun k e => (by cases e; exact h), ltL_iff.2 fun k hk => ?_⟩
  obtain ⟨x, _, e⟩ := List.mem_map.1 (List.getElem_mem hk)
  rw [← e]; exact lt_entry x
def e_CEntries : List AV → AHeap → (AEnd → AHeap → Prop) → Prop
  | [.ptr id 0, .agg l, .int .i64 n], H, K => ∃ S : Sch, (l = schC S ∧ GenS S ∧ 0 ≤ n ∧ n ≤ 1000) ∧ onC (H.get id) fun b v => ∀ (es : List SEntry) (w : Nat), (es.length : Int) ≤ n → (∀ e ∈ es, ∃ m, GE S (tableAt S m) e) → K (.ret (.slice (.own (H.nx + 1 + 1)) 5 (es.map entryAV))) ((((H.set id (codV b w)).push (.cells (schC S))).push (.buf 5 0)).push (.buf 5 es.length))
  | _, _, _ => False
set_option maxHeartbeats 4000000 in
theorem ok_CEntries : EntOk Try.prog 8 (Ent.effect e_CEntries) := by
  refine EntOk.effect fun args H K h => ?_
  unfold e_CEntries at h
  split at h
  rotate_left
  · exact h.elim
  rename_i id l n
  obtain ⟨S, ⟨rfl, hG, hn0, hn1⟩, h⟩ := h
  obtain ⟨b, v, hg, hb, hv, hK⟩ := onC_out h
  obtain ⟨o1, o2⟩ := gEntries_ok hG (b := b) n.toNat v
  obtain ⟨R, hRd⟩ : ∃ R, gEntries S b n.toNat v = R := ⟨_, rfl⟩
  rw [hRd] at o1 o2
  refine ⟨_, _, hK R.1 R.2 (by omega) o2, ?_⟩
  clear hK h
  have nxE : H.nx ≤ ((((H.set id (codV b R.2)).push (.cells (schC S))).push (.buf 5 0)).push (.buf 5 R.1.length)).nx := by simp only [zkk, zkl]; omega
  refine ACalls.of_aw (Ω := [(35, Ent.pure p_ZLeft), (27, Ent.effect e_ZNext), (7, Ent.effect e_CEntry)]) (T := assoc [(3, [[], [], [], [], [], [2, 4], [2, 4, 5], [2, 4, 5]])]) mixed (TblOk.cons ok_ZLeft (TblOk.cons ok_ZNext (TblOk.cons ok_CEntry TblOk.nil))) Try.func8 (by kernel_rfl) (by rfl) (rs := [.tmp 6]) (by rfl) (by kernel_rfl) (by simp only [Try.ntmps8, yaz, yba]; decide) nxE fun hcl hlt => ?_
  change aw _ _ _ (KI Try.prog [(35, Ent.pure p_ZLeft), (27, Ent.effect e_ZNext), (7, Ent.effect e_CEntry)] (aEnd Try.prog [.tmp 6] H.nx _ _ (assoc [(3, [[], [], [], [], [], [2, 4], [2, 4, 5], [2, 4, 5]])])) []) _ _
  clear hlt
  have hid := AHeap.get_lt hg
  have hne := ne_nx hid
  have hne2 := ne_nx (show id < H.nx + 1 + 1 + 1 by omega)
  have hgc := get_codV (b := b) hid
  have hcl2 : ∀ w, (H.set id (codV b w)).Closed := fun w => closed_set hcl codV_lt
  simp only [blkE, blkP, bhq, Nat.reduceMod, Nat.reduceDiv, stepH, stepM, toMs1, toMs, toMs0, strK, pubK, pubF, pubV, yaq, yar, yao, yap, go_sem, reduceCtorEq, Nat.reduceEqDiff, Nat.reduceAdd, Nat.reduceMul, Nat.reduceSub, Nat.reduceLeDiff, Nat.reduceLT, Int.reduceMul, Int.reduceAdd, Int.reduceSub, Int.reduceToNat]
  obtain ⟨HL, hHL⟩ : ∃ HL : Nat → Nat → AHeap, HL = fun w k => (((H.set id (codV b w)).push (.cells (schC S))).push (.buf 5 0)).push (.buf 5 k) := ⟨_, rfl⟩
  have hclL : ∀ w k, (HL w k).Closed := fun w k => by
    rw [hHL]
    exact closed_buf (closed_buf (closed_cells (hcl2 w) (ltL_iff.2 fun j hj => AV.lt_cells (lt_sch S) j hj)))
  refine loop_introW (A := List SEntry × Nat) (fun x => [(0, .ptr id 0), (2, .int .i64 n), (4, .ptr H.nx 0), (7, .slice (.own (H.nx + 1 + 1)) 5 (x.1.map entryAV))]) (fun x => HL x.2 x.1.length) (fun x => x.1.length ≤ n.toNat ∧ x.1 ++ (gEntries S b (n.toNat - x.1.length) x.2).1 = R.1 ∧ (gEntries S b (n.toNat - x.1.length) x.2).2 = R.2) (fun x => n.toNat - x.1.length) ([], v) ⟨by simp, by rw [← hRd]; rfl, by rw [← hRd]; rfl⟩ ?_ fun x hx => ?_
  · rw [hHL]
    refine ⟨by simp only [zkk, zkl, zjw, zkb]; omega, by dsimp only; rw [show codV b v = codV b (cp v 0) from rfl, set_selfZ hg]; exact AHeap.Le.refl _, by have := hclL v 0; rw [hHL] at this; exact this, ?_, ?_⟩
    · simp [ltF, zkk, zkl, zmt, zml, lt_sliceL, znb]
      omega
    · simp [subW, wk2, wk1, wkM, Fr.get]
  obtain ⟨es, w⟩ := x
  obtain ⟨hx1, hx2, hx3⟩ := hx
  dsimp only at hx1 hx2 hx3 ⊢
  rw [hHL]
  dsimp only
  by_cases hlt : es.length < n.toNat
  · have d1 : decide ((es.length : Int) < n) = true := decide_eq_true (by omega)
    simp only [blkE, blkP, bhq, Nat.reduceMod, Nat.reduceDiv, stepH, stepM, toMs1, toMs, toMs0, strK, pubK, pubF, pubV, yaq, yar, yao, yap, go_sem, reduceCtorEq, Nat.reduceEqDiff, Nat.reduceAdd, Nat.reduceMul, Nat.reduceSub, Nat.reduceLeDiff, Nat.reduceLT, Int.reduceMul, Int.reduceAdd, Int.reduceSub, Int.reduceToNat, schC, hg, hgc, hne, hne2, e_ZNext, e_CEntry, p_ZLeft, ybb, Int.toNat_natCast, d1]
    refine ⟨b, ((min w b.length : Nat) : Int), rfl, ?_⟩
    by_cases hw : w < b.length
    · have d2 : decide (((min w b.length : Nat) : Int) < (b.length : Int)) = true := decide_eq_true (by omega)
      have hk : n.toNat - es.length = (n.toNat - (es.length + 1)) + 1 := by omega
      rw [hk] at hx2 hx3
      simp only [gEntries, if_pos hw] at hx2 hx3
      have hst : ∀ m v, (gsEntry S m b v) = (entryAV (gEntry S b v m).1, (gEntry S b v m).2) := fun _ _ => rfl
      have e4 : (4 : Int).toNat = 4 := rfl
      have hcv := cv_lt (b := b) (v := w) (n := 4) (by decide)
      have e4' : (1 ≤ (4 : Int) ∧ (4 : Int) ≤ 1000000) = True := by simp
      simp only [blkE, blkP, bhq, Nat.reduceMod, Nat.reduceDiv, stepH, stepM, toMs1, toMs, toMs0, strK, pubK, pubF, pubV, yaq, yar, yao, yap, go_sem, reduceCtorEq, Nat.reduceEqDiff, Nat.reduceAdd, Nat.reduceMul, Nat.reduceSub, Nat.reduceLeDiff, Nat.reduceLT, Int.reduceMul, Int.reduceAdd, Int.reduceSub, Int.reduceToNat, schC, hg, hgc, hne, hne2, e_ZNext, onC_cod hb, onS_cod hb (st_entry _ _), cv_min, codV_min, cp_add, cp0, ybb, Int.toNat_natCast, d2, e4, e4', e_CEntry]
      refine ⟨S, ⟨rfl, hG, by omega, by omega⟩, ?_⟩
      simp only [blkE, blkP, bhq, Nat.reduceMod, Nat.reduceDiv, stepH, stepM, toMs1, toMs, toMs0, strK, pubK, pubF, pubV, yaq, yar, yao, yap, go_sem, reduceCtorEq, Nat.reduceEqDiff, Nat.reduceAdd, Nat.reduceMul, Nat.reduceSub, Nat.reduceLeDiff, Nat.reduceLT, Int.reduceMul, Int.reduceAdd, Int.reduceSub, Int.reduceToNat, schC, hg, hgc, hne, hne2, hst, entryAV, entryC, cp0, ybb, Int.toNat_natCast]
      have hsub : n.toNat - (es.length + 1) = n.toNat - (es ++ [(gEntry S b (w + 1) ((cv b w 4 : Nat) : Int)).1]).length := by simp
      rw [hsub] at hx2 hx3
      have hcl1 := hclL (gEntry S b (w + 1) ((cv b w 4 : Nat) : Int)).2 (es.length + 1)
      rw [hHL] at hcl1
      have hlm : ∀ j, AV.lt j (.slice (.own (H.nx + 1 + 1)) 5 (es.map entryAV ++ [entryAV (gEntry S b (w + 1) ((cv b w 4 : Nat) : Int)).1])) = (H.nx + 1 + 1 < j) := fun j => by
        rw [lt_sliceL]
        refine propext ⟨fun h => h.1 _ rfl, fun h => ⟨fun i e => (by cases e; exact h), ltL_iff.2 fun i hi => ?_⟩⟩
        have := List.getElem_mem hi
        rw [List.mem_append, List.mem_map, List.mem_singleton] at this
        rcases this with ⟨x, _, e⟩ | e
        · rw [← e]; exact lt_entry x
        · rw [e]; exact lt_entry _
      refine ⟨⟨by omega, by omega, fun z hz => by rw [List.mem_singleton.1 hz]; rfl⟩, (es ++ [(gEntry S b (w + 1) ((cv b w 4 : Nat) : Int)).1], (gEntry S b (w + 1) ((cv b w 4 : Nat) : Int)).2), ⟨by simp; omega, by rw [List.append_assoc]; exact hx2, hx3⟩, by simp; omega, ?_⟩
      dsimp only
      rw [List.map_append, yae, yaf, List.length_append, yaz, yba, Nat.zero_add]
      refine ⟨by simp only [zkk, zkl, zkb, zjw, KI_n0]; omega, by repeat (first | exact AHeap.Le.refl _ | refine AHeap.Le.push ?_ _), hcl1, ?_, ?_⟩
      · simp only [ltF, zkk, zkl, zmt, zml, hlm]
        refine ⟨by omega, trivial, by omega, by omega, trivial⟩
      · simp [subW, wk2, wk1, wkM, Fr.get, entryAV, entryC]
    · have d2 : decide (((min w b.length : Nat) : Int) < (b.length : Int)) = false := decide_eq_false (by omega)
      have hx2' : es = R.1 := by
        rw [← hx2]
        cases h : n.toNat - es.length with
        | zero => simp [gEntries]
        | succ k => simp [gEntries, hw]
      have hx3' : w = R.2 := by
        rw [← hx3]
        cases h : n.toNat - es.length with
        | zero => simp [gEntries]
        | succ k => simp [gEntries, hw]
      rw [← hx2', ← hx3']
      simp only [blkE, blkP, bhq, Nat.reduceMod, Nat.reduceDiv, stepH, stepM, toMs1, toMs, toMs0, strK, pubK, pubF, pubV, yaq, yar, yao, yap, go_sem, reduceCtorEq, Nat.reduceEqDiff, Nat.reduceAdd, Nat.reduceMul, Nat.reduceSub, Nat.reduceLeDiff, Nat.reduceLT, Int.reduceMul, Int.reduceAdd, Int.reduceSub, Int.reduceToNat, schC, hg, hgc, hne, hne2, e_ZNext, onC_cod hb, onS_cod hb (st_entry _ _), cv_min, codV_min, cp_add, cp0, ybb, Int.toNat_natCast, d2]
      have hce := hclL w es.length
      rw [hHL] at hce
      simp only [schC] at hce
      simp (disch := first | assumption | omega | (simp; done) | (simp; omega) | (simp only [bt, and_true]; first | done | omega | (simp; done))) [↓zlu, beq, ybc, ybd, ybe, endOk, wk, wk2, wk1, wkM, wkL, wkLL, ybf, hcl2, hce]
      exact lt_ownE
  · have d1 : decide ((es.length : Int) < n) = false := decide_eq_false (by omega)
    have h0 : n.toNat - es.length = 0 := by omega
    rw [h0] at hx2 hx3
    simp only [gEntries, yaj] at hx2 hx3
    simp only [blkE, blkP, bhq, Nat.reduceMod, Nat.reduceDiv, stepH, stepM, toMs1, toMs, toMs0, strK, pubK, pubF, pubV, yaq, yar, yao, yap, go_sem, reduceCtorEq, Nat.reduceEqDiff, Nat.reduceAdd, Nat.reduceMul, Nat.reduceSub, Nat.reduceLeDiff, Nat.reduceLT, Int.reduceMul, Int.reduceAdd, Int.reduceSub, Int.reduceToNat, schC, hg, hgc, hne, hne2, e_ZNext, e_CEntry, p_ZLeft, ybb, Int.toNat_natCast, d1]
    rw [← hx2, ← hx3]
    have hce := hclL w es.length
    rw [hHL] at hce
    simp only [schC] at hce
    simp (disch := first | assumption | omega | (simp; done) | (simp; omega) | (simp only [bt, and_true]; first | done | omega | (simp; done))) [↓zlu, beq, ybc, ybd, ybe, endOk, wk, wk2, wk1, wkM, wkL, wkLL, ybf, hcl2, hce]
    exact lt_ownE
end Go.AL


open Go Go.AL Go.Proofs
namespace Go.AL
set_option linter.all false
set_option maxRecDepth 10000

theorem low_ltO {x : Nat} {w : Int} (h : x < 2 ^ 128) : low x w < 2 ^ 128 := by
  unfold low
  split
  · exact h
  · exact Nat.lt_of_le_of_lt (Nat.mod_le _ _) h
/-- an entry to which one may append -/
structure BOk (e : SEntry) : Prop where
  c : COk e
  m : e.ms.length * 64 ≤ 140737488351232
  a : e.args.length * 16 ≤ 140737488351232
/-- bent: some entry -/
def p_bent10 : List AV → AHeap → (AV → Prop) → Prop
  | [.agg le, .int .i64 a, .int .i64 b, .agg [.int .u64 hi, .int .u64 lo]], _, K => ∃ e : SEntry, (le = entryC e ∧ BOk e ∧ -9223372036854775808 ≤ a ∧ a ≤ 9223372036854775807 ∧ isV hi lo) ∧ ∀ e' : SEntry, COk e' → K (entryAV e')
  | _, _, _ => False
theorem cmpE_range (e f : SEntry) : -1 ≤ cmpE e f ∧ cmpE e f ≤ 1 := by
  have h1 : ∀ a b, -1 ≤ cmpI a b ∧ cmpI a b ≤ 1 := fun a b => by unfold cmpI; split <;> (try split) <;> omega
  have h2 : ∀ a b, -1 ≤ cmpN a b ∧ cmpN a b ≤ 1 := fun a b => by rw [cmpN_I]; exact h1 _ _
  have h3 : ∀ l : List Int, (∀ x ∈ l, -1 ≤ x ∧ x ≤ 1) → -1 ≤ firstI l ∧ firstI l ≤ 1 := fun l => by
    induction l with
    | nil => intro _; simp [firstI]
    | cons x l ih =>
      intro h
      unfold firstI
      split
      · exact h x List.mem_cons_self
      · exact ih fun y hy => h y (List.mem_cons_of_mem _ hy)
  have h4 : ∀ {α : Type} (f : α → α → Int), (∀ x y, -1 ≤ f x y ∧ f x y ≤ 1) → ∀ xs ys : List α, -1 ≤ cmpL f xs ys ∧ cmpL f xs ys ≤ 1 := fun f hf xs => by
    induction xs with
    | nil => intro ys; cases ys <;> simp [cmpL]
    | cons x xs ih =>
      intro ys
      cases ys with
      | nil => simp [cmpL]
      | cons y ys =>
        unfold cmpL
        split
        · exact hf x y
        · exact ih ys
  have h5 : ∀ m n, -1 ≤ cmpM m n ∧ cmpM m n ≤ 1 := fun m n => by
    unfold cmpM
    refine h3 _ fun x hx => ?_
    simp only [List.mem_cons, List.not_mem_nil, or_false] at hx
    rcases hx with rfl | rfl | rfl | rfl | rfl
    · exact h1 _ _
    · exact h2 _ _
    · exact h2 _ _
    · exact h1 _ _
    · exact h2 _ _
  unfold cmpE
  refine h3 _ fun x hx => ?_
  simp only [List.mem_cons, List.not_mem_nil, or_false] at hx
  rcases hx with rfl | rfl | rfl | rfl | rfl
  · exact h1 _ _
  · exact h1 _ _
  · exact h4 _ h5 _ _
  · exact h1 _ _
  · exact h4 _ h2 _ _
def p_EntryOrders : List AV → AHeap → (AV → Prop) → Prop
  | [.slice _ 1 l1, .slice _ 1 l2, .agg le, .int .i64 n, .int .i64 c, .agg [.int .u64 a, .int .u64 b]], _, K => ∃ e0 : SEntry, (isB l1 ∧ isB l2 ∧ le = entryC e0 ∧ BOk e0 ∧ -9223372036854775808 ≤ n ∧ n < 9223372036854775808 ∧ isV a b) ∧ K (.bool true)
  | _, _, _ => False
set_option maxHeartbeats 8000000 in
theorem ok_EntryOrders0 (ok_bent10 : EntOk Try.prog 9 (Ent.pure p_bent10)) : EntOk Try.prog 3 (Ent.pure p_EntryOrders) := by
  refine EntOk.pure fun args H K h => ?_
  unfold p_EntryOrders at h
  split at h
  rotate_left
  · exact h.elim
  rename_i m1 l1 m2 l2 le n c a b
  obtain ⟨e0, ⟨c1, c2, rfl, hb0, hn1, hn2, hab⟩, hK⟩ := h
  refine ⟨_, hK, ?_⟩
  clear hK
  obtain ⟨x1, rfl⟩ := isB_out c1
  obtain ⟨x2, rfl⟩ := isB_out c2
  obtain ⟨v, hv, rfl, rfl, -⟩ := isV_out hab
  have iv := isV_of hv
  clear c1 c2 hab
  obtain ⟨B1, hB1⟩ : ∃ B1, x1.take (min (x1.length : Int) 120).toNat = B1 := ⟨_, rfl⟩
  obtain ⟨B2, hB2⟩ : ∃ B2, x2.take (min (x2.length : Int) 60).toNat = B2 := ⟨_, rfl⟩
  have hL1 : B1.length ≤ 1000000 := by rw [← hB1, List.length_take]; omega
  have hL2 : B2.length ≤ 1000000 := by rw [← hB2, List.length_take]; omega
  have hG := genS_ok B1 0
  generalize hS : gSchema B1 0 = SS at *
  obtain ⟨S, w1⟩ := SS
  dsimp only at hG
  have hz1 : zod B1 0 = codV B1 (cp 0 0) := zod_codV
  have hz2 : zod B2 0 = codV B2 (cp 0 0) := zod_codV
  have hco : ∀ m e, GE S (tableAt S m) e → BOk e := fun m e hE => by
    have hkl := hG.kl _ (tableAt_mem (S := S) (n := m) hG.t1)
    have h1 := hE.ml
    have h2 := hE.al
    have h3 := hG.pl e.act
    exact ⟨⟨hE.ok hkl hG.pl, fun x hx => Nat.lt_of_lt_of_le (hE.ao x hx) (by decide)⟩, by omega, by omega⟩
  have hE := gEntry_ok hG (b := B2) (v := 0) (n := n)
  have hst : (gsEntry S n B2 0) = (entryAV (gEntry S B2 0 n).1, (gEntry S B2 0 n).2) := rfl
  generalize he : gEntry S B2 0 n = ee at *
  obtain ⟨e1, w2⟩ := ee
  dsimp only at hE hst
  have hb1 := hco _ _ hE
  have hlv := low_ltO (w := 3) hv
  have il := isV_of hlv
  have ivz : isVz ((v / 2 ^ 64 : Nat) : Int) ((v % 2 ^ 64 : Nat) : Int) = True := iv
  refine ACalls.of_aw (Ω := [(5, Ent.effect e_ZNew), (6, Ent.effect e_CSchema), (7, Ent.effect e_CEntry), (8, Ent.effect e_CEntries), (10, Ent.pure p_cLow), (9, Ent.pure p_bent10), (11, Ent.pure p_eCompare), (12, Ent.pure p_rCompareE), (13, Ent.pure p_eSame), (14, Ent.pure p_eSameKey), (15, Ent.pure p_rSameKey), (16, Ent.pure p_begun10)]) (T := assoc [(3, [[], [], [1], [], [], [], [], [], [], [1, 2, 8], [1, 2, 4, 8, 9], [], [], [], [], [], [1, 2, 4, 8, 9, 10, 12, 15], [1, 2, 3, 4, 8, 9, 10, 11, 12, 15, 16], [1, 2, 3, 4, 8, 9, 10, 11, 12, 15, 16]]), (11, [[], [], [], [1, 2], [], [], [3], [3], [1, 2, 3, 6, 7], [], [], [], [], [], [3, 8], [3, 8], [1, 2, 3, 6, 7, 8, 14, 15], [], [], [], [], [], [3, 8, 16], [3, 8, 16], [1, 2, 3, 6, 7, 8, 14, 15, 16, 22, 23], [3, 8, 16], [3, 8, 16], [1, 2, 3, 6, 7, 8, 14, 15, 16, 22, 23, 24, 25, 26]])]) mixed (TblOk.cons ok_ZNew (TblOk.cons ok_CSchema (TblOk.cons ok_CEntry (TblOk.cons ok_CEntries (TblOk.cons ok_cLow (TblOk.cons ok_bent10 (TblOk.cons ok_eCompare (TblOk.cons ok_rCompareE (TblOk.cons ok_eSame (TblOk.cons ok_eSameKey (TblOk.cons ok_rSameKey (TblOk.cons ok_begun10 TblOk.nil)))))))))))) Try.func3 (by kernel_rfl) (by rfl) (rs := [.tmp 12]) (by rfl) (by kernel_rfl) (by simp only [Try.ntmps3, yaz, yba]; decide) (Nat.le_refl _) fun hcl hlt => ?_
  change aw _ _ _ (KI Try.prog [(5, Ent.effect e_ZNew), (6, Ent.effect e_CSchema), (7, Ent.effect e_CEntry), (8, Ent.effect e_CEntries), (10, Ent.pure p_cLow), (9, Ent.pure p_bent10), (11, Ent.pure p_eCompare), (12, Ent.pure p_rCompareE), (13, Ent.pure p_eSame), (14, Ent.pure p_eSameKey), (15, Ent.pure p_rSameKey), (16, Ent.pure p_begun10)] (aEnd Try.prog [.tmp 12] H.nx _ _ (assoc [(3, [[], [], [1], [], [], [], [], [], [], [1, 2, 8], [1, 2, 4, 8, 9], [], [], [], [], [], [1, 2, 4, 8, 9, 10, 12, 15], [1, 2, 3, 4, 8, 9, 10, 11, 12, 15, 16], [1, 2, 3, 4, 8, 9, 10, 11, 12, 15, 16]]), (11, [[], [], [], [1, 2], [], [], [3], [3], [1, 2, 3, 6, 7], [], [], [], [], [], [3, 8], [3, 8], [1, 2, 3, 6, 7, 8, 14, 15], [], [], [], [], [], [3, 8, 16], [3, 8, 16], [1, 2, 3, 6, 7, 8, 14, 15, 16, 22, 23], [3, 8, 16], [3, 8, 16], [1, 2, 3, 6, 7, 8, 14, 15, 16, 22, 23, 24, 25, 26]])])) []) _ _
  clear hlt
  simp only [go_sem, reduceCtorEq, Nat.reduceEqDiff, Nat.reduceAdd, Nat.reduceMul, Nat.reduceSub, Nat.reduceLeDiff, Nat.reduceLT, Int.reduceMul, Int.reduceAdd, Int.reduceSub, Int.reduceToNat, e_ZNew]
  refine ⟨x1, ⟨rfl, by omega⟩, ?_⟩
  rw [hB1, hz1]
  have hSch : e_CSchema = eG fun b v => (schAV (gSchema b v).1, (gSchema b v).2) := rfl
  simp only [blkE, blkP, bhq, Nat.reduceMod, Nat.reduceDiv, stepH, stepM, toMs1, toMs, toMs0, strK, pubK, pubF, pubV, yaq, yar, yao, yap, go_sem, reduceCtorEq, Nat.reduceEqDiff, Nat.reduceAdd, Nat.reduceMul, Nat.reduceSub, Nat.reduceLeDiff, Nat.reduceLT, Int.reduceMul, Int.reduceAdd, Int.reduceSub, Int.reduceToNat, e_ZNew, hSch, eG, onC_cod hL1, Nat.zero_min, cp0, hS, schAV, schC]
  refine ⟨x2, ⟨rfl, by omega⟩, ?_⟩
  rw [hB2, hz2]
  simp only [blkE, blkP, bhq, Nat.reduceMod, Nat.reduceDiv, stepH, stepM, toMs1, toMs, toMs0, strK, pubK, pubF, pubV, yaq, yar, yao, yap, go_sem, reduceCtorEq, Nat.reduceEqDiff, Nat.reduceAdd, Nat.reduceMul, Nat.reduceSub, Nat.reduceLeDiff, Nat.reduceLT, Int.reduceMul, Int.reduceAdd, Int.reduceSub, Int.reduceToNat, e_ZNew, hSch, eG, onC_cod hL1, Nat.zero_min, cp0, hS, schAV, schC]
  refine ⟨S, ⟨rfl, hG, hn1, hn2⟩, ?_⟩
  simp only [blkE, blkP, bhq, Nat.reduceMod, Nat.reduceDiv, stepH, stepM, toMs1, toMs, toMs0, strK, pubK, pubF, pubV, yaq, yar, yao, yap, go_sem, reduceCtorEq, Nat.reduceEqDiff, Nat.reduceAdd, Nat.reduceMul, Nat.reduceSub, Nat.reduceLeDiff, Nat.reduceLT, Int.reduceMul, Int.reduceAdd, Int.reduceSub, Int.reduceToNat, onS_cod hL2 (st_entry _ _), onC_cod hL2, hst, entryAV, entryC, eG_onS, cp0, e_CEntries]
  refine ⟨S, ⟨rfl, hG, by decide, by decide⟩, fun es w hel heo => ?_⟩
  simp only [p_cLow, ivz, Int.toNat_natCast, vOf_back]
  (repeat with_reducible refine And.intro (by first | exact True.intro | decide | omega | (simp [zib, zge, zgf, zgg, zgi, zgh, zgm]; first | done | omega)) ?_)
  refine ⟨e1, ⟨rfl, hb1, by omega, by omega, of_eq_true il⟩, fun f1 hf1 => ?_⟩
  refine ⟨e0, ⟨rfl, hb0, by omega, by omega, of_eq_true iv⟩, fun f2 hf2 => ?_⟩
  obtain ⟨E, hE'⟩ : ∃ E : List SEntry, E = es ++ [e1, f1, e0, f2] := ⟨_, rfl⟩
  have hEl : es.length + 4 = E.length := by rw [hE']; simp
  have hEo : ∀ e ∈ E, COk e := fun e he => by
    rw [hE', List.mem_append] at he
    rcases he with he | he
    · obtain ⟨m, hm⟩ := heo e he
      exact (hco _ _ hm).c
    · simp only [List.mem_cons, List.not_mem_nil, or_false] at he
      rcases he with rfl | rfl | rfl | rfl
      · exact hb1.c
      · exact hf1
      · exact hb0.c
      · exact hf2
  have hEm : es.map entryAV ++ [entryAV e1, entryAV f1, entryAV e0, entryAV f2] = E.map entryAV := by rw [hE']; simp
  simp only [entryAV, entryC] at hEm
  try simp only [blkE, blkP, bhq, Nat.reduceMod, Nat.reduceDiv, stepH, stepM, toMs1, toMs, toMs0, strK, pubK, pubF, pubV, yaq, yar, yao, yap, go_sem, reduceCtorEq, Nat.reduceEqDiff, Nat.reduceAdd, Nat.reduceMul, Nat.reduceSub, Nat.reduceLeDiff, Nat.reduceLT, Int.reduceMul, Int.reduceAdd, Int.reduceSub, Int.reduceToNat, schC, entryAV, entryC, List.map_append, yae, yaf, ybb, List.length_append, yaz, yba, hEm]
  refine ⟨⟨by omega, by omega, fun z hz => by simp only [List.mem_cons, List.not_mem_nil, or_false] at hz; rcases hz with rfl | rfl | rfl | rfl <;> rfl⟩, ?_⟩
  rw [hEl]
  refine loop_introW (A := Nat) (fun i => [(16, .slice .any 5 (E.map entryAV)), (52, .slice .any 5 (E.map entryAV)), (53, .int .i64 (E.length : Int)), (54, .int .i64 (i : Int))]) (fun _ => H) (fun i => i ≤ E.length) (fun i => E.length - i) 0 (by omega) ?_ fun i hi => ?_
  · refine ⟨by (try simp only [zjw, zkb]); omega, by repeat (first | exact AHeap.Le.refl _ | refine AHeap.Le.push ?_ _), hcl, ?_, ?_⟩
    · simp [ltF, zkk, zmt, zml, lt_map lt_entry]
      try omega
    · simp [subW, wk2, wk1, wkM, Fr.get]
  simp only [go_sem, reduceCtorEq, Nat.reduceEqDiff, Nat.reduceAdd, Nat.reduceMul, Nat.reduceSub, Nat.reduceLeDiff, Nat.reduceLT, Int.reduceMul, Int.reduceAdd, Int.reduceSub, Int.reduceToNat]
  refine cond_split (fun hc => ?_) (fun hc => ?_)
  · have hi' : i < E.length := by simp at hc; omega
    obtain ⟨x, hx⟩ : ∃ x, x = E[i] := ⟨_, rfl⟩
    have hgx := getD_map (f := entryAV) (l := E) (k := i) (x := x) (by rw [List.getElem?_eq_getElem hi', hx])
    have hox := hEo x (by rw [hx]; exact List.getElem_mem hi')
    have ei : IntKind.i64.wrap ((i : Int) + 1) = ((i + 1 : Nat) : Int) := by rw [wrap_i64] <;> omega
    simp only [blkE, blkP, bhq, Nat.reduceMod, Nat.reduceDiv, stepH, stepM, toMs1, toMs, toMs0, strK, pubK, pubF, pubV, yaq, yar, yao, yap, go_sem, reduceCtorEq, Nat.reduceEqDiff, Nat.reduceAdd, Nat.reduceMul, Nat.reduceSub, Nat.reduceLeDiff, Nat.reduceLT, Int.reduceMul, Int.reduceAdd, Int.reduceSub, Int.reduceToNat, entryAV, entryC, ybb, Int.toNat_natCast, hgx]
    (repeat with_reducible refine And.intro (by first | exact True.intro | decide | omega | (simp [zib, zge, zgf, zgg, zgi, zgh, zgm]; first | done | omega)) ?_)
    refine loop_introW (A := Nat) (fun j => [(16, .slice .any 5 (E.map entryAV)), (52, .slice .any 5 (E.map entryAV)), (53, .int .i64 (E.length : Int)), (54, .int .i64 (i : Int)), (18, .ptr H.nx 0), (58, .slice .any 5 (E.map entryAV)), (59, .int .i64 (E.length : Int)), (60, .int .i64 (j : Int))]) (fun _ => H.push (.cells (entryC x))) (fun j => j ≤ E.length) (fun j => E.length - j) 0 (by omega) ?_ fun j hj => ?_
    · refine ⟨by simp only [zkk, zjw, zkb]; omega, by repeat (first | exact AHeap.Le.refl _ | refine AHeap.Le.push ?_ _), closed_cells hcl (ltL_iff.2 fun j hj => AV.lt_cells (lt_entry x) j hj), ?_, ?_⟩
      · simp [ltF, zkk, zmt, zml, lt_map lt_entry]
        try omega
      · simp [subW, wk2, wk1, wkM, Fr.get]
    simp only [go_sem, reduceCtorEq, Nat.reduceEqDiff, Nat.reduceAdd, Nat.reduceMul, Nat.reduceSub, Nat.reduceLeDiff, Nat.reduceLT, Int.reduceMul, Int.reduceAdd, Int.reduceSub, Int.reduceToNat]
    refine cond_split (fun hc1 => ?_) (fun hc1 => ?_)
    · have hj' : j < E.length := by simp at hc1; omega
      obtain ⟨y, hy⟩ : ∃ y, y = E[j] := ⟨_, rfl⟩
      have hgy := getD_map (f := entryAV) (l := E) (k := j) (x := y) (by rw [List.getElem?_eq_getElem hj', hy])
      have hoy := hEo y (by rw [hy]; exact List.getElem_mem hj')
      have ej : IntKind.i64.wrap ((j : Int) + 1) = ((j + 1 : Nat) : Int) := by rw [wrap_i64] <;> omega
      have hra := cmpE_range x y
      have hneg : IntKind.i64.wrap (0 - cmpE x y) = -cmpE x y := by rw [wrap_i64] <;> omega
      have han := tp_cmpE.anti x y
      simp only [blkE, blkP, bhq, Nat.reduceMod, Nat.reduceDiv, stepH, stepM, toMs1, toMs, toMs0, strK, pubK, pubF, pubV, yaq, yar, yao, yap, go_sem, reduceCtorEq, Nat.reduceEqDiff, Nat.reduceAdd, Nat.reduceMul, Nat.reduceSub, Nat.reduceLeDiff, Nat.reduceLT, Int.reduceMul, Int.reduceAdd, Int.reduceSub, Int.reduceToNat, entryAV, entryC, ybb, Int.toNat_natCast, hgy, p_eCompare]
      (repeat with_reducible refine And.intro (by first | exact True.intro | decide | omega | (simp [zib, zge, zgf, zgg, zgi, zgh, zgm]; first | done | omega)) ?_)
      refine ⟨x, y, ⟨rfl, rfl, hox, hoy⟩, ?_⟩
      try simp only [blkE, blkP, bhq, Nat.reduceMod, Nat.reduceDiv, stepH, stepM, toMs1, toMs, toMs0, strK, pubK, pubF, pubV, yaq, yar, yao, yap, go_sem, reduceCtorEq, Nat.reduceEqDiff, Nat.reduceAdd, Nat.reduceMul, Nat.reduceSub, Nat.reduceLeDiff, Nat.reduceLT, Int.reduceMul, Int.reduceAdd, Int.reduceSub, Int.reduceToNat, entryAV, entryC, ybb, Int.toNat_natCast, p_rCompareE, p_eCompare]
      refine ⟨x, y, ⟨rfl, rfl, hox, hoy⟩, ?_⟩
      try simp only [blkE, blkP, bhq, Nat.reduceMod, Nat.reduceDiv, stepH, stepM, toMs1, toMs, toMs0, strK, pubK, pubF, pubV, yaq, yar, yao, yap, go_sem, reduceCtorEq, Nat.reduceEqDiff, Nat.reduceAdd, Nat.reduceMul, Nat.reduceSub, Nat.reduceLeDiff, Nat.reduceLT, Int.reduceMul, Int.reduceAdd, Int.reduceSub, Int.reduceToNat, entryAV, entryC, ybb, Int.toNat_natCast, bne_self_eq_false]
      refine ⟨y, x, ⟨rfl, rfl, hoy, hox⟩, ?_⟩
      rw [hneg, han]
      refine both_split (fun h => by simp at h) (fun _ => ?_)
      try simp only [blkE, blkP, bhq, Nat.reduceMod, Nat.reduceDiv, stepH, stepM, toMs1, toMs, toMs0, strK, pubK, pubF, pubV, yaq, yar, yao, yap, go_sem, reduceCtorEq, Nat.reduceEqDiff, Nat.reduceAdd, Nat.reduceMul, Nat.reduceSub, Nat.reduceLeDiff, Nat.reduceLT, Int.reduceMul, Int.reduceAdd, Int.reduceSub, Int.reduceToNat, entryAV, entryC, ybb, Int.toNat_natCast, p_eSame]
      refine ⟨x, y, ⟨rfl, rfl, hox, hoy⟩, ?_⟩
      rw [same_cmp]
      try simp only [blkE, blkP, bhq, Nat.reduceMod, Nat.reduceDiv, stepH, stepM, toMs1, toMs, toMs0, strK, pubK, pubF, pubV, yaq, yar, yao, yap, go_sem, reduceCtorEq, Nat.reduceEqDiff, Nat.reduceAdd, Nat.reduceMul, Nat.reduceSub, Nat.reduceLeDiff, Nat.reduceLT, Int.reduceMul, Int.reduceAdd, Int.reduceSub, Int.reduceToNat, entryAV, entryC, ybb, Int.toNat_natCast]
      refine both_split (fun h => by simp at h) (fun _ => ?_)
      try simp only [blkE, blkP, bhq, Nat.reduceMod, Nat.reduceDiv, stepH, stepM, toMs1, toMs, toMs0, strK, pubK, pubF, pubV, yaq, yar, yao, yap, go_sem, reduceCtorEq, Nat.reduceEqDiff, Nat.reduceAdd, Nat.reduceMul, Nat.reduceSub, Nat.reduceLeDiff, Nat.reduceLT, Int.reduceMul, Int.reduceAdd, Int.reduceSub, Int.reduceToNat, entryAV, entryC, ybb, Int.toNat_natCast, p_eSameKey, p_rSameKey]
      refine ⟨x, y, ⟨rfl, rfl, hox, hoy⟩, x, y, ⟨rfl, rfl, hox, hoy⟩, ?_⟩
      try simp only [blkE, blkP, bhq, Nat.reduceMod, Nat.reduceDiv, stepH, stepM, toMs1, toMs, toMs0, strK, pubK, pubF, pubV, yaq, yar, yao, yap, go_sem, reduceCtorEq, Nat.reduceEqDiff, Nat.reduceAdd, Nat.reduceMul, Nat.reduceSub, Nat.reduceLeDiff, Nat.reduceLT, Int.reduceMul, Int.reduceAdd, Int.reduceSub, Int.reduceToNat, entryAV, entryC, ybb, Int.toNat_natCast]
      refine cond_split (fun h => by simp at h) (fun _ => ?_)
      simp only [blkE, blkP, bhq, Nat.reduceMod, Nat.reduceDiv, stepH, stepM, toMs1, toMs, toMs0, strK, pubK, pubF, pubV, yaq, yar, yao, yap, go_sem, reduceCtorEq, Nat.reduceEqDiff, Nat.reduceAdd, Nat.reduceMul, Nat.reduceSub, Nat.reduceLeDiff, Nat.reduceLT, Int.reduceMul, Int.reduceAdd, Int.reduceSub, Int.reduceToNat, entryAV, entryC, ybb, Int.toNat_natCast]
      refine loop_introW (A := Nat) (fun k => [(16, .slice .any 5 (E.map entryAV)), (52, .slice .any 5 (E.map entryAV)), (53, .int .i64 (E.length : Int)), (54, .int .i64 (i : Int)), (18, .ptr H.nx 0), (58, .slice .any 5 (E.map entryAV)), (59, .int .i64 (E.length : Int)), (60, .int .i64 (j : Int)), (20, .ptr (H.nx + 1) 0), (21, .int .i64 (cmpE x y)), (97, .slice .any 5 (E.map entryAV)), (98, .int .i64 (E.length : Int)), (99, .int .i64 (k : Int))]) (fun _ => (H.push (.cells (entryC x))).push (.cells (entryC y))) (fun k => k ≤ E.length) (fun k => E.length - k) 0 (by omega) ?_ fun k hk => ?_
      · refine ⟨by simp only [zkk, zjw, zkb]; omega, by repeat (first | exact AHeap.Le.refl _ | refine AHeap.Le.push ?_ _), closed_cells (closed_cells hcl (ltL_iff.2 fun j hj => AV.lt_cells (lt_entry x) j hj)) (ltL_iff.2 fun j hj => AV.lt_cells (lt_entry y) j hj), ?_, ?_⟩
        · simp [ltF, zkk, zmt, zml, lt_map lt_entry]
          try omega
        · simp [subW, wk2, wk1, wkM, Fr.get]
      simp only [go_sem, reduceCtorEq, Nat.reduceEqDiff, Nat.reduceAdd, Nat.reduceMul, Nat.reduceSub, Nat.reduceLeDiff, Nat.reduceLT, Int.reduceMul, Int.reduceAdd, Int.reduceSub, Int.reduceToNat]
      refine cond_split (fun hc2 => ?_) (fun hc2 => ?_)
      · have hk' : k < E.length := by simp at hc2; omega
        obtain ⟨z, hz⟩ : ∃ z, z = E[k] := ⟨_, rfl⟩
        have hgz := getD_map (f := entryAV) (l := E) (k := k) (x := z) (by rw [List.getElem?_eq_getElem hk', hz])
        have hoz := hEo z (by rw [hz]; exact List.getElem_mem hk')
        have ek : IntKind.i64.wrap ((k : Int) + 1) = ((k + 1 : Nat) : Int) := by rw [wrap_i64] <;> omega
        by_cases g1 : cmpE x y ≤ 0
        · have d1 : decide (cmpE x y ≤ 0) = true := decide_eq_true g1
          by_cases g2 : cmpE y z ≤ 0
          · have d2 : decide (cmpE y z ≤ 0) = true := decide_eq_true g2
            have g3 := tp_cmpE.trans x y z g1 g2
            have d3 : decide (cmpE x z > 0) = false := decide_eq_false (by omega)
            simp only [blkE, blkP, bhq, Nat.reduceMod, Nat.reduceDiv, stepH, stepM, toMs1, toMs, toMs0, strK, pubK, pubF, pubV, yaq, yar, yao, yap, go_sem, reduceCtorEq, Nat.reduceEqDiff, Nat.reduceAdd, Nat.reduceMul, Nat.reduceSub, Nat.reduceLeDiff, Nat.reduceLT, Int.reduceMul, Int.reduceAdd, Int.reduceSub, Int.reduceToNat, entryAV, entryC, ybb, Int.toNat_natCast, hgz, p_eCompare, d1]
            refine ⟨⟨by omega, by omega⟩, y, z, ⟨rfl, rfl, hoy, hoz⟩, ?_⟩
            refine both_split (fun _ => ?_) (fun h => absurd (h.symm.trans d2) (by decide))
            refine ⟨x, z, ⟨rfl, rfl, hox, hoz⟩, ?_⟩
            refine cond_split (fun h => absurd (h.symm.trans d3) (by decide)) (fun _ => ?_)
            simp only [blkE, blkP, bhq, Nat.reduceMod, Nat.reduceDiv, stepH, stepM, toMs1, toMs, toMs0, strK, pubK, pubF, pubV, yaq, yar, yao, yap, go_sem, reduceCtorEq, Nat.reduceEqDiff, Nat.reduceAdd, Nat.reduceMul, Nat.reduceSub, Nat.reduceLeDiff, Nat.reduceLT, Int.reduceMul, Int.reduceAdd, Int.reduceSub, Int.reduceToNat, entryAV, entryC, ybb, Int.toNat_natCast, ek]
            refine ⟨k + 1, by omega, by omega, by simp only [zkk]; omega, by repeat (first | exact AHeap.Le.refl _ | refine AHeap.Le.push ?_ _), closed_cells (closed_cells hcl (ltL_iff.2 fun j hj => AV.lt_cells (lt_entry x) j hj)) (ltL_iff.2 fun j hj => AV.lt_cells (lt_entry y) j hj), ?_, ?_⟩
            · simp [ltF, zkk, zmt, zml, lt_map lt_entry]
              try omega
            · simp [subW, wk2, wk1, wkM, Fr.get]
          · have d2 : decide (cmpE y z ≤ 0) = false := decide_eq_false g2
            simp only [blkE, blkP, bhq, Nat.reduceMod, Nat.reduceDiv, stepH, stepM, toMs1, toMs, toMs0, strK, pubK, pubF, pubV, yaq, yar, yao, yap, go_sem, reduceCtorEq, Nat.reduceEqDiff, Nat.reduceAdd, Nat.reduceMul, Nat.reduceSub, Nat.reduceLeDiff, Nat.reduceLT, Int.reduceMul, Int.reduceAdd, Int.reduceSub, Int.reduceToNat, entryAV, entryC, ybb, Int.toNat_natCast, hgz, p_eCompare, d1]
            refine ⟨⟨by omega, by omega⟩, y, z, ⟨rfl, rfl, hoy, hoz⟩, ?_⟩
            refine both_split (fun h => absurd (h.symm.trans d2) (by decide)) (fun _ => ?_)
            simp only [blkE, blkP, bhq, Nat.reduceMod, Nat.reduceDiv, stepH, stepM, toMs1, toMs, toMs0, strK, pubK, pubF, pubV, yaq, yar, yao, yap, go_sem, reduceCtorEq, Nat.reduceEqDiff, Nat.reduceAdd, Nat.reduceMul, Nat.reduceSub, Nat.reduceLeDiff, Nat.reduceLT, Int.reduceMul, Int.reduceAdd, Int.reduceSub, Int.reduceToNat, entryAV, entryC, ybb, Int.toNat_natCast, ek]
            refine ⟨k + 1, by omega, by omega, by simp only [zkk]; omega, by repeat (first | exact AHeap.Le.refl _ | refine AHeap.Le.push ?_ _), closed_cells (closed_cells hcl (ltL_iff.2 fun j hj => AV.lt_cells (lt_entry x) j hj)) (ltL_iff.2 fun j hj => AV.lt_cells (lt_entry y) j hj), ?_, ?_⟩
            · simp [ltF, zkk, zmt, zml, lt_map lt_entry]
              try omega
            · simp [subW, wk2, wk1, wkM, Fr.get]
        · have d1 : decide (cmpE x y ≤ 0) = false := decide_eq_false g1
          simp only [blkE, blkP, bhq, Nat.reduceMod, Nat.reduceDiv, stepH, stepM, toMs1, toMs, toMs0, strK, pubK, pubF, pubV, yaq, yar, yao, yap, go_sem, reduceCtorEq, Nat.reduceEqDiff, Nat.reduceAdd, Nat.reduceMul, Nat.reduceSub, Nat.reduceLeDiff, Nat.reduceLT, Int.reduceMul, Int.reduceAdd, Int.reduceSub, Int.reduceToNat, entryAV, entryC, ybb, Int.toNat_natCast, hgz, p_eCompare, d1, ek]
          (repeat with_reducible refine And.intro (by first | exact True.intro | decide | omega | (simp [zib, zge, zgf, zgg, zgi, zgh, zgm]; first | done | omega)) ?_)
          refine ⟨k + 1, by omega, by omega, by simp only [zkk]; omega, by repeat (first | exact AHeap.Le.refl _ | refine AHeap.Le.push ?_ _), closed_cells (closed_cells hcl (ltL_iff.2 fun j hj => AV.lt_cells (lt_entry x) j hj)) (ltL_iff.2 fun j hj => AV.lt_cells (lt_entry y) j hj), ?_, ?_⟩
          · simp [ltF, zkk, zmt, zml, lt_map lt_entry]
            try omega
          · simp [subW, wk2, wk1, wkM, Fr.get]
      · have hk' : k = E.length := by simp at hc2; omega
        subst hk'
        simp only [blkE, blkP, bhq, Nat.reduceMod, Nat.reduceDiv, stepH, stepM, toMs1, toMs, toMs0, strK, pubK, pubF, pubV, yaq, yar, yao, yap, go_sem, reduceCtorEq, Nat.reduceEqDiff, Nat.reduceAdd, Nat.reduceMul, Nat.reduceSub, Nat.reduceLeDiff, Nat.reduceLT, Int.reduceMul, Int.reduceAdd, Int.reduceSub, Int.reduceToNat, entryAV, entryC, ybb, Int.toNat_natCast, ej]
        refine ⟨j + 1, by omega, by omega, by simp only [zkk]; omega, by repeat (first | exact AHeap.Le.refl _ | refine AHeap.Le.push ?_ _), closed_cells hcl (ltL_iff.2 fun j hj => AV.lt_cells (lt_entry x) j hj), ?_, ?_⟩
        · simp [ltF, zkk, zmt, zml, lt_map lt_entry]
          try omega
        · simp [subW, wk2, wk1, wkM, Fr.get]
    · have hj' : j = E.length := by simp at hc1; omega
      subst hj'
      simp only [blkE, blkP, bhq, Nat.reduceMod, Nat.reduceDiv, stepH, stepM, toMs1, toMs, toMs0, strK, pubK, pubF, pubV, yaq, yar, yao, yap, go_sem, reduceCtorEq, Nat.reduceEqDiff, Nat.reduceAdd, Nat.reduceMul, Nat.reduceSub, Nat.reduceLeDiff, Nat.reduceLT, Int.reduceMul, Int.reduceAdd, Int.reduceSub, Int.reduceToNat, entryAV, entryC, ybb, Int.toNat_natCast, ei]
      refine ⟨i + 1, by omega, by omega, by (try simp only [zkk]); omega, by repeat (first | exact AHeap.Le.refl _ | refine AHeap.Le.push ?_ _), hcl, ?_, ?_⟩
      · simp [ltF, zkk, zmt, zml, lt_map lt_entry]
        try omega
      · simp [subW, wk2, wk1, wkM, Fr.get]
  · have hi' : i = E.length := by simp at hc; omega
    subst hi'
    simp only [blkE, blkP, bhq, Nat.reduceMod, Nat.reduceDiv, stepH, stepM, toMs1, toMs, toMs0, strK, pubK, pubF, pubV, yaq, yar, yao, yap, go_sem, reduceCtorEq, Nat.reduceEqDiff, Nat.reduceAdd, Nat.reduceMul, Nat.reduceSub, Nat.reduceLeDiff, Nat.reduceLT, Int.reduceMul, Int.reduceAdd, Int.reduceSub, Int.reduceToNat, entryAV, entryC, ybb, Int.toNat_natCast, p_begun10]
    simp (disch := first | assumption | omega | (simp; done) | (simp; omega) | (simp only [bt, and_true]; first | done | omega | (simp; done))) [↓zlu, beq, ybc, ybd, ybe, endOk, wk, wk2, wk1, wkM, wkL, wkLL, ybf, hcl]
    first | done | repeat (first | exact AHeap.Le.refl _ | refine AHeap.Le.push ?_ _)
end Go.AL

