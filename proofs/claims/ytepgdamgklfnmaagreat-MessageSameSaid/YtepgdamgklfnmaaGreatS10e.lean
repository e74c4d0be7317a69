/- Contracts and plain laws, a part of the proof; no condition of its own. -/
import Derived.Test.YtepgdamgklfnmaaGreatS10d
open Go Go.AL Go.Proofs
namespace Go.AL
set_option linter.all false
set_option maxRecDepth 10000

/-- what a function takes from the choices does not depend on the place behind their end -/
def Stable (g : List UInt8 → Nat → AV × Nat) : Prop := ∀ b v, (g b (min v b.length)).1 = (g b v).1 ∧ ∃ c, (g b (min v b.length)).2 = min v b.length + c ∧ (g b v).2 = v + c
def onS (o : Option AObj) (g : List UInt8 → Nat → AV × Nat) (K : AV → AObj → Prop) : Prop := onC o fun b v => K (g b v).1 (codV b (g b v).2)
@[congr] theorem onS_congr {o o' : Option AObj} {g : List UInt8 → Nat → AV × Nat} {K : AV → AObj → Prop} (h : o = o') : onS o g K = onS o' g K := by rw [h]
theorem onS_cod {b : List UInt8} {v : Nat} {g : List UInt8 → Nat → AV × Nat} {K : AV → AObj → Prop} (hb : b.length ≤ 1000000) (hg : Stable g) : onS (some (codV b v)) g K = K (g b v).1 (codV b (g b v).2) := by
  unfold onS
  rw [onC_cod hb]
  obtain ⟨h1, c, h2, h3⟩ := hg b v
  rw [h1, h2, h3, codV_min]
theorem eG_onS {g : List UInt8 → Nat → AV × Nat} {id : Nat} {H : AHeap} {K : AEnd → AHeap → Prop} : eG g [.ptr id 0] H K = onS (H.get id) g fun x o => K (.ret x) (H.set id o) := (rfl)
def gsStates : List UInt8 → Nat → AV × Nat := fun b v => (.slice .any 5 ((gStates b v).1.map stateAV), (gStates b v).2)
def gsActions : List UInt8 → Nat → AV × Nat := fun b v => (.slice .any 5 ((gActions b v).map actionAV), v + 4)
def gsTables : List UInt8 → Nat → AV × Nat := fun b v => (.slice .any 8 ((gTables b v).map tableAV), v + 12)
def gsRoles (ts : List STable) : List UInt8 → Nat → AV × Nat := fun b v => (.slice .any 6 ((gRoles b v ts).1.map roleAV), (gRoles b v ts).2)
theorem st_states : Stable gsStates := fun b v => by
  have e : gStates b (min v b.length) = ((gStates b v).1, (gStates b v).2 - v + min v b.length) := by
    unfold gStates
    simp only [cv_min_add, cv_min]
    repeat' split
    all_goals (refine Prod.ext rfl ?_; dsimp only; omega)
  have h : ∃ c, (gStates b v).2 = v + c := by
    unfold gStates
    repeat' split
    all_goals exact ⟨_, rfl⟩
  obtain ⟨c, hc⟩ := h
  unfold gsStates
  dsimp only
  rw [e]
  exact ⟨rfl, c, by dsimp only; omega, hc⟩
theorem st_actions : Stable gsActions := fun b v => by
  have e : gActions b (min v b.length) = gActions b v := by unfold gActions ci; simp only [cv_min_add, cv_min]
  unfold gsActions
  dsimp only
  rw [e]
  exact ⟨rfl, 4, rfl, rfl⟩
theorem st_tables : Stable gsTables := fun b v => by
  have e : gTables b (min v b.length) = gTables b v := by unfold gTables gTable0 gTable1 gTable2 gTable3 ci; simp only [cv_min_add, cv_min]
  unfold gsTables
  dsimp only
  rw [e]
  exact ⟨rfl, 12, rfl, rfl⟩
theorem gPart_min {b : List UInt8} {v k n : Nat} : gPart b (min v b.length + k) n = gPart b (v + k) n := by
  unfold gPart
  refine List.map_congr_left fun i _ => ?_
  rw [Nat.add_assoc, Nat.add_assoc]
  unfold ci
  rw [cv_min_add]
theorem gGrants_min {b : List UInt8} {v : Nat} : ∀ (ts : List STable) (k : Nat), (gGrants b ts (min v b.length + k)).1 = (gGrants b ts (v + k)).1 ∧ ∃ c, (gGrants b ts (min v b.length + k)).2 = min v b.length + c ∧ (gGrants b ts (v + k)).2 = v + c
  | [], k => ⟨rfl, k, rfl, rfl⟩
  | t :: ts, k => by
    have hb : ∀ j n, cv b (min v b.length + j) n = cv b (v + j) n := fun j n => cv_min_add
    by_cases h1 : 0 < cv b (v + (k + t.keys.length)) 4
    · by_cases h2 : cv b (v + (k + t.keys.length + 3)) 2 = 1
      · obtain ⟨i1, c, i2, i3⟩ := gGrants_min ts (k + t.keys.length + 3 + 3)
        simp only [Nat.add_assoc, Nat.reduceAdd] at i1 i2 i3 h1 h2
        simp only [gGrants, Nat.add_assoc, Nat.reduceAdd, hb, ci, h1, h2, if_true, gPart_min]
        rw [i1]
        exact ⟨rfl, c, i2, i3⟩
      · obtain ⟨i1, c, i2, i3⟩ := gGrants_min ts (k + t.keys.length + 3 + 1)
        simp only [Nat.add_assoc, Nat.reduceAdd] at i1 i2 i3 h1 h2
        simp only [gGrants, Nat.add_assoc, Nat.reduceAdd, hb, ci, h1, h2, if_true, if_false, gPart_min]
        rw [i1]
        exact ⟨rfl, c, i2, i3⟩
    · by_cases h2 : cv b (v + (k + t.keys.length + 1)) 2 = 1
      · obtain ⟨i1, c, i2, i3⟩ := gGrants_min ts (k + t.keys.length + 1 + 3)
        simp only [Nat.add_assoc, Nat.reduceAdd] at i1 i2 i3 h1 h2
        simp only [gGrants, Nat.add_assoc, Nat.reduceAdd, hb, ci, h1, h2, if_true, if_false, gPart_min]
        rw [i1]
        exact ⟨rfl, c, i2, i3⟩
      · obtain ⟨i1, c, i2, i3⟩ := gGrants_min ts (k + t.keys.length + 1 + 1)
        simp only [Nat.add_assoc, Nat.reduceAdd] at i1 i2 i3 h1 h2
        simp only [gGrants, Nat.add_assoc, Nat.reduceAdd, hb, ci, h1, h2, if_true, if_false, gPart_min]
        rw [i1]
        exact ⟨rfl, c, i2, i3⟩
theorem st_roles (ts : List STable) : Stable (gsRoles ts) := fun b v => by
  obtain ⟨i1, c, i2, i3⟩ := gGrants_min (b := b) (v := v) ts 4
  unfold gsRoles gRoles
  dsimp only
  rw [i1]
  unfold ci
  simp only [cv_min_add, cv_min]
  exact ⟨trivial, c, i2, i3⟩
theorem gsS1 {b : List UInt8} {v : Nat} : (gsStates b v).1 = .slice .any 5 ((gStates b v).1.map stateAV) := (rfl)
theorem gsS2 {b : List UInt8} {v : Nat} : (gsStates b v).2 = (gStates b v).2 := (rfl)
theorem gsA1 {b : List UInt8} {v : Nat} : (gsActions b v).1 = .slice .any 5 ((gActions b v).map actionAV) := (rfl)
theorem gsA2 {b : List UInt8} {v : Nat} : (gsActions b v).2 = cp v 4 := (rfl)
theorem gsT1 {b : List UInt8} {v : Nat} : (gsTables b v).1 = .slice .any 8 ((gTables b v).map tableAV) := (rfl)
theorem gsT2 {b : List UInt8} {v : Nat} : (gsTables b v).2 = cp v 12 := (rfl)
theorem gsR1 {b : List UInt8} {v : Nat} {ts : List STable} : (gsRoles ts b v).1 = .slice .any 6 ((gRoles b v ts).1.map roleAV) := (rfl)
theorem gsR2 {b : List UInt8} {v : Nat} {ts : List STable} : (gsRoles ts b v).2 = cp (gRoles b v ts).2 0 := (rfl)
theorem cp_cp {v k n : Nat} : cp (cp v k) n = cp v (k + n) := by unfold cp; omega
theorem tg2 {b : List UInt8} {w : Nat} : (List.map tableAV (gTables b w)).getD 2 .junk = .agg [.int .i64 (gTable2 b w).id, .str (gTable2 b w).name, .slice .any 3 ((gTable2 b w).keys.map keyAV), .slice .any 1 (inL (gTable2 b w).actions), .int .i64 (gTable2 b w).dflt, .slice .any 2 ((gTable2 b w).dargs.map vv), .int .i64 (gTable2 b w).size, .str (gTable2 b w).restr] := (rfl)
theorem tg3 {b : List UInt8} {w : Nat} : (List.map tableAV (gTables b w)).getD 3 .junk = .agg [.int .i64 (gTable3 b w).id, .str (gTable3 b w).name, .slice .any 3 ((gTable3 b w).keys.map keyAV), .slice .any 1 (inL (gTable3 b w).actions), .int .i64 (gTable3 b w).dflt, .slice .any 2 ((gTable3 b w).dargs.map vv), .int .i64 (gTable3 b w).size, .str (gTable3 b w).restr] := (rfl)
theorem tgl {b : List UInt8} {w : Nat} : (gTables b w).length = 4 := (rfl)
theorem k2l {b : List UInt8} {w : Nat} : (((gTable2 b w).keys.length : Int) == 3) = decide (cv b (cp w 5) 2 = 1) := by
  by_cases h : cv b (w + 5) 2 = 1 <;> simp [gTable2, cp, h]
theorem k3l {b : List UInt8} {w : Nat} : (((gTable3 b w).keys.length : Int) == 3) = decide (cv b (cp w 7) 2 = 1) := by
  by_cases h : cv b (w + 7) 2 = 1 <;> simp [gTable3, cp, h]
def decP (p : Prop) : Bool → Prop | true => p | false => ¬ p
theorem of_dec {p : Prop} [Decidable p] {t : Bool} (h : decide p = t) : decP p t := by
  cases t
  · exact (of_decide_eq_false h : ¬ p)
  · exact (of_decide_eq_true h : p)
theorem roles_in {id : Nat} {ts : List STable} {H : AHeap} {K : AEnd → AHeap → Prop} (h1 : ts.length ≤ 100) (h2 : ∀ t ∈ ts, t.keys.length ≤ 100) (h : onS (H.get id) (gsRoles ts) fun x o => K (.ret x) (H.set id o)) :
    e_CRoles [.ptr id 0, .slice .any 8 (ts.map tableAV)] H K := ⟨ts, ⟨rfl, h1, h2⟩, h⟩
def e_CSchema := eG fun b v => (schAV (gSchema b v).1, (gSchema b v).2)
set_option maxHeartbeats 8000000 in
theorem ok_CSchema : EntOk Tryz.prog 12 (Ent.effect e_CSchema) := by
  unfold e_CSchema
  refine EntOk.effect fun args H K h => ?_
  unfold eG at h
  split at h
  rotate_left
  · exact h.elim
  rename_i id
  obtain ⟨b, v, hg, hb, hv, hK⟩ := onC_out h
  refine ⟨_, _, hK, ?_⟩
  clear hK
  dsimp only
  generalize hS : (gSchema b v).1 = S
  generalize hpos : (gSchema b v).2 = pos
  refine ACalls.of_aw (Ω := [(29, Ent.effect e_ZNext), (34, Ent.effect e_CBoolD), (30, Ent.effect e_CStates), (31, Ent.effect e_CActions), (32, Ent.effect e_CTables), (33, Ent.effect e_CRoles)]) (T := assoc [(15, [[4]])]) mixed (TblOk.cons ok_ZNext (TblOk.cons ok_CBoolD (TblOk.cons ok_CStates (TblOk.cons ok_CActions (TblOk.cons ok_CTables (TblOk.cons ok_CRoles TblOk.nil)))))) Tryz.func12 (by kernel_rfl) (by rfl) (rs := [.cell 2 40]) (by rfl) (by kernel_rfl) (by simp only [Tryz.ntmps12, List.length_cons, List.length_nil]; decide) (Nat.le_refl _) fun hcl hlt => ?_
  change aw _ _ _ (KI Tryz.prog [(29, Ent.effect e_ZNext), (34, Ent.effect e_CBoolD), (30, Ent.effect e_CStates), (31, Ent.effect e_CActions), (32, Ent.effect e_CTables), (33, Ent.effect e_CRoles)] (aEnd Tryz.prog [.cell 2 40] H.nx _ _ (assoc [(15, [[4]])])) []) _ _
  clear hlt
  have hid := AHeap.get_lt hg
  have hne := ne_nx hid
  have hne2 := ne_nx (show id < H.nx + 1 + 1 + 1 + 1 + 1 + 1 + 1 + 1 + 1 + 1 + 1 + 1 + 1 + 1 + 1 + 1 by omega)
  have hgc := get_codV (b := b) hid
  have hcl2 : ∀ w, (H.set id (codV b w)).Closed := fun w => closed_set hcl codV_lt
  have e8 : (8 : Int).toNat = 8 := rfl
  have e30 : (30 : Int).toNat = 30 := rfl
  have w1 : ∀ (u n : Nat) (k : Int), 0 < n → n ≤ 100 → 0 ≤ k → k ≤ 100 → IntKind.i64.wrap (k + ((cv b u n : Nat) : Int)) = k + ((cv b u n : Nat) : Int) := fun u n k h1 h2 h3 h4 => by
    have := cv_lt (b := b) (v := u) (n := n) h1
    rw [wrap_i64 (by omega) (by omega)]
  have a28 : ∀ u, IntKind.i64.wrap (2 + ((cv b u 8 : Nat) : Int)) = 2 + ((cv b u 8 : Nat) : Int) := fun u => w1 u 8 2 (by decide) (by decide) (by decide) (by decide)
  have a30 : ∀ u, IntKind.i64.wrap (12 + ((cv b u 30 : Nat) : Int)) = 12 + ((cv b u 30 : Nat) : Int) := fun u => w1 u 30 12 (by decide) (by decide) (by decide) (by decide)
  have es1 : e_CStates = eG gsStates := rfl
  have es2 : e_CActions = eG gsActions := rfl
  have es3 : e_CTables = eG gsTables := rfl
  simp only [go_sem, reduceCtorEq, Nat.reduceEqDiff, Nat.reduceAdd, Nat.reduceMul, Nat.reduceSub, Nat.reduceLeDiff, Nat.reduceLT, Int.reduceMul, Int.reduceAdd, Int.reduceSub, Int.reduceToNat, bhq, Nat.reduceMod, Nat.reduceDiv, stepH, stepM, toMs1, toMs, toMs0, strK, pubK, pubF, pubV, List.take_succ_cons, List.take_zero, List.drop_succ_cons, List.drop_zero, e_ZNext, e_CBoolD, es1, es2, es3, eG_onS, onS_cod hb st_states, onS_cod hb st_actions, onS_cod hb st_tables, gsS1, gsS2, gsA1, gsA2, gsT1, gsT2, cp_cp, hg, hgc, onC_cod hb, cv_min, codV_min, cp_add, hne, hne2, e8, e30, a28, a30]
  (repeat with_reducible refine And.intro (by first | exact True.intro | decide | omega | (simp [zib, zge, zgf, zgg, zgi, zgh, zgm]; first | done | omega)) ?_)
  refine roles_in (by simp [gTables]) (fun t ht => ?_) ?_
  · simp only [gTables, List.mem_cons, List.not_mem_nil, or_false] at ht
    rcases ht with rfl | rfl | rfl | rfl <;> simp only [gTable0, gTable1, gTable2, gTable3] <;> (try split) <;> simp
  simp only [blkE, blkP, go_sem, reduceCtorEq, Nat.reduceEqDiff, Nat.reduceAdd, Nat.reduceMul, Nat.reduceSub, Nat.reduceLeDiff, Nat.reduceLT, Int.reduceMul, Int.reduceAdd, Int.reduceSub, Int.reduceToNat, bhq, Nat.reduceMod, Nat.reduceDiv, stepH, stepM, toMs1, toMs, toMs0, strK, pubK, pubF, pubV, List.take_succ_cons, List.take_zero, List.drop_succ_cons, List.drop_zero, e_ZNext, e_CBoolD, es1, es2, es3, eG_onS, onS_cod hb st_states, onS_cod hb st_actions, onS_cod hb st_tables, gsS1, gsS2, gsA1, gsA2, gsT1, gsT2, cp_cp, hg, hgc, onC_cod hb, cv_min, codV_min, cp_add, hne, hne2, e8, e30, a28, a30, onS_cod hb (st_roles _), gsR1, gsR2, Int.toNat_natCast]
  refine cond_split (fun h1 => ?_) (fun h1 => ?_)
  all_goals
    simp only [blkE, blkP, go_sem, reduceCtorEq, Nat.reduceEqDiff, Nat.reduceAdd, Nat.reduceMul, Nat.reduceSub, Nat.reduceLeDiff, Nat.reduceLT, Int.reduceMul, Int.reduceAdd, Int.reduceSub, Int.reduceToNat, bhq, Nat.reduceMod, Nat.reduceDiv, stepH, stepM, toMs1, toMs, toMs0, strK, pubK, pubF, pubV, List.take_succ_cons, List.take_zero, List.drop_succ_cons, List.drop_zero, e_ZNext, e_CBoolD, es1, es2, es3, eG_onS, onS_cod hb st_states, onS_cod hb st_actions, onS_cod hb st_tables, gsS1, gsS2, gsA1, gsA2, gsT1, gsT2, cp_cp, hg, hgc, onC_cod hb, cv_min, codV_min, cp_add, hne, hne2, e8, e30, a28, a30, onS_cod hb (st_roles _), gsR1, gsR2, Int.toNat_natCast, tg2, tg3, tgl, k2l, k3l]
    try (repeat with_reducible refine And.intro (by first | exact True.intro | decide | omega | (simp [zib, zge, zgf, zgg, zgi, zgh, zgm]; first | done | omega)) ?_)
    refine cond_split (fun h2 => ?_) (fun h2 => ?_)
  all_goals
    simp only [blkE, blkP, go_sem, reduceCtorEq, Nat.reduceEqDiff, Nat.reduceAdd, Nat.reduceMul, Nat.reduceSub, Nat.reduceLeDiff, Nat.reduceLT, Int.reduceMul, Int.reduceAdd, Int.reduceSub, Int.reduceToNat, bhq, Nat.reduceMod, Nat.reduceDiv, stepH, stepM, toMs1, toMs, toMs0, strK, pubK, pubF, pubV, List.take_succ_cons, List.take_zero, List.drop_succ_cons, List.drop_zero, e_ZNext, e_CBoolD, es1, es2, es3, eG_onS, onS_cod hb st_states, onS_cod hb st_actions, onS_cod hb st_tables, gsS1, gsS2, gsA1, gsA2, gsT1, gsT2, cp_cp, hg, hgc, onC_cod hb, cv_min, codV_min, cp_add, hne, hne2, e8, e30, a28, a30, onS_cod hb (st_roles _), gsR1, gsR2, Int.toNat_natCast, tg2, tg3, tgl, k2l, k3l]
    try (repeat with_reducible refine And.intro (by first | exact True.intro | decide | omega | (simp [zib, zge, zgf, zgg, zgi, zgh, zgm]; first | done | omega)) ?_)
    refine both_split (fun h3 => ?_) (fun h3 => ?_)
  all_goals
    try (repeat with_reducible refine And.intro (by first | exact True.intro | decide | omega | (simp [zib, zge, zgf, zgg, zgi, zgh, zgm]; first | done | omega)) ?_)
    try refine cond_split (fun h4 => ?_) (fun h4 => ?_)
  all_goals
    try simp only [blkE, blkP, go_sem, reduceCtorEq, Nat.reduceEqDiff, Nat.reduceAdd, Nat.reduceMul, Nat.reduceSub, Nat.reduceLeDiff, Nat.reduceLT, Int.reduceMul, Int.reduceAdd, Int.reduceSub, Int.reduceToNat, bhq, Nat.reduceMod, Nat.reduceDiv, stepH, stepM, toMs1, toMs, toMs0, strK, pubK, pubF, pubV, List.take_succ_cons, List.take_zero, List.drop_succ_cons, List.drop_zero, e_ZNext, e_CBoolD, es1, es2, es3, eG_onS, onS_cod hb st_states, onS_cod hb st_actions, onS_cod hb st_tables, gsS1, gsS2, gsA1, gsA2, gsT1, gsT2, cp_cp, hg, hgc, onC_cod hb, cv_min, codV_min, cp_add, hne, hne2, e8, e30, a28, a30, onS_cod hb (st_roles _), gsR1, gsR2, Int.toNat_natCast, tg2, tg3, tgl, k2l, k3l]
    try (repeat with_reducible refine And.intro (by first | exact True.intro | decide | omega | (simp [zib, zge, zgf, zgg, zgi, zgh, zgm]; first | done | omega)) ?_)
    refine both_split (fun h5 => ?_) (fun h5 => ?_)
  all_goals
    try (repeat with_reducible refine And.intro (by first | exact True.intro | decide | omega | (simp [zib, zge, zgf, zgg, zgi, zgh, zgm]; first | done | omega)) ?_)
    try refine cond_split (fun h6 => ?_) (fun h6 => ?_)
  all_goals
    try simp only [blkE, blkP, go_sem, reduceCtorEq, Nat.reduceEqDiff, Nat.reduceAdd, Nat.reduceMul, Nat.reduceSub, Nat.reduceLeDiff, Nat.reduceLT, Int.reduceMul, Int.reduceAdd, Int.reduceSub, Int.reduceToNat, bhq, Nat.reduceMod, Nat.reduceDiv, stepH, stepM, toMs1, toMs, toMs0, strK, pubK, pubF, pubV, List.take_succ_cons, List.take_zero, List.drop_succ_cons, List.drop_zero, e_ZNext, e_CBoolD, es1, es2, es3, eG_onS, onS_cod hb st_states, onS_cod hb st_actions, onS_cod hb st_tables, gsS1, gsS2, gsA1, gsA2, gsT1, gsT2, cp_cp, hg, hgc, onC_cod hb, cv_min, codV_min, cp_add, hne, hne2, e8, e30, a28, a30, onS_cod hb (st_roles _), gsR1, gsR2, Int.toNat_natCast, tg2, tg3, tgl, k2l, k3l]
    try (repeat with_reducible refine And.intro (by first | exact True.intro | decide | omega | (simp [zib, zge, zgf, zgg, zgi, zgh, zgm]; first | done | omega)) ?_)
    replace h1 := of_dec h1
    replace h2 := of_dec h2
    replace h3 := of_dec h3
    replace h5 := of_dec h5
    try replace h4 := of_dec h4
    try replace h6 := of_dec h6
    refine weak_slot 101 (.agg (schC S)) ?_ ?_
    · rw [← hS]
      simp only [decP] at h1 h2 h3 h5
      try simp only [decP] at h4
      try simp only [decP] at h6
      simp [*, Fr.get, schC, gSchema, gFields, gHeaders, fieldAV, headerAV, stageAV, refAV, inL, AV.cells, wkD_agg, wkD_slice, wkDL_cons, wkDL_nil, wkDR_cons, wkDR_nil, wkD_int, wkD_str, wkD_bool, wkM, wkDR_same]
    simp only [bhq, Nat.reduceMod, Nat.reduceDiv, stepH, stepM, toMs1, toMs, toMs0, strK, pubK, pubF, pubV, List.take_succ_cons, List.take_zero, List.drop_succ_cons, List.drop_zero, go_sem, reduceCtorEq, Nat.reduceEqDiff, Nat.reduceAdd, Nat.reduceMul, Nat.reduceSub, Nat.reduceLeDiff, Nat.reduceLT, Int.reduceMul, Int.reduceAdd, Int.reduceSub, Int.reduceToNat, schC]
    refine ⟨?_, ?_, hcl2 _, lt_sch S⟩
    · simp [schAV, schC, wk, wk2, wkL, wk1, wkM]
    · rw [← hpos]
      repeat (first | exact AHeap.Le.refl _ | refine AHeap.Le.push ?_ _)
end Go.AL

