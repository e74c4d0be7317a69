/- Contracts and plain laws, a part of the proof; no condition of its own. -/
import Derived.Test.YthpglnacipgolaaGreatW03j
open List renaming length_cons → yaz, length_nil → yba, take_succ_cons → yaq, take_zero → yar, drop_succ_cons → yao, drop_zero → yap, length_map → ybb
open Go Go.AL Go.Proofs
namespace Go.AL
set_option linter.all false
set_option maxRecDepth 10000
theorem ti_schema : ti Tryz.prog 31 = some ⟨.struct [(0, 22, false), (1, 23, false), (2, 24, false), (3, 25, false), (4, 26, false), (5, 27, false), (6, 28, false), (7, 29, false), (8, 3, false), (9, 3, false)], 10, 208, .agg [.slice .nil 1 [], .slice .nil 1 [], .slice .nil 1 [], .slice .nil 1 [], .slice .nil 1 [], .slice .nil 1 [], .slice .nil 1 [], .slice .nil 1 [], .int .i64 0, .int .i64 0]⟩ := by kernel_rfl
attribute [go_sem] ti_schema
theorem lt_sl0 {n sz : Nat} : AV.lt n (.slice .any sz []) := lt_sliceZ fun x hx => absurd hx (by simp)
/-- what Encode returns -/
def encO (x : Sch) : List UInt8 × Int :=
  if (eSch x).l = true then ([], 3) else if (eSch x).f = true then ([], 2) else if (eSch x).a = true then ([], 4) else if 8000 < (eSch x).b.length then ([], 3) else ((eSch x).b, 0)
def pEnc : List AV → AHeap → (AV → Prop) → Prop
  | [.agg l], _, K => ∃ x : Sch, (l = schC x ∧ OkSch x ∧ (eSch x).b.length ≤ encMax) ∧ K (.tup [.slice .any 1 (bys (encO x).1), .int .i64 (encO x).2])
  | _, _, _ => False
theorem SOn.leq {H HB : AHeap} {id q : Nat} {s0 s : Enc} (hW : SOn HB id q s0) (hle : H.Le HB) (h1 : H.nx ≤ id) (h2 : H.nx ≤ q) : H.Le (swH HB id q s) := by
  refine ⟨hle.nx, fun j x hj => ?_⟩
  have hj2 := AHeap.get_lt hj
  unfold swH
  rw [AHeap.get_set_ne _ _ (by omega), AHeap.get_set_ne _ _ (by omega)]
  exact hle.get _ _ hj
theorem encO_cases {x : Sch} {RE : List UInt8 × Int} (h : encO x = RE) :
    ((eSch x).l = true ∧ RE = ([], 3)) ∨ ((eSch x).l = false ∧ (eSch x).f = true ∧ RE = ([], 2)) ∨ ((eSch x).l = false ∧ (eSch x).f = false ∧ (eSch x).a = true ∧ RE = ([], 4)) ∨
    ((eSch x).l = false ∧ (eSch x).f = false ∧ (eSch x).a = false ∧ 8000 < (eSch x).b.length ∧ RE = ([], 3)) ∨ ((eSch x).l = false ∧ (eSch x).f = false ∧ (eSch x).a = false ∧ (eSch x).b.length ≤ 8000 ∧ RE = ((eSch x).b, 0)) := by
  subst h
  unfold encO
  cases (eSch x).l <;> cases (eSch x).f <;> cases (eSch x).a <;> simp
  omega
/-- all that is written, in the order of the writing -/
theorem eSch_eq (x : Sch) : enc0.add (eSch x) = (((((((((enc0.add (eNum x.maxBatch 2)).add (eNum x.budget 2)).add (eList eField 32 x.fields)).add (eList eHeader 8 x.headers)).add (eList eState 12 x.states)).add (eList eAction 12 x.actions)).add (eList eTable 8 x.tables)).add (eList eStage 12 x.stages)).add (eList eRole 6 x.roles)).add (eList eRef 8 x.refs) := by
  unfold eSch ePacket
  simp only [enc_assoc]
def p_zEnc := pEnc
set_option maxHeartbeats 16000000 in
theorem ok_zEnc : EntOk Tryz.prog 17 (Ent.pure p_zEnc) := by
  unfold p_zEnc
  refine EntOk.pure fun args H K h => ?_
  unfold pEnc at h
  split at h
  rotate_left
  · exact h.elim
  rename_i l
  obtain ⟨x, ⟨rfl, ha, hl⟩, hK⟩ := h
  refine ⟨_, hK, ?_⟩
  clear hK
  refine ACalls.of_aw (Ω := [(55, Ent.effect e_zNum), (57, Ent.pure p_cdFld), (56, Ent.effect e_putFld), (59, Ent.pure p_cdHdr), (58, Ent.effect e_putHdr), (61, Ent.pure p_cdSta), (60, Ent.effect e_putSta), (63, Ent.pure p_cdAct), (62, Ent.effect e_putAct), (65, Ent.pure p_cdTab), (64, Ent.effect e_putTab), (67, Ent.pure p_cdStg), (66, Ent.effect e_putStg), (69, Ent.pure p_cdRol), (68, Ent.effect e_putRol), (71, Ent.pure p_cdRef), (70, Ent.effect e_putRef)]) (T := assoc [(4, [[], [], [], [0, 2]]), (5, [[], [], [], [0, 2]]), (6, [[], [], [], [0, 2]]), (7, [[], [], [], [0, 2]]), (8, [[], [], [], [0, 2]]), (9, [[], [], [], [0, 2]]), (10, [[], [], [], [0, 2]]), (11, [[], [], [], [0, 2]]), (2, [[1]])]) mixed (TblOk.cons ok_zNum (TblOk.cons ok_cdFld (TblOk.cons ok_putFld (TblOk.cons ok_cdHdr (TblOk.cons ok_putHdr (TblOk.cons ok_cdSta (TblOk.cons ok_putSta (TblOk.cons ok_cdAct (TblOk.cons ok_putAct (TblOk.cons ok_cdTab (TblOk.cons ok_putTab (TblOk.cons ok_cdStg (TblOk.cons ok_putStg (TblOk.cons ok_cdRol (TblOk.cons ok_putRol (TblOk.cons ok_cdRef (TblOk.cons ok_putRef TblOk.nil))))))))))))))))) Tryz.func17 (by kernel_rfl) (by rfl) (rs := [.tmp 2,.tmp 3]) (by rfl) (by kernel_rfl) (by simp only [Tryz.ntmps17, yaz, yba]; decide) (Nat.le_refl _) fun hcl hlt => ?_
  change aw _ _ _ (KI Tryz.prog [(55, Ent.effect e_zNum), (57, Ent.pure p_cdFld), (56, Ent.effect e_putFld), (59, Ent.pure p_cdHdr), (58, Ent.effect e_putHdr), (61, Ent.pure p_cdSta), (60, Ent.effect e_putSta), (63, Ent.pure p_cdAct), (62, Ent.effect e_putAct), (65, Ent.pure p_cdTab), (64, Ent.effect e_putTab), (67, Ent.pure p_cdStg), (66, Ent.effect e_putStg), (69, Ent.pure p_cdRol), (68, Ent.effect e_putRol), (71, Ent.pure p_cdRef), (70, Ent.effect e_putRef)] (aEnd Tryz.prog [.tmp 2,.tmp 3] H.nx _ _ (assoc [(4, [[], [], [], [0, 2]]), (5, [[], [], [], [0, 2]]), (6, [[], [], [], [0, 2]]), (7, [[], [], [], [0, 2]]), (8, [[], [], [], [0, 2]]), (9, [[], [], [], [0, 2]]), (10, [[], [], [], [0, 2]]), (11, [[], [], [], [0, 2]]), (2, [[1]])])) []) _ _
  clear hlt
  simp only [go_sem, reduceCtorEq, Nat.reduceEqDiff, Nat.reduceAdd, Nat.reduceMul, Nat.reduceSub, Nat.reduceLeDiff, Nat.reduceLT, Int.reduceMul, Int.reduceAdd, Int.reduceSub, Int.reduceToNat, schC, schAV]
  refine weak_cell 4 0 1 (cs := [AV.slice .nil 1 [], .bool false, .bool false, .bool false]) rfl (by simp only [go_sem]) rfl ?_
  obtain ⟨HB, hHB⟩ : ∃ HB, HB = (((H.push (.cells (schC x))).push (.buf 1 0)).push (.cells (swC (H.nx + 1 + 1 + 1) [] false false false))).push (.buf 1 0) := ⟨_, rfl⟩
  have hnB : HB.nx = H.nx + 1 + 1 + 1 + 1 := by rw [hHB]; rfl
  have hW : SOn HB (H.nx + 1 + 1) (H.nx + 1 + 1 + 1) enc0 := by
    rw [hHB]
    exact ⟨by simp [zlb, zky, zlf, swC, enc0], by simp [zlb, zky, enc0]⟩
  have hcB : HB.Closed := by
    have h1 := closed_set (i := H.nx + 1 + 1) (cs := swC (H.nx + 1 + 1 + 1) [] false false false) (closed_buf (a := 1) (b := 0) (closed_cells (cs := []) (closed_buf (a := 1) (b := 0) (closed_cells (cs := schC x) hcl (by have := lt_sch (n := H.nx + 1) x; simp only [schAV, znl] at this; exact this))) trivial)) (by simp only [swC, zno, znp, zna, and_true, zky]; rw [lt_sliceL]; exact ⟨fun id h => (by cases h; omega), trivial⟩)
    simp only [go_sem] at h1
    rw [hHB]; exact h1
  have hcr : cellsOf? HB H.nx = some (schC x) := by rw [hHB]; simp only [go_sem]
  have hle : H.Le HB := by rw [hHB]; repeat (first | exact AHeap.Le.refl _ | refine AHeap.Le.push ?_ _)
  have hcw : ∀ s, cellsOf? (swH HB (H.nx + 1 + 1) (H.nx + 1 + 1 + 1) s) H.nx = some (schC x) := fun s => by rw [swH_cells (by omega) (by omega), hcr]
  have hcI : ∀ s, cellsOf? (swH HB (H.nx + 1 + 1) (H.nx + 1 + 1 + 1) s) (H.nx + 1 + 1) = some (swC (H.nx + 1 + 1 + 1) s.b s.l s.f s.a) := fun s => cells_some (hW.next s).o
  have hlW : ∀ s, H.Le (swH HB (H.nx + 1 + 1) (H.nx + 1 + 1 + 1) s) := fun s => hW.leq hle (by omega) (by omega)
  have hcl1 := fun t => hW.closed (t := t) hcB
  have hF := hW.facts
  simp only [bhq, Nat.reduceMod, Nat.reduceDiv, stepH, stepM, toMs1, toMs, toMs0, strK, pubK, pubF, pubV, yaq, yar, yao, yap, go_sem, zlf, List.set_cons_zero]
  rw [show (((H.push (.cells [.slice .any 3 (x.fields.map fieldAV), .slice .any 3 (x.headers.map headerAV), .slice .any 5 (x.states.map stateAV), .slice .any 5 (x.actions.map actionAV), .slice .any 8 (x.tables.map tableAV), .slice .any 2 (x.stages.map stageAV), .slice .any 6 (x.roles.map roleAV), .slice .any 6 (x.refs.map refAV), .int .i64 x.maxBatch, .int .i64 x.budget])).push (.buf 1 0)).push (.cells [.slice (.own (H.nx + 1 + 1 + 1)) 1 [], .bool false, .bool false, .bool false])).push (.buf 1 0) = HB from hHB.symm]
  clear hHB
  obtain ⟨RE, hRE⟩ : ∃ RE, encO x = RE := ⟨_, rfl⟩
  have hR := encO_cases hRE
  rw [hRE]
  have hTot := eSch_eq x
  rw [enc_0add] at hTot
  rw [hTot] at hl
  have hl10 := hl
  have hl9 := enc_pre hl10
  have hl8 := enc_pre hl9
  have hl7 := enc_pre hl8
  have hl6 := enc_pre hl7
  have hl5 := enc_pre hl6
  have hl4 := enc_pre hl5
  have hl3 := enc_pre hl4
  have hl2 := enc_pre hl3
  have hl1 := enc_pre hl2
  try simp only [go_sem, reduceCtorEq, Nat.reduceEqDiff, Nat.reduceAdd, Nat.reduceMul, Nat.reduceSub, Nat.reduceLeDiff, Nat.reduceLT, Int.reduceMul, Int.reduceAdd, Int.reduceSub, Int.reduceToNat, hcw, hcI, swC, schC, swH_nx, hnB, ybb, hcr, p_cdFld, p_cdHdr, p_cdSta, p_cdAct, p_cdTab, p_cdStg, p_cdRol, p_cdRef]
  refine w_num (.inr rfl) hW hl1 ?_
  simp only [go_sem, reduceCtorEq, Nat.reduceEqDiff, Nat.reduceAdd, Nat.reduceMul, Nat.reduceSub, Nat.reduceLeDiff, Nat.reduceLT, Int.reduceMul, Int.reduceAdd, Int.reduceSub, Int.reduceToNat, hcw, hcI, swC, schC, swH_nx, hnB, ybb, p_cdFld, p_cdHdr, p_cdSta, p_cdAct, p_cdTab, p_cdStg, p_cdRol, p_cdRef]
  refine w_num (.inr rfl) (hW.next _) hl2 ?_
  rw [hF.pp]
  simp only [go_sem, reduceCtorEq, Nat.reduceEqDiff, Nat.reduceAdd, Nat.reduceMul, Nat.reduceSub, Nat.reduceLeDiff, Nat.reduceLT, Int.reduceMul, Int.reduceAdd, Int.reduceSub, Int.reduceToNat, hcw, hcI, swC, schC, swH_nx, hnB, ybb, p_cdFld, p_cdHdr, p_cdSta, p_cdAct, p_cdTab, p_cdStg, p_cdRol, p_cdRef]
  refine w_put (c := fieldAV) (ha.f) (hW.next _) hl3 ?_
  rw [hF.pp]
  simp only [go_sem, reduceCtorEq, Nat.reduceEqDiff, Nat.reduceAdd, Nat.reduceMul, Nat.reduceSub, Nat.reduceLeDiff, Nat.reduceLT, Int.reduceMul, Int.reduceAdd, Int.reduceSub, Int.reduceToNat, hcw, hcI, swC, schC, swH_nx, hnB, ybb, p_cdFld, p_cdHdr, p_cdSta, p_cdAct, p_cdTab, p_cdStg, p_cdRol, p_cdRef]
  refine w_put (c := headerAV) (ha.h) (hW.next _) hl4 ?_
  rw [hF.pp]
  simp only [go_sem, reduceCtorEq, Nat.reduceEqDiff, Nat.reduceAdd, Nat.reduceMul, Nat.reduceSub, Nat.reduceLeDiff, Nat.reduceLT, Int.reduceMul, Int.reduceAdd, Int.reduceSub, Int.reduceToNat, hcw, hcI, swC, schC, swH_nx, hnB, ybb, p_cdFld, p_cdHdr, p_cdSta, p_cdAct, p_cdTab, p_cdStg, p_cdRol, p_cdRef]
  refine w_put (c := stateAV) (ha.s) (hW.next _) hl5 ?_
  rw [hF.pp]
  simp only [go_sem, reduceCtorEq, Nat.reduceEqDiff, Nat.reduceAdd, Nat.reduceMul, Nat.reduceSub, Nat.reduceLeDiff, Nat.reduceLT, Int.reduceMul, Int.reduceAdd, Int.reduceSub, Int.reduceToNat, hcw, hcI, swC, schC, swH_nx, hnB, ybb, p_cdFld, p_cdHdr, p_cdSta, p_cdAct, p_cdTab, p_cdStg, p_cdRol, p_cdRef]
  refine w_put (c := actionAV) (ha.a) (hW.next _) hl6 ?_
  rw [hF.pp]
  simp only [go_sem, reduceCtorEq, Nat.reduceEqDiff, Nat.reduceAdd, Nat.reduceMul, Nat.reduceSub, Nat.reduceLeDiff, Nat.reduceLT, Int.reduceMul, Int.reduceAdd, Int.reduceSub, Int.reduceToNat, hcw, hcI, swC, schC, swH_nx, hnB, ybb, p_cdFld, p_cdHdr, p_cdSta, p_cdAct, p_cdTab, p_cdStg, p_cdRol, p_cdRef]
  refine w_put (c := tableAV) (ha.t) (hW.next _) hl7 ?_
  rw [hF.pp]
  simp only [go_sem, reduceCtorEq, Nat.reduceEqDiff, Nat.reduceAdd, Nat.reduceMul, Nat.reduceSub, Nat.reduceLeDiff, Nat.reduceLT, Int.reduceMul, Int.reduceAdd, Int.reduceSub, Int.reduceToNat, hcw, hcI, swC, schC, swH_nx, hnB, ybb, p_cdFld, p_cdHdr, p_cdSta, p_cdAct, p_cdTab, p_cdStg, p_cdRol, p_cdRef]
  refine w_put (c := stageAV) (fun _ _ => trivial) (hW.next _) hl8 ?_
  rw [hF.pp]
  simp only [go_sem, reduceCtorEq, Nat.reduceEqDiff, Nat.reduceAdd, Nat.reduceMul, Nat.reduceSub, Nat.reduceLeDiff, Nat.reduceLT, Int.reduceMul, Int.reduceAdd, Int.reduceSub, Int.reduceToNat, hcw, hcI, swC, schC, swH_nx, hnB, ybb, p_cdFld, p_cdHdr, p_cdSta, p_cdAct, p_cdTab, p_cdStg, p_cdRol, p_cdRef]
  refine w_put (c := roleAV) (ha.r) (hW.next _) hl9 ?_
  rw [hF.pp]
  simp only [go_sem, reduceCtorEq, Nat.reduceEqDiff, Nat.reduceAdd, Nat.reduceMul, Nat.reduceSub, Nat.reduceLeDiff, Nat.reduceLT, Int.reduceMul, Int.reduceAdd, Int.reduceSub, Int.reduceToNat, hcw, hcI, swC, schC, swH_nx, hnB, ybb, p_cdFld, p_cdHdr, p_cdSta, p_cdAct, p_cdTab, p_cdStg, p_cdRol, p_cdRef]
  refine w_put (c := refAV) (fun _ _ => trivial) (hW.next _) hl10 ?_
  rw [hF.pp]
  rw [← hTot]
  rcases hR with ⟨h1, rfl⟩ | ⟨h1, h2, rfl⟩ | ⟨h1, h2, h3, rfl⟩ | ⟨h1, h2, h3, h4, rfl⟩ | ⟨h1, h2, h3, h4, rfl⟩
  · skip
    try simp only [go_sem, reduceCtorEq, Nat.reduceEqDiff, Nat.reduceAdd, Nat.reduceMul, Nat.reduceSub, Nat.reduceLeDiff, Nat.reduceLT, Int.reduceMul, Int.reduceAdd, Int.reduceSub, Int.reduceToNat, hcw, hcI, swC, schC, swH_nx, hnB, ybb, h1, zle]
    try (repeat with_reducible refine And.intro (by first | exact True.intro | decide | omega | (simp [zik, zgl, zgm, zgn, zgp, zgo, zgt]; first | done | omega)) ?_)
    refine ⟨?_, by first | exact hlW _ | (repeat refine AHeap.Le.push ?_ _; exact hlW _), hcl, ?_⟩
    · simp [wk, wk2, wk1, wkLL, wkM, zlf]
    · simp [znm, zno, znp, zmm, zmz, zlf, lt_sl0]
  · skip
    try simp only [go_sem, reduceCtorEq, Nat.reduceEqDiff, Nat.reduceAdd, Nat.reduceMul, Nat.reduceSub, Nat.reduceLeDiff, Nat.reduceLT, Int.reduceMul, Int.reduceAdd, Int.reduceSub, Int.reduceToNat, hcw, hcI, swC, schC, swH_nx, hnB, ybb, h1, h2, zle]
    try (repeat with_reducible refine And.intro (by first | exact True.intro | decide | omega | (simp [zik, zgl, zgm, zgn, zgp, zgo, zgt]; first | done | omega)) ?_)
    refine ⟨?_, by first | exact hlW _ | (repeat refine AHeap.Le.push ?_ _; exact hlW _), hcl, ?_⟩
    · simp [wk, wk2, wk1, wkLL, wkM, zlf]
    · simp [znm, zno, znp, zmm, zmz, zlf, lt_sl0]
  · skip
    try simp only [go_sem, reduceCtorEq, Nat.reduceEqDiff, Nat.reduceAdd, Nat.reduceMul, Nat.reduceSub, Nat.reduceLeDiff, Nat.reduceLT, Int.reduceMul, Int.reduceAdd, Int.reduceSub, Int.reduceToNat, hcw, hcI, swC, schC, swH_nx, hnB, ybb, h1, h2, h3, zle]
    try (repeat with_reducible refine And.intro (by first | exact True.intro | decide | omega | (simp [zik, zgl, zgm, zgn, zgp, zgo, zgt]; first | done | omega)) ?_)
    refine ⟨?_, by first | exact hlW _ | (repeat refine AHeap.Le.push ?_ _; exact hlW _), hcl, ?_⟩
    · simp [wk, wk2, wk1, wkLL, wkM, zlf]
    · simp [znm, zno, znp, zmm, zmz, zlf, lt_sl0]
  · skip
    have d4 : decide (((eSch x).b.length : Int) > 8000) = true := decide_eq_true (by omega)
    try simp only [go_sem, reduceCtorEq, Nat.reduceEqDiff, Nat.reduceAdd, Nat.reduceMul, Nat.reduceSub, Nat.reduceLeDiff, Nat.reduceLT, Int.reduceMul, Int.reduceAdd, Int.reduceSub, Int.reduceToNat, hcw, hcI, swC, schC, swH_nx, hnB, ybb, h1, h2, h3, d4, zle]
    try (repeat with_reducible refine And.intro (by first | exact True.intro | decide | omega | (simp [zik, zgl, zgm, zgn, zgp, zgo, zgt]; first | done | omega)) ?_)
    refine ⟨?_, by first | exact hlW _ | (repeat refine AHeap.Le.push ?_ _; exact hlW _), hcl, ?_⟩
    · simp [wk, wk2, wk1, wkLL, wkM, zlf]
    · simp [znm, zno, znp, zmm, zmz, zlf, lt_sl0]
  · skip
    have d4 : decide (((eSch x).b.length : Int) > 8000) = false := decide_eq_false (by omega)
    try simp only [go_sem, reduceCtorEq, Nat.reduceEqDiff, Nat.reduceAdd, Nat.reduceMul, Nat.reduceSub, Nat.reduceLeDiff, Nat.reduceLT, Int.reduceMul, Int.reduceAdd, Int.reduceSub, Int.reduceToNat, hcw, hcI, swC, schC, swH_nx, hnB, ybb, h1, h2, h3, d4, zle]
    try (repeat with_reducible refine And.intro (by first | exact True.intro | decide | omega | (simp [zik, zgl, zgm, zgn, zgp, zgo, zgt]; first | done | omega)) ?_)
    refine ⟨?_, by first | exact hlW _ | (repeat refine AHeap.Le.push ?_ _; exact hlW _), hcl, ?_⟩
    · simp [wk, wk2, wk1, wkLL, wkM, zlf]
    · simp [znm, zno, znp, zmm, zmz, zlf, lt_sl0]
end Go.AL


open Go Go.AL Go.Proofs
namespace Go.AL
set_option linter.all false
set_option maxRecDepth 10000

def p_yEnc := pEnc
set_option maxHeartbeats 16000000 in
theorem ok_yEnc : EntOk Tryz.prog 18 (Ent.pure p_yEnc) := by
  unfold p_yEnc
  refine EntOk.pure fun args H K h => ?_
  unfold pEnc at h
  split at h
  rotate_left
  · exact h.elim
  rename_i l
  obtain ⟨x, ⟨rfl, ha, hl⟩, hK⟩ := h
  refine ⟨_, hK, ?_⟩
  clear hK
  refine ACalls.of_aw (Ω := [(75, Ent.effect e_yAct), (74, Ent.effect e_yCnt), (72, Ent.effect e_yNum), (73, Ent.effect e_yPac), (77, Ent.effect e_yRol), (76, Ent.effect e_yTab)]) (T := assoc [(2, [[1]])]) mixed (TblOk.cons ok_yAct (TblOk.cons ok_yCnt (TblOk.cons ok_yNum (TblOk.cons ok_yPac (TblOk.cons ok_yRol (TblOk.cons ok_yTab TblOk.nil)))))) Tryz.func18 (by kernel_rfl) (by rfl) (rs := [.tmp 2,.tmp 3]) (by rfl) (by kernel_rfl) (by simp only [Tryz.ntmps18, yaz, yba]; decide) (Nat.le_refl _) fun hcl hlt => ?_
  change aw _ _ _ (KI Tryz.prog [(75, Ent.effect e_yAct), (74, Ent.effect e_yCnt), (72, Ent.effect e_yNum), (73, Ent.effect e_yPac), (77, Ent.effect e_yRol), (76, Ent.effect e_yTab)] (aEnd Tryz.prog [.tmp 2,.tmp 3] H.nx _ _ (assoc [(2, [[1]])])) []) _ _
  clear hlt
  simp only [go_sem, reduceCtorEq, Nat.reduceEqDiff, Nat.reduceAdd, Nat.reduceMul, Nat.reduceSub, Nat.reduceLeDiff, Nat.reduceLT, Int.reduceMul, Int.reduceAdd, Int.reduceSub, Int.reduceToNat, schC, schAV]
  refine weak_cell 4 0 1 (cs := [AV.slice .nil 1 [], .bool false, .bool false, .bool false]) rfl (by simp only [go_sem]) rfl ?_
  obtain ⟨HB, hHB⟩ : ∃ HB, HB = (((H.push (.cells (schC x))).push (.buf 1 0)).push (.cells (swC (H.nx + 1 + 1 + 1) [] false false false))).push (.buf 1 0) := ⟨_, rfl⟩
  have hnB : HB.nx = H.nx + 1 + 1 + 1 + 1 := by rw [hHB]; rfl
  have hW : SOn HB (H.nx + 1 + 1) (H.nx + 1 + 1 + 1) enc0 := by
    rw [hHB]
    exact ⟨by simp [zlb, zky, zlf, swC, enc0], by simp [zlb, zky, enc0]⟩
  have hcB : HB.Closed := by
    have h1 := closed_set (i := H.nx + 1 + 1) (cs := swC (H.nx + 1 + 1 + 1) [] false false false) (closed_buf (a := 1) (b := 0) (closed_cells (cs := []) (closed_buf (a := 1) (b := 0) (closed_cells (cs := schC x) hcl (by have := lt_sch (n := H.nx + 1) x; simp only [schAV, znl] at this; exact this))) trivial)) (by simp only [swC, zno, znp, zna, and_true, zky]; rw [lt_sliceL]; exact ⟨fun id h => (by cases h; omega), trivial⟩)
    simp only [go_sem] at h1
    rw [hHB]; exact h1
  have hcr : cellsOf? HB H.nx = some (schC x) := by rw [hHB]; simp only [go_sem]
  have hle : H.Le HB := by rw [hHB]; repeat (first | exact AHeap.Le.refl _ | refine AHeap.Le.push ?_ _)
  have hcw : ∀ s, cellsOf? (swH HB (H.nx + 1 + 1) (H.nx + 1 + 1 + 1) s) H.nx = some (schC x) := fun s => by rw [swH_cells (by omega) (by omega), hcr]
  have hcI : ∀ s, cellsOf? (swH HB (H.nx + 1 + 1) (H.nx + 1 + 1 + 1) s) (H.nx + 1 + 1) = some (swC (H.nx + 1 + 1 + 1) s.b s.l s.f s.a) := fun s => cells_some (hW.next s).o
  have hlW : ∀ s, H.Le (swH HB (H.nx + 1 + 1) (H.nx + 1 + 1 + 1) s) := fun s => hW.leq hle (by omega) (by omega)
  have hcl1 := fun t => hW.closed (t := t) hcB
  have hF := hW.facts
  simp only [bhq, Nat.reduceMod, Nat.reduceDiv, stepH, stepM, toMs1, toMs, toMs0, strK, pubK, pubF, pubV, yaq, yar, yao, yap, go_sem, zlf, List.set_cons_zero]
  rw [show (((H.push (.cells [.slice .any 3 (x.fields.map fieldAV), .slice .any 3 (x.headers.map headerAV), .slice .any 5 (x.states.map stateAV), .slice .any 5 (x.actions.map actionAV), .slice .any 8 (x.tables.map tableAV), .slice .any 2 (x.stages.map stageAV), .slice .any 6 (x.roles.map roleAV), .slice .any 6 (x.refs.map refAV), .int .i64 x.maxBatch, .int .i64 x.budget])).push (.buf 1 0)).push (.cells [.slice (.own (H.nx + 1 + 1 + 1)) 1 [], .bool false, .bool false, .bool false])).push (.buf 1 0) = HB from hHB.symm]
  clear hHB
  obtain ⟨RE, hRE⟩ : ∃ RE, encO x = RE := ⟨_, rfl⟩
  have hR := encO_cases hRE
  rw [hRE]
  have hTot := eSch_eq x
  rw [enc_0add] at hTot
  have hPk : ((((enc0.add (eNum x.maxBatch 2)).add (eNum x.budget 2)).add (eList eField 32 x.fields)).add (eList eHeader 8 x.headers)).add (eList eState 12 x.states) = ((enc0.add (eNum x.maxBatch 2)).add (eNum x.budget 2)).add (ePacket x) := by
    unfold ePacket
    simp only [enc_assoc]
  rw [hPk] at hTot
  rw [hTot] at hl
  have hl8 := hl
  have hl7 := enc_pre hl8
  have hl6 := enc_pre hl7
  have hl5 := enc_pre hl6
  have hl4 := enc_pre hl5
  have hl3 := enc_pre hl4
  have hl2 := enc_pre hl3
  have hl1 := enc_pre hl2

  try simp only [hcr, go_sem, reduceCtorEq, Nat.reduceEqDiff, Nat.reduceAdd, Nat.reduceMul, Nat.reduceSub, Nat.reduceLeDiff, Nat.reduceLT, Int.reduceMul, Int.reduceAdd, Int.reduceSub, Int.reduceToNat, hcw, hcI, swC, schC, swH_nx, hnB, ybb, clFld, clHdr, clCas, clSta, clPar, clPrm, clKey, clStg, clRef, clGra, clAct, clTab, clRol, AV.cells, actionAV, caseAV, fieldAV, grantAV, headerAV, keyAV, paramAV, primAV, refAV, roleAV, stageAV, stateAV, tableAV, vc, inL, boL, swH_nx]
  refine w_num (.inr rfl) hW hl1 ?_
  try simp only [go_sem, reduceCtorEq, Nat.reduceEqDiff, Nat.reduceAdd, Nat.reduceMul, Nat.reduceSub, Nat.reduceLeDiff, Nat.reduceLT, Int.reduceMul, Int.reduceAdd, Int.reduceSub, Int.reduceToNat, hcw, hcI, swC, schC, swH_nx, hnB, ybb, clFld, clHdr, clCas, clSta, clPar, clPrm, clKey, clStg, clRef, clGra, clAct, clTab, clRol, AV.cells, actionAV, caseAV, fieldAV, grantAV, headerAV, keyAV, paramAV, primAV, refAV, roleAV, stageAV, stateAV, tableAV, vc, inL, boL, swH_nx]
  refine w_num (.inr rfl) (hW.next _) hl2 ?_
  rw [hF.pp]
  try simp only [go_sem, reduceCtorEq, Nat.reduceEqDiff, Nat.reduceAdd, Nat.reduceMul, Nat.reduceSub, Nat.reduceLeDiff, Nat.reduceLT, Int.reduceMul, Int.reduceAdd, Int.reduceSub, Int.reduceToNat, hcw, hcI, swC, schC, swH_nx, hnB, ybb, clFld, clHdr, clCas, clSta, clPar, clPrm, clKey, clStg, clRef, clGra, clAct, clTab, clRol, AV.cells, actionAV, caseAV, fieldAV, grantAV, headerAV, keyAV, paramAV, primAV, refAV, roleAV, stageAV, stateAV, tableAV, vc, inL, boL, swH_nx]
  refine w_el (c := schAV) (ok := OkSch) (g := ePacket) ha (hW.next _) hl3 ?_
  rw [hF.pp]
  have hE10 : ((((enc0.add (eNum x.maxBatch 2)).add (eNum x.budget 2)).add (ePacket x))).add (eList eAction 12 x.actions) = (((((enc0.add (eNum x.maxBatch 2)).add (eNum x.budget 2)).add (ePacket x))).add (eCnt x.actions.length 12)).add (eAll eAction x.actions) := enc_list
  have hT10 := hl4
  rw [hE10] at hT10
  have hN10 := put_len0 one_action hT10
  try simp only [go_sem, reduceCtorEq, Nat.reduceEqDiff, Nat.reduceAdd, Nat.reduceMul, Nat.reduceSub, Nat.reduceLeDiff, Nat.reduceLT, Int.reduceMul, Int.reduceAdd, Int.reduceSub, Int.reduceToNat, hcw, hcI, swC, schC, swH_nx, hnB, ybb, clFld, clHdr, clCas, clSta, clPar, clPrm, clKey, clStg, clRef, clGra, clAct, clTab, clRol, AV.cells, actionAV, caseAV, fieldAV, grantAV, headerAV, keyAV, paramAV, primAV, refAV, roleAV, stageAV, stateAV, tableAV, vc, inL, boL, swH_nx]
  refine w_cnt (hW.next _) (enc_pre hT10) ?_
  rw [hF.pp]
  try simp only [go_sem, reduceCtorEq, Nat.reduceEqDiff, Nat.reduceAdd, Nat.reduceMul, Nat.reduceSub, Nat.reduceLeDiff, Nat.reduceLT, Int.reduceMul, Int.reduceAdd, Int.reduceSub, Int.reduceToNat, hcw, hcI, swC, schC, swH_nx, hnB, ybb, clFld, clHdr, clCas, clSta, clPar, clPrm, clKey, clStg, clRef, clGra, clAct, clTab, clRol, AV.cells, actionAV, caseAV, fieldAV, grantAV, headerAV, keyAV, paramAV, primAV, refAV, roleAV, stageAV, stateAV, tableAV, vc, inL, boL, swH_nx]
  refine loop_introW (A := Nat) (fun k => [(1, .ptr H.nx 0), (4, .ptr (H.nx + 1 + 1) 0), (34, .slice .any 5 (x.actions.map (actionAV))), (35, .int .i64 (x.actions.length : Int)), (36, .int .i64 (k : Int))]) (fun k => swH HB (H.nx + 1 + 1) (H.nx + 1 + 1 + 1) ((((((enc0.add (eNum x.maxBatch 2)).add (eNum x.budget 2)).add (ePacket x))).add (eCnt x.actions.length 12)).add (eAll eAction (x.actions.take k)))) (fun k => k ≤ x.actions.length) (fun k => x.actions.length - k) 0 (by omega) ?_ fun k1 hk1 => ?_
  · rw [yar, eAll, enc_add0]
    refine ⟨by simp only [zkk, zkp, zky, swH_nx]; omega, by repeat (first | exact AHeap.Le.refl _ | refine AHeap.Le.push ?_ _), hcl1 _, ?_, ?_⟩
    · simp [ltF, zky, swH_nx, znh, zmz, zna, lt_map, lt_map lt_fieldAV, lt_map lt_headerAV, lt_map lt_caseAV, lt_map lt_stateAV, lt_map lt_paramAV, lt_map lt_primAV, lt_map lt_keyAV, lt_map lt_stageAV, lt_map lt_refAV, lt_map lt_grantAV, lt_map lt_actionAV, lt_map lt_tableAV, lt_map lt_roleAV, lt_map fun _ => lt_vv, lt_map fun _ => of_eq_true zmz, lt_map fun _ => of_eq_true zna]
      try omega
    · simp [subW, wk2, wk1, wkM, Fr.get]
  simp only [go_sem, reduceCtorEq, Nat.reduceEqDiff, Nat.reduceAdd, Nat.reduceMul, Nat.reduceSub, Nat.reduceLeDiff, Nat.reduceLT, Int.reduceMul, Int.reduceAdd, Int.reduceSub, Int.reduceToNat]
  refine cond_split (fun hc => ?_) (fun hc => ?_)
  · have hk1' : k1 < x.actions.length := by simp at hc; omega
    obtain ⟨x1, hx1⟩ : ∃ x1, x1 = x.actions[k1] := ⟨_, rfl⟩
    have hg1 := getD_map (f := actionAV) (l := x.actions) (k := k1) (x := x1) (by rw [List.getElem?_eq_getElem hk1', hx1])
    have e15 : IntKind.i64.wrap ((k1 : Int) + 1) = ((k1 + 1 : Nat) : Int) := by rw [wrap_i64] <;> omega
    have ho1 := (ha.a) x1 (by rw [hx1]; exact List.getElem_mem hk1')
    obtain ⟨es1, hlk1⟩ := put_step (g := eAction) hk1' hx1 hT10
    simp only [go_sem, reduceCtorEq, Nat.reduceEqDiff, Nat.reduceAdd, Nat.reduceMul, Nat.reduceSub, Nat.reduceLeDiff, Nat.reduceLT, Int.reduceMul, Int.reduceAdd, Int.reduceSub, Int.reduceToNat, hcw, hcI, swC, schC, Int.toNat_natCast, ybb, hg1, actionAV, swH_nx, hnB, ybb, clFld, clHdr, clCas, clSta, clPar, clPrm, clKey, clStg, clRef, clGra, clAct, clTab, clRol, AV.cells, actionAV, caseAV, fieldAV, grantAV, headerAV, keyAV, paramAV, primAV, refAV, roleAV, stageAV, stateAV, tableAV, vc, inL, boL, swH_nx]
    refine ⟨by omega, ?_⟩
    skip
    refine w_el (c := actionAV) (ho1) ((hW.next _).push _) hlk1 ?_
    rw [hF.p1]
    rw [es1]
    simp only [go_sem, reduceCtorEq, Nat.reduceEqDiff, Nat.reduceAdd, Nat.reduceMul, Nat.reduceSub, Nat.reduceLeDiff, Nat.reduceLT, Int.reduceMul, Int.reduceAdd, Int.reduceSub, Int.reduceToNat, e15]
    refine ⟨k1 + 1, by omega, by omega, by simp only [zkk, zkp, zky, swH_nx]; omega, by repeat (first | exact AHeap.Le.refl _ | refine AHeap.Le.push ?_ _), hcl1 _, ?_, ?_⟩
    · simp [ltF, zky, swH_nx, znh, zmz, zna, lt_map lt_fieldAV, lt_map lt_headerAV, lt_map lt_caseAV, lt_map lt_stateAV, lt_map lt_paramAV, lt_map lt_primAV, lt_map lt_keyAV, lt_map lt_stageAV, lt_map lt_refAV, lt_map lt_grantAV, lt_map lt_actionAV, lt_map lt_tableAV, lt_map lt_roleAV, lt_map fun _ => lt_vv, lt_map fun _ => of_eq_true zmz, lt_map fun _ => of_eq_true zna]
      try omega
    · simp [subW, wk2, wk1, wkM, Fr.get]
  · have hk1' : k1 = x.actions.length := by simp at hc; omega
    subst hk1'
    rw [List.take_length]
    rw [← hE10]
    have hE11 : ((((((enc0.add (eNum x.maxBatch 2)).add (eNum x.budget 2)).add (ePacket x))).add (eList eAction 12 x.actions))).add (eList eTable 8 x.tables) = (((((((enc0.add (eNum x.maxBatch 2)).add (eNum x.budget 2)).add (ePacket x))).add (eList eAction 12 x.actions))).add (eCnt x.tables.length 8)).add (eAll eTable x.tables) := enc_list
    have hT11 := hl5
    rw [hE11] at hT11
    have hN11 := put_len0 one_table hT11
    try simp only [go_sem, reduceCtorEq, Nat.reduceEqDiff, Nat.reduceAdd, Nat.reduceMul, Nat.reduceSub, Nat.reduceLeDiff, Nat.reduceLT, Int.reduceMul, Int.reduceAdd, Int.reduceSub, Int.reduceToNat, hcw, hcI, swC, schC, swH_nx, hnB, ybb, clFld, clHdr, clCas, clSta, clPar, clPrm, clKey, clStg, clRef, clGra, clAct, clTab, clRol, AV.cells, actionAV, caseAV, fieldAV, grantAV, headerAV, keyAV, paramAV, primAV, refAV, roleAV, stageAV, stateAV, tableAV, vc, inL, boL, swH_nx]
    refine w_cnt (hW.next _) (enc_pre hT11) ?_
    rw [hF.pp]
    try simp only [go_sem, reduceCtorEq, Nat.reduceEqDiff, Nat.reduceAdd, Nat.reduceMul, Nat.reduceSub, Nat.reduceLeDiff, Nat.reduceLT, Int.reduceMul, Int.reduceAdd, Int.reduceSub, Int.reduceToNat, hcw, hcI, swC, schC, swH_nx, hnB, ybb, clFld, clHdr, clCas, clSta, clPar, clPrm, clKey, clStg, clRef, clGra, clAct, clTab, clRol, AV.cells, actionAV, caseAV, fieldAV, grantAV, headerAV, keyAV, paramAV, primAV, refAV, roleAV, stageAV, stateAV, tableAV, vc, inL, boL, swH_nx]
    refine loop_introW (A := Nat) (fun k => [(1, .ptr H.nx 0), (4, .ptr (H.nx + 1 + 1) 0), (50, .slice .any 8 (x.tables.map (tableAV))), (51, .int .i64 (x.tables.length : Int)), (52, .int .i64 (k : Int))]) (fun k => swH HB (H.nx + 1 + 1) (H.nx + 1 + 1 + 1) ((((((((enc0.add (eNum x.maxBatch 2)).add (eNum x.budget 2)).add (ePacket x))).add (eList eAction 12 x.actions))).add (eCnt x.tables.length 8)).add (eAll eTable (x.tables.take k)))) (fun k => k ≤ x.tables.length) (fun k => x.tables.length - k) 0 (by omega) ?_ fun k1 hk1 => ?_
    · rw [yar, eAll, enc_add0]
      refine ⟨by simp only [zkk, zkp, zky, swH_nx]; omega, by repeat (first | exact AHeap.Le.refl _ | refine AHeap.Le.push ?_ _), hcl1 _, ?_, ?_⟩
      · simp [ltF, zky, swH_nx, znh, zmz, zna, lt_map, lt_map lt_fieldAV, lt_map lt_headerAV, lt_map lt_caseAV, lt_map lt_stateAV, lt_map lt_paramAV, lt_map lt_primAV, lt_map lt_keyAV, lt_map lt_stageAV, lt_map lt_refAV, lt_map lt_grantAV, lt_map lt_actionAV, lt_map lt_tableAV, lt_map lt_roleAV, lt_map fun _ => lt_vv, lt_map fun _ => of_eq_true zmz, lt_map fun _ => of_eq_true zna]
        try omega
      · simp [subW, wk2, wk1, wkM, Fr.get]
    simp only [go_sem, reduceCtorEq, Nat.reduceEqDiff, Nat.reduceAdd, Nat.reduceMul, Nat.reduceSub, Nat.reduceLeDiff, Nat.reduceLT, Int.reduceMul, Int.reduceAdd, Int.reduceSub, Int.reduceToNat]
    refine cond_split (fun hc => ?_) (fun hc => ?_)
    · have hk1' : k1 < x.tables.length := by simp at hc; omega
      obtain ⟨x1, hx1⟩ : ∃ x1, x1 = x.tables[k1] := ⟨_, rfl⟩
      have hg1 := getD_map (f := tableAV) (l := x.tables) (k := k1) (x := x1) (by rw [List.getElem?_eq_getElem hk1', hx1])
      have e15 : IntKind.i64.wrap ((k1 : Int) + 1) = ((k1 + 1 : Nat) : Int) := by rw [wrap_i64] <;> omega
      have ho1 := (ha.t) x1 (by rw [hx1]; exact List.getElem_mem hk1')
      obtain ⟨es1, hlk1⟩ := put_step (g := eTable) hk1' hx1 hT11
      simp only [go_sem, reduceCtorEq, Nat.reduceEqDiff, Nat.reduceAdd, Nat.reduceMul, Nat.reduceSub, Nat.reduceLeDiff, Nat.reduceLT, Int.reduceMul, Int.reduceAdd, Int.reduceSub, Int.reduceToNat, hcw, hcI, swC, schC, Int.toNat_natCast, ybb, hg1, tableAV, swH_nx, hnB, ybb, clFld, clHdr, clCas, clSta, clPar, clPrm, clKey, clStg, clRef, clGra, clAct, clTab, clRol, AV.cells, actionAV, caseAV, fieldAV, grantAV, headerAV, keyAV, paramAV, primAV, refAV, roleAV, stageAV, stateAV, tableAV, vc, inL, boL, swH_nx]
      refine ⟨by omega, ?_⟩
      skip
      refine w_el (c := tableAV) (ho1) ((hW.next _).push _) hlk1 ?_
      rw [hF.p1]
      rw [es1]
      simp only [go_sem, reduceCtorEq, Nat.reduceEqDiff, Nat.reduceAdd, Nat.reduceMul, Nat.reduceSub, Nat.reduceLeDiff, Nat.reduceLT, Int.reduceMul, Int.reduceAdd, Int.reduceSub, Int.reduceToNat, e15]
      refine ⟨k1 + 1, by omega, by omega, by simp only [zkk, zkp, zky, swH_nx]; omega, by repeat (first | exact AHeap.Le.refl _ | refine AHeap.Le.push ?_ _), hcl1 _, ?_, ?_⟩
      · simp [ltF, zky, swH_nx, znh, zmz, zna, lt_map lt_fieldAV, lt_map lt_headerAV, lt_map lt_caseAV, lt_map lt_stateAV, lt_map lt_paramAV, lt_map lt_primAV, lt_map lt_keyAV, lt_map lt_stageAV, lt_map lt_refAV, lt_map lt_grantAV, lt_map lt_actionAV, lt_map lt_tableAV, lt_map lt_roleAV, lt_map fun _ => lt_vv, lt_map fun _ => of_eq_true zmz, lt_map fun _ => of_eq_true zna]
        try omega
      · simp [subW, wk2, wk1, wkM, Fr.get]
    · have hk1' : k1 = x.tables.length := by simp at hc; omega
      subst hk1'
      rw [List.take_length]
      rw [← hE11]
      have hE12 : ((((((((enc0.add (eNum x.maxBatch 2)).add (eNum x.budget 2)).add (ePacket x))).add (eList eAction 12 x.actions))).add (eList eTable 8 x.tables))).add (eList eStage 12 x.stages) = (((((((((enc0.add (eNum x.maxBatch 2)).add (eNum x.budget 2)).add (ePacket x))).add (eList eAction 12 x.actions))).add (eList eTable 8 x.tables))).add (eCnt x.stages.length 12)).add (eAll eStage x.stages) := enc_list
      have hT12 := hl6
      rw [hE12] at hT12
      have hN12 := put_len0 one_stage hT12
      try simp only [go_sem, reduceCtorEq, Nat.reduceEqDiff, Nat.reduceAdd, Nat.reduceMul, Nat.reduceSub, Nat.reduceLeDiff, Nat.reduceLT, Int.reduceMul, Int.reduceAdd, Int.reduceSub, Int.reduceToNat, hcw, hcI, swC, schC, swH_nx, hnB, ybb, clFld, clHdr, clCas, clSta, clPar, clPrm, clKey, clStg, clRef, clGra, clAct, clTab, clRol, AV.cells, actionAV, caseAV, fieldAV, grantAV, headerAV, keyAV, paramAV, primAV, refAV, roleAV, stageAV, stateAV, tableAV, vc, inL, boL, swH_nx]
      refine w_cnt (hW.next _) (enc_pre hT12) ?_
      rw [hF.pp]
      try simp only [go_sem, reduceCtorEq, Nat.reduceEqDiff, Nat.reduceAdd, Nat.reduceMul, Nat.reduceSub, Nat.reduceLeDiff, Nat.reduceLT, Int.reduceMul, Int.reduceAdd, Int.reduceSub, Int.reduceToNat, hcw, hcI, swC, schC, swH_nx, hnB, ybb, clFld, clHdr, clCas, clSta, clPar, clPrm, clKey, clStg, clRef, clGra, clAct, clTab, clRol, AV.cells, actionAV, caseAV, fieldAV, grantAV, headerAV, keyAV, paramAV, primAV, refAV, roleAV, stageAV, stateAV, tableAV, vc, inL, boL, swH_nx]
      refine loop_introW (A := Nat) (fun k => [(1, .ptr H.nx 0), (4, .ptr (H.nx + 1 + 1) 0), (66, .slice .any 2 (x.stages.map (stageAV))), (67, .int .i64 (x.stages.length : Int)), (68, .int .i64 (k : Int))]) (fun k => swH HB (H.nx + 1 + 1) (H.nx + 1 + 1 + 1) ((((((((((enc0.add (eNum x.maxBatch 2)).add (eNum x.budget 2)).add (ePacket x))).add (eList eAction 12 x.actions))).add (eList eTable 8 x.tables))).add (eCnt x.stages.length 12)).add (eAll eStage (x.stages.take k)))) (fun k => k ≤ x.stages.length) (fun k => x.stages.length - k) 0 (by omega) ?_ fun k1 hk1 => ?_
      · rw [yar, eAll, enc_add0]
        refine ⟨by simp only [zkk, zkp, zky, swH_nx]; omega, by repeat (first | exact AHeap.Le.refl _ | refine AHeap.Le.push ?_ _), hcl1 _, ?_, ?_⟩
        · simp [ltF, zky, swH_nx, znh, zmz, zna, lt_map, lt_map lt_fieldAV, lt_map lt_headerAV, lt_map lt_caseAV, lt_map lt_stateAV, lt_map lt_paramAV, lt_map lt_primAV, lt_map lt_keyAV, lt_map lt_stageAV, lt_map lt_refAV, lt_map lt_grantAV, lt_map lt_actionAV, lt_map lt_tableAV, lt_map lt_roleAV, lt_map fun _ => lt_vv, lt_map fun _ => of_eq_true zmz, lt_map fun _ => of_eq_true zna]
          try omega
        · simp [subW, wk2, wk1, wkM, Fr.get]
      simp only [go_sem, reduceCtorEq, Nat.reduceEqDiff, Nat.reduceAdd, Nat.reduceMul, Nat.reduceSub, Nat.reduceLeDiff, Nat.reduceLT, Int.reduceMul, Int.reduceAdd, Int.reduceSub, Int.reduceToNat]
      refine cond_split (fun hc => ?_) (fun hc => ?_)
      · have hk1' : k1 < x.stages.length := by simp at hc; omega
        obtain ⟨x1, hx1⟩ : ∃ x1, x1 = x.stages[k1] := ⟨_, rfl⟩
        have hg1 := getD_map (f := stageAV) (l := x.stages) (k := k1) (x := x1) (by rw [List.getElem?_eq_getElem hk1', hx1])
        have e15 : IntKind.i64.wrap ((k1 : Int) + 1) = ((k1 + 1 : Nat) : Int) := by rw [wrap_i64] <;> omega
        obtain ⟨es1, hlk1⟩ := put_step (g := eStage) hk1' hx1 hT12
        simp only [go_sem, reduceCtorEq, Nat.reduceEqDiff, Nat.reduceAdd, Nat.reduceMul, Nat.reduceSub, Nat.reduceLeDiff, Nat.reduceLT, Int.reduceMul, Int.reduceAdd, Int.reduceSub, Int.reduceToNat, hcw, hcI, swC, schC, Int.toNat_natCast, ybb, hg1, stageAV, swH_nx, hnB, ybb, clFld, clHdr, clCas, clSta, clPar, clPrm, clKey, clStg, clRef, clGra, clAct, clTab, clRol, AV.cells, actionAV, caseAV, fieldAV, grantAV, headerAV, keyAV, paramAV, primAV, refAV, roleAV, stageAV, stateAV, tableAV, vc, inL, boL, swH_nx]
        refine ⟨by omega, ?_⟩
        rw [show eStage x1 = ((eNum x1.table 2).add (eNum x1.header 2)) from rfl] at es1 hlk1
        rw [← enc_assoc] at hlk1
        rw [← enc_assoc] at es1
        have hm10 := enc_pre hlk1
        try simp only [go_sem, reduceCtorEq, Nat.reduceEqDiff, Nat.reduceAdd, Nat.reduceMul, Nat.reduceSub, Nat.reduceLeDiff, Nat.reduceLT, Int.reduceMul, Int.reduceAdd, Int.reduceSub, Int.reduceToNat, hcw, hcI, swC, schC, Int.toNat_natCast, ybb, hg1, stageAV, swH_nx, hnB, ybb, clFld, clHdr, clCas, clSta, clPar, clPrm, clKey, clStg, clRef, clGra, clAct, clTab, clRol, AV.cells, actionAV, caseAV, fieldAV, grantAV, headerAV, keyAV, paramAV, primAV, refAV, roleAV, stageAV, stateAV, tableAV, vc, inL, boL, swH_nx]
        refine w_num (.inr rfl) ((hW.next _).push _) hm10 ?_
        rw [hF.p1]
        try simp only [go_sem, reduceCtorEq, Nat.reduceEqDiff, Nat.reduceAdd, Nat.reduceMul, Nat.reduceSub, Nat.reduceLeDiff, Nat.reduceLT, Int.reduceMul, Int.reduceAdd, Int.reduceSub, Int.reduceToNat, hcw, hcI, swC, schC, Int.toNat_natCast, ybb, hg1, stageAV, swH_nx, hnB, ybb, clFld, clHdr, clCas, clSta, clPar, clPrm, clKey, clStg, clRef, clGra, clAct, clTab, clRol, AV.cells, actionAV, caseAV, fieldAV, grantAV, headerAV, keyAV, paramAV, primAV, refAV, roleAV, stageAV, stateAV, tableAV, vc, inL, boL, swH_nx]
        refine w_num (.inr rfl) ((hW.next _).push _) hlk1 ?_
        rw [hF.p1]
        rw [es1]
        simp only [go_sem, reduceCtorEq, Nat.reduceEqDiff, Nat.reduceAdd, Nat.reduceMul, Nat.reduceSub, Nat.reduceLeDiff, Nat.reduceLT, Int.reduceMul, Int.reduceAdd, Int.reduceSub, Int.reduceToNat, e15]
        refine ⟨k1 + 1, by omega, by omega, by simp only [zkk, zkp, zky, swH_nx]; omega, by repeat (first | exact AHeap.Le.refl _ | refine AHeap.Le.push ?_ _), hcl1 _, ?_, ?_⟩
        · simp [ltF, zky, swH_nx, znh, zmz, zna, lt_map lt_fieldAV, lt_map lt_headerAV, lt_map lt_caseAV, lt_map lt_stateAV, lt_map lt_paramAV, lt_map lt_primAV, lt_map lt_keyAV, lt_map lt_stageAV, lt_map lt_refAV, lt_map lt_grantAV, lt_map lt_actionAV, lt_map lt_tableAV, lt_map lt_roleAV, lt_map fun _ => lt_vv, lt_map fun _ => of_eq_true zmz, lt_map fun _ => of_eq_true zna]
          try omega
        · simp [subW, wk2, wk1, wkM, Fr.get]
      · have hk1' : k1 = x.stages.length := by simp at hc; omega
        subst hk1'
        rw [List.take_length]
        rw [← hE12]
        have hE13 : ((((((((((enc0.add (eNum x.maxBatch 2)).add (eNum x.budget 2)).add (ePacket x))).add (eList eAction 12 x.actions))).add (eList eTable 8 x.tables))).add (eList eStage 12 x.stages))).add (eList eRole 6 x.roles) = (((((((((((enc0.add (eNum x.maxBatch 2)).add (eNum x.budget 2)).add (ePacket x))).add (eList eAction 12 x.actions))).add (eList eTable 8 x.tables))).add (eList eStage 12 x.stages))).add (eCnt x.roles.length 6)).add (eAll eRole x.roles) := enc_list
        have hT13 := hl7
        rw [hE13] at hT13
        have hN13 := put_len0 one_role hT13
        try simp only [go_sem, reduceCtorEq, Nat.reduceEqDiff, Nat.reduceAdd, Nat.reduceMul, Nat.reduceSub, Nat.reduceLeDiff, Nat.reduceLT, Int.reduceMul, Int.reduceAdd, Int.reduceSub, Int.reduceToNat, hcw, hcI, swC, schC, swH_nx, hnB, ybb, clFld, clHdr, clCas, clSta, clPar, clPrm, clKey, clStg, clRef, clGra, clAct, clTab, clRol, AV.cells, actionAV, caseAV, fieldAV, grantAV, headerAV, keyAV, paramAV, primAV, refAV, roleAV, stageAV, stateAV, tableAV, vc, inL, boL, swH_nx]
        refine w_cnt (hW.next _) (enc_pre hT13) ?_
        rw [hF.pp]
        try simp only [go_sem, reduceCtorEq, Nat.reduceEqDiff, Nat.reduceAdd, Nat.reduceMul, Nat.reduceSub, Nat.reduceLeDiff, Nat.reduceLT, Int.reduceMul, Int.reduceAdd, Int.reduceSub, Int.reduceToNat, hcw, hcI, swC, schC, swH_nx, hnB, ybb, clFld, clHdr, clCas, clSta, clPar, clPrm, clKey, clStg, clRef, clGra, clAct, clTab, clRol, AV.cells, actionAV, caseAV, fieldAV, grantAV, headerAV, keyAV, paramAV, primAV, refAV, roleAV, stageAV, stateAV, tableAV, vc, inL, boL, swH_nx]
        refine loop_introW (A := Nat) (fun k => [(1, .ptr H.nx 0), (4, .ptr (H.nx + 1 + 1) 0), (87, .slice .any 6 (x.roles.map (roleAV))), (88, .int .i64 (x.roles.length : Int)), (89, .int .i64 (k : Int))]) (fun k => swH HB (H.nx + 1 + 1) (H.nx + 1 + 1 + 1) ((((((((((((enc0.add (eNum x.maxBatch 2)).add (eNum x.budget 2)).add (ePacket x))).add (eList eAction 12 x.actions))).add (eList eTable 8 x.tables))).add (eList eStage 12 x.stages))).add (eCnt x.roles.length 6)).add (eAll eRole (x.roles.take k)))) (fun k => k ≤ x.roles.length) (fun k => x.roles.length - k) 0 (by omega) ?_ fun k1 hk1 => ?_
        · rw [yar, eAll, enc_add0]
          refine ⟨by simp only [zkk, zkp, zky, swH_nx]; omega, by repeat (first | exact AHeap.Le.refl _ | refine AHeap.Le.push ?_ _), hcl1 _, ?_, ?_⟩
          · simp [ltF, zky, swH_nx, znh, zmz, zna, lt_map, lt_map lt_fieldAV, lt_map lt_headerAV, lt_map lt_caseAV, lt_map lt_stateAV, lt_map lt_paramAV, lt_map lt_primAV, lt_map lt_keyAV, lt_map lt_stageAV, lt_map lt_refAV, lt_map lt_grantAV, lt_map lt_actionAV, lt_map lt_tableAV, lt_map lt_roleAV, lt_map fun _ => lt_vv, lt_map fun _ => of_eq_true zmz, lt_map fun _ => of_eq_true zna]
            try omega
          · simp [subW, wk2, wk1, wkM, Fr.get]
        simp only [go_sem, reduceCtorEq, Nat.reduceEqDiff, Nat.reduceAdd, Nat.reduceMul, Nat.reduceSub, Nat.reduceLeDiff, Nat.reduceLT, Int.reduceMul, Int.reduceAdd, Int.reduceSub, Int.reduceToNat]
        refine cond_split (fun hc => ?_) (fun hc => ?_)
        · have hk1' : k1 < x.roles.length := by simp at hc; omega
          obtain ⟨x1, hx1⟩ : ∃ x1, x1 = x.roles[k1] := ⟨_, rfl⟩
          have hg1 := getD_map (f := roleAV) (l := x.roles) (k := k1) (x := x1) (by rw [List.getElem?_eq_getElem hk1', hx1])
          have e15 : IntKind.i64.wrap ((k1 : Int) + 1) = ((k1 + 1 : Nat) : Int) := by rw [wrap_i64] <;> omega
          have ho1 := (ha.r) x1 (by rw [hx1]; exact List.getElem_mem hk1')
          obtain ⟨es1, hlk1⟩ := put_step (g := eRole) hk1' hx1 hT13
          simp only [go_sem, reduceCtorEq, Nat.reduceEqDiff, Nat.reduceAdd, Nat.reduceMul, Nat.reduceSub, Nat.reduceLeDiff, Nat.reduceLT, Int.reduceMul, Int.reduceAdd, Int.reduceSub, Int.reduceToNat, hcw, hcI, swC, schC, Int.toNat_natCast, ybb, hg1, roleAV, swH_nx, hnB, ybb, clFld, clHdr, clCas, clSta, clPar, clPrm, clKey, clStg, clRef, clGra, clAct, clTab, clRol, AV.cells, actionAV, caseAV, fieldAV, grantAV, headerAV, keyAV, paramAV, primAV, refAV, roleAV, stageAV, stateAV, tableAV, vc, inL, boL, swH_nx]
          refine ⟨by omega, ?_⟩
          skip
          refine w_el (c := roleAV) (ho1) ((hW.next _).push _) hlk1 ?_
          rw [hF.p1]
          rw [es1]
          simp only [go_sem, reduceCtorEq, Nat.reduceEqDiff, Nat.reduceAdd, Nat.reduceMul, Nat.reduceSub, Nat.reduceLeDiff, Nat.reduceLT, Int.reduceMul, Int.reduceAdd, Int.reduceSub, Int.reduceToNat, e15]
          refine ⟨k1 + 1, by omega, by omega, by simp only [zkk, zkp, zky, swH_nx]; omega, by repeat (first | exact AHeap.Le.refl _ | refine AHeap.Le.push ?_ _), hcl1 _, ?_, ?_⟩
          · simp [ltF, zky, swH_nx, znh, zmz, zna, lt_map lt_fieldAV, lt_map lt_headerAV, lt_map lt_caseAV, lt_map lt_stateAV, lt_map lt_paramAV, lt_map lt_primAV, lt_map lt_keyAV, lt_map lt_stageAV, lt_map lt_refAV, lt_map lt_grantAV, lt_map lt_actionAV, lt_map lt_tableAV, lt_map lt_roleAV, lt_map fun _ => lt_vv, lt_map fun _ => of_eq_true zmz, lt_map fun _ => of_eq_true zna]
            try omega
          · simp [subW, wk2, wk1, wkM, Fr.get]
        · have hk1' : k1 = x.roles.length := by simp at hc; omega
          subst hk1'
          rw [List.take_length]
          rw [← hE13]
          have hE14 : ((((((((((((enc0.add (eNum x.maxBatch 2)).add (eNum x.budget 2)).add (ePacket x))).add (eList eAction 12 x.actions))).add (eList eTable 8 x.tables))).add (eList eStage 12 x.stages))).add (eList eRole 6 x.roles))).add (eList eRef 8 x.refs) = (((((((((((((enc0.add (eNum x.maxBatch 2)).add (eNum x.budget 2)).add (ePacket x))).add (eList eAction 12 x.actions))).add (eList eTable 8 x.tables))).add (eList eStage 12 x.stages))).add (eList eRole 6 x.roles))).add (eCnt x.refs.length 8)).add (eAll eRef x.refs) := enc_list
          have hT14 := hl8
          rw [hE14] at hT14
          have hN14 := put_len0 one_ref hT14
          try simp only [go_sem, reduceCtorEq, Nat.reduceEqDiff, Nat.reduceAdd, Nat.reduceMul, Nat.reduceSub, Nat.reduceLeDiff, Nat.reduceLT, Int.reduceMul, Int.reduceAdd, Int.reduceSub, Int.reduceToNat, hcw, hcI, swC, schC, swH_nx, hnB, ybb, clFld, clHdr, clCas, clSta, clPar, clPrm, clKey, clStg, clRef, clGra, clAct, clTab, clRol, AV.cells, actionAV, caseAV, fieldAV, grantAV, headerAV, keyAV, paramAV, primAV, refAV, roleAV, stageAV, stateAV, tableAV, vc, inL, boL, swH_nx]
          refine w_cnt (hW.next _) (enc_pre hT14) ?_
          rw [hF.pp]
          try simp only [go_sem, reduceCtorEq, Nat.reduceEqDiff, Nat.reduceAdd, Nat.reduceMul, Nat.reduceSub, Nat.reduceLeDiff, Nat.reduceLT, Int.reduceMul, Int.reduceAdd, Int.reduceSub, Int.reduceToNat, hcw, hcI, swC, schC, swH_nx, hnB, ybb, clFld, clHdr, clCas, clSta, clPar, clPrm, clKey, clStg, clRef, clGra, clAct, clTab, clRol, AV.cells, actionAV, caseAV, fieldAV, grantAV, headerAV, keyAV, paramAV, primAV, refAV, roleAV, stageAV, stateAV, tableAV, vc, inL, boL, swH_nx]
          refine loop_introW (A := Nat) (fun k => [(1, .ptr H.nx 0), (4, .ptr (H.nx + 1 + 1) 0), (103, .slice .any 6 (x.refs.map (refAV))), (104, .int .i64 (x.refs.length : Int)), (105, .int .i64 (k : Int))]) (fun k => swH HB (H.nx + 1 + 1) (H.nx + 1 + 1 + 1) ((((((((((((((enc0.add (eNum x.maxBatch 2)).add (eNum x.budget 2)).add (ePacket x))).add (eList eAction 12 x.actions))).add (eList eTable 8 x.tables))).add (eList eStage 12 x.stages))).add (eList eRole 6 x.roles))).add (eCnt x.refs.length 8)).add (eAll eRef (x.refs.take k)))) (fun k => k ≤ x.refs.length) (fun k => x.refs.length - k) 0 (by omega) ?_ fun k1 hk1 => ?_
          · rw [yar, eAll, enc_add0]
            refine ⟨by simp only [zkk, zkp, zky, swH_nx]; omega, by repeat (first | exact AHeap.Le.refl _ | refine AHeap.Le.push ?_ _), hcl1 _, ?_, ?_⟩
            · simp [ltF, zky, swH_nx, znh, zmz, zna, lt_map, lt_map lt_fieldAV, lt_map lt_headerAV, lt_map lt_caseAV, lt_map lt_stateAV, lt_map lt_paramAV, lt_map lt_primAV, lt_map lt_keyAV, lt_map lt_stageAV, lt_map lt_refAV, lt_map lt_grantAV, lt_map lt_actionAV, lt_map lt_tableAV, lt_map lt_roleAV, lt_map fun _ => lt_vv, lt_map fun _ => of_eq_true zmz, lt_map fun _ => of_eq_true zna]
              try omega
            · simp [subW, wk2, wk1, wkM, Fr.get]
          simp only [go_sem, reduceCtorEq, Nat.reduceEqDiff, Nat.reduceAdd, Nat.reduceMul, Nat.reduceSub, Nat.reduceLeDiff, Nat.reduceLT, Int.reduceMul, Int.reduceAdd, Int.reduceSub, Int.reduceToNat]
          refine cond_split (fun hc => ?_) (fun hc => ?_)
          · have hk1' : k1 < x.refs.length := by simp at hc; omega
            obtain ⟨x1, hx1⟩ : ∃ x1, x1 = x.refs[k1] := ⟨_, rfl⟩
            have hg1 := getD_map (f := refAV) (l := x.refs) (k := k1) (x := x1) (by rw [List.getElem?_eq_getElem hk1', hx1])
            have e15 : IntKind.i64.wrap ((k1 : Int) + 1) = ((k1 + 1 : Nat) : Int) := by rw [wrap_i64] <;> omega
            obtain ⟨es1, hlk1⟩ := put_step (g := eRef) hk1' hx1 hT14
            simp only [go_sem, reduceCtorEq, Nat.reduceEqDiff, Nat.reduceAdd, Nat.reduceMul, Nat.reduceSub, Nat.reduceLeDiff, Nat.reduceLT, Int.reduceMul, Int.reduceAdd, Int.reduceSub, Int.reduceToNat, hcw, hcI, swC, schC, Int.toNat_natCast, ybb, hg1, refAV, swH_nx, hnB, ybb, clFld, clHdr, clCas, clSta, clPar, clPrm, clKey, clStg, clRef, clGra, clAct, clTab, clRol, AV.cells, actionAV, caseAV, fieldAV, grantAV, headerAV, keyAV, paramAV, primAV, refAV, roleAV, stageAV, stateAV, tableAV, vc, inL, boL, swH_nx]
            refine ⟨by omega, ?_⟩
            rw [show eRef x1 = ((eNum x1.table 2).add ((eNum x1.key 1).add ((eNum x1.action 2).add ((eNum x1.param 1).add ((eNum x1.toTable 2).add (eNum x1.toKey 1)))))) from rfl] at es1 hlk1
            rw [← enc_assoc, ← enc_assoc, ← enc_assoc, ← enc_assoc, ← enc_assoc] at hlk1
            rw [← enc_assoc, ← enc_assoc, ← enc_assoc, ← enc_assoc, ← enc_assoc] at es1
            have hm14 := enc_pre hlk1
            have hm13 := enc_pre hm14
            have hm12 := enc_pre hm13
            have hm11 := enc_pre hm12
            have hm10 := enc_pre hm11
            try simp only [go_sem, reduceCtorEq, Nat.reduceEqDiff, Nat.reduceAdd, Nat.reduceMul, Nat.reduceSub, Nat.reduceLeDiff, Nat.reduceLT, Int.reduceMul, Int.reduceAdd, Int.reduceSub, Int.reduceToNat, hcw, hcI, swC, schC, Int.toNat_natCast, ybb, hg1, refAV, swH_nx, hnB, ybb, clFld, clHdr, clCas, clSta, clPar, clPrm, clKey, clStg, clRef, clGra, clAct, clTab, clRol, AV.cells, actionAV, caseAV, fieldAV, grantAV, headerAV, keyAV, paramAV, primAV, refAV, roleAV, stageAV, stateAV, tableAV, vc, inL, boL, swH_nx]
            refine w_num (.inr rfl) ((hW.next _).push _) hm10 ?_
            rw [hF.p1]
            try simp only [go_sem, reduceCtorEq, Nat.reduceEqDiff, Nat.reduceAdd, Nat.reduceMul, Nat.reduceSub, Nat.reduceLeDiff, Nat.reduceLT, Int.reduceMul, Int.reduceAdd, Int.reduceSub, Int.reduceToNat, hcw, hcI, swC, schC, Int.toNat_natCast, ybb, hg1, refAV, swH_nx, hnB, ybb, clFld, clHdr, clCas, clSta, clPar, clPrm, clKey, clStg, clRef, clGra, clAct, clTab, clRol, AV.cells, actionAV, caseAV, fieldAV, grantAV, headerAV, keyAV, paramAV, primAV, refAV, roleAV, stageAV, stateAV, tableAV, vc, inL, boL, swH_nx]
            refine w_num (.inl rfl) ((hW.next _).push _) hm11 ?_
            rw [hF.p1]
            try simp only [go_sem, reduceCtorEq, Nat.reduceEqDiff, Nat.reduceAdd, Nat.reduceMul, Nat.reduceSub, Nat.reduceLeDiff, Nat.reduceLT, Int.reduceMul, Int.reduceAdd, Int.reduceSub, Int.reduceToNat, hcw, hcI, swC, schC, Int.toNat_natCast, ybb, hg1, refAV, swH_nx, hnB, ybb, clFld, clHdr, clCas, clSta, clPar, clPrm, clKey, clStg, clRef, clGra, clAct, clTab, clRol, AV.cells, actionAV, caseAV, fieldAV, grantAV, headerAV, keyAV, paramAV, primAV, refAV, roleAV, stageAV, stateAV, tableAV, vc, inL, boL, swH_nx]
            refine w_num (.inr rfl) ((hW.next _).push _) hm12 ?_
            rw [hF.p1]
            try simp only [go_sem, reduceCtorEq, Nat.reduceEqDiff, Nat.reduceAdd, Nat.reduceMul, Nat.reduceSub, Nat.reduceLeDiff, Nat.reduceLT, Int.reduceMul, Int.reduceAdd, Int.reduceSub, Int.reduceToNat, hcw, hcI, swC, schC, Int.toNat_natCast, ybb, hg1, refAV, swH_nx, hnB, ybb, clFld, clHdr, clCas, clSta, clPar, clPrm, clKey, clStg, clRef, clGra, clAct, clTab, clRol, AV.cells, actionAV, caseAV, fieldAV, grantAV, headerAV, keyAV, paramAV, primAV, refAV, roleAV, stageAV, stateAV, tableAV, vc, inL, boL, swH_nx]
            refine w_num (.inl rfl) ((hW.next _).push _) hm13 ?_
            rw [hF.p1]
            try simp only [go_sem, reduceCtorEq, Nat.reduceEqDiff, Nat.reduceAdd, Nat.reduceMul, Nat.reduceSub, Nat.reduceLeDiff, Nat.reduceLT, Int.reduceMul, Int.reduceAdd, Int.reduceSub, Int.reduceToNat, hcw, hcI, swC, schC, Int.toNat_natCast, ybb, hg1, refAV, swH_nx, hnB, ybb, clFld, clHdr, clCas, clSta, clPar, clPrm, clKey, clStg, clRef, clGra, clAct, clTab, clRol, AV.cells, actionAV, caseAV, fieldAV, grantAV, headerAV, keyAV, paramAV, primAV, refAV, roleAV, stageAV, stateAV, tableAV, vc, inL, boL, swH_nx]
            refine w_num (.inr rfl) ((hW.next _).push _) hm14 ?_
            rw [hF.p1]
            try simp only [go_sem, reduceCtorEq, Nat.reduceEqDiff, Nat.reduceAdd, Nat.reduceMul, Nat.reduceSub, Nat.reduceLeDiff, Nat.reduceLT, Int.reduceMul, Int.reduceAdd, Int.reduceSub, Int.reduceToNat, hcw, hcI, swC, schC, Int.toNat_natCast, ybb, hg1, refAV, swH_nx, hnB, ybb, clFld, clHdr, clCas, clSta, clPar, clPrm, clKey, clStg, clRef, clGra, clAct, clTab, clRol, AV.cells, actionAV, caseAV, fieldAV, grantAV, headerAV, keyAV, paramAV, primAV, refAV, roleAV, stageAV, stateAV, tableAV, vc, inL, boL, swH_nx]
            refine w_num (.inl rfl) ((hW.next _).push _) hlk1 ?_
            rw [hF.p1]
            rw [es1]
            simp only [go_sem, reduceCtorEq, Nat.reduceEqDiff, Nat.reduceAdd, Nat.reduceMul, Nat.reduceSub, Nat.reduceLeDiff, Nat.reduceLT, Int.reduceMul, Int.reduceAdd, Int.reduceSub, Int.reduceToNat, e15]
            refine ⟨k1 + 1, by omega, by omega, by simp only [zkk, zkp, zky, swH_nx]; omega, by repeat (first | exact AHeap.Le.refl _ | refine AHeap.Le.push ?_ _), hcl1 _, ?_, ?_⟩
            · simp [ltF, zky, swH_nx, znh, zmz, zna, lt_map lt_fieldAV, lt_map lt_headerAV, lt_map lt_caseAV, lt_map lt_stateAV, lt_map lt_paramAV, lt_map lt_primAV, lt_map lt_keyAV, lt_map lt_stageAV, lt_map lt_refAV, lt_map lt_grantAV, lt_map lt_actionAV, lt_map lt_tableAV, lt_map lt_roleAV, lt_map fun _ => lt_vv, lt_map fun _ => of_eq_true zmz, lt_map fun _ => of_eq_true zna]
              try omega
            · simp [subW, wk2, wk1, wkM, Fr.get]
          · have hk1' : k1 = x.refs.length := by simp at hc; omega
            subst hk1'
            rw [List.take_length]
            rw [← hE14]
            rw [← hTot]
            rcases hR with ⟨h1, rfl⟩ | ⟨h1, h2, rfl⟩ | ⟨h1, h2, h3, rfl⟩ | ⟨h1, h2, h3, h4, rfl⟩ | ⟨h1, h2, h3, h4, rfl⟩
            · skip
              try simp only [go_sem, reduceCtorEq, Nat.reduceEqDiff, Nat.reduceAdd, Nat.reduceMul, Nat.reduceSub, Nat.reduceLeDiff, Nat.reduceLT, Int.reduceMul, Int.reduceAdd, Int.reduceSub, Int.reduceToNat, hcw, hcI, swC, schC, swH_nx, hnB, ybb, h1, zle]
              try (repeat with_reducible refine And.intro (by first | exact True.intro | decide | omega | (simp [zik, zgl, zgm, zgn, zgp, zgo, zgt]; first | done | omega)) ?_)
              refine ⟨?_, by first | exact hlW _ | (repeat refine AHeap.Le.push ?_ _; exact hlW _), hcl, ?_⟩
              · simp [wk, wk2, wk1, wkLL, wkM, zlf]
              · simp [znm, zno, znp, zmm, zmz, zlf, lt_sl0]
            · skip
              try simp only [go_sem, reduceCtorEq, Nat.reduceEqDiff, Nat.reduceAdd, Nat.reduceMul, Nat.reduceSub, Nat.reduceLeDiff, Nat.reduceLT, Int.reduceMul, Int.reduceAdd, Int.reduceSub, Int.reduceToNat, hcw, hcI, swC, schC, swH_nx, hnB, ybb, h1, h2, zle]
              try (repeat with_reducible refine And.intro (by first | exact True.intro | decide | omega | (simp [zik, zgl, zgm, zgn, zgp, zgo, zgt]; first | done | omega)) ?_)
              refine ⟨?_, by first | exact hlW _ | (repeat refine AHeap.Le.push ?_ _; exact hlW _), hcl, ?_⟩
              · simp [wk, wk2, wk1, wkLL, wkM, zlf]
              · simp [znm, zno, znp, zmm, zmz, zlf, lt_sl0]
            · skip
              try simp only [go_sem, reduceCtorEq, Nat.reduceEqDiff, Nat.reduceAdd, Nat.reduceMul, Nat.reduceSub, Nat.reduceLeDiff, Nat.reduceLT, Int.reduceMul, Int.reduceAdd, Int.reduceSub, Int.reduceToNat, hcw, hcI, swC, schC, swH_nx, hnB, ybb, h1, h2, h3, zle]
              try (repeat with_reducible refine And.intro (by first | exact True.intro | decide | omega | (simp [zik, zgl, zgm, zgn, zgp, zgo, zgt]; first | done | omega)) ?_)
              refine ⟨?_, by first | exact hlW _ | (repeat refine AHeap.Le.push ?_ _; exact hlW _), hcl, ?_⟩
              · simp [wk, wk2, wk1, wkLL, wkM, zlf]
              · simp [znm, zno, znp, zmm, zmz, zlf, lt_sl0]
            · skip
              have d4 : decide (((eSch x).b.length : Int) > 8000) = true := decide_eq_true (by omega)
              try simp only [go_sem, reduceCtorEq, Nat.reduceEqDiff, Nat.reduceAdd, Nat.reduceMul, Nat.reduceSub, Nat.reduceLeDiff, Nat.reduceLT, Int.reduceMul, Int.reduceAdd, Int.reduceSub, Int.reduceToNat, hcw, hcI, swC, schC, swH_nx, hnB, ybb, h1, h2, h3, d4, zle]
              try (repeat with_reducible refine And.intro (by first | exact True.intro | decide | omega | (simp [zik, zgl, zgm, zgn, zgp, zgo, zgt]; first | done | omega)) ?_)
              refine ⟨?_, by first | exact hlW _ | (repeat refine AHeap.Le.push ?_ _; exact hlW _), hcl, ?_⟩
              · simp [wk, wk2, wk1, wkLL, wkM, zlf]
              · simp [znm, zno, znp, zmm, zmz, zlf, lt_sl0]
            · skip
              have d4 : decide (((eSch x).b.length : Int) > 8000) = false := decide_eq_false (by omega)
              try simp only [go_sem, reduceCtorEq, Nat.reduceEqDiff, Nat.reduceAdd, Nat.reduceMul, Nat.reduceSub, Nat.reduceLeDiff, Nat.reduceLT, Int.reduceMul, Int.reduceAdd, Int.reduceSub, Int.reduceToNat, hcw, hcI, swC, schC, swH_nx, hnB, ybb, h1, h2, h3, d4, zle]
              try (repeat with_reducible refine And.intro (by first | exact True.intro | decide | omega | (simp [zik, zgl, zgm, zgn, zgp, zgo, zgt]; first | done | omega)) ?_)
              refine ⟨?_, by first | exact hlW _ | (repeat refine AHeap.Le.push ?_ _; exact hlW _), hcl, ?_⟩
              · simp [wk, wk2, wk1, wkLL, wkM, zlf]
              · simp [znm, zno, znp, zmm, zmz, zlf, lt_sl0]
end Go.AL

