/- Contracts and plain laws, a part of the proof; no condition of its own. -/
import Derived.Test.YtepgdamgklfnmaaGreatM19x
import Derived.Test.YtepgdamgklfnmaaGreatM19m
import Derived.Test.YtepgdamgklfnmaaGreatM19r
open List renaming length_cons → yaz, length_nil → yba, take_succ_cons → yaq, take_zero → yar, drop_succ_cons → yao, drop_zero → yap, length_map → ybb, map_cons → yae, map_nil → yaf, take_of_length_le → ybc, drop_append → ybd, take_append → ybe, drop_eq_nil_of_le → ybf, append_nil → yaj, cons_append → yal, nil_append → yak
open Go Go.AL Go.Proofs
namespace Go.AL
set_option linter.all false
set_option maxRecDepth 10000

def gBig (b : List UInt8) (v : Nat) (n : Int) : Int := (ior .i64 (ior .i64 (ishl .i64 ((cv b (cp v 0) 256 : Nat) : Int) 16) (ishl .i64 ((cv b (cp v 1) 256 : Nat) : Int) 8)) ((cv b (cp v 2) 256 : Nat) : Int)).tmod n
theorem gBig_min {b : List UInt8} {v : Nat} {n : Int} : gBig b (min v b.length) n = gBig b v n := by
  unfold gBig cp
  rw [cv_min_add, cv_min_add, cv_min_add]
def e_CBig : List AV → AHeap → (AEnd → AHeap → Prop) → Prop
  | [.ptr id 0, .int .i64 n], H, K => onC (H.get id) fun b v => (1 ≤ n ∧ n ≤ 1000000000) ∧ K (.ret (.int .i64 (gBig b v n))) (H.set id (codV b (v + 3)))
  | _, _, _ => False
set_option maxHeartbeats 4000000 in
theorem ok_CBig : EntOk Tryz.prog 49 (Ent.effect e_CBig) := by
  refine EntOk.effect fun args H K h => ?_
  unfold e_CBig at h
  split at h
  rotate_left
  · exact h.elim
  rename_i id n
  obtain ⟨b, v, hg, hb, hv, ⟨hn1, hn2⟩, hK⟩ := onC_out h
  refine ⟨_, _, hK, ?_⟩
  clear hK
  refine ACalls.of_aw (Ω := [(29, Ent.effect e_ZNext)]) (T := assoc []) mixed (TblOk.cons ok_ZNext TblOk.nil) Tryz.func49 (by kernel_rfl) (by rfl) (rs := [.tmp 4]) (by rfl) (by kernel_rfl) (by simp only [Tryz.ntmps49, yaz, yba]; decide) (by simp only [zkn]; omega) fun hcl hlt => ?_
  change aw _ _ _ (KI Tryz.prog [(29, Ent.effect e_ZNext)] (aEnd Tryz.prog [.tmp 4] H.nx _ _ (assoc [])) []) _ _
  clear hlt
  have hid := AHeap.get_lt hg
  have hne := ne_nx hid
  have hgc := get_codV (b := b) hid
  have hcl2 : ∀ w, (H.set id (codV b w)).Closed := fun w => closed_set hcl codV_lt
  have e256 : (256 : Int).toNat = 256 := rfl
  have d1 : decide (n < 1) = false := decide_eq_false (by omega)
  simp only [go_sem, reduceCtorEq, Nat.reduceEqDiff, Nat.reduceAdd, Nat.reduceMul, Nat.reduceSub, Nat.reduceLeDiff, Nat.reduceLT, Int.reduceMul, Int.reduceAdd, Int.reduceSub, Int.reduceToNat, byq, e_ZNext, hg, hgc, hne, onC_cod hb, cv_min, codV_min, cp_add, e256, d1]
  refine ⟨⟨by decide, by decide⟩, by decide, ⟨by decide, by decide⟩, by decide, ⟨by decide, by decide⟩, by omega, rfl, AHeap.Le.refl _, hcl2 _, by rw [zmn]; trivial⟩
def e_CEntriesX : List AV → AHeap → (AEnd → AHeap → Prop) → Prop
  | [.ptr id 0, .agg l, .int .i64 n], H, K => ∃ S : Sch, (l = schC S ∧ GenS S ∧ 0 ≤ n ∧ n ≤ 1000) ∧ onC (H.get id) fun b v => K (.ret (.slice (.own (H.nx + 1 + 1)) 5 ((gEntries S b n.toNat v).1.map entryAV))) ((((H.set id (codV b (gEntries S b n.toNat v).2)).push (.cells (schC S))).push (.buf 5 0)).push (.buf 5 (gEntries S b n.toNat v).1.length))
  | _, _, _ => False
set_option maxHeartbeats 4000000 in
theorem ok_CEntriesX : EntOk Tryz.prog 48 (Ent.effect e_CEntriesX) := by
  refine EntOk.effect fun args H K h => ?_
  unfold e_CEntriesX at h
  split at h
  rotate_left
  · exact h.elim
  rename_i id l n
  obtain ⟨S, ⟨rfl, hG, hn0, hn1⟩, h⟩ := h
  obtain ⟨b, v, hg, hb, hv, hK⟩ := onC_out h
  obtain ⟨o1, o2⟩ := gEntries_ok hG (b := b) n.toNat v
  obtain ⟨R, hRd⟩ : ∃ R, gEntries S b n.toNat v = R := ⟨_, rfl⟩
  rw [hRd] at o1 o2 hK
  refine ⟨_, _, hK, ?_⟩
  clear hK h
  have nxE : H.nx ≤ ((((H.set id (codV b R.2)).push (.cells (schC S))).push (.buf 5 0)).push (.buf 5 R.1.length)).nx := by simp only [zkm, zkn]; omega
  refine ACalls.of_aw (Ω := [(84, Ent.pure p_ZLeft), (29, Ent.effect e_ZNext), (85, Ent.effect e_CEntry)]) (T := assoc [(3, [[], [], [], [], [], [2, 4], [2, 4, 5], [2, 4, 5]])]) mixed (TblOk.cons ok_ZLeft (TblOk.cons ok_ZNext (TblOk.cons ok_CEntry TblOk.nil))) Tryz.func48 (by kernel_rfl) (by rfl) (rs := [.tmp 6]) (by rfl) (by kernel_rfl) (by simp only [Tryz.ntmps48, yaz, yba]; decide) nxE fun hcl hlt => ?_
  change aw _ _ _ (KI Tryz.prog [(84, Ent.pure p_ZLeft), (29, Ent.effect e_ZNext), (85, Ent.effect e_CEntry)] (aEnd Tryz.prog [.tmp 6] H.nx _ _ (assoc [(3, [[], [], [], [], [], [2, 4], [2, 4, 5], [2, 4, 5]])])) []) _ _
  clear hlt
  have hid := AHeap.get_lt hg
  have hne := ne_nx hid
  have hne2 := ne_nx (show id < H.nx + 1 + 1 + 1 by omega)
  have hgc := get_codV (b := b) hid
  have hcl2 : ∀ w, (H.set id (codV b w)).Closed := fun w => closed_set hcl codV_lt
  simp only [blkE, blkP, bhq, Nat.reduceMod, Nat.reduceDiv, stepH, stepM, toMs1, toMs, toMs0, strK, pubK, pubF, pubV, yaq, yar, yao, yap, go_sem, reduceCtorEq, Nat.reduceEqDiff, Nat.reduceAdd, Nat.reduceMul, Nat.reduceSub, Nat.reduceLeDiff, Nat.reduceLT, Int.reduceMul, Int.reduceAdd, Int.reduceSub, Int.reduceToNat]
  obtain ⟨HL, hHL⟩ : ∃ HL : Nat → Nat → AHeap, HL = fun w k => (((H.set id (codV b w)).push (.cells (schC S))).push (.buf 5 0)).push (.buf 5 k) := ⟨_, rfl⟩
  have hclL : ∀ w k, (HL w k).Closed := fun w k => by
    rw [hHL]
    exact closed_buf (closed_buf (closed_cells (hcl2 w) (ltL_iff.2 fun j hj => AV.lt_cells (lt_sch S) j hj)))
  refine loop_introW (A := List SEntry × Nat) (fun x => [(0, .ptr id 0), (2, .int .i64 n), (4, .ptr H.nx 0), (7, .slice (.own (H.nx + 1 + 1)) 5 (x.1.map entryAV))]) (fun x => HL x.2 x.1.length) (fun x => x.1.length ≤ n.toNat ∧ x.1 ++ (gEntries S b (n.toNat - x.1.length) x.2).1 = R.1 ∧ (gEntries S b (n.toNat - x.1.length) x.2).2 = R.2) (fun x => n.toNat - x.1.length) ([], v) ⟨by simp, by rw [← hRd]; rfl, by rw [← hRd]; rfl⟩ ?_ fun x hx => ?_
  · rw [hHL]
    refine ⟨by simp only [zkm, zkn, zjy, zkd]; omega, by dsimp only; rw [show codV b v = codV b (cp v 0) from rfl, set_selfZ hg]; exact AHeap.Le.refl _, by have := hclL v 0; rw [hHL] at this; exact this, ?_, ?_⟩
    · simp [ltF, zkm, zkn, zmv, zmn, lt_sliceL, znd]
      omega
    · simp [subW, wk2, wk1, wkM, Fr.get]
  obtain ⟨es, w⟩ := x
  obtain ⟨hx1, hx2, hx3⟩ := hx
  dsimp only at hx1 hx2 hx3 ⊢
  rw [hHL]
  dsimp only
  by_cases hlt : es.length < n.toNat
  · have d1 : decide ((es.length : Int) < n) = true := decide_eq_true (by omega)
    simp only [blkE, blkP, bhq, Nat.reduceMod, Nat.reduceDiv, stepH, stepM, toMs1, toMs, toMs0, strK, pubK, pubF, pubV, yaq, yar, yao, yap, go_sem, reduceCtorEq, Nat.reduceEqDiff, Nat.reduceAdd, Nat.reduceMul, Nat.reduceSub, Nat.reduceLeDiff, Nat.reduceLT, Int.reduceMul, Int.reduceAdd, Int.reduceSub, Int.reduceToNat, schC, hg, hgc, hne, hne2, e_ZNext, e_CEntry, p_ZLeft, ybb, Int.toNat_natCast, d1]
    refine ⟨b, ((min w b.length : Nat) : Int), rfl, ?_⟩
    by_cases hw : w < b.length
    · have d2 : decide (((min w b.length : Nat) : Int) < (b.length : Int)) = true := decide_eq_true (by omega)
      have hk : n.toNat - es.length = (n.toNat - (es.length + 1)) + 1 := by omega
      rw [hk] at hx2 hx3
      simp only [gEntries, if_pos hw] at hx2 hx3
      have hst : ∀ m v, (gsEntry S m b v) = (entryAV (gEntry S b v m).1, (gEntry S b v m).2) := fun _ _ => rfl
      have e4 : (4 : Int).toNat = 4 := rfl
      have hcv := cv_lt (b := b) (v := w) (n := 4) (by decide)
      have e4' : (1 ≤ (4 : Int) ∧ (4 : Int) ≤ 1000000) = True := by simp
      simp only [blkE, blkP, bhq, Nat.reduceMod, Nat.reduceDiv, stepH, stepM, toMs1, toMs, toMs0, strK, pubK, pubF, pubV, yaq, yar, yao, yap, go_sem, reduceCtorEq, Nat.reduceEqDiff, Nat.reduceAdd, Nat.reduceMul, Nat.reduceSub, Nat.reduceLeDiff, Nat.reduceLT, Int.reduceMul, Int.reduceAdd, Int.reduceSub, Int.reduceToNat, schC, hg, hgc, hne, hne2, e_ZNext, onC_cod hb, onS_cod hb (st_entry _ _), cv_min, codV_min, cp_add, cp0, ybb, Int.toNat_natCast, d2, e4, e4', e_CEntry]
      refine ⟨S, ⟨rfl, hG, by omega, by omega⟩, ?_⟩
      simp only [blkE, blkP, bhq, Nat.reduceMod, Nat.reduceDiv, stepH, stepM, toMs1, toMs, toMs0, strK, pubK, pubF, pubV, yaq, yar, yao, yap, go_sem, reduceCtorEq, Nat.reduceEqDiff, Nat.reduceAdd, Nat.reduceMul, Nat.reduceSub, Nat.reduceLeDiff, Nat.reduceLT, Int.reduceMul, Int.reduceAdd, Int.reduceSub, Int.reduceToNat, schC, hg, hgc, hne, hne2, hst, entryAV, entryC, cp0, ybb, Int.toNat_natCast]
      have hsub : n.toNat - (es.length + 1) = n.toNat - (es ++ [(gEntry S b (w + 1) ((cv b w 4 : Nat) : Int)).1]).length := by simp
      rw [hsub] at hx2 hx3
      have hcl1 := hclL (gEntry S b (w + 1) ((cv b w 4 : Nat) : Int)).2 (es.length + 1)
      rw [hHL] at hcl1
      have hlm : ∀ j, AV.lt j (.slice (.own (H.nx + 1 + 1)) 5 (es.map entryAV ++ [entryAV (gEntry S b (w + 1) ((cv b w 4 : Nat) : Int)).1])) = (H.nx + 1 + 1 < j) := fun j => by
        rw [lt_sliceL]
        refine propext ⟨fun h => h.1 _ rfl, fun h => ⟨fun i e => (by cases e; exact h), ltL_iff.2 fun i hi => ?_⟩⟩
        have := List.getElem_mem hi
        rw [List.mem_append, List.mem_map, List.mem_singleton] at this
        rcases this with ⟨x, _, e⟩ | e
        · rw [← e]; exact lt_entry x
        · rw [e]; exact lt_entry _
      refine ⟨⟨by omega, by omega, fun z hz => by rw [List.mem_singleton.1 hz]; rfl⟩, (es ++ [(gEntry S b (w + 1) ((cv b w 4 : Nat) : Int)).1], (gEntry S b (w + 1) ((cv b w 4 : Nat) : Int)).2), ⟨by simp; omega, by rw [List.append_assoc]; exact hx2, hx3⟩, by simp; omega, ?_⟩
      dsimp only
      rw [List.map_append, yae, yaf, List.length_append, yaz, yba, Nat.zero_add]
      refine ⟨by simp only [zkm, zkn, zkd, zjy, KI_n0]; omega, by repeat (first | exact AHeap.Le.refl _ | refine AHeap.Le.push ?_ _), hcl1, ?_, ?_⟩
      · simp only [ltF, zkm, zkn, zmv, zmn, hlm]
        refine ⟨by omega, trivial, by omega, by omega, trivial⟩
      · simp [subW, wk2, wk1, wkM, Fr.get, entryAV, entryC]
    · have d2 : decide (((min w b.length : Nat) : Int) < (b.length : Int)) = false := decide_eq_false (by omega)
      have hx2' : es = R.1 := by
        rw [← hx2]
        cases h : n.toNat - es.length with
        | zero => simp [gEntries]
        | succ k => simp [gEntries, hw]
      have hx3' : w = R.2 := by
        rw [← hx3]
        cases h : n.toNat - es.length with
        | zero => simp [gEntries]
        | succ k => simp [gEntries, hw]
      rw [← hx2', ← hx3']
      simp only [blkE, blkP, bhq, Nat.reduceMod, Nat.reduceDiv, stepH, stepM, toMs1, toMs, toMs0, strK, pubK, pubF, pubV, yaq, yar, yao, yap, go_sem, reduceCtorEq, Nat.reduceEqDiff, Nat.reduceAdd, Nat.reduceMul, Nat.reduceSub, Nat.reduceLeDiff, Nat.reduceLT, Int.reduceMul, Int.reduceAdd, Int.reduceSub, Int.reduceToNat, schC, hg, hgc, hne, hne2, e_ZNext, onC_cod hb, onS_cod hb (st_entry _ _), cv_min, codV_min, cp_add, cp0, ybb, Int.toNat_natCast, d2]
      have hce := hclL w es.length
      rw [hHL] at hce
      simp only [schC] at hce
      simp (disch := first | assumption | omega | (simp; done) | (simp; omega) | (simp only [bt, and_true]; first | done | omega | (simp; done))) [↓zlw, beq, ybc, ybd, ybe, endOk, wk, wk2, wk1, wkM, wkL, wkLL, ybf, hcl2, hce]
      exact lt_ownE
  · have d1 : decide ((es.length : Int) < n) = false := decide_eq_false (by omega)
    have h0 : n.toNat - es.length = 0 := by omega
    rw [h0] at hx2 hx3
    simp only [gEntries, yaj] at hx2 hx3
    simp only [blkE, blkP, bhq, Nat.reduceMod, Nat.reduceDiv, stepH, stepM, toMs1, toMs, toMs0, strK, pubK, pubF, pubV, yaq, yar, yao, yap, go_sem, reduceCtorEq, Nat.reduceEqDiff, Nat.reduceAdd, Nat.reduceMul, Nat.reduceSub, Nat.reduceLeDiff, Nat.reduceLT, Int.reduceMul, Int.reduceAdd, Int.reduceSub, Int.reduceToNat, schC, hg, hgc, hne, hne2, e_ZNext, e_CEntry, p_ZLeft, ybb, Int.toNat_natCast, d1]
    rw [← hx2, ← hx3]
    have hce := hclL w es.length
    rw [hHL] at hce
    simp only [schC] at hce
    simp (disch := first | assumption | omega | (simp; done) | (simp; omega) | (simp only [bt, and_true]; first | done | omega | (simp; done))) [↓zlw, beq, ybc, ybd, ybe, endOk, wk, wk2, wk1, wkM, wkL, wkLL, ybf, hcl2, hce]
    exact lt_ownE
def gRec (b : List UInt8) (v : Nat) : SRec × Nat := (⟨gBig b v 1048576, cv b (cp v 3) 6, cv b (cp v 4) 8, cv b (cp v 5) 7, cv b (cp v 6) 27, cv b (cp v 7) 5, cv b (cp v 8) 5⟩, cp v 9)
def gRecs (b : List UInt8) : Nat → Nat → List SRec × Nat
  | 0, v => ([], v)
  | n + 1, v => ((gRec b v).1 :: (gRecs b n (gRec b v).2).1, (gRecs b n (gRec b v).2).2)
/-- the response that is made of choices -/
def gResp (S : Sch) (b : List UInt8) (v : Nat) : SResp × Nat :=
  let co : Int := cv b (cp v 0) 27
  let fa : Int := cv b (cp v 1) 20
  let pr : Bool := decide (cv b (cp v 2) 2 = 1)
  if cv b (cp v 3) 3 = 0 then (⟨co, fa, pr, (gEntries S b 4 (min (cp v 4) b.length)).1, [], false, 0, 0, []⟩, (gEntries S b 4 (min (cp v 4) b.length)).2)
  else if cv b (cp v 3) 3 = 1 then (⟨co, fa, pr, [], (gRecs b (cv b (cp v 4) 5) (cp v 5)).1, false, 0, 0, []⟩, (gRecs b (cv b (cp v 4) 5) (cp v 5)).2)
  else (⟨co, fa, pr, [], [], decide (cv b (cp v 4) 2 = 1), cv b (cp v 5) 6, gBig b (cp v 6) 65536, gB b (cv b (cp v 9) 60) (cp v 10)⟩, cp v 11)
end Go.AL


open Go Go.AL Go.Proofs
namespace Go.AL
set_option linter.all false
set_option maxRecDepth 10000

def e_CResponse : List AV → AHeap → (AEnd → AHeap → Prop) → Prop
  | [.ptr id 0, .agg l], H, K => ∃ S : Sch, (l = schC S ∧ GenS S) ∧ onC (H.get id) fun b v => K (.ret (respAV (gResp S b v).1)) (H.set id (codV b (gResp S b v).2))
  | _, _, _ => False
set_option maxHeartbeats 4000000 in
theorem ok_CResponse : EntOk Tryz.prog 17 (Ent.effect e_CResponse) := by
  refine EntOk.effect fun args H K h => ?_
  unfold e_CResponse at h
  split at h
  rotate_left
  · exact h.elim
  rename_i id l
  obtain ⟨S, ⟨rfl, hS⟩, h⟩ := h
  obtain ⟨b, v, hg, hb, hv, hK⟩ := onC_out h
  refine ⟨_, _, hK, ?_⟩
  clear hK h
  obtain ⟨R, hR⟩ : ∃ R, gResp S b v = R := ⟨_, rfl⟩
  rw [hR]
  unfold gResp at hR
  dsimp only at hR
  refine ACalls.of_aw (Ω := [(29, Ent.effect e_ZNext), (34, Ent.effect e_CBoolD), (48, Ent.effect e_CEntriesX), (49, Ent.effect e_CBig), (50, Ent.effect e_CBytes)]) (T := assoc [(10, [[], [], [], [], [], [3], [], [3, 5], [], [3, 5, 7], [], [3, 5, 7, 9], [], [3, 5, 7, 9, 11], [], [3, 5, 7, 9, 11, 13], [], [3, 5, 7, 9, 11, 13, 15], [1, 3, 5, 7, 9, 11, 13, 15], [], [1, 3, 5, 7, 9, 11, 13, 15]]), (7, [[1]])]) mixed (TblOk.cons ok_ZNext (TblOk.cons ok_CBoolD (TblOk.cons ok_CEntriesX (TblOk.cons ok_CBig (TblOk.cons ok_CBytes TblOk.nil))))) Tryz.func17 (by kernel_rfl) (by rfl) (rs := [.cell 4 56]) (by rfl) (by kernel_rfl) (by simp only [Tryz.ntmps17, yaz, yba]; decide) (by simp only [zkn]; omega) fun hcl hlt => ?_
  change aw _ _ _ (KI Tryz.prog [(29, Ent.effect e_ZNext), (34, Ent.effect e_CBoolD), (48, Ent.effect e_CEntriesX), (49, Ent.effect e_CBig), (50, Ent.effect e_CBytes)] (aEnd Tryz.prog [.cell 4 56] H.nx _ _ (assoc [(10, [[], [], [], [], [], [3], [], [3, 5], [], [3, 5, 7], [], [3, 5, 7, 9], [], [3, 5, 7, 9, 11], [], [3, 5, 7, 9, 11, 13], [], [3, 5, 7, 9, 11, 13, 15], [1, 3, 5, 7, 9, 11, 13, 15], [], [1, 3, 5, 7, 9, 11, 13, 15]]), (7, [[1]])])) []) _ _
  clear hlt
  have hid := AHeap.get_lt hg
  have hne := ne_nx hid
  have hgc := get_codV (b := b) hid
  have hcl2 : ∀ w, (H.set id (codV b w)).Closed := fun w => closed_set hcl codV_lt
  have t27 : (27 : Int).toNat = 27 := rfl
  have t20 : (20 : Int).toNat = 20 := rfl
  have t3 : (3 : Int).toNat = 3 := rfl
  have t5 : (5 : Int).toNat = 5 := rfl
  have t6 : (6 : Int).toNat = 6 := rfl
  have t8 : (8 : Int).toNat = 8 := rfl
  have t7 : (7 : Int).toNat = 7 := rfl
  have t60 : (60 : Int).toNat = 60 := rfl
  have t2 : (2 : Int).toNat = 2 := rfl
  have h3 := cv_lt (b := b) (v := cp v 3) (n := 3) (by decide)
  simp only [go_sem, reduceCtorEq, Nat.reduceEqDiff, Nat.reduceAdd, Nat.reduceMul, Nat.reduceSub, Nat.reduceLeDiff, Nat.reduceLT, Int.reduceMul, Int.reduceAdd, Int.reduceSub, Int.reduceToNat, byq, Int.reduceBEq, e_ZNext, e_CBoolD, e_CBig, e_CBytes, hg, hgc, hne, onC_cod hb, cv_min, codV_min, cp_add, Int.toNat_natCast, gBig_min, gB_min, t27, t20, t3, t5, t6, t8, t7, t60, t2, schC]
  refine ⟨⟨by decide, by decide⟩, ⟨by decide, by decide⟩, ⟨by decide, by decide⟩, ?_⟩
  have hk3 : cv b (cp v 3) 3 = 0 ∨ cv b (cp v 3) 3 = 1 ∨ cv b (cp v 3) 3 = 2 := by omega
  rcases hk3 with hk | hk | hk
  · rw [hk] at hR ⊢
    simp only [Nat.reduceEqDiff, if_true, if_false] at hR
    subst hR
    simp only [go_sem, reduceCtorEq, Nat.reduceEqDiff, Nat.reduceAdd, Nat.reduceMul, Nat.reduceSub, Nat.reduceLeDiff, Nat.reduceLT, Int.reduceMul, Int.reduceAdd, Int.reduceSub, Int.reduceToNat, byq, Int.reduceBEq, e_ZNext, e_CBoolD, e_CBig, e_CBytes, hg, hgc, hne, onC_cod hb, cv_min, codV_min, cp_add, Int.toNat_natCast, gBig_min, gB_min, t27, t20, t3, t5, t6, t8, t7, t60, t2, Int.natCast_zero, e_CEntriesX, schC]
    refine ⟨S, ⟨rfl, hS, by decide, by decide⟩, ?_, by repeat (first | exact AHeap.Le.refl _ | refine AHeap.Le.push ?_ _), hcl2 _, lt_resp _⟩
    simp [wk, wk2, wkL, wk1, wkM, respAV, respC, zkt]
  · rw [hk] at hR ⊢
    simp only [Nat.reduceEqDiff, if_true, if_false, Nat.one_ne_zero, reduceCtorEq] at hR
    subst hR
    simp only [go_sem, reduceCtorEq, Nat.reduceEqDiff, Nat.reduceAdd, Nat.reduceMul, Nat.reduceSub, Nat.reduceLeDiff, Nat.reduceLT, Int.reduceMul, Int.reduceAdd, Int.reduceSub, Int.reduceToNat, byq, Int.reduceBEq, e_ZNext, e_CBoolD, e_CBig, e_CBytes, hg, hgc, hne, onC_cod hb, cv_min, codV_min, cp_add, Int.toNat_natCast, gBig_min, gB_min, t27, t20, t3, t5, t6, t8, t7, t60, t2, Int.natCast_one, e_CEntriesX, schC]
    refine weak_cell 5 4 7 (cs := [.int .i64 ((cv b (cp v 0) 27 : Nat) : Int), .int .i64 ((cv b (cp v 1) 20 : Nat) : Int), .bool (decide (cv b (cp v 2) 2 = 1)), .slice .nil 1 [], .slice .nil 1 [], .bool false, .int .i64 0, .int .i64 0, .slice .nil 1 []]) rfl (by simp only [go_sem]) rfl ?_
    simp only [blkE, blkP, bhq, Nat.reduceMod, Nat.reduceDiv, stepH, stepM, toMs1, toMs, toMs0, strK, pubK, pubF, pubV, yaq, yar, yao, yap, go_sem, reduceCtorEq, Nat.reduceEqDiff, Nat.reduceAdd, Nat.reduceMul, Nat.reduceSub, Nat.reduceLeDiff, Nat.reduceLT, Int.reduceMul, Int.reduceAdd, Int.reduceSub, Int.reduceToNat, byq, Int.reduceBEq, e_ZNext, e_CBoolD, e_CBig, e_CBytes, hg, hgc, hne, onC_cod hb, cv_min, codV_min, cp_add, Int.toNat_natCast, gBig_min, gB_min, t27, t20, t3, t5, t6, t8, t7, t60, t2, List.set_cons_succ, List.set_cons_zero]
    have hc5 := cv_lt (b := b) (v := cp v 4) (n := 5) (by decide)
    refine ⟨⟨by decide, by decide⟩, ?_⟩
    generalize hU : gRecs b (cv b (cp v 4) 5) (cp v 5) = U
    have hcR : ∀ (w : Nat) (us : List SRec), (((((H.set id (codV b w)).push (.cells (schC S))).push (.cells [.int .i64 0, .int .i64 0, .bool false, .slice .nil 1 [], .slice .nil 1 [], .bool false, .int .i64 0, .int .i64 0, .slice .nil 1 []])).push (.cells [.int .i64 (cv b (cp v 0) 27 : Nat), .int .i64 (cv b (cp v 1) 20 : Nat), .bool (decide (cv b (cp v 2) 2 = 1)), .slice .nil 1 [], .slice (.own (H.nx + 1 + 1 + 1)) 7 (us.map recAV), .bool false, .int .i64 0, .int .i64 0, .slice .nil 1 []])).push (.buf 7 us.length)).Closed := fun w us => by
      have h0 : (((((H.set id (codV b w)).push (.cells (schC S))).push (.cells [.int .i64 0, .int .i64 0, .bool false, .slice .nil 1 [], .slice .nil 1 [], .bool false, .int .i64 0, .int .i64 0, .slice .nil 1 []])).push (.cells [])).push (.buf 7 us.length)).Closed := by
        repeat' (first | exact hcl2 _ | refine closed_buf ?_ | refine closed_cells ?_ ?_)
        · exact ltL_iff.2 fun j hj => AV.lt_cells (lt_sch S) j hj
        · simp [lt_sliceL, znc, znd, zmn, zmo]
        · trivial
      have h1 := closed_set (i := H.nx + 1 + 1) (cs := [.int .i64 (cv b (cp v 0) 27 : Nat), .int .i64 (cv b (cp v 1) 20 : Nat), .bool (decide (cv b (cp v 2) 2 = 1)), .slice .nil 1 [], .slice (.own (H.nx + 1 + 1 + 1)) 7 (us.map recAV), .bool false, .int .i64 0, .int .i64 0, .slice .nil 1 []]) h0 (by
        simp [znc, znd, zmn, zmo, zkm, zkn, lt_sliceL]
        exact ltL_iff.2 fun j hj => by rw [List.getElem_map]; exact lt_rec _)
      simp only [go_sem, hne] at h1
      exact h1
    refine loop_introW (A := Nat × Nat × List SRec) (fun x => [(0, .ptr id 0), (4, .ptr (H.nx + 1) 0), (5, .ptr (H.nx + 1 + 1) 0), (6, .int .i64 (x.1 : Int))]) (fun x => (((((H.set id (codV b x.2.1)).push (.cells (schC S))).push (.cells [.int .i64 0, .int .i64 0, .bool false, .slice .nil 1 [], .slice .nil 1 [], .bool false, .int .i64 0, .int .i64 0, .slice .nil 1 []])).push (.cells [.int .i64 (cv b (cp v 0) 27 : Nat), .int .i64 (cv b (cp v 1) 20 : Nat), .bool (decide (cv b (cp v 2) 2 = 1)), .slice .nil 1 [], .slice (.own (H.nx + 1 + 1 + 1)) 7 (x.2.2.map recAV), .bool false, .int .i64 0, .int .i64 0, .slice .nil 1 []])).push (.buf 7 x.2.2.length))) (fun x => x.2.2.length + x.1 ≤ 4 ∧ x.2.2 ++ (gRecs b x.1 x.2.1).1 = U.1 ∧ (gRecs b x.1 x.2.1).2 = U.2) (fun x => x.1) (cv b (cp v 4) 5, cp v 5, []) ⟨by simp; omega, by rw [hU]; rfl, by rw [hU]⟩ ?_ fun x hx => ?_
    · refine ⟨by simp only [zjy, zkd, zkm, zkn]; omega, AHeap.Le.refl _, hcR _ _, ?_, ?_⟩
      · simp [ltF, zmn, zmv, zkm, zkn]
        try omega
      · simp [subW, wk2, wk1, wkM, Fr.get]
    obtain ⟨n, w, us⟩ := x
    obtain ⟨hn, h1, h2⟩ := hx
    dsimp only at hn h1 h2 ⊢
    simp only [go_sem, reduceCtorEq, Nat.reduceEqDiff, Nat.reduceAdd, Nat.reduceMul, Nat.reduceSub, Nat.reduceLeDiff, Nat.reduceLT, Int.reduceMul, Int.reduceAdd, Int.reduceSub, Int.reduceToNat]
    refine cond_split (fun hc => ?_) (fun hc => ?_)
    · obtain ⟨n, rfl⟩ : ∃ m, n = m + 1 := ⟨n - 1, by simp at hc; omega⟩
      have e5 : IntKind.i64.wrap (((n + 1 : Nat) : Int) - 1) = ((n : Nat) : Int) := by rw [wrap_i64] <;> omega
      have hcp : codV b w = codV b (cp w 0) := rfl
      have hcp2 : codV b (w + 3) = codV b (cp w 3) := rfl
      simp only [go_sem, reduceCtorEq, Nat.reduceEqDiff, Nat.reduceAdd, Nat.reduceMul, Nat.reduceSub, Nat.reduceLeDiff, Nat.reduceLT, Int.reduceMul, Int.reduceAdd, Int.reduceSub, Int.reduceToNat, byq, Int.reduceBEq, e_ZNext, e_CBoolD, e_CBig, e_CBytes, hg, hgc, hne, onC_cod hb, cv_min, codV_min, cp_add, Int.toNat_natCast, gBig_min, gB_min, t27, t20, t3, t5, t6, t8, t7, t60, t2, hcp, List.set_cons_succ, List.set_cons_zero, ybb, e5]
      have hge : gRecs b (n + 1) w = ((gRec b w).1 :: (gRecs b n (gRec b w).2).1, (gRecs b n (gRec b w).2).2) := rfl
      rw [hge] at h1 h2
      dsimp only at h1 h2
      refine ⟨⟨by decide, by decide⟩, ⟨by decide, by decide⟩, ⟨by decide, by decide⟩, ⟨by decide, by decide⟩, ⟨by decide, by decide⟩, ⟨by decide, by decide⟩, ⟨by decide, by decide⟩, ⟨by omega, by omega, fun z hz => by rw [List.mem_singleton] at hz; subst hz; rfl⟩, (n, cp w 9, us ++ [(gRec b w).1]), ⟨by simp only [List.length_append, yaz, yba]; omega, by rw [← h1]; simp [List.append_assoc, gRec], h2⟩, by dsimp only; omega, ?_⟩
      refine ⟨by simp only [zkm, zkn]; omega, ?_, hcR _ _, ?_, ?_⟩
      · simp only [List.map_append, yae, yaf, recAV, recC, gRec, cp0, List.length_append, yaz, yba, schC, yal, yak]
        repeat (first | exact AHeap.Le.refl _ | refine AHeap.Le.push ?_ _)
      · simp [ltF, zmn, zmv, zkm, zkn]
        try omega
      · simp [subW, wk2, wk1, wkM, Fr.get]
    · have hn0 : n = 0 := by simp at hc; omega
      subst hn0
      simp only [gRecs, yaj] at h1 h2
      rw [h1]
      simp only [go_sem, reduceCtorEq, Nat.reduceEqDiff, Nat.reduceAdd, Nat.reduceMul, Nat.reduceSub, Nat.reduceLeDiff, Nat.reduceLT, Int.reduceMul, Int.reduceAdd, Int.reduceSub, Int.reduceToNat, byq, Int.reduceBEq, e_ZNext, e_CBoolD, e_CBig, e_CBytes, hg, hgc, hne, onC_cod hb, cv_min, codV_min, cp_add, Int.toNat_natCast, gBig_min, gB_min, t27, t20, t3, t5, t6, t8, t7, t60, t2]
      rw [← h2]
      refine ⟨?_, by repeat (first | exact AHeap.Le.refl _ | refine AHeap.Le.push ?_ _), hcl2 _, lt_resp _⟩
      simp [wk, wk2, wkL, wk1, wkM, respAV, respC, zkt]
  · rw [hk] at hR ⊢
    simp only [Nat.reduceEqDiff, if_true, if_false, reduceCtorEq] at hR
    subst hR
    rw [show ((2 : Nat) : Int) = 2 from rfl]
    simp only [go_sem, reduceCtorEq, Nat.reduceEqDiff, Nat.reduceAdd, Nat.reduceMul, Nat.reduceSub, Nat.reduceLeDiff, Nat.reduceLT, Int.reduceMul, Int.reduceAdd, Int.reduceSub, Int.reduceToNat, byq, Int.reduceBEq, e_ZNext, e_CBoolD, e_CBig, e_CBytes, hg, hgc, hne, onC_cod hb, cv_min, codV_min, cp_add, Int.toNat_natCast, gBig_min, gB_min, t27, t20, t3, t5, t6, t8, t7, t60, t2, e_CEntriesX, schC]
    have h60 := cv_lt (b := b) (v := cp v 9) (n := 60) (by decide)
    have hGl := gB_len (b := b) (n := cv b (cp v 9) 60) (v := cp v 10)
    refine ⟨⟨by decide, by decide⟩, ⟨by decide, by decide⟩, ⟨by decide, by decide⟩, ⟨by omega, by omega⟩, ?_, by repeat (first | exact AHeap.Le.refl _ | refine AHeap.Le.push ?_ _), hcl2 _, lt_resp _⟩
    simp [wk, wk2, wkL, wk1, wkM, respAV, respC, zkt]
    simp only [go_sem]
    refine ⟨?_, zmd (by simp only [zkn]; omega)⟩
    rw [zlz (by omega), ybc (by omega)]
end Go.AL


open Go Go.AL Go.Proofs
namespace Go.AL
set_option linter.all false
set_option maxRecDepth 10000

theorem eqL_refl {α : Type} {p : α → α → Bool} (h : ∀ x, p x x = true) : ∀ l : List α, eqL p l l = true
  | [] => rfl
  | x :: l => by unfold eqL; rw [h, eqL_refl h l]; rfl
theorem eqP_refl (r : SResp) : eqP r r = true := by
  unfold eqP
  rw [eqL_refl (fun x => (eqE_iff x x).2 rfl), eqL_refl eqRec_refl]
  simp
theorem eqR_refl (r : SReq) : eqR r r = true := (eqR_iff r r).2 rfl
theorem gRecs_len {b : List UInt8} : ∀ (n v : Nat), (gRecs b n v).1.length = n
  | 0, v => rfl
  | n + 1, v => by simp only [gRecs, yaz, gRecs_len n]
theorem ge_cok {S : Sch} (hG : GenS S) {m : Int} {e : SEntry} (hE : GE S (tableAt S m) e) : COk e := by
  have hkl := hG.kl _ (tableAt_mem (S := S) (n := m) hG.t1)
  exact ⟨hE.ok hkl hG.pl, fun x hx => Nat.lt_of_lt_of_le (hE.ao x hx) (by decide)⟩
theorem gResp_ok {S : Sch} (hG : GenS S) {b : List UInt8} {v : Nat} : PC (gResp S b v).1 := by
  have z : ∀ e : SEntry, e ∈ ([] : List SEntry) → COk e := fun e he => by cases he
  obtain ⟨g1, g2⟩ := gEntries_ok hG (b := b) 4 (min (cp v 4) b.length)
  have h5 := cv_lt (b := b) (v := cp v 4) (n := 5) (by decide)
  have hr := gRecs_len (b := b) (cv b (cp v 4) 5) (cp v 5)
  unfold gResp
  dsimp only
  repeat' split
  · exact ⟨by dsimp only; omega, Nat.zero_le _, fun e he => by obtain ⟨m, hm⟩ := g2 e he; exact ge_cok hG hm⟩
  · exact ⟨Nat.zero_le _, by dsimp only; omega, z⟩
  · exact ⟨Nat.zero_le _, Nat.zero_le _, z⟩
def p_MessageSame : List AV → AHeap → (AV → Prop) → Prop
  | [.slice _ 1 l1, .slice _ 1 l2, .int .i64 a, .int .i64 n, .agg [.int .u64 hi, .int .u64 lo], .agg la, .agg lb], _, K => ∃ A B : SResp, (la = respC A ∧ lb = respC B ∧ PC A ∧ PC B ∧ isB l1 ∧ isB l2 ∧ -9223372036854775808 ≤ a ∧ a ≤ 9223372036854775807 ∧ isV hi lo) ∧ K (.bool true)
  | _, _, _ => False
set_option maxHeartbeats 8000000 in
theorem ok_MessageSame : EntOk Tryz.prog 4 (Ent.pure p_MessageSame) := by
  refine EntOk.pure fun args H K h => ?_
  unfold p_MessageSame at h
  split at h
  rotate_left
  · exact h.elim
  rename_i m1 l1 m2 l2 a n hi lo la lb
  obtain ⟨A, B, ⟨rfl, rfl, hA, hB, c1, c2, ha1, ha2, hab⟩, hK⟩ := h
  refine ⟨_, hK, ?_⟩
  clear hK
  obtain ⟨x1, rfl⟩ := isB_out c1
  obtain ⟨x2, rfl⟩ := isB_out c2
  obtain ⟨v, hv, rfl, rfl, -⟩ := isV_out hab
  clear c1 c2 hab
  obtain ⟨B1, hB1⟩ : ∃ B1, x1.take (min (x1.length : Int) 120).toNat = B1 := ⟨_, rfl⟩
  obtain ⟨B2, hB2⟩ : ∃ B2, x2.take (min (x2.length : Int) 120).toNat = B2 := ⟨_, rfl⟩
  have hL1 : B1.length ≤ 1000000 := by rw [← hB1, List.length_take]; omega
  have hL2 : B2.length ≤ 1000000 := by rw [← hB2, List.length_take]; omega
  have hG := genS_ok B1 0
  generalize hS : gSchema B1 0 = SS at *
  obtain ⟨S, w1⟩ := SS
  dsimp only at hG
  have hz1 : zod B1 0 = codV B1 (cp 0 0) := zod_codV
  have hz2 : zod B2 0 = codV B2 (cp 0 0) := zod_codV
  have hR := gReq_ok hG (b := B2) (v := 0)
  generalize hRR : gReq S B2 0 = RR at *
  obtain ⟨R, w2⟩ := RR
  dsimp only at hR
  have hP := gResp_ok hG (b := B2) (v := min w2 B2.length)
  generalize hPP : gResp S B2 (min w2 B2.length) = PP at *
  obtain ⟨P, w3⟩ := PP
  dsimp only at hP
  refine ACalls.of_aw (Ω := [(11, Ent.effect e_ZNew), (12, Ent.effect e_CSchema), (13, Ent.effect e_CRequest), (17, Ent.effect e_CResponse), (14, Ent.pure p_bentR), (18, Ent.pure p_mSameR), (19, Ent.pure p_rSameR), (20, Ent.pure p_mSameP), (21, Ent.pure p_xSameP), (10, Ent.pure p_begun19)]) (T := assoc [(2, [[], [], [1], [], [], [1, 2, 4], [], [], [1, 2, 4, 5, 6, 7], [1, 2, 4, 5, 6, 7]]), (4, [[], [], [0, 1], [], [], [0, 1, 2, 3, 4], [], [], [2, 5], [2, 5], [0, 1, 2, 3, 4, 5, 8, 9], [2, 5], [2, 5], [0, 1, 2, 3, 4, 5, 8, 9, 10, 11, 12], [], [], [], [2, 5, 10, 13], [2, 5, 10, 13], [0, 1, 2, 3, 4, 5, 8, 9, 10, 11, 12, 13, 17, 18], [2, 5, 10, 13], [2, 5, 10, 13], [0, 1, 2, 3, 4, 5, 8, 9, 10, 11, 12, 13, 17, 18, 19, 20, 21], [], [], [], [2, 5, 10, 13, 19, 22], [2, 5, 10, 13, 19, 22], [0, 1, 2, 3, 4, 5, 8, 9, 10, 11, 12, 13, 17, 18, 19, 20, 21, 22, 26, 27], [], [], [2, 5, 10, 13, 19, 22, 28], [2, 5, 10, 13, 19, 22, 28], [0, 1, 2, 3, 4, 5, 8, 9, 10, 11, 12, 13, 17, 18, 19, 20, 21, 22, 26, 27, 28, 31, 32], [], [], [0, 1, 2, 3, 4, 5, 8, 9, 10, 11, 12, 13, 17, 18, 19, 20, 21, 22, 26, 27, 28, 31, 32, 33]]), (802, [[6, 28], [7, 56]])]) mixed (TblOk.cons ok_ZNew (TblOk.cons ok_CSchema (TblOk.cons ok_CRequest (TblOk.cons ok_CResponse (TblOk.cons ok_bentR (TblOk.cons ok_mSameR (TblOk.cons ok_rSameR (TblOk.cons ok_mSameP (TblOk.cons ok_xSameP (TblOk.cons ok_begun19 TblOk.nil)))))))))) Tryz.func4 (by kernel_rfl) (by rfl) (rs := [.tmp 14]) (by rfl) (by kernel_rfl) (by simp only [Tryz.ntmps4, yaz, yba]; decide) (Nat.le_refl _) fun hcl hlt => ?_
  change aw _ _ _ (KI Tryz.prog [(11, Ent.effect e_ZNew), (12, Ent.effect e_CSchema), (13, Ent.effect e_CRequest), (17, Ent.effect e_CResponse), (14, Ent.pure p_bentR), (18, Ent.pure p_mSameR), (19, Ent.pure p_rSameR), (20, Ent.pure p_mSameP), (21, Ent.pure p_xSameP), (10, Ent.pure p_begun19)] (aEnd Tryz.prog [.tmp 14] H.nx _ _ (assoc [(2, [[], [], [1], [], [], [1, 2, 4], [], [], [1, 2, 4, 5, 6, 7], [1, 2, 4, 5, 6, 7]]), (4, [[], [], [0, 1], [], [], [0, 1, 2, 3, 4], [], [], [2, 5], [2, 5], [0, 1, 2, 3, 4, 5, 8, 9], [2, 5], [2, 5], [0, 1, 2, 3, 4, 5, 8, 9, 10, 11, 12], [], [], [], [2, 5, 10, 13], [2, 5, 10, 13], [0, 1, 2, 3, 4, 5, 8, 9, 10, 11, 12, 13, 17, 18], [2, 5, 10, 13], [2, 5, 10, 13], [0, 1, 2, 3, 4, 5, 8, 9, 10, 11, 12, 13, 17, 18, 19, 20, 21], [], [], [], [2, 5, 10, 13, 19, 22], [2, 5, 10, 13, 19, 22], [0, 1, 2, 3, 4, 5, 8, 9, 10, 11, 12, 13, 17, 18, 19, 20, 21, 22, 26, 27], [], [], [2, 5, 10, 13, 19, 22, 28], [2, 5, 10, 13, 19, 22, 28], [0, 1, 2, 3, 4, 5, 8, 9, 10, 11, 12, 13, 17, 18, 19, 20, 21, 22, 26, 27, 28, 31, 32], [], [], [0, 1, 2, 3, 4, 5, 8, 9, 10, 11, 12, 13, 17, 18, 19, 20, 21, 22, 26, 27, 28, 31, 32, 33]]), (802, [[6, 28], [7, 56]])])) []) _ _
  clear hlt
  simp only [blkE, blkP, bhq, Nat.reduceMod, Nat.reduceDiv, stepH, stepM, toMs1, toMs, toMs0, strK, pubK, pubF, pubV, yaq, yar, yao, yap, go_sem, reduceCtorEq, Nat.reduceEqDiff, Nat.reduceAdd, Nat.reduceMul, Nat.reduceSub, Nat.reduceLeDiff, Nat.reduceLT, Int.reduceMul, Int.reduceAdd, Int.reduceSub, Int.reduceToNat, e_ZNew, respC]
  refine ⟨x1, ⟨rfl, by omega⟩, ?_⟩
  rw [hB1, hz1]
  have hSch : e_CSchema = eG fun b v => (schAV (gSchema b v).1, (gSchema b v).2) := rfl
  simp only [blkE, blkP, bhq, Nat.reduceMod, Nat.reduceDiv, stepH, stepM, toMs1, toMs, toMs0, strK, pubK, pubF, pubV, yaq, yar, yao, yap, go_sem, reduceCtorEq, Nat.reduceEqDiff, Nat.reduceAdd, Nat.reduceMul, Nat.reduceSub, Nat.reduceLeDiff, Nat.reduceLT, Int.reduceMul, Int.reduceAdd, Int.reduceSub, Int.reduceToNat, e_ZNew, hSch, eG, onC_cod hL1, Nat.zero_min, cp0, hS, schAV, schC]
  refine ⟨x2, ⟨rfl, by omega⟩, ?_⟩
  rw [hB2, hz2]
  simp only [blkE, blkP, bhq, Nat.reduceMod, Nat.reduceDiv, stepH, stepM, toMs1, toMs, toMs0, strK, pubK, pubF, pubV, yaq, yar, yao, yap, go_sem, reduceCtorEq, Nat.reduceEqDiff, Nat.reduceAdd, Nat.reduceMul, Nat.reduceSub, Nat.reduceLeDiff, Nat.reduceLT, Int.reduceMul, Int.reduceAdd, Int.reduceSub, Int.reduceToNat, e_CRequest, onC_cod hL2, Nat.zero_min, cp0]
  refine ⟨S, ⟨rfl, hG⟩, ?_⟩
  simp only [blkE, blkP, bhq, Nat.reduceMod, Nat.reduceDiv, stepH, stepM, toMs1, toMs, toMs0, strK, pubK, pubF, pubV, yaq, yar, yao, yap, go_sem, reduceCtorEq, Nat.reduceEqDiff, Nat.reduceAdd, Nat.reduceMul, Nat.reduceSub, Nat.reduceLeDiff, Nat.reduceLT, Int.reduceMul, Int.reduceAdd, Int.reduceSub, Int.reduceToNat, e_CResponse, onC_cod hL2, Nat.zero_min, cp0, hRR, reqAV, reqC]
  refine ⟨S, ⟨rfl, hG⟩, ?_⟩
  simp only [blkE, blkP, bhq, Nat.reduceMod, Nat.reduceDiv, stepH, stepM, toMs1, toMs, toMs0, strK, pubK, pubF, pubV, yaq, yar, yao, yap, go_sem, reduceCtorEq, Nat.reduceEqDiff, Nat.reduceAdd, Nat.reduceMul, Nat.reduceSub, Nat.reduceLeDiff, Nat.reduceLT, Int.reduceMul, Int.reduceAdd, Int.reduceSub, Int.reduceToNat, e_CResponse, onC_cod hL2, Nat.zero_min, cp0, hRR, hPP, reqAV, reqC, respAV, respC, p_bentR]
  obtain ⟨hR1, hR2⟩ := hR
  obtain ⟨X1, X2⟩ := bentQ_ok (w := a % 10) (n := n) (v := v) hR1 (by omega) hv
  refine ⟨R, v, ⟨rfl, hR1, by omega, hv, rfl, rfl, ha1, ha2⟩, ?_⟩
  generalize bentQ (a % 10) n v R = X at *
  simp only [blkE, blkP, bhq, Nat.reduceMod, Nat.reduceDiv, stepH, stepM, toMs1, toMs, toMs0, strK, pubK, pubF, pubV, yaq, yar, yao, yap, go_sem, reduceCtorEq, Nat.reduceEqDiff, Nat.reduceAdd, Nat.reduceMul, Nat.reduceSub, Nat.reduceLeDiff, Nat.reduceLT, Int.reduceMul, Int.reduceAdd, Int.reduceSub, Int.reduceToNat, reqAV, reqC, p_mSameR, p_rSameR]
  refine ⟨R, X, ⟨rfl, rfl, hR1.rc, X1.rc⟩, R, X, ⟨rfl, rfl, hR1.rc, X1.rc⟩, ?_⟩
  simp only [blkE, blkP, bhq, Nat.reduceMod, Nat.reduceDiv, stepH, stepM, toMs1, toMs, toMs0, strK, pubK, pubF, pubV, yaq, yar, yao, yap, go_sem, reduceCtorEq, Nat.reduceEqDiff, Nat.reduceAdd, Nat.reduceMul, Nat.reduceSub, Nat.reduceLeDiff, Nat.reduceLT, Int.reduceMul, Int.reduceAdd, Int.reduceSub, Int.reduceToNat, byq, Bool.bne_false, Bool.bne_true, beq_self_eq_true, eqP_refl, eqR_refl, reqAV, reqC, respAV, respC, p_mSameR, p_rSameR, p_mSameP, p_xSameP, p_begun19]
  refine ⟨A, B, ⟨rfl, rfl, hA, hB⟩, ?_⟩
  try simp only [blkE, blkP, bhq, Nat.reduceMod, Nat.reduceDiv, stepH, stepM, toMs1, toMs, toMs0, strK, pubK, pubF, pubV, yaq, yar, yao, yap, go_sem, reduceCtorEq, Nat.reduceEqDiff, Nat.reduceAdd, Nat.reduceMul, Nat.reduceSub, Nat.reduceLeDiff, Nat.reduceLT, Int.reduceMul, Int.reduceAdd, Int.reduceSub, Int.reduceToNat, byq, Bool.bne_false, Bool.bne_true, beq_self_eq_true, eqP_refl, eqR_refl, reqAV, reqC, respAV, respC, p_mSameR, p_rSameR, p_mSameP, p_xSameP, p_begun19]
  refine ⟨A, B, ⟨rfl, rfl, hA, hB⟩, ?_⟩
  try simp only [blkE, blkP, bhq, Nat.reduceMod, Nat.reduceDiv, stepH, stepM, toMs1, toMs, toMs0, strK, pubK, pubF, pubV, yaq, yar, yao, yap, go_sem, reduceCtorEq, Nat.reduceEqDiff, Nat.reduceAdd, Nat.reduceMul, Nat.reduceSub, Nat.reduceLeDiff, Nat.reduceLT, Int.reduceMul, Int.reduceAdd, Int.reduceSub, Int.reduceToNat, byq, Bool.bne_false, Bool.bne_true, beq_self_eq_true, eqP_refl, eqR_refl, reqAV, reqC, respAV, respC, p_mSameR, p_rSameR, p_mSameP, p_xSameP, p_begun19]
  refine ⟨P, A, ⟨rfl, rfl, hP, hA⟩, ?_⟩
  try simp only [blkE, blkP, bhq, Nat.reduceMod, Nat.reduceDiv, stepH, stepM, toMs1, toMs, toMs0, strK, pubK, pubF, pubV, yaq, yar, yao, yap, go_sem, reduceCtorEq, Nat.reduceEqDiff, Nat.reduceAdd, Nat.reduceMul, Nat.reduceSub, Nat.reduceLeDiff, Nat.reduceLT, Int.reduceMul, Int.reduceAdd, Int.reduceSub, Int.reduceToNat, byq, Bool.bne_false, Bool.bne_true, beq_self_eq_true, eqP_refl, eqR_refl, reqAV, reqC, respAV, respC, p_mSameR, p_rSameR, p_mSameP, p_xSameP, p_begun19]
  refine ⟨P, A, ⟨rfl, rfl, hP, hA⟩, ?_⟩
  try simp only [blkE, blkP, bhq, Nat.reduceMod, Nat.reduceDiv, stepH, stepM, toMs1, toMs, toMs0, strK, pubK, pubF, pubV, yaq, yar, yao, yap, go_sem, reduceCtorEq, Nat.reduceEqDiff, Nat.reduceAdd, Nat.reduceMul, Nat.reduceSub, Nat.reduceLeDiff, Nat.reduceLT, Int.reduceMul, Int.reduceAdd, Int.reduceSub, Int.reduceToNat, byq, Bool.bne_false, Bool.bne_true, beq_self_eq_true, eqP_refl, eqR_refl, reqAV, reqC, respAV, respC, p_mSameR, p_rSameR, p_mSameP, p_xSameP, p_begun19]
  refine ⟨P, P, ⟨rfl, rfl, hP, hP⟩, ?_⟩
  try simp only [blkE, blkP, bhq, Nat.reduceMod, Nat.reduceDiv, stepH, stepM, toMs1, toMs, toMs0, strK, pubK, pubF, pubV, yaq, yar, yao, yap, go_sem, reduceCtorEq, Nat.reduceEqDiff, Nat.reduceAdd, Nat.reduceMul, Nat.reduceSub, Nat.reduceLeDiff, Nat.reduceLT, Int.reduceMul, Int.reduceAdd, Int.reduceSub, Int.reduceToNat, byq, Bool.bne_false, Bool.bne_true, beq_self_eq_true, eqP_refl, eqR_refl, reqAV, reqC, respAV, respC, p_mSameR, p_rSameR, p_mSameP, p_xSameP, p_begun19]
  refine ⟨X, X, ⟨rfl, rfl, X1.rc, X1.rc⟩, ?_⟩
  try simp only [blkE, blkP, bhq, Nat.reduceMod, Nat.reduceDiv, stepH, stepM, toMs1, toMs, toMs0, strK, pubK, pubF, pubV, yaq, yar, yao, yap, go_sem, reduceCtorEq, Nat.reduceEqDiff, Nat.reduceAdd, Nat.reduceMul, Nat.reduceSub, Nat.reduceLeDiff, Nat.reduceLT, Int.reduceMul, Int.reduceAdd, Int.reduceSub, Int.reduceToNat, byq, Bool.bne_false, Bool.bne_true, beq_self_eq_true, eqP_refl, eqR_refl, reqAV, reqC, respAV, respC, p_mSameR, p_rSameR, p_mSameP, p_xSameP, p_begun19]
  exact ⟨rfl, by repeat (first | exact AHeap.Le.refl _ | refine AHeap.Le.push ?_ _), hcl, by rw [zmo]; trivial⟩
end Go.AL

