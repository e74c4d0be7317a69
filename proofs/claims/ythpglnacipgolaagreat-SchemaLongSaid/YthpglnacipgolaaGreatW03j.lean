/- Contracts and plain laws, a part of the proof; no condition of its own. -/
import Derived.Test.YthpglnacipgolaaGreatW03g
open List renaming length_cons → yaz, length_nil → yba, take_of_length_le → ybc, drop_append → ybd, take_append → ybe, drop_eq_nil_of_le → ybf, length_map → ybb, take_zero → yar
open Go Go.AL Go.Proofs
namespace Go.AL
set_option linter.all false
set_option maxRecDepth 10000
theorem ti_ywrt : ti Tryz.prog 187 = some ⟨.struct [(0, 32, false), (1, 4, false), (2, 4, false), (3, 4, false)], 4, 32, .agg [.slice .nil 1 [], .bool false, .bool false, .bool false]⟩ := by kernel_rfl
theorem ti_pywrt : ti Tryz.prog 185 = some ⟨.ptr 187, 1, 8, .nilp⟩ := by kernel_rfl
attribute [go_sem] ti_ywrt ti_pywrt
theorem plain_any (l : List UInt8) : l.any badC = !plainB l := by
  unfold plainB
  rw [List.not_all_eq_any_not]
  congr 1
  funext c
  have e1 : (((c.toNat : Int) < 32)) = (c.toNat < 32) := by rw [show ((32 : Int)) = ((32 : Nat) : Int) from rfl, Int.ofNat_lt]
  have e2 : (((c.toNat : Int) > 126)) = (126 < c.toNat) := by rw [show ((126 : Int)) = ((126 : Nat) : Int) from rfl, gt_iff_lt, Int.ofNat_lt]
  simp only [badC, Bool.not_not, e1, e2]
def e_yTru := e_zTru
set_option maxHeartbeats 4000000 in
theorem ok_yTru : EntOk Tryz.prog 219 (Ent.effect e_yTru) := by
  unfold e_yTru
  refine EntOk.effect fun args H K h => ?_
  unfold e_zTru at h
  split at h
  rotate_left
  · exact h.elim
  rename_i id x
  obtain ⟨q, s, ⟨hW, hl⟩, hK⟩ := h
  refine ⟨_, _, hK, ?_⟩
  clear hK
  replace hl := enc_pre hl
  rw [encMax_eq] at hl
  have hcl0 := fun t => hW.closed (t := t)
  obtain ⟨b, sl, sf, sa⟩ := s
  have hid := AHeap.get_lt hW.o
  have hq := AHeap.get_lt hW.bu
  have hne := far_of hid
  have hneq := far_of hq
  have n1 : (id = q) = False := eq_false hW.ne
  have n2 : (q = id) = False := eq_false fun e => hW.ne e.symm
  have hcs := cells_some hW.o
  have hb0 := hW.bu
  have hi0 := hW.o
  have hnn := hW.ne
  dsimp only at hcs hb0 hi0 hl
  refine ACalls.of_aw (Ω := [(91, Ent.effect e_rBool)]) (T := assoc []) mixed (TblOk.cons ok_rBool TblOk.nil) Tryz.func219 (by kernel_rfl) (by rfl) (rs := []) (by rfl) (by kernel_rfl) (by simp only [Tryz.ntmps219, yaz, yba]; decide) (by rw [swH_nx]; omega) fun hcl hlt => ?_
  change aw _ _ _ (KI Tryz.prog [(91, Ent.effect e_rBool)] (aEnd Tryz.prog [] H.nx _ _ (assoc [])) []) _ _
  clear hlt
  have hcl1 := fun t => hcl0 t hcl
  have hcm := fun cs => @cells_set_same H id cs hid
  have hA := fun X Y => @cells_set_far H id q X Y hnn hid
  have hA0 : ∀ Y, cellsOf? (H.set q Y) id = cellsOf? H id := fun Y => by
    unfold cellsOf?; rw [AHeap.get_set_ne _ _ hnn]
  have hB := fun X => get_set_far (X := X) hnn hb0
  have eh := fun X Y Z => @set_set_far H id q X Y Z
  have hcl9 := hcl1 ((⟨b, sl, sf, sa⟩ : Enc).add (eTru x))
  simp only [swH, Enc.add, eTru, Bool.or_false, List.length_append, List.length_singleton] at hcl9 ⊢
  simp only [go_sem, reduceCtorEq, Nat.reduceEqDiff, Nat.reduceAdd, Nat.reduceMul, Nat.reduceSub, Nat.reduceLeDiff, Nat.reduceLT, Int.reduceMul, Int.reduceAdd, Int.reduceSub, Int.reduceToNat, byq, hne, hneq, n1, n2, hcs, hcm, hA, hA0, hB, eh, hi0, hb0, zlt, zle, zlv, true_and, e_rBool]
  (repeat with_reducible refine And.intro (by first | assumption | decide | omega | exact ⟨by omega, by omega⟩ | exact ⟨by omega, by omega, by omega⟩ | exact ⟨by omega, hb0⟩ | exact ⟨by omega, hB _⟩ | exact ⟨by omega, by omega, hb0⟩ | exact ⟨by omega, by omega, hB _⟩) ?_)
  simp (disch := first | assumption | omega | (simp; done) | (simp; omega) | (simp only [bt, and_true]; first | done | omega | (simp; done))) [↓zmi, beq, ybc, ybd, ybe, endOk, wk, wk2, wk1, wkM, wkL, wkLL, ybf, hcl9, List.length_append]
  first | done | exact hcl9 | simpa using hcl9
def e_yVal := e_zVal
set_option maxHeartbeats 4000000 in
theorem ok_yVal : EntOk Tryz.prog 218 (Ent.effect e_yVal) := by
  unfold e_yVal
  refine EntOk.effect fun args H K h => ?_
  unfold e_zVal at h
  split at h
  rotate_left
  · exact h.elim
  rename_i id hi lo
  obtain ⟨q, s, v, ⟨hW, hv, rfl, rfl, hl⟩, hK⟩ := h
  refine ⟨_, _, hK, ?_⟩
  clear hK
  have iv := isV_of hv
  replace hl := enc_pre hl
  rw [encMax_eq] at hl
  have hcl0 := fun t => hW.closed (t := t)
  obtain ⟨b, sl, sf, sa⟩ := s
  have hid := AHeap.get_lt hW.o
  have hq := AHeap.get_lt hW.bu
  have hne := far_of hid
  have hneq := far_of hq
  have n1 : (id = q) = False := eq_false hW.ne
  have n2 : (q = id) = False := eq_false fun e => hW.ne e.symm
  have hcs := cells_some hW.o
  have hb0 := hW.bu
  have hi0 := hW.o
  have hnn := hW.ne
  dsimp only at hcs hb0 hi0 hl
  refine ACalls.of_aw (Ω := [(227, Ent.effect e_rValue)]) (T := assoc [(1, [[], [], [], [], [], [], [4, 5], [], [], [4, 5, 6]])]) mixed (TblOk.cons ok_rValue TblOk.nil) Tryz.func218 (by kernel_rfl) (by rfl) (rs := []) (by rfl) (by kernel_rfl) (by simp only [Tryz.ntmps218, yaz, yba]; decide) (by rw [swH_nx]; omega) fun hcl hlt => ?_
  change aw _ _ _ (KI Tryz.prog [(227, Ent.effect e_rValue)] (aEnd Tryz.prog [] H.nx _ _ (assoc [(1, [[], [], [], [], [], [], [4, 5], [], [], [4, 5, 6]])])) []) _ _
  clear hlt
  have hcl1 := fun t => hcl0 t hcl
  have hcm := fun cs => @cells_set_same H id cs hid
  have hA := fun X Y => @cells_set_far H id q X Y hnn hid
  have hA0 : ∀ Y, cellsOf? (H.set q Y) id = cellsOf? H id := fun Y => by
    unfold cellsOf?; rw [AHeap.get_set_ne _ _ hnn]
  have hB := fun X => get_set_far (X := X) hnn hb0
  have eh := fun X Y Z => @set_set_far H id q X Y Z
  have hcl9 := hcl1 ((⟨b, sl, sf, sa⟩ : Enc).add (eVal v))
  simp only [swH, Enc.add, eVal, Bool.or_false, List.length_append] at hcl9 ⊢
  simp only [go_sem, reduceCtorEq, Nat.reduceEqDiff, Nat.reduceAdd, Nat.reduceMul, Nat.reduceSub, Nat.reduceLeDiff, Nat.reduceLT, Int.reduceMul, Int.reduceAdd, Int.reduceSub, Int.reduceToNat, byq, hne, hneq, n1, n2, hcs, hcm, hA, hA0, hB, eh, hi0, hb0, zlt, zle, zlv, true_and, e_rValue, iv, Int.toNat_natCast, vOf_back]
  (repeat with_reducible refine And.intro (by first | assumption | decide | omega | exact ⟨by omega, by omega⟩ | exact ⟨by omega, by omega, by omega⟩ | exact ⟨by omega, hb0⟩ | exact ⟨by omega, hB _⟩ | exact ⟨by omega, by omega, hb0⟩ | exact ⟨by omega, by omega, hB _⟩) ?_)
  simp (disch := first | assumption | omega | (simp; done) | (simp; omega) | (simp only [bt, and_true]; first | done | omega | (simp; done))) [↓zmi, beq, ybc, ybd, ybe, endOk, wk, wk2, wk1, wkM, wkL, wkLL, ybf, hcl9, List.length_append]
  first | done | exact hcl9 | simpa using hcl9
def e_yNum := e_zNum
set_option maxHeartbeats 4000000 in
theorem ok_yNum : EntOk Tryz.prog 72 (Ent.effect e_yNum) := by
  unfold e_yNum
  refine EntOk.effect fun args H K h => ?_
  unfold e_zNum at h
  split at h
  rotate_left
  · exact h.elim
  rename_i id n w
  obtain ⟨q, s, ⟨hW, hw, hl⟩, hK⟩ := h
  refine ⟨_, _, hK, ?_⟩
  clear hK
  have hcl0 := fun t => hW.closed (t := t)
  obtain ⟨b, sl, sf, sa⟩ := s
  have hid := AHeap.get_lt hW.o
  have hq := AHeap.get_lt hW.bu
  have hne := far_of hid
  have hneq := far_of hq
  have n1 : (id = q) = False := eq_false hW.ne
  have n2 : (q = id) = False := eq_false fun e => hW.ne e.symm
  have hcs := cells_some hW.o
  have hb0 := hW.bu
  have hi0 := hW.o
  have hnn := hW.ne
  dsimp only at hcs hb0 hi0 hl
  refine ACalls.of_aw (Ω := [(90, Ent.effect e_rUint)]) (T := assoc []) mixed (TblOk.cons ok_rUint TblOk.nil) Tryz.func72 (by kernel_rfl) (by rfl) (rs := []) (by rfl) (by kernel_rfl) (by simp only [Tryz.ntmps72, yaz, yba]; decide) (by rw [swH_nx]; omega) fun hcl hlt => ?_
  change aw _ _ _ (KI Tryz.prog [(90, Ent.effect e_rUint)] (aEnd Tryz.prog [] H.nx _ _ (assoc [])) []) _ _
  clear hlt
  have hcl1 := fun t => hcl0 t hcl
  have hcm := fun cs => @cells_set_same H id cs hid
  have hA := fun X Y => @cells_set_far H id q X Y hnn hid
  have hA0 : ∀ Y, cellsOf? (H.set q Y) id = cellsOf? H id := fun Y => by
    unfold cellsOf?; rw [AHeap.get_set_ne _ _ hnn]
  have hB := fun X => get_set_far (X := X) hnn hb0
  have eh := fun X Y Z => @set_set_far H id q X Y Z
  have hcl9 := hcl1 ((⟨b, sl, sf, sa⟩ : Enc).add (eNum n w))
  have s1 : IntKind.u64.wrap (IntKind.i64.wrap 8) = 8 := by decide
  have s2 : ishl .i64 1 8 = 256 := by decide
  have s3 : IntKind.u64.wrap (IntKind.i64.wrap 16) = 16 := by decide
  have s4 : ishl .i64 1 16 = 65536 := by decide
  simp only [swH, Enc.add, eNum, Bool.or_false, List.length_append] at hcl9 ⊢
  by_cases h0 : n < 0
  · have d0 : decide (n < 0) = true := decide_eq_true h0
    rw [rg_neg h0, Bool.not_false, Bool.or_true] at hcl9 ⊢
    simp only [go_sem, reduceCtorEq, Nat.reduceEqDiff, Nat.reduceAdd, Nat.reduceMul, Nat.reduceSub, Nat.reduceLeDiff, Nat.reduceLT, Int.reduceMul, Int.reduceAdd, Int.reduceSub, Int.reduceToNat, byq, hne, hneq, n1, n2, hcs, hcm, hA, hA0, hB, eh, hi0, hb0, zlt, zle, zlv, true_and, e_rUint, d0]
    (repeat with_reducible refine And.intro (by first | assumption | decide | omega | exact ⟨by omega, by omega⟩ | exact ⟨by omega, by omega, by omega⟩ | exact ⟨by omega, hb0⟩ | exact ⟨by omega, hB _⟩ | exact ⟨by omega, by omega, hb0⟩ | exact ⟨by omega, by omega, hB _⟩) ?_)
    simp (disch := first | assumption | omega | (simp; done) | (simp; omega) | (simp only [bt, and_true]; first | done | omega | (simp; done))) [↓zmi, beq, ybc, ybd, ybe, endOk, wk, wk2, wk1, wkM, wkL, wkLL, ybf, hcl9, List.length_append]
    first | done | exact hcl9 | simpa using hcl9
  · have d0 : decide (n < 0) = false := decide_eq_false h0
    rcases hw with rfl | rfl
    · rw [rg_1 h0] at hcl9 ⊢
      cases hd : decide (n ≥ 256)
      all_goals
        rw [hd] at hcl9
        try rw [Bool.or_false] at hcl9
        try rw [Bool.or_true] at hcl9
        simp only [go_sem, reduceCtorEq, Nat.reduceEqDiff, Nat.reduceAdd, Nat.reduceMul, Nat.reduceSub, Nat.reduceLeDiff, Nat.reduceLT, Int.reduceMul, Int.reduceAdd, Int.reduceSub, Int.reduceToNat, byq, hne, hneq, n1, n2, hcs, hcm, hA, hA0, hB, eh, hi0, hb0, zlt, zle, zlv, true_and, e_rUint, d0, s1, s2, hd, Bool.or_false, Bool.or_true]
        (repeat with_reducible refine And.intro (by first | assumption | decide | omega | exact ⟨by omega, by omega⟩ | exact ⟨by omega, by omega, by omega⟩ | exact ⟨by omega, hb0⟩ | exact ⟨by omega, hB _⟩ | exact ⟨by omega, by omega, hb0⟩ | exact ⟨by omega, by omega, hB _⟩) ?_)
        simp (disch := first | assumption | omega | (simp; done) | (simp; omega) | (simp only [bt, and_true]; first | done | omega | (simp; done))) [↓zmi, beq, ybc, ybd, ybe, endOk, wk, wk2, wk1, wkM, wkL, wkLL, ybf, hcl9, List.length_append]
        first | done | exact hcl9 | simpa using hcl9
    · rw [rg_2 h0] at hcl9 ⊢
      cases hd : decide (n ≥ 65536)
      all_goals
        rw [hd] at hcl9
        try rw [Bool.or_false] at hcl9
        try rw [Bool.or_true] at hcl9
        simp only [go_sem, reduceCtorEq, Nat.reduceEqDiff, Nat.reduceAdd, Nat.reduceMul, Nat.reduceSub, Nat.reduceLeDiff, Nat.reduceLT, Int.reduceMul, Int.reduceAdd, Int.reduceSub, Int.reduceToNat, byq, hne, hneq, n1, n2, hcs, hcm, hA, hA0, hB, eh, hi0, hb0, zlt, zle, zlv, true_and, e_rUint, d0, s3, s4, hd, Bool.or_false, Bool.or_true]
        (repeat with_reducible refine And.intro (by first | assumption | decide | omega | exact ⟨by omega, by omega⟩ | exact ⟨by omega, by omega, by omega⟩ | exact ⟨by omega, hb0⟩ | exact ⟨by omega, hB _⟩ | exact ⟨by omega, by omega, hb0⟩ | exact ⟨by omega, by omega, hB _⟩) ?_)
        simp (disch := first | assumption | omega | (simp; done) | (simp; omega) | (simp only [bt, and_true]; first | done | omega | (simp; done))) [↓zmi, beq, ybc, ybd, ybe, endOk, wk, wk2, wk1, wkM, wkL, wkLL, ybf, hcl9, List.length_append]
        first | done | exact hcl9 | simpa using hcl9
def e_yCnt : List AV → AHeap → (AEnd → AHeap → Prop) → Prop
  | [.ptr id 0, .int .i64 n, .int .i64 most], H, K => ∃ q s k, (SOn H id q s ∧ n = ((k : Nat) : Int) ∧ (s.add (eCnt k most)).b.length ≤ encMax) ∧ K (.ret (.tup [])) (swH H id q (s.add (eCnt k most)))
  | _, _, _ => False
theorem w_cnt {id q k : Nat} {H : AHeap} {s : Enc} {m : Int} {K : AEnd → AHeap → Prop} (h : SOn H id q s) (hl : (s.add (eCnt k m)).b.length ≤ encMax) (hK : K (.ret (.tup [])) (swH H id q (s.add (eCnt k m)))) :
    e_yCnt [.ptr id 0, .int .i64 (k : Int), .int .i64 m] H K := ⟨q, s, k, ⟨h, rfl, hl⟩, hK⟩
set_option maxHeartbeats 4000000 in
theorem ok_yCnt : EntOk Tryz.prog 74 (Ent.effect e_yCnt) := by
  refine EntOk.effect fun args H K h => ?_
  unfold e_yCnt at h
  split at h
  rotate_left
  · exact h.elim
  rename_i id n most
  obtain ⟨q, s, k, ⟨hW, rfl, hl⟩, hK⟩ := h
  refine ⟨_, _, hK, ?_⟩
  clear hK
  replace hl := enc_pre hl
  rw [encMax_eq] at hl
  have hcl0 := fun t => hW.closed (t := t)
  obtain ⟨b, sl, sf, sa⟩ := s
  have hid := AHeap.get_lt hW.o
  have hq := AHeap.get_lt hW.bu
  have hne := far_of hid
  have hneq := far_of hq
  have n1 : (id = q) = False := eq_false hW.ne
  have n2 : (q = id) = False := eq_false fun e => hW.ne e.symm
  have hcs := cells_some hW.o
  have hb0 := hW.bu
  have hi0 := hW.o
  have hnn := hW.ne
  dsimp only at hcs hb0 hi0 hl
  refine ACalls.of_aw (Ω := [(90, Ent.effect e_rUint)]) (T := assoc []) mixed (TblOk.cons ok_rUint TblOk.nil) Tryz.func74 (by kernel_rfl) (by rfl) (rs := []) (by rfl) (by kernel_rfl) (by simp only [Tryz.ntmps74, yaz, yba]; decide) (by rw [swH_nx]; omega) fun hcl hlt => ?_
  change aw _ _ _ (KI Tryz.prog [(90, Ent.effect e_rUint)] (aEnd Tryz.prog [] H.nx _ _ (assoc [])) []) _ _
  clear hlt
  have hcl1 := fun t => hcl0 t hcl
  have hcm := fun cs => @cells_set_same H id cs hid
  have hA := fun X Y => @cells_set_far H id q X Y hnn hid
  have hA0 : ∀ Y, cellsOf? (H.set q Y) id = cellsOf? H id := fun Y => by
    unfold cellsOf?; rw [AHeap.get_set_ne _ _ hnn]
  have hB := fun X => get_set_far (X := X) hnn hb0
  have eh := fun X Y Z => @set_set_far H id q X Y Z
  have hcl9 := hcl1 ((⟨b, sl, sf, sa⟩ : Enc).add (eCnt k most))
  simp only [swH, Enc.add, eCnt, Bool.or_false, List.length_append] at hcl9 ⊢
  cases hd : decide ((k : Int) > most)
  all_goals
    rw [hd] at hcl9
    try rw [Bool.or_false] at hcl9
    try rw [Bool.or_true] at hcl9
    simp only [go_sem, reduceCtorEq, Nat.reduceEqDiff, Nat.reduceAdd, Nat.reduceMul, Nat.reduceSub, Nat.reduceLeDiff, Nat.reduceLT, Int.reduceMul, Int.reduceAdd, Int.reduceSub, Int.reduceToNat, byq, hne, hneq, n1, n2, hcs, hcm, hA, hA0, hB, eh, hi0, hb0, zlt, zle, zlv, true_and, e_rUint, hd, Bool.or_false, Bool.or_true]
    (repeat with_reducible refine And.intro (by first | assumption | decide | omega | exact ⟨by omega, by omega⟩ | exact ⟨by omega, by omega, by omega⟩ | exact ⟨by omega, hb0⟩ | exact ⟨by omega, hB _⟩ | exact ⟨by omega, by omega, hb0⟩ | exact ⟨by omega, by omega, hB _⟩) ?_)
    simp (disch := first | assumption | omega | (simp; done) | (simp; omega) | (simp only [bt, and_true]; first | done | omega | (simp; done))) [↓zmi, beq, ybc, ybd, ybe, endOk, wk, wk2, wk1, wkM, wkL, wkLL, ybf, hcl9, List.length_append]
    first | done | exact hcl9 | simpa using hcl9
def e_yTxt := e_zTxt
set_option maxHeartbeats 4000000 in
theorem ok_yTxt : EntOk Tryz.prog 216 (Ent.effect e_yTxt) := by
  unfold e_yTxt
  refine EntOk.effect fun args H K h => ?_
  unfold e_zTxt at h
  split at h
  rotate_left
  · exact h.elim
  rename_i id x most
  obtain ⟨q, s, ⟨hW, hx, hl⟩, hK⟩ := h
  refine ⟨_, _, hK, ?_⟩
  clear hK
  replace hl := enc_pre hl
  rw [encMax_eq] at hl hx
  have hcl0 := fun t => hW.closed (t := t)
  obtain ⟨b, sl, sf, sa⟩ := s
  have hid := AHeap.get_lt hW.o
  have hq := AHeap.get_lt hW.bu
  have hne := far_of hid
  have hneq := far_of hq
  have n1 : (id = q) = False := eq_false hW.ne
  have n2 : (q = id) = False := eq_false fun e => hW.ne e.symm
  have hcs := cells_some hW.o
  have hb0 := hW.bu
  have hi0 := hW.o
  have hnn := hW.ne
  dsimp only at hcs hb0 hi0 hl
  refine ACalls.of_aw (Ω := [(323, Ent.pure p_xPlain), (324, Ent.effect e_rText)]) (T := assoc []) mixed (TblOk.cons ok_xPlain (TblOk.cons ok_rText TblOk.nil)) Tryz.func216 (by kernel_rfl) (by rfl) (rs := []) (by rfl) (by kernel_rfl) (by simp only [Tryz.ntmps216, yaz, yba]; decide) (by rw [swH_nx]; omega) fun hcl hlt => ?_
  change aw _ _ _ (KI Tryz.prog [(323, Ent.pure p_xPlain), (324, Ent.effect e_rText)] (aEnd Tryz.prog [] H.nx _ _ (assoc [])) []) _ _
  clear hlt
  have hcl1 := fun t => hcl0 t hcl
  have hcm := fun cs => @cells_set_same H id cs hid
  have hA := fun X Y => @cells_set_far H id q X Y hnn hid
  have hA0 : ∀ Y, cellsOf? (H.set q Y) id = cellsOf? H id := fun Y => by
    unfold cellsOf?; rw [AHeap.get_set_ne _ _ hnn]
  have hB := fun X => get_set_far (X := X) hnn hb0
  have eh := fun X Y Z => @set_set_far H id q X Y Z
  have hcl9 := hcl1 ((⟨b, sl, sf, sa⟩ : Enc).add (eTxt x most))
  simp only [swH, Enc.add, eTxt, Bool.or_false, List.length_append, plain_any] at hcl9 ⊢
  cases hd : decide ((x.length : Int) > most) <;> cases hp : plainB x
  all_goals
    rw [hd, hp] at hcl9
    try rw [Bool.or_false] at hcl9
    try rw [Bool.or_true] at hcl9
    simp only [go_sem, reduceCtorEq, Nat.reduceEqDiff, Nat.reduceAdd, Nat.reduceMul, Nat.reduceSub, Nat.reduceLeDiff, Nat.reduceLT, Int.reduceMul, Int.reduceAdd, Int.reduceSub, Int.reduceToNat, byq, hne, hneq, n1, n2, hcs, hcm, hA, hA0, hB, eh, hi0, hb0, zlt, zle, zlv, true_and, p_xPlain, e_rText, hd, hp, Bool.or_false, Bool.or_true, Bool.not_true, Bool.not_false]
    (repeat with_reducible refine And.intro (by first | assumption | decide | omega | exact ⟨by omega, by omega⟩ | exact ⟨by omega, by omega, by omega⟩ | exact ⟨by omega, hb0⟩ | exact ⟨by omega, hB _⟩ | exact ⟨by omega, by omega, hb0⟩ | exact ⟨by omega, by omega, hB _⟩) ?_)
    simp (disch := first | assumption | omega | (simp; done) | (simp; omega) | (simp only [bt, and_true]; first | done | omega | (simp; done))) [↓zmi, beq, ybc, ybd, ybe, endOk, wk, wk2, wk1, wkM, wkL, wkLL, ybf, hcl9, List.length_append]
    first | done | exact hcl9 | simpa using hcl9
end Go.AL


open Go Go.AL Go.Proofs
namespace Go.AL
set_option linter.all false
set_option maxRecDepth 10000

abbrev clFld (x : SField) : List AV := (fieldAV x).cells
abbrev clHdr (x : SHeader) : List AV := (headerAV x).cells
abbrev clCas (x : SCase) : List AV := (caseAV x).cells
abbrev clSta (x : SState) : List AV := (stateAV x).cells
abbrev clPar (x : SParam) : List AV := (paramAV x).cells
abbrev clPrm (x : SPrim) : List AV := (primAV x).cells
abbrev clKey (x : SKey) : List AV := (keyAV x).cells
abbrev clStg (x : SStage) : List AV := (stageAV x).cells
abbrev clRef (x : SRef) : List AV := (refAV x).cells
abbrev clGra (x : SGrant) : List AV := (grantAV x).cells
abbrev clAct (x : SAction) : List AV := (actionAV x).cells
abbrev clTab (x : STable) : List AV := (tableAV x).cells
abbrev clRol (x : SRole) : List AV := (roleAV x).cells
theorem put_len0 {α : Type} {g : α → Enc} (h1 : ∀ x, 1 ≤ (g x).b.length) {l : List α} {s : Enc} (hl : (s.add (eAll g l)).b.length ≤ encMax) : l.length ≤ 100000000000000 := by
  have h2 := one_all h1 l
  rw [enc_len, encMax_eq] at hl
  omega
theorem enc_list {α : Type} {g : α → Enc} {m : Int} {l : List α} {s : Enc} : s.add (eList g m l) = (s.add (eCnt l.length m)).add (eAll g l) := by rw [enc_assoc]; rfl
theorem lt_cl {n : Nat} {x : AV} (h : ∀ n, x.lt n) : ltL n x.cells := ltL_iff.2 fun j hj => AV.lt_cells (h n) j hj
theorem SOn.push3 {H : AHeap} {id q : Nat} {s : Enc} (h : SOn H id q s) (x y z : AObj) : SOn (((H.push x).push y).push z) id q s := ((h.push x).push y).push z
def e_yNums : List AV → AHeap → (AEnd → AHeap → Prop) → Prop
  | [.ptr id 0, .slice .any 1 xs, .int .i64 most], H, K => ∃ q s l, (SOn H id q s ∧ xs = inL l ∧ (s.add (eList eInt most l)).b.length ≤ encMax) ∧ K (.ret (.tup [])) (swH H id q (s.add (eList eInt most l)))
  | _, _, _ => False
theorem w_nums {id q : Nat} {H : AHeap} {s : Enc} {l : List Int} {m : Int} {K : AEnd → AHeap → Prop} (h : SOn H id q s) (hl : (s.add (eList eInt m l)).b.length ≤ encMax) (hK : K (.ret (.tup [])) (swH H id q (s.add (eList eInt m l)))) :
    e_yNums [.ptr id 0, .slice .any 1 (l.map (.int .i64)), .int .i64 m] H K := ⟨q, s, l, ⟨h, rfl, hl⟩, hK⟩
set_option maxHeartbeats 16000000 in
theorem ok_yNums : EntOk Tryz.prog 217 (Ent.effect e_yNums) := by
  refine EntOk.effect fun args H K h => ?_
  unfold e_yNums at h
  split at h
  rotate_left
  · exact h.elim
  rename_i id xs most
  obtain ⟨q, s, l, ⟨hW, rfl, hl⟩, hK⟩ := h
  refine ⟨_, _, hK, ?_⟩
  clear hK
  have hF := hW.facts
  have hcl0 := fun t => hW.closed (t := t)
  have hid := AHeap.get_lt hW.o
  have hq := AHeap.get_lt hW.bu
  refine ACalls.of_aw (Ω := [(74, Ent.effect e_yCnt), (72, Ent.effect e_yNum)]) (T := assoc []) mixed (TblOk.cons ok_yCnt (TblOk.cons ok_yNum TblOk.nil)) Tryz.func217 (by kernel_rfl) (by rfl) (rs := []) (by rfl) (by kernel_rfl) (by simp only [Tryz.ntmps217, yaz, yba]; decide) (by rw [swH_nx]; omega) fun hcl hlt => ?_
  change aw _ _ _ (KI Tryz.prog [(74, Ent.effect e_yCnt), (72, Ent.effect e_yNum)] (aEnd Tryz.prog [] H.nx _ _ (assoc [])) []) _ _
  clear hlt
  have hcl1 := fun t => hcl0 t hcl
  have hE : s.add (eList eInt most l) = (s.add (eCnt l.length most)).add (eAll eInt l) := by rw [enc_assoc]; rfl
  rw [hE] at hl ⊢
  have hN := put_len0 one_eInt hl
  simp only [go_sem, reduceCtorEq, Nat.reduceEqDiff, Nat.reduceAdd, Nat.reduceMul, Nat.reduceSub, Nat.reduceLeDiff, Nat.reduceLT, Int.reduceMul, Int.reduceAdd, Int.reduceSub, Int.reduceToNat, inL, ybb]
  refine w_cnt hW (enc_pre hl) ?_
  simp only [go_sem, reduceCtorEq, Nat.reduceEqDiff, Nat.reduceAdd, Nat.reduceMul, Nat.reduceSub, Nat.reduceLeDiff, Nat.reduceLT, Int.reduceMul, Int.reduceAdd, Int.reduceSub, Int.reduceToNat, inL, ybb, swH_nx]
  refine loop_introW (A := Nat) (fun k => [(0, .ptr id 0), (13, .slice .any 1 (l.map (.int .i64))), (14, .int .i64 (l.length : Int)), (15, .int .i64 (k : Int))]) (fun k => swH H id q ((s.add (eCnt l.length most)).add (eAll eInt (l.take k)))) (fun k => k ≤ l.length) (fun k => l.length - k) 0 (by omega) ?_ fun k hk => ?_
  · rw [yar, eAll, enc_add0]
    refine ⟨by simp only [zkk, zkp, zky, swH_nx]; omega, by repeat (first | exact AHeap.Le.refl _ | refine AHeap.Le.push ?_ _), hcl1 _, ?_, ?_⟩
    · simp [ltF, zky, swH_nx, znh, zmz, lt_map fun _ => of_eq_true zmz]
      try omega
    · simp [subW, wk2, wk1, wkM, Fr.get]
  simp only [go_sem, reduceCtorEq, Nat.reduceEqDiff, Nat.reduceAdd, Nat.reduceMul, Nat.reduceSub, Nat.reduceLeDiff, Nat.reduceLT, Int.reduceMul, Int.reduceAdd, Int.reduceSub, Int.reduceToNat]
  refine cond_split (fun hc => ?_) (fun hc => ?_)
  · have hk' : k < l.length := by simp at hc; omega
    obtain ⟨x, hx⟩ : ∃ x, x = l[k] := ⟨_, rfl⟩
    have hg := getD_map (f := .int .i64) (l := l) (k := k) (x := x) (by rw [List.getElem?_eq_getElem hk', hx])
    have e5 : IntKind.i64.wrap ((k : Int) + 1) = ((k + 1 : Nat) : Int) := by rw [wrap_i64] <;> omega
    obtain ⟨es, hlk⟩ := put_step (g := eInt) hk' hx hl
    simp only [go_sem, reduceCtorEq, Nat.reduceEqDiff, Nat.reduceAdd, Nat.reduceMul, Nat.reduceSub, Nat.reduceLeDiff, Nat.reduceLT, Int.reduceMul, Int.reduceAdd, Int.reduceSub, Int.reduceToNat, Int.toNat_natCast, ybb, hg, swH_nx]
    refine ⟨by omega, ?_⟩
    refine w_num (.inr rfl) (hW.next _) hlk ?_
    rw [hF.pp, show eNum x 2 = eInt x from rfl, es]
    simp only [go_sem, reduceCtorEq, Nat.reduceEqDiff, Nat.reduceAdd, Nat.reduceMul, Nat.reduceSub, Nat.reduceLeDiff, Nat.reduceLT, Int.reduceMul, Int.reduceAdd, Int.reduceSub, Int.reduceToNat, e5]
    refine ⟨k + 1, by omega, by omega, by simp only [zkk, zkp, zky, swH_nx]; omega, by repeat (first | exact AHeap.Le.refl _ | refine AHeap.Le.push ?_ _), hcl1 _, ?_, ?_⟩
    · simp [ltF, zky, swH_nx, znh, zmz, lt_map fun _ => of_eq_true zmz]
      try omega
    · simp [subW, wk2, wk1, wkM, Fr.get]
  · have hk' : k = l.length := by simp at hc; omega
    subst hk'
    rw [List.take_length]
    simp only [go_sem, reduceCtorEq, Nat.reduceEqDiff, Nat.reduceAdd, Nat.reduceMul, Nat.reduceSub, Nat.reduceLeDiff, Nat.reduceLT, Int.reduceMul, Int.reduceAdd, Int.reduceSub, Int.reduceToNat]
    refine ⟨?_, by repeat (first | exact AHeap.Le.refl _ | refine AHeap.Le.push ?_ _), hcl1 _, ?_⟩
    · simp [wk, wk2, wk1, wkLL]
    · simp [znm, znp]
def e_yAct := eW actionAV okAction eAction
def e_yTab := eW tableAV okTable eTable
def e_yRol := eW roleAV okRole eRole
def e_yPac := eW schAV OkSch ePacket
set_option maxHeartbeats 16000000 in
theorem ok_yAct : EntOk Tryz.prog 75 (Ent.effect e_yAct) := by
  unfold e_yAct
  refine EntOk.effect fun args H K h => ?_
  unfold eW at h
  split at h
  rotate_left
  · exact h.elim
  rename_i id x
  obtain ⟨q, s, a, ⟨hW, rfl, ha, hl⟩, hK⟩ := h
  refine ⟨_, _, hK, ?_⟩
  clear hK
  have hF := hW.facts
  have hcl0 := fun t => hW.closed (t := t)
  have hid := AHeap.get_lt hW.o
  have hq := AHeap.get_lt hW.bu
  refine ACalls.of_aw (Ω := [(74, Ent.effect e_yCnt), (72, Ent.effect e_yNum), (216, Ent.effect e_yTxt), (218, Ent.effect e_yVal)]) (T := assoc []) mixed (TblOk.cons ok_yCnt (TblOk.cons ok_yNum (TblOk.cons ok_yTxt (TblOk.cons ok_yVal TblOk.nil)))) Tryz.func75 (by kernel_rfl) (by rfl) (rs := []) (by rfl) (by kernel_rfl) (by simp only [Tryz.ntmps75, yaz, yba]; decide) (by rw [swH_nx]; omega) fun hcl hlt => ?_
  change aw _ _ _ (KI Tryz.prog [(74, Ent.effect e_yCnt), (72, Ent.effect e_yNum), (216, Ent.effect e_yTxt), (218, Ent.effect e_yVal)] (aEnd Tryz.prog [] H.nx _ _ (assoc [])) []) _ _
  clear hlt
  have hcl1 := fun t => hcl0 t hcl
  unfold eAction at hl ⊢
  rw [← enc_assoc, ← enc_assoc, ← enc_assoc, ← enc_assoc] at hl ⊢
  have hl3 := enc_pre hl
  have hl2 := enc_pre hl3
  have hl1 := enc_pre hl2
  have hl0 := enc_pre hl1
  try simp only [go_sem, reduceCtorEq, Nat.reduceEqDiff, Nat.reduceAdd, Nat.reduceMul, Nat.reduceSub, Nat.reduceLeDiff, Nat.reduceLT, Int.reduceMul, Int.reduceAdd, Int.reduceSub, Int.reduceToNat, actionAV, inL, boL, vc, clFld, clHdr, clCas, clSta, clPar, clPrm, clKey, clStg, clRef, clGra, clAct, clTab, clRol, AV.cells, caseAV, fieldAV, grantAV, headerAV, keyAV, paramAV, primAV, refAV, roleAV, stageAV, stateAV, tableAV, ybb, zky, swH_nx]
  refine w_num (.inr rfl) (hW.push _) hl0 ?_
  rw [hF.p0]
  try simp only [go_sem, reduceCtorEq, Nat.reduceEqDiff, Nat.reduceAdd, Nat.reduceMul, Nat.reduceSub, Nat.reduceLeDiff, Nat.reduceLT, Int.reduceMul, Int.reduceAdd, Int.reduceSub, Int.reduceToNat, actionAV, inL, boL, vc, clFld, clHdr, clCas, clSta, clPar, clPrm, clKey, clStg, clRef, clGra, clAct, clTab, clRol, AV.cells, caseAV, fieldAV, grantAV, headerAV, keyAV, paramAV, primAV, refAV, roleAV, stageAV, stateAV, tableAV, ybb, zky, swH_nx]
  refine w_txt (ha.1) ((hW.next _).push _) hl1 ?_
  rw [hF.p1]
  have hE12 : (((((s).add (eNum a.id 2))).add (eTxt a.name 24))).add (eList eParam 4 a.params) = ((((((s).add (eNum a.id 2))).add (eTxt a.name 24))).add (eCnt a.params.length 4)).add (eAll eParam a.params) := enc_list
  have hT12 := hl2
  rw [hE12] at hT12
  have hN12 := put_len0 one_param hT12
  try simp only [go_sem, reduceCtorEq, Nat.reduceEqDiff, Nat.reduceAdd, Nat.reduceMul, Nat.reduceSub, Nat.reduceLeDiff, Nat.reduceLT, Int.reduceMul, Int.reduceAdd, Int.reduceSub, Int.reduceToNat, actionAV, inL, boL, vc, clFld, clHdr, clCas, clSta, clPar, clPrm, clKey, clStg, clRef, clGra, clAct, clTab, clRol, AV.cells, caseAV, fieldAV, grantAV, headerAV, keyAV, paramAV, primAV, refAV, roleAV, stageAV, stateAV, tableAV, ybb, zky, swH_nx]
  refine w_cnt ((hW.next _).push _) (enc_pre hT12) ?_
  rw [hF.p1]
  try simp only [go_sem, reduceCtorEq, Nat.reduceEqDiff, Nat.reduceAdd, Nat.reduceMul, Nat.reduceSub, Nat.reduceLeDiff, Nat.reduceLT, Int.reduceMul, Int.reduceAdd, Int.reduceSub, Int.reduceToNat, actionAV, inL, boL, vc, clFld, clHdr, clCas, clSta, clPar, clPrm, clKey, clStg, clRef, clGra, clAct, clTab, clRol, AV.cells, caseAV, fieldAV, grantAV, headerAV, keyAV, paramAV, primAV, refAV, roleAV, stageAV, stateAV, tableAV, ybb, zky, swH_nx]
  refine loop_introW (A := Nat) (fun k => [(0, .ptr id 0), (3, .ptr H.nx 0), (22, .slice .any 2 (a.params.map (paramAV))), (23, .int .i64 (a.params.length : Int)), (24, .int .i64 (k : Int))]) (fun k => (swH H id q (((((((s).add (eNum a.id 2))).add (eTxt a.name 24))).add (eCnt a.params.length 4)).add (eAll eParam (a.params.take k)))).push (.cells (clAct a))) (fun k => k ≤ a.params.length) (fun k => a.params.length - k) 0 (by omega) ?_ fun k1 hk1 => ?_
  · rw [yar, eAll, enc_add0]
    refine ⟨by simp only [zkk, zkp, zky, swH_nx]; omega, by repeat (first | exact AHeap.Le.refl _ | refine AHeap.Le.push ?_ _), closed_cells (hcl1 _) (lt_cl (x := actionAV a) fun _ => lt_actionAV a), ?_, ?_⟩
    · simp [ltF, zky, swH_nx, znh, zmz, zna, lt_map, lt_map lt_fieldAV, lt_map lt_headerAV, lt_map lt_caseAV, lt_map lt_stateAV, lt_map lt_paramAV, lt_map lt_primAV, lt_map lt_keyAV, lt_map lt_stageAV, lt_map lt_refAV, lt_map lt_grantAV, lt_map lt_actionAV, lt_map lt_tableAV, lt_map lt_roleAV, lt_map fun _ => lt_vv, lt_map fun _ => of_eq_true zmz, lt_map fun _ => of_eq_true zna]
      try omega
    · simp [subW, wk2, wk1, wkM, Fr.get]
  simp only [go_sem, reduceCtorEq, Nat.reduceEqDiff, Nat.reduceAdd, Nat.reduceMul, Nat.reduceSub, Nat.reduceLeDiff, Nat.reduceLT, Int.reduceMul, Int.reduceAdd, Int.reduceSub, Int.reduceToNat]
  refine cond_split (fun hc => ?_) (fun hc => ?_)
  · have hk1' : k1 < a.params.length := by simp at hc; omega
    obtain ⟨x1, hx1⟩ : ∃ x1, x1 = a.params[k1] := ⟨_, rfl⟩
    have hg1 := getD_map (f := paramAV) (l := a.params) (k := k1) (x := x1) (by rw [List.getElem?_eq_getElem hk1', hx1])
    have e15 : IntKind.i64.wrap ((k1 : Int) + 1) = ((k1 + 1 : Nat) : Int) := by rw [wrap_i64] <;> omega
    have ho1 := (ha.2.1) x1 (by rw [hx1]; exact List.getElem_mem hk1')
    obtain ⟨es1, hlk1⟩ := put_step (g := eParam) hk1' hx1 hT12
    simp only [go_sem, reduceCtorEq, Nat.reduceEqDiff, Nat.reduceAdd, Nat.reduceMul, Nat.reduceSub, Nat.reduceLeDiff, Nat.reduceLT, Int.reduceMul, Int.reduceAdd, Int.reduceSub, Int.reduceToNat, actionAV, inL, boL, vc, clFld, clHdr, clCas, clSta, clPar, clPrm, clKey, clStg, clRef, clGra, clAct, clTab, clRol, AV.cells, caseAV, fieldAV, grantAV, headerAV, keyAV, paramAV, primAV, refAV, roleAV, stageAV, stateAV, tableAV, ybb, zky, Int.toNat_natCast, ybb, hg1, paramAV, swH_nx]
    refine ⟨by omega, ?_⟩
    rw [show eParam x1 = ((eTxt x1.name 24).add (eNum x1.bits 1)) from rfl] at es1 hlk1
    rw [← enc_assoc] at hlk1
    rw [← enc_assoc] at es1
    have hm10 := enc_pre hlk1
    try simp only [go_sem, reduceCtorEq, Nat.reduceEqDiff, Nat.reduceAdd, Nat.reduceMul, Nat.reduceSub, Nat.reduceLeDiff, Nat.reduceLT, Int.reduceMul, Int.reduceAdd, Int.reduceSub, Int.reduceToNat, actionAV, inL, boL, vc, clFld, clHdr, clCas, clSta, clPar, clPrm, clKey, clStg, clRef, clGra, clAct, clTab, clRol, AV.cells, caseAV, fieldAV, grantAV, headerAV, keyAV, paramAV, primAV, refAV, roleAV, stageAV, stateAV, tableAV, ybb, zky, Int.toNat_natCast, ybb, hg1, paramAV, swH_nx]
    refine w_txt (ho1) ((hW.next _).push2 _ _) hm10 ?_
    rw [hF.p2]
    try simp only [go_sem, reduceCtorEq, Nat.reduceEqDiff, Nat.reduceAdd, Nat.reduceMul, Nat.reduceSub, Nat.reduceLeDiff, Nat.reduceLT, Int.reduceMul, Int.reduceAdd, Int.reduceSub, Int.reduceToNat, actionAV, inL, boL, vc, clFld, clHdr, clCas, clSta, clPar, clPrm, clKey, clStg, clRef, clGra, clAct, clTab, clRol, AV.cells, caseAV, fieldAV, grantAV, headerAV, keyAV, paramAV, primAV, refAV, roleAV, stageAV, stateAV, tableAV, ybb, zky, Int.toNat_natCast, ybb, hg1, paramAV, swH_nx]
    refine w_num (.inl rfl) ((hW.next _).push2 _ _) hlk1 ?_
    rw [hF.p2]
    rw [es1]
    simp only [go_sem, reduceCtorEq, Nat.reduceEqDiff, Nat.reduceAdd, Nat.reduceMul, Nat.reduceSub, Nat.reduceLeDiff, Nat.reduceLT, Int.reduceMul, Int.reduceAdd, Int.reduceSub, Int.reduceToNat, e15]
    refine ⟨k1 + 1, by omega, by omega, by simp only [zkk, zkp, zky, swH_nx]; omega, by repeat (first | exact AHeap.Le.refl _ | refine AHeap.Le.push ?_ _), closed_cells (hcl1 _) (lt_cl (x := actionAV a) fun _ => lt_actionAV a), ?_, ?_⟩
    · simp [ltF, zky, swH_nx, znh, zmz, zna, lt_map lt_fieldAV, lt_map lt_headerAV, lt_map lt_caseAV, lt_map lt_stateAV, lt_map lt_paramAV, lt_map lt_primAV, lt_map lt_keyAV, lt_map lt_stageAV, lt_map lt_refAV, lt_map lt_grantAV, lt_map lt_actionAV, lt_map lt_tableAV, lt_map lt_roleAV, lt_map fun _ => lt_vv, lt_map fun _ => of_eq_true zmz, lt_map fun _ => of_eq_true zna]
      try omega
    · simp [subW, wk2, wk1, wkM, Fr.get]
  · have hk1' : k1 = a.params.length := by simp at hc; omega
    subst hk1'
    rw [List.take_length]
    rw [← hE12]
    have hE13 : (((((((s).add (eNum a.id 2))).add (eTxt a.name 24))).add (eList eParam 4 a.params))).add (eList ePrim 12 a.body) = ((((((((s).add (eNum a.id 2))).add (eTxt a.name 24))).add (eList eParam 4 a.params))).add (eCnt a.body.length 12)).add (eAll ePrim a.body) := enc_list
    have hT13 := hl3
    rw [hE13] at hT13
    have hN13 := put_len0 one_prim hT13
    try simp only [go_sem, reduceCtorEq, Nat.reduceEqDiff, Nat.reduceAdd, Nat.reduceMul, Nat.reduceSub, Nat.reduceLeDiff, Nat.reduceLT, Int.reduceMul, Int.reduceAdd, Int.reduceSub, Int.reduceToNat, actionAV, inL, boL, vc, clFld, clHdr, clCas, clSta, clPar, clPrm, clKey, clStg, clRef, clGra, clAct, clTab, clRol, AV.cells, caseAV, fieldAV, grantAV, headerAV, keyAV, paramAV, primAV, refAV, roleAV, stageAV, stateAV, tableAV, ybb, zky, swH_nx]
    refine w_cnt ((hW.next _).push _) (enc_pre hT13) ?_
    rw [hF.p1]
    try simp only [go_sem, reduceCtorEq, Nat.reduceEqDiff, Nat.reduceAdd, Nat.reduceMul, Nat.reduceSub, Nat.reduceLeDiff, Nat.reduceLT, Int.reduceMul, Int.reduceAdd, Int.reduceSub, Int.reduceToNat, actionAV, inL, boL, vc, clFld, clHdr, clCas, clSta, clPar, clPrm, clKey, clStg, clRef, clGra, clAct, clTab, clRol, AV.cells, caseAV, fieldAV, grantAV, headerAV, keyAV, paramAV, primAV, refAV, roleAV, stageAV, stateAV, tableAV, ybb, zky, swH_nx]
    refine loop_introW (A := Nat) (fun k => [(0, .ptr id 0), (3, .ptr H.nx 0), (43, .slice .any 6 (a.body.map (primAV))), (44, .int .i64 (a.body.length : Int)), (45, .int .i64 (k : Int))]) (fun k => (swH H id q (((((((((s).add (eNum a.id 2))).add (eTxt a.name 24))).add (eList eParam 4 a.params))).add (eCnt a.body.length 12)).add (eAll ePrim (a.body.take k)))).push (.cells (clAct a))) (fun k => k ≤ a.body.length) (fun k => a.body.length - k) 0 (by omega) ?_ fun k1 hk1 => ?_
    · rw [yar, eAll, enc_add0]
      refine ⟨by simp only [zkk, zkp, zky, swH_nx]; omega, by repeat (first | exact AHeap.Le.refl _ | refine AHeap.Le.push ?_ _), closed_cells (hcl1 _) (lt_cl (x := actionAV a) fun _ => lt_actionAV a), ?_, ?_⟩
      · simp [ltF, zky, swH_nx, znh, zmz, zna, lt_map, lt_map lt_fieldAV, lt_map lt_headerAV, lt_map lt_caseAV, lt_map lt_stateAV, lt_map lt_paramAV, lt_map lt_primAV, lt_map lt_keyAV, lt_map lt_stageAV, lt_map lt_refAV, lt_map lt_grantAV, lt_map lt_actionAV, lt_map lt_tableAV, lt_map lt_roleAV, lt_map fun _ => lt_vv, lt_map fun _ => of_eq_true zmz, lt_map fun _ => of_eq_true zna]
        try omega
      · simp [subW, wk2, wk1, wkM, Fr.get]
    simp only [go_sem, reduceCtorEq, Nat.reduceEqDiff, Nat.reduceAdd, Nat.reduceMul, Nat.reduceSub, Nat.reduceLeDiff, Nat.reduceLT, Int.reduceMul, Int.reduceAdd, Int.reduceSub, Int.reduceToNat]
    refine cond_split (fun hc => ?_) (fun hc => ?_)
    · have hk1' : k1 < a.body.length := by simp at hc; omega
      obtain ⟨x1, hx1⟩ : ∃ x1, x1 = a.body[k1] := ⟨_, rfl⟩
      have hg1 := getD_map (f := primAV) (l := a.body) (k := k1) (x := x1) (by rw [List.getElem?_eq_getElem hk1', hx1])
      have e15 : IntKind.i64.wrap ((k1 : Int) + 1) = ((k1 + 1 : Nat) : Int) := by rw [wrap_i64] <;> omega
      have ho1 := (ha.2.2.1) x1 (by rw [hx1]; exact List.getElem_mem hk1')
      obtain ⟨es1, hlk1⟩ := put_step (g := ePrim) hk1' hx1 hT13
      simp only [go_sem, reduceCtorEq, Nat.reduceEqDiff, Nat.reduceAdd, Nat.reduceMul, Nat.reduceSub, Nat.reduceLeDiff, Nat.reduceLT, Int.reduceMul, Int.reduceAdd, Int.reduceSub, Int.reduceToNat, actionAV, inL, boL, vc, clFld, clHdr, clCas, clSta, clPar, clPrm, clKey, clStg, clRef, clGra, clAct, clTab, clRol, AV.cells, caseAV, fieldAV, grantAV, headerAV, keyAV, paramAV, primAV, refAV, roleAV, stageAV, stateAV, tableAV, ybb, zky, Int.toNat_natCast, ybb, hg1, primAV, vc, swH_nx]
      refine ⟨by omega, ?_⟩
      rw [show ePrim x1 = ((eNum x1.op 1).add ((eNum x1.dst 2).add ((eNum x1.kind 1).add ((eNum x1.n 2).add (eVal x1.value))))) from rfl] at es1 hlk1
      rw [← enc_assoc, ← enc_assoc, ← enc_assoc, ← enc_assoc] at hlk1
      rw [← enc_assoc, ← enc_assoc, ← enc_assoc, ← enc_assoc] at es1
      have hm13 := enc_pre hlk1
      have hm12 := enc_pre hm13
      have hm11 := enc_pre hm12
      have hm10 := enc_pre hm11
      try simp only [go_sem, reduceCtorEq, Nat.reduceEqDiff, Nat.reduceAdd, Nat.reduceMul, Nat.reduceSub, Nat.reduceLeDiff, Nat.reduceLT, Int.reduceMul, Int.reduceAdd, Int.reduceSub, Int.reduceToNat, actionAV, inL, boL, vc, clFld, clHdr, clCas, clSta, clPar, clPrm, clKey, clStg, clRef, clGra, clAct, clTab, clRol, AV.cells, caseAV, fieldAV, grantAV, headerAV, keyAV, paramAV, primAV, refAV, roleAV, stageAV, stateAV, tableAV, ybb, zky, Int.toNat_natCast, ybb, hg1, primAV, vc, swH_nx]
      refine w_num (.inl rfl) ((hW.next _).push2 _ _) hm10 ?_
      rw [hF.p2]
      try simp only [go_sem, reduceCtorEq, Nat.reduceEqDiff, Nat.reduceAdd, Nat.reduceMul, Nat.reduceSub, Nat.reduceLeDiff, Nat.reduceLT, Int.reduceMul, Int.reduceAdd, Int.reduceSub, Int.reduceToNat, actionAV, inL, boL, vc, clFld, clHdr, clCas, clSta, clPar, clPrm, clKey, clStg, clRef, clGra, clAct, clTab, clRol, AV.cells, caseAV, fieldAV, grantAV, headerAV, keyAV, paramAV, primAV, refAV, roleAV, stageAV, stateAV, tableAV, ybb, zky, Int.toNat_natCast, ybb, hg1, primAV, vc, swH_nx]
      refine w_num (.inr rfl) ((hW.next _).push2 _ _) hm11 ?_
      rw [hF.p2]
      try simp only [go_sem, reduceCtorEq, Nat.reduceEqDiff, Nat.reduceAdd, Nat.reduceMul, Nat.reduceSub, Nat.reduceLeDiff, Nat.reduceLT, Int.reduceMul, Int.reduceAdd, Int.reduceSub, Int.reduceToNat, actionAV, inL, boL, vc, clFld, clHdr, clCas, clSta, clPar, clPrm, clKey, clStg, clRef, clGra, clAct, clTab, clRol, AV.cells, caseAV, fieldAV, grantAV, headerAV, keyAV, paramAV, primAV, refAV, roleAV, stageAV, stateAV, tableAV, ybb, zky, Int.toNat_natCast, ybb, hg1, primAV, vc, swH_nx]
      refine w_num (.inl rfl) ((hW.next _).push2 _ _) hm12 ?_
      rw [hF.p2]
      try simp only [go_sem, reduceCtorEq, Nat.reduceEqDiff, Nat.reduceAdd, Nat.reduceMul, Nat.reduceSub, Nat.reduceLeDiff, Nat.reduceLT, Int.reduceMul, Int.reduceAdd, Int.reduceSub, Int.reduceToNat, actionAV, inL, boL, vc, clFld, clHdr, clCas, clSta, clPar, clPrm, clKey, clStg, clRef, clGra, clAct, clTab, clRol, AV.cells, caseAV, fieldAV, grantAV, headerAV, keyAV, paramAV, primAV, refAV, roleAV, stageAV, stateAV, tableAV, ybb, zky, Int.toNat_natCast, ybb, hg1, primAV, vc, swH_nx]
      refine w_num (.inr rfl) ((hW.next _).push2 _ _) hm13 ?_
      rw [hF.p2]
      try simp only [go_sem, reduceCtorEq, Nat.reduceEqDiff, Nat.reduceAdd, Nat.reduceMul, Nat.reduceSub, Nat.reduceLeDiff, Nat.reduceLT, Int.reduceMul, Int.reduceAdd, Int.reduceSub, Int.reduceToNat, actionAV, inL, boL, vc, clFld, clHdr, clCas, clSta, clPar, clPrm, clKey, clStg, clRef, clGra, clAct, clTab, clRol, AV.cells, caseAV, fieldAV, grantAV, headerAV, keyAV, paramAV, primAV, refAV, roleAV, stageAV, stateAV, tableAV, ybb, zky, Int.toNat_natCast, ybb, hg1, primAV, vc, swH_nx]
      refine w_val (ho1) ((hW.next _).push2 _ _) hlk1 ?_
      rw [hF.p2]
      rw [es1]
      simp only [go_sem, reduceCtorEq, Nat.reduceEqDiff, Nat.reduceAdd, Nat.reduceMul, Nat.reduceSub, Nat.reduceLeDiff, Nat.reduceLT, Int.reduceMul, Int.reduceAdd, Int.reduceSub, Int.reduceToNat, e15]
      refine ⟨k1 + 1, by omega, by omega, by simp only [zkk, zkp, zky, swH_nx]; omega, by repeat (first | exact AHeap.Le.refl _ | refine AHeap.Le.push ?_ _), closed_cells (hcl1 _) (lt_cl (x := actionAV a) fun _ => lt_actionAV a), ?_, ?_⟩
      · simp [ltF, zky, swH_nx, znh, zmz, zna, lt_map lt_fieldAV, lt_map lt_headerAV, lt_map lt_caseAV, lt_map lt_stateAV, lt_map lt_paramAV, lt_map lt_primAV, lt_map lt_keyAV, lt_map lt_stageAV, lt_map lt_refAV, lt_map lt_grantAV, lt_map lt_actionAV, lt_map lt_tableAV, lt_map lt_roleAV, lt_map fun _ => lt_vv, lt_map fun _ => of_eq_true zmz, lt_map fun _ => of_eq_true zna]
        try omega
      · simp [subW, wk2, wk1, wkM, Fr.get]
    · have hk1' : k1 = a.body.length := by simp at hc; omega
      subst hk1'
      rw [List.take_length]
      rw [← hE13]
      try simp only [go_sem, reduceCtorEq, Nat.reduceEqDiff, Nat.reduceAdd, Nat.reduceMul, Nat.reduceSub, Nat.reduceLeDiff, Nat.reduceLT, Int.reduceMul, Int.reduceAdd, Int.reduceSub, Int.reduceToNat, actionAV, inL, boL, vc, clFld, clHdr, clCas, clSta, clPar, clPrm, clKey, clStg, clRef, clGra, clAct, clTab, clRol, AV.cells, caseAV, fieldAV, grantAV, headerAV, keyAV, paramAV, primAV, refAV, roleAV, stageAV, stateAV, tableAV, ybb, zky, swH_nx]
      refine w_txt (ha.2.2.2) ((hW.next _).push _) hl ?_
      rw [hF.p1]
      try simp only [go_sem, reduceCtorEq, Nat.reduceEqDiff, Nat.reduceAdd, Nat.reduceMul, Nat.reduceSub, Nat.reduceLeDiff, Nat.reduceLT, Int.reduceMul, Int.reduceAdd, Int.reduceSub, Int.reduceToNat, actionAV, inL, boL, vc, clFld, clHdr, clCas, clSta, clPar, clPrm, clKey, clStg, clRef, clGra, clAct, clTab, clRol, AV.cells, caseAV, fieldAV, grantAV, headerAV, keyAV, paramAV, primAV, refAV, roleAV, stageAV, stateAV, tableAV, ybb, zky, swH_nx]
      refine ⟨?_, by repeat (first | exact AHeap.Le.refl _ | refine AHeap.Le.push ?_ _), hcl1 _, ?_⟩
      · simp [wk, wk2, wk1, wkLL]
      · simp [znm, znp]
set_option maxHeartbeats 16000000 in
theorem ok_yTab : EntOk Tryz.prog 76 (Ent.effect e_yTab) := by
  unfold e_yTab
  refine EntOk.effect fun args H K h => ?_
  unfold eW at h
  split at h
  rotate_left
  · exact h.elim
  rename_i id x
  obtain ⟨q, s, a, ⟨hW, rfl, ha, hl⟩, hK⟩ := h
  refine ⟨_, _, hK, ?_⟩
  clear hK
  have hF := hW.facts
  have hcl0 := fun t => hW.closed (t := t)
  have hid := AHeap.get_lt hW.o
  have hq := AHeap.get_lt hW.bu
  refine ACalls.of_aw (Ω := [(74, Ent.effect e_yCnt), (72, Ent.effect e_yNum), (217, Ent.effect e_yNums), (216, Ent.effect e_yTxt), (218, Ent.effect e_yVal)]) (T := assoc []) mixed (TblOk.cons ok_yCnt (TblOk.cons ok_yNum (TblOk.cons ok_yNums (TblOk.cons ok_yTxt (TblOk.cons ok_yVal TblOk.nil))))) Tryz.func76 (by kernel_rfl) (by rfl) (rs := []) (by rfl) (by kernel_rfl) (by simp only [Tryz.ntmps76, yaz, yba]; decide) (by rw [swH_nx]; omega) fun hcl hlt => ?_
  change aw _ _ _ (KI Tryz.prog [(74, Ent.effect e_yCnt), (72, Ent.effect e_yNum), (217, Ent.effect e_yNums), (216, Ent.effect e_yTxt), (218, Ent.effect e_yVal)] (aEnd Tryz.prog [] H.nx _ _ (assoc [])) []) _ _
  clear hlt
  have hcl1 := fun t => hcl0 t hcl
  unfold eTable at hl ⊢
  rw [← enc_assoc, ← enc_assoc, ← enc_assoc, ← enc_assoc, ← enc_assoc, ← enc_assoc, ← enc_assoc] at hl ⊢
  have hl6 := enc_pre hl
  have hl5 := enc_pre hl6
  have hl4 := enc_pre hl5
  have hl3 := enc_pre hl4
  have hl2 := enc_pre hl3
  have hl1 := enc_pre hl2
  have hl0 := enc_pre hl1
  try simp only [go_sem, reduceCtorEq, Nat.reduceEqDiff, Nat.reduceAdd, Nat.reduceMul, Nat.reduceSub, Nat.reduceLeDiff, Nat.reduceLT, Int.reduceMul, Int.reduceAdd, Int.reduceSub, Int.reduceToNat, tableAV, inL, boL, vc, clFld, clHdr, clCas, clSta, clPar, clPrm, clKey, clStg, clRef, clGra, clAct, clTab, clRol, AV.cells, actionAV, caseAV, fieldAV, grantAV, headerAV, keyAV, paramAV, primAV, refAV, roleAV, stageAV, stateAV, ybb, zky, swH_nx]
  refine w_num (.inr rfl) (hW.push _) hl0 ?_
  rw [hF.p0]
  try simp only [go_sem, reduceCtorEq, Nat.reduceEqDiff, Nat.reduceAdd, Nat.reduceMul, Nat.reduceSub, Nat.reduceLeDiff, Nat.reduceLT, Int.reduceMul, Int.reduceAdd, Int.reduceSub, Int.reduceToNat, tableAV, inL, boL, vc, clFld, clHdr, clCas, clSta, clPar, clPrm, clKey, clStg, clRef, clGra, clAct, clTab, clRol, AV.cells, actionAV, caseAV, fieldAV, grantAV, headerAV, keyAV, paramAV, primAV, refAV, roleAV, stageAV, stateAV, ybb, zky, swH_nx]
  refine w_txt (ha.1) ((hW.next _).push _) hl1 ?_
  rw [hF.p1]
  have hE12 : (((((s).add (eNum a.id 2))).add (eTxt a.name 24))).add (eList eKey 4 a.keys) = ((((((s).add (eNum a.id 2))).add (eTxt a.name 24))).add (eCnt a.keys.length 4)).add (eAll eKey a.keys) := enc_list
  have hT12 := hl2
  rw [hE12] at hT12
  have hN12 := put_len0 one_key hT12
  try simp only [go_sem, reduceCtorEq, Nat.reduceEqDiff, Nat.reduceAdd, Nat.reduceMul, Nat.reduceSub, Nat.reduceLeDiff, Nat.reduceLT, Int.reduceMul, Int.reduceAdd, Int.reduceSub, Int.reduceToNat, tableAV, inL, boL, vc, clFld, clHdr, clCas, clSta, clPar, clPrm, clKey, clStg, clRef, clGra, clAct, clTab, clRol, AV.cells, actionAV, caseAV, fieldAV, grantAV, headerAV, keyAV, paramAV, primAV, refAV, roleAV, stageAV, stateAV, ybb, zky, swH_nx]
  refine w_cnt ((hW.next _).push _) (enc_pre hT12) ?_
  rw [hF.p1]
  try simp only [go_sem, reduceCtorEq, Nat.reduceEqDiff, Nat.reduceAdd, Nat.reduceMul, Nat.reduceSub, Nat.reduceLeDiff, Nat.reduceLT, Int.reduceMul, Int.reduceAdd, Int.reduceSub, Int.reduceToNat, tableAV, inL, boL, vc, clFld, clHdr, clCas, clSta, clPar, clPrm, clKey, clStg, clRef, clGra, clAct, clTab, clRol, AV.cells, actionAV, caseAV, fieldAV, grantAV, headerAV, keyAV, paramAV, primAV, refAV, roleAV, stageAV, stateAV, ybb, zky, swH_nx]
  refine loop_introW (A := Nat) (fun k => [(0, .ptr id 0), (3, .ptr H.nx 0), (22, .slice .any 3 (a.keys.map (keyAV))), (23, .int .i64 (a.keys.length : Int)), (24, .int .i64 (k : Int))]) (fun k => (swH H id q (((((((s).add (eNum a.id 2))).add (eTxt a.name 24))).add (eCnt a.keys.length 4)).add (eAll eKey (a.keys.take k)))).push (.cells (clTab a))) (fun k => k ≤ a.keys.length) (fun k => a.keys.length - k) 0 (by omega) ?_ fun k1 hk1 => ?_
  · rw [yar, eAll, enc_add0]
    refine ⟨by simp only [zkk, zkp, zky, swH_nx]; omega, by repeat (first | exact AHeap.Le.refl _ | refine AHeap.Le.push ?_ _), closed_cells (hcl1 _) (lt_cl (x := tableAV a) fun _ => lt_tableAV a), ?_, ?_⟩
    · simp [ltF, zky, swH_nx, znh, zmz, zna, lt_map, lt_map lt_fieldAV, lt_map lt_headerAV, lt_map lt_caseAV, lt_map lt_stateAV, lt_map lt_paramAV, lt_map lt_primAV, lt_map lt_keyAV, lt_map lt_stageAV, lt_map lt_refAV, lt_map lt_grantAV, lt_map lt_actionAV, lt_map lt_tableAV, lt_map lt_roleAV, lt_map fun _ => lt_vv, lt_map fun _ => of_eq_true zmz, lt_map fun _ => of_eq_true zna]
      try omega
    · simp [subW, wk2, wk1, wkM, Fr.get]
  simp only [go_sem, reduceCtorEq, Nat.reduceEqDiff, Nat.reduceAdd, Nat.reduceMul, Nat.reduceSub, Nat.reduceLeDiff, Nat.reduceLT, Int.reduceMul, Int.reduceAdd, Int.reduceSub, Int.reduceToNat]
  refine cond_split (fun hc => ?_) (fun hc => ?_)
  · have hk1' : k1 < a.keys.length := by simp at hc; omega
    obtain ⟨x1, hx1⟩ : ∃ x1, x1 = a.keys[k1] := ⟨_, rfl⟩
    have hg1 := getD_map (f := keyAV) (l := a.keys) (k := k1) (x := x1) (by rw [List.getElem?_eq_getElem hk1', hx1])
    have e15 : IntKind.i64.wrap ((k1 : Int) + 1) = ((k1 + 1 : Nat) : Int) := by rw [wrap_i64] <;> omega
    have ho1 := (ha.2.1) x1 (by rw [hx1]; exact List.getElem_mem hk1')
    obtain ⟨es1, hlk1⟩ := put_step (g := eKey) hk1' hx1 hT12
    simp only [go_sem, reduceCtorEq, Nat.reduceEqDiff, Nat.reduceAdd, Nat.reduceMul, Nat.reduceSub, Nat.reduceLeDiff, Nat.reduceLT, Int.reduceMul, Int.reduceAdd, Int.reduceSub, Int.reduceToNat, tableAV, inL, boL, vc, clFld, clHdr, clCas, clSta, clPar, clPrm, clKey, clStg, clRef, clGra, clAct, clTab, clRol, AV.cells, actionAV, caseAV, fieldAV, grantAV, headerAV, keyAV, paramAV, primAV, refAV, roleAV, stageAV, stateAV, ybb, zky, Int.toNat_natCast, ybb, hg1, keyAV, swH_nx]
    refine ⟨by omega, ?_⟩
    rw [show eKey x1 = ((eTxt x1.name 24).add ((eNum x1.field 2).add (eNum x1.kind 1))) from rfl] at es1 hlk1
    rw [← enc_assoc, ← enc_assoc] at hlk1
    rw [← enc_assoc, ← enc_assoc] at es1
    have hm11 := enc_pre hlk1
    have hm10 := enc_pre hm11
    try simp only [go_sem, reduceCtorEq, Nat.reduceEqDiff, Nat.reduceAdd, Nat.reduceMul, Nat.reduceSub, Nat.reduceLeDiff, Nat.reduceLT, Int.reduceMul, Int.reduceAdd, Int.reduceSub, Int.reduceToNat, tableAV, inL, boL, vc, clFld, clHdr, clCas, clSta, clPar, clPrm, clKey, clStg, clRef, clGra, clAct, clTab, clRol, AV.cells, actionAV, caseAV, fieldAV, grantAV, headerAV, keyAV, paramAV, primAV, refAV, roleAV, stageAV, stateAV, ybb, zky, Int.toNat_natCast, ybb, hg1, keyAV, swH_nx]
    refine w_txt (ho1) ((hW.next _).push2 _ _) hm10 ?_
    rw [hF.p2]
    try simp only [go_sem, reduceCtorEq, Nat.reduceEqDiff, Nat.reduceAdd, Nat.reduceMul, Nat.reduceSub, Nat.reduceLeDiff, Nat.reduceLT, Int.reduceMul, Int.reduceAdd, Int.reduceSub, Int.reduceToNat, tableAV, inL, boL, vc, clFld, clHdr, clCas, clSta, clPar, clPrm, clKey, clStg, clRef, clGra, clAct, clTab, clRol, AV.cells, actionAV, caseAV, fieldAV, grantAV, headerAV, keyAV, paramAV, primAV, refAV, roleAV, stageAV, stateAV, ybb, zky, Int.toNat_natCast, ybb, hg1, keyAV, swH_nx]
    refine w_num (.inr rfl) ((hW.next _).push2 _ _) hm11 ?_
    rw [hF.p2]
    try simp only [go_sem, reduceCtorEq, Nat.reduceEqDiff, Nat.reduceAdd, Nat.reduceMul, Nat.reduceSub, Nat.reduceLeDiff, Nat.reduceLT, Int.reduceMul, Int.reduceAdd, Int.reduceSub, Int.reduceToNat, tableAV, inL, boL, vc, clFld, clHdr, clCas, clSta, clPar, clPrm, clKey, clStg, clRef, clGra, clAct, clTab, clRol, AV.cells, actionAV, caseAV, fieldAV, grantAV, headerAV, keyAV, paramAV, primAV, refAV, roleAV, stageAV, stateAV, ybb, zky, Int.toNat_natCast, ybb, hg1, keyAV, swH_nx]
    refine w_num (.inl rfl) ((hW.next _).push2 _ _) hlk1 ?_
    rw [hF.p2]
    rw [es1]
    simp only [go_sem, reduceCtorEq, Nat.reduceEqDiff, Nat.reduceAdd, Nat.reduceMul, Nat.reduceSub, Nat.reduceLeDiff, Nat.reduceLT, Int.reduceMul, Int.reduceAdd, Int.reduceSub, Int.reduceToNat, e15]
    refine ⟨k1 + 1, by omega, by omega, by simp only [zkk, zkp, zky, swH_nx]; omega, by repeat (first | exact AHeap.Le.refl _ | refine AHeap.Le.push ?_ _), closed_cells (hcl1 _) (lt_cl (x := tableAV a) fun _ => lt_tableAV a), ?_, ?_⟩
    · simp [ltF, zky, swH_nx, znh, zmz, zna, lt_map lt_fieldAV, lt_map lt_headerAV, lt_map lt_caseAV, lt_map lt_stateAV, lt_map lt_paramAV, lt_map lt_primAV, lt_map lt_keyAV, lt_map lt_stageAV, lt_map lt_refAV, lt_map lt_grantAV, lt_map lt_actionAV, lt_map lt_tableAV, lt_map lt_roleAV, lt_map fun _ => lt_vv, lt_map fun _ => of_eq_true zmz, lt_map fun _ => of_eq_true zna]
      try omega
    · simp [subW, wk2, wk1, wkM, Fr.get]
  · have hk1' : k1 = a.keys.length := by simp at hc; omega
    subst hk1'
    rw [List.take_length]
    rw [← hE12]
    try simp only [go_sem, reduceCtorEq, Nat.reduceEqDiff, Nat.reduceAdd, Nat.reduceMul, Nat.reduceSub, Nat.reduceLeDiff, Nat.reduceLT, Int.reduceMul, Int.reduceAdd, Int.reduceSub, Int.reduceToNat, tableAV, inL, boL, vc, clFld, clHdr, clCas, clSta, clPar, clPrm, clKey, clStg, clRef, clGra, clAct, clTab, clRol, AV.cells, actionAV, caseAV, fieldAV, grantAV, headerAV, keyAV, paramAV, primAV, refAV, roleAV, stageAV, stateAV, ybb, zky, swH_nx]
    refine w_nums ((hW.next _).push _) hl3 ?_
    rw [hF.p1]
    try simp only [go_sem, reduceCtorEq, Nat.reduceEqDiff, Nat.reduceAdd, Nat.reduceMul, Nat.reduceSub, Nat.reduceLeDiff, Nat.reduceLT, Int.reduceMul, Int.reduceAdd, Int.reduceSub, Int.reduceToNat, tableAV, inL, boL, vc, clFld, clHdr, clCas, clSta, clPar, clPrm, clKey, clStg, clRef, clGra, clAct, clTab, clRol, AV.cells, actionAV, caseAV, fieldAV, grantAV, headerAV, keyAV, paramAV, primAV, refAV, roleAV, stageAV, stateAV, ybb, zky, swH_nx]
    refine w_num (.inr rfl) ((hW.next _).push _) hl4 ?_
    rw [hF.p1]
    have hE15 : (((((((((((s).add (eNum a.id 2))).add (eTxt a.name 24))).add (eList eKey 4 a.keys))).add (eList eInt 12 a.actions))).add (eNum a.dflt 2))).add (eList eVal 4 a.dargs) = ((((((((((((s).add (eNum a.id 2))).add (eTxt a.name 24))).add (eList eKey 4 a.keys))).add (eList eInt 12 a.actions))).add (eNum a.dflt 2))).add (eCnt a.dargs.length 4)).add (eAll eVal a.dargs) := enc_list
    have hT15 := hl5
    rw [hE15] at hT15
    have hN15 := put_len0 one_eVal hT15
    try simp only [go_sem, reduceCtorEq, Nat.reduceEqDiff, Nat.reduceAdd, Nat.reduceMul, Nat.reduceSub, Nat.reduceLeDiff, Nat.reduceLT, Int.reduceMul, Int.reduceAdd, Int.reduceSub, Int.reduceToNat, tableAV, inL, boL, vc, clFld, clHdr, clCas, clSta, clPar, clPrm, clKey, clStg, clRef, clGra, clAct, clTab, clRol, AV.cells, actionAV, caseAV, fieldAV, grantAV, headerAV, keyAV, paramAV, primAV, refAV, roleAV, stageAV, stateAV, ybb, zky, swH_nx]
    refine w_cnt ((hW.next _).push _) (enc_pre hT15) ?_
    rw [hF.p1]
    try simp only [go_sem, reduceCtorEq, Nat.reduceEqDiff, Nat.reduceAdd, Nat.reduceMul, Nat.reduceSub, Nat.reduceLeDiff, Nat.reduceLT, Int.reduceMul, Int.reduceAdd, Int.reduceSub, Int.reduceToNat, tableAV, inL, boL, vc, clFld, clHdr, clCas, clSta, clPar, clPrm, clKey, clStg, clRef, clGra, clAct, clTab, clRol, AV.cells, actionAV, caseAV, fieldAV, grantAV, headerAV, keyAV, paramAV, primAV, refAV, roleAV, stageAV, stateAV, ybb, zky, swH_nx]
    refine loop_introW (A := Nat) (fun k => [(0, .ptr id 0), (3, .ptr H.nx 0), (55, .slice .any 2 (a.dargs.map (vv))), (56, .int .i64 (a.dargs.length : Int)), (57, .int .i64 (k : Int))]) (fun k => (swH H id q (((((((((((((s).add (eNum a.id 2))).add (eTxt a.name 24))).add (eList eKey 4 a.keys))).add (eList eInt 12 a.actions))).add (eNum a.dflt 2))).add (eCnt a.dargs.length 4)).add (eAll eVal (a.dargs.take k)))).push (.cells (clTab a))) (fun k => k ≤ a.dargs.length) (fun k => a.dargs.length - k) 0 (by omega) ?_ fun k1 hk1 => ?_
    · rw [yar, eAll, enc_add0]
      refine ⟨by simp only [zkk, zkp, zky, swH_nx]; omega, by repeat (first | exact AHeap.Le.refl _ | refine AHeap.Le.push ?_ _), closed_cells (hcl1 _) (lt_cl (x := tableAV a) fun _ => lt_tableAV a), ?_, ?_⟩
      · simp [ltF, zky, swH_nx, znh, zmz, zna, lt_map, lt_map lt_fieldAV, lt_map lt_headerAV, lt_map lt_caseAV, lt_map lt_stateAV, lt_map lt_paramAV, lt_map lt_primAV, lt_map lt_keyAV, lt_map lt_stageAV, lt_map lt_refAV, lt_map lt_grantAV, lt_map lt_actionAV, lt_map lt_tableAV, lt_map lt_roleAV, lt_map fun _ => lt_vv, lt_map fun _ => of_eq_true zmz, lt_map fun _ => of_eq_true zna]
        try omega
      · simp [subW, wk2, wk1, wkM, Fr.get]
    simp only [go_sem, reduceCtorEq, Nat.reduceEqDiff, Nat.reduceAdd, Nat.reduceMul, Nat.reduceSub, Nat.reduceLeDiff, Nat.reduceLT, Int.reduceMul, Int.reduceAdd, Int.reduceSub, Int.reduceToNat]
    refine cond_split (fun hc => ?_) (fun hc => ?_)
    · have hk1' : k1 < a.dargs.length := by simp at hc; omega
      obtain ⟨x1, hx1⟩ : ∃ x1, x1 = a.dargs[k1] := ⟨_, rfl⟩
      have hg1 := getD_map (f := vv) (l := a.dargs) (k := k1) (x := x1) (by rw [List.getElem?_eq_getElem hk1', hx1])
      have e15 : IntKind.i64.wrap ((k1 : Int) + 1) = ((k1 + 1 : Nat) : Int) := by rw [wrap_i64] <;> omega
      have ho1 := (ha.2.2.1) x1 (by rw [hx1]; exact List.getElem_mem hk1')
      obtain ⟨es1, hlk1⟩ := put_step (g := eVal) hk1' hx1 hT15
      simp only [go_sem, reduceCtorEq, Nat.reduceEqDiff, Nat.reduceAdd, Nat.reduceMul, Nat.reduceSub, Nat.reduceLeDiff, Nat.reduceLT, Int.reduceMul, Int.reduceAdd, Int.reduceSub, Int.reduceToNat, tableAV, inL, boL, vc, clFld, clHdr, clCas, clSta, clPar, clPrm, clKey, clStg, clRef, clGra, clAct, clTab, clRol, AV.cells, actionAV, caseAV, fieldAV, grantAV, headerAV, keyAV, paramAV, primAV, refAV, roleAV, stageAV, stateAV, ybb, zky, Int.toNat_natCast, ybb, hg1, vv, swH_nx]
      refine ⟨by omega, ?_⟩
      try skip
      refine w_val (ho1) ((hW.next _).push2 _ _) hlk1 ?_
      rw [hF.p2]
      rw [es1]
      simp only [go_sem, reduceCtorEq, Nat.reduceEqDiff, Nat.reduceAdd, Nat.reduceMul, Nat.reduceSub, Nat.reduceLeDiff, Nat.reduceLT, Int.reduceMul, Int.reduceAdd, Int.reduceSub, Int.reduceToNat, e15]
      refine ⟨k1 + 1, by omega, by omega, by simp only [zkk, zkp, zky, swH_nx]; omega, by repeat (first | exact AHeap.Le.refl _ | refine AHeap.Le.push ?_ _), closed_cells (hcl1 _) (lt_cl (x := tableAV a) fun _ => lt_tableAV a), ?_, ?_⟩
      · simp [ltF, zky, swH_nx, znh, zmz, zna, lt_map lt_fieldAV, lt_map lt_headerAV, lt_map lt_caseAV, lt_map lt_stateAV, lt_map lt_paramAV, lt_map lt_primAV, lt_map lt_keyAV, lt_map lt_stageAV, lt_map lt_refAV, lt_map lt_grantAV, lt_map lt_actionAV, lt_map lt_tableAV, lt_map lt_roleAV, lt_map fun _ => lt_vv, lt_map fun _ => of_eq_true zmz, lt_map fun _ => of_eq_true zna]
        try omega
      · simp [subW, wk2, wk1, wkM, Fr.get]
    · have hk1' : k1 = a.dargs.length := by simp at hc; omega
      subst hk1'
      rw [List.take_length]
      rw [← hE15]
      try simp only [go_sem, reduceCtorEq, Nat.reduceEqDiff, Nat.reduceAdd, Nat.reduceMul, Nat.reduceSub, Nat.reduceLeDiff, Nat.reduceLT, Int.reduceMul, Int.reduceAdd, Int.reduceSub, Int.reduceToNat, tableAV, inL, boL, vc, clFld, clHdr, clCas, clSta, clPar, clPrm, clKey, clStg, clRef, clGra, clAct, clTab, clRol, AV.cells, actionAV, caseAV, fieldAV, grantAV, headerAV, keyAV, paramAV, primAV, refAV, roleAV, stageAV, stateAV, ybb, zky, swH_nx]
      refine w_num (.inr rfl) ((hW.next _).push _) hl6 ?_
      rw [hF.p1]
      try simp only [go_sem, reduceCtorEq, Nat.reduceEqDiff, Nat.reduceAdd, Nat.reduceMul, Nat.reduceSub, Nat.reduceLeDiff, Nat.reduceLT, Int.reduceMul, Int.reduceAdd, Int.reduceSub, Int.reduceToNat, tableAV, inL, boL, vc, clFld, clHdr, clCas, clSta, clPar, clPrm, clKey, clStg, clRef, clGra, clAct, clTab, clRol, AV.cells, actionAV, caseAV, fieldAV, grantAV, headerAV, keyAV, paramAV, primAV, refAV, roleAV, stageAV, stateAV, ybb, zky, swH_nx]
      refine w_txt (ha.2.2.2) ((hW.next _).push _) hl ?_
      rw [hF.p1]
      try simp only [go_sem, reduceCtorEq, Nat.reduceEqDiff, Nat.reduceAdd, Nat.reduceMul, Nat.reduceSub, Nat.reduceLeDiff, Nat.reduceLT, Int.reduceMul, Int.reduceAdd, Int.reduceSub, Int.reduceToNat, tableAV, inL, boL, vc, clFld, clHdr, clCas, clSta, clPar, clPrm, clKey, clStg, clRef, clGra, clAct, clTab, clRol, AV.cells, actionAV, caseAV, fieldAV, grantAV, headerAV, keyAV, paramAV, primAV, refAV, roleAV, stageAV, stateAV, ybb, zky, swH_nx]
      refine ⟨?_, by repeat (first | exact AHeap.Le.refl _ | refine AHeap.Le.push ?_ _), hcl1 _, ?_⟩
      · simp [wk, wk2, wk1, wkLL]
      · simp [znm, znp]
end Go.AL


open Go Go.AL Go.Proofs
namespace Go.AL
set_option linter.all false
set_option maxRecDepth 10000

abbrev clSch (x : Sch) : List AV := (schAV x).cells
theorem lt_schAV {n : Nat} (x : Sch) : (schAV x).lt n := lt_sch x
set_option maxHeartbeats 16000000 in
theorem ok_yRol : EntOk Tryz.prog 77 (Ent.effect e_yRol) := by
  unfold e_yRol
  refine EntOk.effect fun args H K h => ?_
  unfold eW at h
  split at h
  rotate_left
  · exact h.elim
  rename_i id x
  obtain ⟨q, s, a, ⟨hW, rfl, ha, hl⟩, hK⟩ := h
  refine ⟨_, _, hK, ?_⟩
  clear hK
  have hF := hW.facts
  have hcl0 := fun t => hW.closed (t := t)
  have hid := AHeap.get_lt hW.o
  have hq := AHeap.get_lt hW.bu
  refine ACalls.of_aw (Ω := [(74, Ent.effect e_yCnt), (72, Ent.effect e_yNum), (217, Ent.effect e_yNums), (219, Ent.effect e_yTru), (216, Ent.effect e_yTxt)]) (T := assoc []) mixed (TblOk.cons ok_yCnt (TblOk.cons ok_yNum (TblOk.cons ok_yNums (TblOk.cons ok_yTru (TblOk.cons ok_yTxt TblOk.nil))))) Tryz.func77 (by kernel_rfl) (by rfl) (rs := []) (by rfl) (by kernel_rfl) (by simp only [Tryz.ntmps77, yaz, yba]; decide) (by rw [swH_nx]; omega) fun hcl hlt => ?_
  change aw _ _ _ (KI Tryz.prog [(74, Ent.effect e_yCnt), (72, Ent.effect e_yNum), (217, Ent.effect e_yNums), (219, Ent.effect e_yTru), (216, Ent.effect e_yTxt)] (aEnd Tryz.prog [] H.nx _ _ (assoc [])) []) _ _
  clear hlt
  have hcl1 := fun t => hcl0 t hcl
  unfold eRole at hl ⊢
  rw [← enc_assoc, ← enc_assoc, ← enc_assoc, ← enc_assoc, ← enc_assoc] at hl ⊢
  have hl4 := enc_pre hl
  have hl3 := enc_pre hl4
  have hl2 := enc_pre hl3
  have hl1 := enc_pre hl2
  have hl0 := enc_pre hl1
  try simp only [go_sem, reduceCtorEq, Nat.reduceEqDiff, Nat.reduceAdd, Nat.reduceMul, Nat.reduceSub, Nat.reduceLeDiff, Nat.reduceLT, Int.reduceMul, Int.reduceAdd, Int.reduceSub, Int.reduceToNat, roleAV, inL, boL, vc, clFld, clHdr, clCas, clSta, clPar, clPrm, clKey, clStg, clRef, clGra, clAct, clTab, clRol, AV.cells, actionAV, caseAV, fieldAV, grantAV, headerAV, keyAV, paramAV, primAV, refAV, stageAV, stateAV, tableAV, ybb, zky, swH_nx]
  refine w_num (.inr rfl) (hW.push _) hl0 ?_
  rw [hF.p0]
  try simp only [go_sem, reduceCtorEq, Nat.reduceEqDiff, Nat.reduceAdd, Nat.reduceMul, Nat.reduceSub, Nat.reduceLeDiff, Nat.reduceLT, Int.reduceMul, Int.reduceAdd, Int.reduceSub, Int.reduceToNat, roleAV, inL, boL, vc, clFld, clHdr, clCas, clSta, clPar, clPrm, clKey, clStg, clRef, clGra, clAct, clTab, clRol, AV.cells, actionAV, caseAV, fieldAV, grantAV, headerAV, keyAV, paramAV, primAV, refAV, stageAV, stateAV, tableAV, ybb, zky, swH_nx]
  refine w_txt (ha) ((hW.next _).push _) hl1 ?_
  rw [hF.p1]
  have hE12 : (((((s).add (eNum a.id 2))).add (eTxt a.name 24))).add (eList eGrant 8 a.grants) = ((((((s).add (eNum a.id 2))).add (eTxt a.name 24))).add (eCnt a.grants.length 8)).add (eAll eGrant a.grants) := enc_list
  have hT12 := hl2
  rw [hE12] at hT12
  have hN12 := put_len0 one_grant hT12
  try simp only [go_sem, reduceCtorEq, Nat.reduceEqDiff, Nat.reduceAdd, Nat.reduceMul, Nat.reduceSub, Nat.reduceLeDiff, Nat.reduceLT, Int.reduceMul, Int.reduceAdd, Int.reduceSub, Int.reduceToNat, roleAV, inL, boL, vc, clFld, clHdr, clCas, clSta, clPar, clPrm, clKey, clStg, clRef, clGra, clAct, clTab, clRol, AV.cells, actionAV, caseAV, fieldAV, grantAV, headerAV, keyAV, paramAV, primAV, refAV, stageAV, stateAV, tableAV, ybb, zky, swH_nx]
  refine w_cnt ((hW.next _).push _) (enc_pre hT12) ?_
  rw [hF.p1]
  try simp only [go_sem, reduceCtorEq, Nat.reduceEqDiff, Nat.reduceAdd, Nat.reduceMul, Nat.reduceSub, Nat.reduceLeDiff, Nat.reduceLT, Int.reduceMul, Int.reduceAdd, Int.reduceSub, Int.reduceToNat, roleAV, inL, boL, vc, clFld, clHdr, clCas, clSta, clPar, clPrm, clKey, clStg, clRef, clGra, clAct, clTab, clRol, AV.cells, actionAV, caseAV, fieldAV, grantAV, headerAV, keyAV, paramAV, primAV, refAV, stageAV, stateAV, tableAV, ybb, zky, swH_nx]
  refine loop_introW (A := Nat) (fun k => [(0, .ptr id 0), (3, .ptr H.nx 0), (22, .slice .any 4 (a.grants.map (grantAV))), (23, .int .i64 (a.grants.length : Int)), (24, .int .i64 (k : Int))]) (fun k => (swH H id q (((((((s).add (eNum a.id 2))).add (eTxt a.name 24))).add (eCnt a.grants.length 8)).add (eAll eGrant (a.grants.take k)))).push (.cells (clRol a))) (fun k => k ≤ a.grants.length) (fun k => a.grants.length - k) 0 (by omega) ?_ fun k1 hk1 => ?_
  · rw [yar, eAll, enc_add0]
    refine ⟨by simp only [zkk, zkp, zky, swH_nx]; omega, by repeat (first | exact AHeap.Le.refl _ | refine AHeap.Le.push ?_ _), closed_cells (hcl1 _) (lt_cl (x := roleAV a) fun _ => lt_roleAV a), ?_, ?_⟩
    · simp [ltF, zky, swH_nx, znh, zmz, zna, lt_map, lt_map lt_fieldAV, lt_map lt_headerAV, lt_map lt_caseAV, lt_map lt_stateAV, lt_map lt_paramAV, lt_map lt_primAV, lt_map lt_keyAV, lt_map lt_stageAV, lt_map lt_refAV, lt_map lt_grantAV, lt_map lt_actionAV, lt_map lt_tableAV, lt_map lt_roleAV, lt_map fun _ => lt_vv, lt_map fun _ => of_eq_true zmz, lt_map fun _ => of_eq_true zna]
      try omega
    · simp [subW, wk2, wk1, wkM, Fr.get]
  simp only [go_sem, reduceCtorEq, Nat.reduceEqDiff, Nat.reduceAdd, Nat.reduceMul, Nat.reduceSub, Nat.reduceLeDiff, Nat.reduceLT, Int.reduceMul, Int.reduceAdd, Int.reduceSub, Int.reduceToNat]
  refine cond_split (fun hc => ?_) (fun hc => ?_)
  · have hk1' : k1 < a.grants.length := by simp at hc; omega
    obtain ⟨x1, hx1⟩ : ∃ x1, x1 = a.grants[k1] := ⟨_, rfl⟩
    have hg1 := getD_map (f := grantAV) (l := a.grants) (k := k1) (x := x1) (by rw [List.getElem?_eq_getElem hk1', hx1])
    have e15 : IntKind.i64.wrap ((k1 : Int) + 1) = ((k1 + 1 : Nat) : Int) := by rw [wrap_i64] <;> omega
    obtain ⟨es1, hlk1⟩ := put_step (g := eGrant) hk1' hx1 hT12
    simp only [go_sem, reduceCtorEq, Nat.reduceEqDiff, Nat.reduceAdd, Nat.reduceMul, Nat.reduceSub, Nat.reduceLeDiff, Nat.reduceLT, Int.reduceMul, Int.reduceAdd, Int.reduceSub, Int.reduceToNat, roleAV, inL, boL, vc, clFld, clHdr, clCas, clSta, clPar, clPrm, clKey, clStg, clRef, clGra, clAct, clTab, clRol, AV.cells, actionAV, caseAV, fieldAV, grantAV, headerAV, keyAV, paramAV, primAV, refAV, stageAV, stateAV, tableAV, ybb, zky, Int.toNat_natCast, ybb, hg1, grantAV, swH_nx]
    refine ⟨by omega, ?_⟩
    rw [show eGrant x1 = ((eNum x1.table 2).add ((eTru x1.read).add ((eTru x1.write).add (eList eTru 4 x1.keys)))) from rfl] at es1 hlk1
    rw [← enc_assoc, ← enc_assoc, ← enc_assoc] at hlk1
    rw [← enc_assoc, ← enc_assoc, ← enc_assoc] at es1
    have hm12 := enc_pre hlk1
    have hm11 := enc_pre hm12
    have hm10 := enc_pre hm11
    try simp only [go_sem, reduceCtorEq, Nat.reduceEqDiff, Nat.reduceAdd, Nat.reduceMul, Nat.reduceSub, Nat.reduceLeDiff, Nat.reduceLT, Int.reduceMul, Int.reduceAdd, Int.reduceSub, Int.reduceToNat, roleAV, inL, boL, vc, clFld, clHdr, clCas, clSta, clPar, clPrm, clKey, clStg, clRef, clGra, clAct, clTab, clRol, AV.cells, actionAV, caseAV, fieldAV, grantAV, headerAV, keyAV, paramAV, primAV, refAV, stageAV, stateAV, tableAV, ybb, zky, Int.toNat_natCast, ybb, hg1, grantAV, swH_nx]
    refine w_num (.inr rfl) ((hW.next _).push2 _ _) hm10 ?_
    rw [hF.p2]
    try simp only [go_sem, reduceCtorEq, Nat.reduceEqDiff, Nat.reduceAdd, Nat.reduceMul, Nat.reduceSub, Nat.reduceLeDiff, Nat.reduceLT, Int.reduceMul, Int.reduceAdd, Int.reduceSub, Int.reduceToNat, roleAV, inL, boL, vc, clFld, clHdr, clCas, clSta, clPar, clPrm, clKey, clStg, clRef, clGra, clAct, clTab, clRol, AV.cells, actionAV, caseAV, fieldAV, grantAV, headerAV, keyAV, paramAV, primAV, refAV, stageAV, stateAV, tableAV, ybb, zky, Int.toNat_natCast, ybb, hg1, grantAV, swH_nx]
    refine w_tru ((hW.next _).push2 _ _) hm11 ?_
    rw [hF.p2]
    try simp only [go_sem, reduceCtorEq, Nat.reduceEqDiff, Nat.reduceAdd, Nat.reduceMul, Nat.reduceSub, Nat.reduceLeDiff, Nat.reduceLT, Int.reduceMul, Int.reduceAdd, Int.reduceSub, Int.reduceToNat, roleAV, inL, boL, vc, clFld, clHdr, clCas, clSta, clPar, clPrm, clKey, clStg, clRef, clGra, clAct, clTab, clRol, AV.cells, actionAV, caseAV, fieldAV, grantAV, headerAV, keyAV, paramAV, primAV, refAV, stageAV, stateAV, tableAV, ybb, zky, Int.toNat_natCast, ybb, hg1, grantAV, swH_nx]
    refine w_tru ((hW.next _).push2 _ _) hm12 ?_
    rw [hF.p2]
    have hE23 : ((((((((((((((s).add (eNum a.id 2))).add (eTxt a.name 24))).add (eCnt a.grants.length 8)).add (eAll eGrant (a.grants.take k1)))).add (eNum x1.table 2))).add (eTru x1.read))).add (eTru x1.write))).add (eList eTru 4 x1.keys) = (((((((((((((((s).add (eNum a.id 2))).add (eTxt a.name 24))).add (eCnt a.grants.length 8)).add (eAll eGrant (a.grants.take k1)))).add (eNum x1.table 2))).add (eTru x1.read))).add (eTru x1.write))).add (eCnt x1.keys.length 4)).add (eAll eTru x1.keys) := enc_list
    have hT23 := hlk1
    rw [hE23] at hT23
    have hN23 := put_len0 one_eTru hT23
    try simp only [go_sem, reduceCtorEq, Nat.reduceEqDiff, Nat.reduceAdd, Nat.reduceMul, Nat.reduceSub, Nat.reduceLeDiff, Nat.reduceLT, Int.reduceMul, Int.reduceAdd, Int.reduceSub, Int.reduceToNat, roleAV, inL, boL, vc, clFld, clHdr, clCas, clSta, clPar, clPrm, clKey, clStg, clRef, clGra, clAct, clTab, clRol, AV.cells, actionAV, caseAV, fieldAV, grantAV, headerAV, keyAV, paramAV, primAV, refAV, stageAV, stateAV, tableAV, ybb, zky, Int.toNat_natCast, ybb, hg1, grantAV, swH_nx]
    refine w_cnt ((hW.next _).push2 _ _) (enc_pre hT23) ?_
    rw [hF.p2]
    try simp only [go_sem, reduceCtorEq, Nat.reduceEqDiff, Nat.reduceAdd, Nat.reduceMul, Nat.reduceSub, Nat.reduceLeDiff, Nat.reduceLT, Int.reduceMul, Int.reduceAdd, Int.reduceSub, Int.reduceToNat, roleAV, inL, boL, vc, clFld, clHdr, clCas, clSta, clPar, clPrm, clKey, clStg, clRef, clGra, clAct, clTab, clRol, AV.cells, actionAV, caseAV, fieldAV, grantAV, headerAV, keyAV, paramAV, primAV, refAV, stageAV, stateAV, tableAV, ybb, zky, Int.toNat_natCast, ybb, hg1, grantAV, swH_nx]
    refine loop_introW (A := Nat) (fun k => [(0, .ptr id 0), (3, .ptr H.nx 0), (22, .slice .any 4 (a.grants.map (grantAV))), (23, .int .i64 (a.grants.length : Int)), (24, .int .i64 (k1 : Int)), (46, .slice .any 1 (x1.keys.map (.bool))), (47, .int .i64 (x1.keys.length : Int)), (48, .int .i64 (k : Int))]) (fun k => ((swH H id q ((((((((((((((((s).add (eNum a.id 2))).add (eTxt a.name 24))).add (eCnt a.grants.length 8)).add (eAll eGrant (a.grants.take k1)))).add (eNum x1.table 2))).add (eTru x1.read))).add (eTru x1.write))).add (eCnt x1.keys.length 4)).add (eAll eTru (x1.keys.take k)))).push (.cells (clRol a))).push (.cells (clGra x1))) (fun k => k ≤ x1.keys.length) (fun k => x1.keys.length - k) 0 (by omega) ?_ fun k2 hk2 => ?_
    · rw [yar, eAll, enc_add0]
      refine ⟨by simp only [zkk, zkp, zky, swH_nx]; omega, by repeat (first | exact AHeap.Le.refl _ | refine AHeap.Le.push ?_ _), closed_cells (closed_cells (hcl1 _) (lt_cl (x := roleAV a) fun _ => lt_roleAV a)) (lt_cl (x := grantAV x1) fun _ => lt_grantAV x1), ?_, ?_⟩
      · simp [ltF, zky, swH_nx, znh, zmz, zna, lt_map, lt_map lt_fieldAV, lt_map lt_headerAV, lt_map lt_caseAV, lt_map lt_stateAV, lt_map lt_paramAV, lt_map lt_primAV, lt_map lt_keyAV, lt_map lt_stageAV, lt_map lt_refAV, lt_map lt_grantAV, lt_map lt_actionAV, lt_map lt_tableAV, lt_map lt_roleAV, lt_map fun _ => lt_vv, lt_map fun _ => of_eq_true zmz, lt_map fun _ => of_eq_true zna]
        try omega
      · simp [subW, wk2, wk1, wkM, Fr.get]
    simp only [go_sem, reduceCtorEq, Nat.reduceEqDiff, Nat.reduceAdd, Nat.reduceMul, Nat.reduceSub, Nat.reduceLeDiff, Nat.reduceLT, Int.reduceMul, Int.reduceAdd, Int.reduceSub, Int.reduceToNat]
    refine cond_split (fun hc => ?_) (fun hc => ?_)
    · have hk2' : k2 < x1.keys.length := by simp at hc; omega
      obtain ⟨x2, hx2⟩ : ∃ x2, x2 = x1.keys[k2] := ⟨_, rfl⟩
      have hg2 := getD_map (f := .bool) (l := x1.keys) (k := k2) (x := x2) (by rw [List.getElem?_eq_getElem hk2', hx2])
      have e25 : IntKind.i64.wrap ((k2 : Int) + 1) = ((k2 + 1 : Nat) : Int) := by rw [wrap_i64] <;> omega
      obtain ⟨es2, hlk2⟩ := put_step (g := eTru) hk2' hx2 hT23
      simp only [go_sem, reduceCtorEq, Nat.reduceEqDiff, Nat.reduceAdd, Nat.reduceMul, Nat.reduceSub, Nat.reduceLeDiff, Nat.reduceLT, Int.reduceMul, Int.reduceAdd, Int.reduceSub, Int.reduceToNat, roleAV, inL, boL, vc, clFld, clHdr, clCas, clSta, clPar, clPrm, clKey, clStg, clRef, clGra, clAct, clTab, clRol, AV.cells, actionAV, caseAV, fieldAV, grantAV, headerAV, keyAV, paramAV, primAV, refAV, stageAV, stateAV, tableAV, ybb, zky, Int.toNat_natCast, ybb, hg1, grantAV, Int.toNat_natCast, ybb, hg2, swH_nx]
      refine ⟨by omega, ?_⟩
      try skip
      refine w_tru ((hW.next _).push2 _ _) hlk2 ?_
      rw [hF.p2]
      rw [es2]
      simp only [go_sem, reduceCtorEq, Nat.reduceEqDiff, Nat.reduceAdd, Nat.reduceMul, Nat.reduceSub, Nat.reduceLeDiff, Nat.reduceLT, Int.reduceMul, Int.reduceAdd, Int.reduceSub, Int.reduceToNat, e25]
      refine ⟨k2 + 1, by omega, by omega, by simp only [zkk, zkp, zky, swH_nx]; omega, by repeat (first | exact AHeap.Le.refl _ | refine AHeap.Le.push ?_ _), closed_cells (closed_cells (hcl1 _) (lt_cl (x := roleAV a) fun _ => lt_roleAV a)) (lt_cl (x := grantAV x1) fun _ => lt_grantAV x1), ?_, ?_⟩
      · simp [ltF, zky, swH_nx, znh, zmz, zna, lt_map lt_fieldAV, lt_map lt_headerAV, lt_map lt_caseAV, lt_map lt_stateAV, lt_map lt_paramAV, lt_map lt_primAV, lt_map lt_keyAV, lt_map lt_stageAV, lt_map lt_refAV, lt_map lt_grantAV, lt_map lt_actionAV, lt_map lt_tableAV, lt_map lt_roleAV, lt_map fun _ => lt_vv, lt_map fun _ => of_eq_true zmz, lt_map fun _ => of_eq_true zna]
        try omega
      · simp [subW, wk2, wk1, wkM, Fr.get]
    · have hk2' : k2 = x1.keys.length := by simp at hc; omega
      subst hk2'
      rw [List.take_length]
      rw [← hE23]
      rw [es1]
      simp only [go_sem, reduceCtorEq, Nat.reduceEqDiff, Nat.reduceAdd, Nat.reduceMul, Nat.reduceSub, Nat.reduceLeDiff, Nat.reduceLT, Int.reduceMul, Int.reduceAdd, Int.reduceSub, Int.reduceToNat, e15]
      refine ⟨k1 + 1, by omega, by omega, by simp only [zkk, zkp, zky, swH_nx]; omega, by repeat (first | exact AHeap.Le.refl _ | refine AHeap.Le.push ?_ _), closed_cells (hcl1 _) (lt_cl (x := roleAV a) fun _ => lt_roleAV a), ?_, ?_⟩
      · simp [ltF, zky, swH_nx, znh, zmz, zna, lt_map lt_fieldAV, lt_map lt_headerAV, lt_map lt_caseAV, lt_map lt_stateAV, lt_map lt_paramAV, lt_map lt_primAV, lt_map lt_keyAV, lt_map lt_stageAV, lt_map lt_refAV, lt_map lt_grantAV, lt_map lt_actionAV, lt_map lt_tableAV, lt_map lt_roleAV, lt_map fun _ => lt_vv, lt_map fun _ => of_eq_true zmz, lt_map fun _ => of_eq_true zna]
        try omega
      · simp [subW, wk2, wk1, wkM, Fr.get]
  · have hk1' : k1 = a.grants.length := by simp at hc; omega
    subst hk1'
    rw [List.take_length]
    rw [← hE12]
    try simp only [go_sem, reduceCtorEq, Nat.reduceEqDiff, Nat.reduceAdd, Nat.reduceMul, Nat.reduceSub, Nat.reduceLeDiff, Nat.reduceLT, Int.reduceMul, Int.reduceAdd, Int.reduceSub, Int.reduceToNat, roleAV, inL, boL, vc, clFld, clHdr, clCas, clSta, clPar, clPrm, clKey, clStg, clRef, clGra, clAct, clTab, clRol, AV.cells, actionAV, caseAV, fieldAV, grantAV, headerAV, keyAV, paramAV, primAV, refAV, stageAV, stateAV, tableAV, ybb, zky, swH_nx]
    refine w_nums ((hW.next _).push _) hl3 ?_
    rw [hF.p1]
    try simp only [go_sem, reduceCtorEq, Nat.reduceEqDiff, Nat.reduceAdd, Nat.reduceMul, Nat.reduceSub, Nat.reduceLeDiff, Nat.reduceLT, Int.reduceMul, Int.reduceAdd, Int.reduceSub, Int.reduceToNat, roleAV, inL, boL, vc, clFld, clHdr, clCas, clSta, clPar, clPrm, clKey, clStg, clRef, clGra, clAct, clTab, clRol, AV.cells, actionAV, caseAV, fieldAV, grantAV, headerAV, keyAV, paramAV, primAV, refAV, stageAV, stateAV, tableAV, ybb, zky, swH_nx]
    refine w_num (.inr rfl) ((hW.next _).push _) hl4 ?_
    rw [hF.p1]
    try simp only [go_sem, reduceCtorEq, Nat.reduceEqDiff, Nat.reduceAdd, Nat.reduceMul, Nat.reduceSub, Nat.reduceLeDiff, Nat.reduceLT, Int.reduceMul, Int.reduceAdd, Int.reduceSub, Int.reduceToNat, roleAV, inL, boL, vc, clFld, clHdr, clCas, clSta, clPar, clPrm, clKey, clStg, clRef, clGra, clAct, clTab, clRol, AV.cells, actionAV, caseAV, fieldAV, grantAV, headerAV, keyAV, paramAV, primAV, refAV, stageAV, stateAV, tableAV, ybb, zky, swH_nx]
    refine w_tru ((hW.next _).push _) hl ?_
    rw [hF.p1]
    try simp only [go_sem, reduceCtorEq, Nat.reduceEqDiff, Nat.reduceAdd, Nat.reduceMul, Nat.reduceSub, Nat.reduceLeDiff, Nat.reduceLT, Int.reduceMul, Int.reduceAdd, Int.reduceSub, Int.reduceToNat, roleAV, inL, boL, vc, clFld, clHdr, clCas, clSta, clPar, clPrm, clKey, clStg, clRef, clGra, clAct, clTab, clRol, AV.cells, actionAV, caseAV, fieldAV, grantAV, headerAV, keyAV, paramAV, primAV, refAV, stageAV, stateAV, tableAV, ybb, zky, swH_nx]
    refine ⟨?_, by repeat (first | exact AHeap.Le.refl _ | refine AHeap.Le.push ?_ _), hcl1 _, ?_⟩
    · simp [wk, wk2, wk1, wkLL]
    · simp [znm, znp]
set_option maxHeartbeats 16000000 in
theorem ok_yPac : EntOk Tryz.prog 73 (Ent.effect e_yPac) := by
  unfold e_yPac
  refine EntOk.effect fun args H K h => ?_
  unfold eW at h
  split at h
  rotate_left
  · exact h.elim
  rename_i id x
  obtain ⟨q, s, a, ⟨hW, rfl, ha, hl⟩, hK⟩ := h
  refine ⟨_, _, hK, ?_⟩
  clear hK
  have hF := hW.facts
  have hcl0 := fun t => hW.closed (t := t)
  have hid := AHeap.get_lt hW.o
  have hq := AHeap.get_lt hW.bu
  refine ACalls.of_aw (Ω := [(74, Ent.effect e_yCnt), (72, Ent.effect e_yNum), (217, Ent.effect e_yNums), (216, Ent.effect e_yTxt), (218, Ent.effect e_yVal)]) (T := assoc []) mixed (TblOk.cons ok_yCnt (TblOk.cons ok_yNum (TblOk.cons ok_yNums (TblOk.cons ok_yTxt (TblOk.cons ok_yVal TblOk.nil))))) Tryz.func73 (by kernel_rfl) (by rfl) (rs := []) (by rfl) (by kernel_rfl) (by simp only [Tryz.ntmps73, yaz, yba]; decide) (by rw [swH_nx]; omega) fun hcl hlt => ?_
  change aw _ _ _ (KI Tryz.prog [(74, Ent.effect e_yCnt), (72, Ent.effect e_yNum), (217, Ent.effect e_yNums), (216, Ent.effect e_yTxt), (218, Ent.effect e_yVal)] (aEnd Tryz.prog [] H.nx _ _ (assoc [])) []) _ _
  clear hlt
  have hcl1 := fun t => hcl0 t hcl
  unfold ePacket at hl ⊢
  rw [← enc_assoc, ← enc_assoc] at hl ⊢
  have hl1 := enc_pre hl
  have hl0 := enc_pre hl1
  have hE10 : (s).add (eList eField 32 a.fields) = ((s).add (eCnt a.fields.length 32)).add (eAll eField a.fields) := enc_list
  have hT10 := hl0
  rw [hE10] at hT10
  have hN10 := put_len0 one_field hT10
  try simp only [go_sem, reduceCtorEq, Nat.reduceEqDiff, Nat.reduceAdd, Nat.reduceMul, Nat.reduceSub, Nat.reduceLeDiff, Nat.reduceLT, Int.reduceMul, Int.reduceAdd, Int.reduceSub, Int.reduceToNat, schAV, schC, inL, boL, vc, clSch, clFld, clHdr, clCas, clSta, clPar, clPrm, clKey, clStg, clRef, clGra, clAct, clTab, clRol, AV.cells, actionAV, caseAV, fieldAV, grantAV, headerAV, keyAV, paramAV, primAV, refAV, roleAV, stageAV, stateAV, tableAV, ybb, zky, swH_nx]
  refine w_cnt (hW.push _) (enc_pre hT10) ?_
  rw [hF.p0]
  try simp only [go_sem, reduceCtorEq, Nat.reduceEqDiff, Nat.reduceAdd, Nat.reduceMul, Nat.reduceSub, Nat.reduceLeDiff, Nat.reduceLT, Int.reduceMul, Int.reduceAdd, Int.reduceSub, Int.reduceToNat, schAV, schC, inL, boL, vc, clSch, clFld, clHdr, clCas, clSta, clPar, clPrm, clKey, clStg, clRef, clGra, clAct, clTab, clRol, AV.cells, actionAV, caseAV, fieldAV, grantAV, headerAV, keyAV, paramAV, primAV, refAV, roleAV, stageAV, stateAV, tableAV, ybb, zky, swH_nx]
  refine loop_introW (A := Nat) (fun k => [(0, .ptr id 0), (3, .ptr H.nx 0), (18, .slice .any 3 (a.fields.map (fieldAV))), (19, .int .i64 (a.fields.length : Int)), (20, .int .i64 (k : Int))]) (fun k => (swH H id q (((s).add (eCnt a.fields.length 32)).add (eAll eField (a.fields.take k)))).push (.cells (clSch a))) (fun k => k ≤ a.fields.length) (fun k => a.fields.length - k) 0 (by omega) ?_ fun k1 hk1 => ?_
  · rw [yar, eAll, enc_add0]
    refine ⟨by simp only [zkk, zkp, zky, swH_nx]; omega, by repeat (first | exact AHeap.Le.refl _ | refine AHeap.Le.push ?_ _), closed_cells (hcl1 _) (lt_cl (x := schAV a) fun _ => lt_schAV a), ?_, ?_⟩
    · simp [ltF, zky, swH_nx, znh, zmz, zna, lt_map, lt_map lt_fieldAV, lt_map lt_headerAV, lt_map lt_caseAV, lt_map lt_stateAV, lt_map lt_paramAV, lt_map lt_primAV, lt_map lt_keyAV, lt_map lt_stageAV, lt_map lt_refAV, lt_map lt_grantAV, lt_map lt_actionAV, lt_map lt_tableAV, lt_map lt_roleAV, lt_map fun _ => lt_vv, lt_map fun _ => of_eq_true zmz, lt_map fun _ => of_eq_true zna]
      try omega
    · simp [subW, wk2, wk1, wkM, Fr.get]
  simp only [go_sem, reduceCtorEq, Nat.reduceEqDiff, Nat.reduceAdd, Nat.reduceMul, Nat.reduceSub, Nat.reduceLeDiff, Nat.reduceLT, Int.reduceMul, Int.reduceAdd, Int.reduceSub, Int.reduceToNat]
  refine cond_split (fun hc => ?_) (fun hc => ?_)
  · have hk1' : k1 < a.fields.length := by simp at hc; omega
    obtain ⟨x1, hx1⟩ : ∃ x1, x1 = a.fields[k1] := ⟨_, rfl⟩
    have hg1 := getD_map (f := fieldAV) (l := a.fields) (k := k1) (x := x1) (by rw [List.getElem?_eq_getElem hk1', hx1])
    have e15 : IntKind.i64.wrap ((k1 : Int) + 1) = ((k1 + 1 : Nat) : Int) := by rw [wrap_i64] <;> omega
    have ho1 := (ha.f) x1 (by rw [hx1]; exact List.getElem_mem hk1')
    obtain ⟨es1, hlk1⟩ := put_step (g := eField) hk1' hx1 hT10
    simp only [go_sem, reduceCtorEq, Nat.reduceEqDiff, Nat.reduceAdd, Nat.reduceMul, Nat.reduceSub, Nat.reduceLeDiff, Nat.reduceLT, Int.reduceMul, Int.reduceAdd, Int.reduceSub, Int.reduceToNat, schAV, schC, inL, boL, vc, clSch, clFld, clHdr, clCas, clSta, clPar, clPrm, clKey, clStg, clRef, clGra, clAct, clTab, clRol, AV.cells, actionAV, caseAV, fieldAV, grantAV, headerAV, keyAV, paramAV, primAV, refAV, roleAV, stageAV, stateAV, tableAV, ybb, zky, Int.toNat_natCast, ybb, hg1, fieldAV, swH_nx]
    refine ⟨by omega, ?_⟩
    rw [show eField x1 = ((eNum x1.id 2).add ((eTxt x1.name 24).add (eNum x1.bits 1))) from rfl] at es1 hlk1
    rw [← enc_assoc, ← enc_assoc] at hlk1
    rw [← enc_assoc, ← enc_assoc] at es1
    have hm11 := enc_pre hlk1
    have hm10 := enc_pre hm11
    try simp only [go_sem, reduceCtorEq, Nat.reduceEqDiff, Nat.reduceAdd, Nat.reduceMul, Nat.reduceSub, Nat.reduceLeDiff, Nat.reduceLT, Int.reduceMul, Int.reduceAdd, Int.reduceSub, Int.reduceToNat, schAV, schC, inL, boL, vc, clSch, clFld, clHdr, clCas, clSta, clPar, clPrm, clKey, clStg, clRef, clGra, clAct, clTab, clRol, AV.cells, actionAV, caseAV, fieldAV, grantAV, headerAV, keyAV, paramAV, primAV, refAV, roleAV, stageAV, stateAV, tableAV, ybb, zky, Int.toNat_natCast, ybb, hg1, fieldAV, swH_nx]
    refine w_num (.inr rfl) ((hW.next _).push2 _ _) hm10 ?_
    rw [hF.p2]
    try simp only [go_sem, reduceCtorEq, Nat.reduceEqDiff, Nat.reduceAdd, Nat.reduceMul, Nat.reduceSub, Nat.reduceLeDiff, Nat.reduceLT, Int.reduceMul, Int.reduceAdd, Int.reduceSub, Int.reduceToNat, schAV, schC, inL, boL, vc, clSch, clFld, clHdr, clCas, clSta, clPar, clPrm, clKey, clStg, clRef, clGra, clAct, clTab, clRol, AV.cells, actionAV, caseAV, fieldAV, grantAV, headerAV, keyAV, paramAV, primAV, refAV, roleAV, stageAV, stateAV, tableAV, ybb, zky, Int.toNat_natCast, ybb, hg1, fieldAV, swH_nx]
    refine w_txt (ho1) ((hW.next _).push2 _ _) hm11 ?_
    rw [hF.p2]
    try simp only [go_sem, reduceCtorEq, Nat.reduceEqDiff, Nat.reduceAdd, Nat.reduceMul, Nat.reduceSub, Nat.reduceLeDiff, Nat.reduceLT, Int.reduceMul, Int.reduceAdd, Int.reduceSub, Int.reduceToNat, schAV, schC, inL, boL, vc, clSch, clFld, clHdr, clCas, clSta, clPar, clPrm, clKey, clStg, clRef, clGra, clAct, clTab, clRol, AV.cells, actionAV, caseAV, fieldAV, grantAV, headerAV, keyAV, paramAV, primAV, refAV, roleAV, stageAV, stateAV, tableAV, ybb, zky, Int.toNat_natCast, ybb, hg1, fieldAV, swH_nx]
    refine w_num (.inl rfl) ((hW.next _).push2 _ _) hlk1 ?_
    rw [hF.p2]
    rw [es1]
    simp only [go_sem, reduceCtorEq, Nat.reduceEqDiff, Nat.reduceAdd, Nat.reduceMul, Nat.reduceSub, Nat.reduceLeDiff, Nat.reduceLT, Int.reduceMul, Int.reduceAdd, Int.reduceSub, Int.reduceToNat, e15]
    refine ⟨k1 + 1, by omega, by omega, by simp only [zkk, zkp, zky, swH_nx]; omega, by repeat (first | exact AHeap.Le.refl _ | refine AHeap.Le.push ?_ _), closed_cells (hcl1 _) (lt_cl (x := schAV a) fun _ => lt_schAV a), ?_, ?_⟩
    · simp [ltF, zky, swH_nx, znh, zmz, zna, lt_map lt_fieldAV, lt_map lt_headerAV, lt_map lt_caseAV, lt_map lt_stateAV, lt_map lt_paramAV, lt_map lt_primAV, lt_map lt_keyAV, lt_map lt_stageAV, lt_map lt_refAV, lt_map lt_grantAV, lt_map lt_actionAV, lt_map lt_tableAV, lt_map lt_roleAV, lt_map fun _ => lt_vv, lt_map fun _ => of_eq_true zmz, lt_map fun _ => of_eq_true zna]
      try omega
    · simp [subW, wk2, wk1, wkM, Fr.get]
  · have hk1' : k1 = a.fields.length := by simp at hc; omega
    subst hk1'
    rw [List.take_length]
    rw [← hE10]
    have hE11 : (((s).add (eList eField 32 a.fields))).add (eList eHeader 8 a.headers) = ((((s).add (eList eField 32 a.fields))).add (eCnt a.headers.length 8)).add (eAll eHeader a.headers) := enc_list
    have hT11 := hl1
    rw [hE11] at hT11
    have hN11 := put_len0 one_header hT11
    try simp only [go_sem, reduceCtorEq, Nat.reduceEqDiff, Nat.reduceAdd, Nat.reduceMul, Nat.reduceSub, Nat.reduceLeDiff, Nat.reduceLT, Int.reduceMul, Int.reduceAdd, Int.reduceSub, Int.reduceToNat, schAV, schC, inL, boL, vc, clSch, clFld, clHdr, clCas, clSta, clPar, clPrm, clKey, clStg, clRef, clGra, clAct, clTab, clRol, AV.cells, actionAV, caseAV, fieldAV, grantAV, headerAV, keyAV, paramAV, primAV, refAV, roleAV, stageAV, stateAV, tableAV, ybb, zky, swH_nx]
    refine w_cnt ((hW.next _).push _) (enc_pre hT11) ?_
    rw [hF.p1]
    try simp only [go_sem, reduceCtorEq, Nat.reduceEqDiff, Nat.reduceAdd, Nat.reduceMul, Nat.reduceSub, Nat.reduceLeDiff, Nat.reduceLT, Int.reduceMul, Int.reduceAdd, Int.reduceSub, Int.reduceToNat, schAV, schC, inL, boL, vc, clSch, clFld, clHdr, clCas, clSta, clPar, clPrm, clKey, clStg, clRef, clGra, clAct, clTab, clRol, AV.cells, actionAV, caseAV, fieldAV, grantAV, headerAV, keyAV, paramAV, primAV, refAV, roleAV, stageAV, stateAV, tableAV, ybb, zky, swH_nx]
    refine loop_introW (A := Nat) (fun k => [(0, .ptr id 0), (3, .ptr H.nx 0), (43, .slice .any 3 (a.headers.map (headerAV))), (44, .int .i64 (a.headers.length : Int)), (45, .int .i64 (k : Int))]) (fun k => (swH H id q (((((s).add (eList eField 32 a.fields))).add (eCnt a.headers.length 8)).add (eAll eHeader (a.headers.take k)))).push (.cells (clSch a))) (fun k => k ≤ a.headers.length) (fun k => a.headers.length - k) 0 (by omega) ?_ fun k1 hk1 => ?_
    · rw [yar, eAll, enc_add0]
      refine ⟨by simp only [zkk, zkp, zky, swH_nx]; omega, by repeat (first | exact AHeap.Le.refl _ | refine AHeap.Le.push ?_ _), closed_cells (hcl1 _) (lt_cl (x := schAV a) fun _ => lt_schAV a), ?_, ?_⟩
      · simp [ltF, zky, swH_nx, znh, zmz, zna, lt_map, lt_map lt_fieldAV, lt_map lt_headerAV, lt_map lt_caseAV, lt_map lt_stateAV, lt_map lt_paramAV, lt_map lt_primAV, lt_map lt_keyAV, lt_map lt_stageAV, lt_map lt_refAV, lt_map lt_grantAV, lt_map lt_actionAV, lt_map lt_tableAV, lt_map lt_roleAV, lt_map fun _ => lt_vv, lt_map fun _ => of_eq_true zmz, lt_map fun _ => of_eq_true zna]
        try omega
      · simp [subW, wk2, wk1, wkM, Fr.get]
    simp only [go_sem, reduceCtorEq, Nat.reduceEqDiff, Nat.reduceAdd, Nat.reduceMul, Nat.reduceSub, Nat.reduceLeDiff, Nat.reduceLT, Int.reduceMul, Int.reduceAdd, Int.reduceSub, Int.reduceToNat]
    refine cond_split (fun hc => ?_) (fun hc => ?_)
    · have hk1' : k1 < a.headers.length := by simp at hc; omega
      obtain ⟨x1, hx1⟩ : ∃ x1, x1 = a.headers[k1] := ⟨_, rfl⟩
      have hg1 := getD_map (f := headerAV) (l := a.headers) (k := k1) (x := x1) (by rw [List.getElem?_eq_getElem hk1', hx1])
      have e15 : IntKind.i64.wrap ((k1 : Int) + 1) = ((k1 + 1 : Nat) : Int) := by rw [wrap_i64] <;> omega
      have ho1 := (ha.h) x1 (by rw [hx1]; exact List.getElem_mem hk1')
      obtain ⟨es1, hlk1⟩ := put_step (g := eHeader) hk1' hx1 hT11
      simp only [go_sem, reduceCtorEq, Nat.reduceEqDiff, Nat.reduceAdd, Nat.reduceMul, Nat.reduceSub, Nat.reduceLeDiff, Nat.reduceLT, Int.reduceMul, Int.reduceAdd, Int.reduceSub, Int.reduceToNat, schAV, schC, inL, boL, vc, clSch, clFld, clHdr, clCas, clSta, clPar, clPrm, clKey, clStg, clRef, clGra, clAct, clTab, clRol, AV.cells, actionAV, caseAV, fieldAV, grantAV, headerAV, keyAV, paramAV, primAV, refAV, roleAV, stageAV, stateAV, tableAV, ybb, zky, Int.toNat_natCast, ybb, hg1, headerAV, swH_nx]
      refine ⟨by omega, ?_⟩
      rw [show eHeader x1 = ((eNum x1.id 2).add ((eTxt x1.name 24).add (eList eInt 32 x1.fields))) from rfl] at es1 hlk1
      rw [← enc_assoc, ← enc_assoc] at hlk1
      rw [← enc_assoc, ← enc_assoc] at es1
      have hm11 := enc_pre hlk1
      have hm10 := enc_pre hm11
      try simp only [go_sem, reduceCtorEq, Nat.reduceEqDiff, Nat.reduceAdd, Nat.reduceMul, Nat.reduceSub, Nat.reduceLeDiff, Nat.reduceLT, Int.reduceMul, Int.reduceAdd, Int.reduceSub, Int.reduceToNat, schAV, schC, inL, boL, vc, clSch, clFld, clHdr, clCas, clSta, clPar, clPrm, clKey, clStg, clRef, clGra, clAct, clTab, clRol, AV.cells, actionAV, caseAV, fieldAV, grantAV, headerAV, keyAV, paramAV, primAV, refAV, roleAV, stageAV, stateAV, tableAV, ybb, zky, Int.toNat_natCast, ybb, hg1, headerAV, swH_nx]
      refine w_num (.inr rfl) ((hW.next _).push2 _ _) hm10 ?_
      rw [hF.p2]
      try simp only [go_sem, reduceCtorEq, Nat.reduceEqDiff, Nat.reduceAdd, Nat.reduceMul, Nat.reduceSub, Nat.reduceLeDiff, Nat.reduceLT, Int.reduceMul, Int.reduceAdd, Int.reduceSub, Int.reduceToNat, schAV, schC, inL, boL, vc, clSch, clFld, clHdr, clCas, clSta, clPar, clPrm, clKey, clStg, clRef, clGra, clAct, clTab, clRol, AV.cells, actionAV, caseAV, fieldAV, grantAV, headerAV, keyAV, paramAV, primAV, refAV, roleAV, stageAV, stateAV, tableAV, ybb, zky, Int.toNat_natCast, ybb, hg1, headerAV, swH_nx]
      refine w_txt (ho1) ((hW.next _).push2 _ _) hm11 ?_
      rw [hF.p2]
      try simp only [go_sem, reduceCtorEq, Nat.reduceEqDiff, Nat.reduceAdd, Nat.reduceMul, Nat.reduceSub, Nat.reduceLeDiff, Nat.reduceLT, Int.reduceMul, Int.reduceAdd, Int.reduceSub, Int.reduceToNat, schAV, schC, inL, boL, vc, clSch, clFld, clHdr, clCas, clSta, clPar, clPrm, clKey, clStg, clRef, clGra, clAct, clTab, clRol, AV.cells, actionAV, caseAV, fieldAV, grantAV, headerAV, keyAV, paramAV, primAV, refAV, roleAV, stageAV, stateAV, tableAV, ybb, zky, Int.toNat_natCast, ybb, hg1, headerAV, swH_nx]
      refine w_nums ((hW.next _).push2 _ _) hlk1 ?_
      rw [hF.p2]
      rw [es1]
      simp only [go_sem, reduceCtorEq, Nat.reduceEqDiff, Nat.reduceAdd, Nat.reduceMul, Nat.reduceSub, Nat.reduceLeDiff, Nat.reduceLT, Int.reduceMul, Int.reduceAdd, Int.reduceSub, Int.reduceToNat, e15]
      refine ⟨k1 + 1, by omega, by omega, by simp only [zkk, zkp, zky, swH_nx]; omega, by repeat (first | exact AHeap.Le.refl _ | refine AHeap.Le.push ?_ _), closed_cells (hcl1 _) (lt_cl (x := schAV a) fun _ => lt_schAV a), ?_, ?_⟩
      · simp [ltF, zky, swH_nx, znh, zmz, zna, lt_map lt_fieldAV, lt_map lt_headerAV, lt_map lt_caseAV, lt_map lt_stateAV, lt_map lt_paramAV, lt_map lt_primAV, lt_map lt_keyAV, lt_map lt_stageAV, lt_map lt_refAV, lt_map lt_grantAV, lt_map lt_actionAV, lt_map lt_tableAV, lt_map lt_roleAV, lt_map fun _ => lt_vv, lt_map fun _ => of_eq_true zmz, lt_map fun _ => of_eq_true zna]
        try omega
      · simp [subW, wk2, wk1, wkM, Fr.get]
    · have hk1' : k1 = a.headers.length := by simp at hc; omega
      subst hk1'
      rw [List.take_length]
      rw [← hE11]
      have hE12 : (((((s).add (eList eField 32 a.fields))).add (eList eHeader 8 a.headers))).add (eList eState 12 a.states) = ((((((s).add (eList eField 32 a.fields))).add (eList eHeader 8 a.headers))).add (eCnt a.states.length 12)).add (eAll eState a.states) := enc_list
      have hT12 := hl
      rw [hE12] at hT12
      have hN12 := put_len0 one_state hT12
      try simp only [go_sem, reduceCtorEq, Nat.reduceEqDiff, Nat.reduceAdd, Nat.reduceMul, Nat.reduceSub, Nat.reduceLeDiff, Nat.reduceLT, Int.reduceMul, Int.reduceAdd, Int.reduceSub, Int.reduceToNat, schAV, schC, inL, boL, vc, clSch, clFld, clHdr, clCas, clSta, clPar, clPrm, clKey, clStg, clRef, clGra, clAct, clTab, clRol, AV.cells, actionAV, caseAV, fieldAV, grantAV, headerAV, keyAV, paramAV, primAV, refAV, roleAV, stageAV, stateAV, tableAV, ybb, zky, swH_nx]
      refine w_cnt ((hW.next _).push _) (enc_pre hT12) ?_
      rw [hF.p1]
      try simp only [go_sem, reduceCtorEq, Nat.reduceEqDiff, Nat.reduceAdd, Nat.reduceMul, Nat.reduceSub, Nat.reduceLeDiff, Nat.reduceLT, Int.reduceMul, Int.reduceAdd, Int.reduceSub, Int.reduceToNat, schAV, schC, inL, boL, vc, clSch, clFld, clHdr, clCas, clSta, clPar, clPrm, clKey, clStg, clRef, clGra, clAct, clTab, clRol, AV.cells, actionAV, caseAV, fieldAV, grantAV, headerAV, keyAV, paramAV, primAV, refAV, roleAV, stageAV, stateAV, tableAV, ybb, zky, swH_nx]
      refine loop_introW (A := Nat) (fun k => [(0, .ptr id 0), (3, .ptr H.nx 0), (68, .slice .any 5 (a.states.map (stateAV))), (69, .int .i64 (a.states.length : Int)), (70, .int .i64 (k : Int))]) (fun k => (swH H id q (((((((s).add (eList eField 32 a.fields))).add (eList eHeader 8 a.headers))).add (eCnt a.states.length 12)).add (eAll eState (a.states.take k)))).push (.cells (clSch a))) (fun k => k ≤ a.states.length) (fun k => a.states.length - k) 0 (by omega) ?_ fun k1 hk1 => ?_
      · rw [yar, eAll, enc_add0]
        refine ⟨by simp only [zkk, zkp, zky, swH_nx]; omega, by repeat (first | exact AHeap.Le.refl _ | refine AHeap.Le.push ?_ _), closed_cells (hcl1 _) (lt_cl (x := schAV a) fun _ => lt_schAV a), ?_, ?_⟩
        · simp [ltF, zky, swH_nx, znh, zmz, zna, lt_map, lt_map lt_fieldAV, lt_map lt_headerAV, lt_map lt_caseAV, lt_map lt_stateAV, lt_map lt_paramAV, lt_map lt_primAV, lt_map lt_keyAV, lt_map lt_stageAV, lt_map lt_refAV, lt_map lt_grantAV, lt_map lt_actionAV, lt_map lt_tableAV, lt_map lt_roleAV, lt_map fun _ => lt_vv, lt_map fun _ => of_eq_true zmz, lt_map fun _ => of_eq_true zna]
          try omega
        · simp [subW, wk2, wk1, wkM, Fr.get]
      simp only [go_sem, reduceCtorEq, Nat.reduceEqDiff, Nat.reduceAdd, Nat.reduceMul, Nat.reduceSub, Nat.reduceLeDiff, Nat.reduceLT, Int.reduceMul, Int.reduceAdd, Int.reduceSub, Int.reduceToNat]
      refine cond_split (fun hc => ?_) (fun hc => ?_)
      · have hk1' : k1 < a.states.length := by simp at hc; omega
        obtain ⟨x1, hx1⟩ : ∃ x1, x1 = a.states[k1] := ⟨_, rfl⟩
        have hg1 := getD_map (f := stateAV) (l := a.states) (k := k1) (x := x1) (by rw [List.getElem?_eq_getElem hk1', hx1])
        have e15 : IntKind.i64.wrap ((k1 : Int) + 1) = ((k1 + 1 : Nat) : Int) := by rw [wrap_i64] <;> omega
        have ho1 := (ha.s) x1 (by rw [hx1]; exact List.getElem_mem hk1')
        obtain ⟨es1, hlk1⟩ := put_step (g := eState) hk1' hx1 hT12
        simp only [go_sem, reduceCtorEq, Nat.reduceEqDiff, Nat.reduceAdd, Nat.reduceMul, Nat.reduceSub, Nat.reduceLeDiff, Nat.reduceLT, Int.reduceMul, Int.reduceAdd, Int.reduceSub, Int.reduceToNat, schAV, schC, inL, boL, vc, clSch, clFld, clHdr, clCas, clSta, clPar, clPrm, clKey, clStg, clRef, clGra, clAct, clTab, clRol, AV.cells, actionAV, caseAV, fieldAV, grantAV, headerAV, keyAV, paramAV, primAV, refAV, roleAV, stageAV, stateAV, tableAV, ybb, zky, Int.toNat_natCast, ybb, hg1, stateAV, swH_nx]
        refine ⟨by omega, ?_⟩
        rw [show eState x1 = ((eNum x1.id 2).add ((eNum x1.header 2).add ((eNum x1.select 2).add ((eList eCase 6 x1.cases).add (eNum x1.dflt 2))))) from rfl] at es1 hlk1
        rw [← enc_assoc, ← enc_assoc, ← enc_assoc, ← enc_assoc] at hlk1
        rw [← enc_assoc, ← enc_assoc, ← enc_assoc, ← enc_assoc] at es1
        have hm13 := enc_pre hlk1
        have hm12 := enc_pre hm13
        have hm11 := enc_pre hm12
        have hm10 := enc_pre hm11
        try simp only [go_sem, reduceCtorEq, Nat.reduceEqDiff, Nat.reduceAdd, Nat.reduceMul, Nat.reduceSub, Nat.reduceLeDiff, Nat.reduceLT, Int.reduceMul, Int.reduceAdd, Int.reduceSub, Int.reduceToNat, schAV, schC, inL, boL, vc, clSch, clFld, clHdr, clCas, clSta, clPar, clPrm, clKey, clStg, clRef, clGra, clAct, clTab, clRol, AV.cells, actionAV, caseAV, fieldAV, grantAV, headerAV, keyAV, paramAV, primAV, refAV, roleAV, stageAV, stateAV, tableAV, ybb, zky, Int.toNat_natCast, ybb, hg1, stateAV, swH_nx]
        refine w_num (.inr rfl) ((hW.next _).push2 _ _) hm10 ?_
        rw [hF.p2]
        try simp only [go_sem, reduceCtorEq, Nat.reduceEqDiff, Nat.reduceAdd, Nat.reduceMul, Nat.reduceSub, Nat.reduceLeDiff, Nat.reduceLT, Int.reduceMul, Int.reduceAdd, Int.reduceSub, Int.reduceToNat, schAV, schC, inL, boL, vc, clSch, clFld, clHdr, clCas, clSta, clPar, clPrm, clKey, clStg, clRef, clGra, clAct, clTab, clRol, AV.cells, actionAV, caseAV, fieldAV, grantAV, headerAV, keyAV, paramAV, primAV, refAV, roleAV, stageAV, stateAV, tableAV, ybb, zky, Int.toNat_natCast, ybb, hg1, stateAV, swH_nx]
        refine w_num (.inr rfl) ((hW.next _).push2 _ _) hm11 ?_
        rw [hF.p2]
        try simp only [go_sem, reduceCtorEq, Nat.reduceEqDiff, Nat.reduceAdd, Nat.reduceMul, Nat.reduceSub, Nat.reduceLeDiff, Nat.reduceLT, Int.reduceMul, Int.reduceAdd, Int.reduceSub, Int.reduceToNat, schAV, schC, inL, boL, vc, clSch, clFld, clHdr, clCas, clSta, clPar, clPrm, clKey, clStg, clRef, clGra, clAct, clTab, clRol, AV.cells, actionAV, caseAV, fieldAV, grantAV, headerAV, keyAV, paramAV, primAV, refAV, roleAV, stageAV, stateAV, tableAV, ybb, zky, Int.toNat_natCast, ybb, hg1, stateAV, swH_nx]
        refine w_num (.inr rfl) ((hW.next _).push2 _ _) hm12 ?_
        rw [hF.p2]
        have hE23 : ((((((((((((((s).add (eList eField 32 a.fields))).add (eList eHeader 8 a.headers))).add (eCnt a.states.length 12)).add (eAll eState (a.states.take k1)))).add (eNum x1.id 2))).add (eNum x1.header 2))).add (eNum x1.select 2))).add (eList eCase 6 x1.cases) = (((((((((((((((s).add (eList eField 32 a.fields))).add (eList eHeader 8 a.headers))).add (eCnt a.states.length 12)).add (eAll eState (a.states.take k1)))).add (eNum x1.id 2))).add (eNum x1.header 2))).add (eNum x1.select 2))).add (eCnt x1.cases.length 6)).add (eAll eCase x1.cases) := enc_list
        have hT23 := hm13
        rw [hE23] at hT23
        have hN23 := put_len0 one_case hT23
        try simp only [go_sem, reduceCtorEq, Nat.reduceEqDiff, Nat.reduceAdd, Nat.reduceMul, Nat.reduceSub, Nat.reduceLeDiff, Nat.reduceLT, Int.reduceMul, Int.reduceAdd, Int.reduceSub, Int.reduceToNat, schAV, schC, inL, boL, vc, clSch, clFld, clHdr, clCas, clSta, clPar, clPrm, clKey, clStg, clRef, clGra, clAct, clTab, clRol, AV.cells, actionAV, caseAV, fieldAV, grantAV, headerAV, keyAV, paramAV, primAV, refAV, roleAV, stageAV, stateAV, tableAV, ybb, zky, Int.toNat_natCast, ybb, hg1, stateAV, swH_nx]
        refine w_cnt ((hW.next _).push2 _ _) (enc_pre hT23) ?_
        rw [hF.p2]
        try simp only [go_sem, reduceCtorEq, Nat.reduceEqDiff, Nat.reduceAdd, Nat.reduceMul, Nat.reduceSub, Nat.reduceLeDiff, Nat.reduceLT, Int.reduceMul, Int.reduceAdd, Int.reduceSub, Int.reduceToNat, schAV, schC, inL, boL, vc, clSch, clFld, clHdr, clCas, clSta, clPar, clPrm, clKey, clStg, clRef, clGra, clAct, clTab, clRol, AV.cells, actionAV, caseAV, fieldAV, grantAV, headerAV, keyAV, paramAV, primAV, refAV, roleAV, stageAV, stateAV, tableAV, ybb, zky, Int.toNat_natCast, ybb, hg1, stateAV, swH_nx]
        refine loop_introW (A := Nat) (fun k => [(0, .ptr id 0), (3, .ptr H.nx 0), (68, .slice .any 5 (a.states.map (stateAV))), (69, .int .i64 (a.states.length : Int)), (70, .int .i64 (k1 : Int)), (9, .ptr (H.nx + 1) 0), (92, .slice .any 5 (x1.cases.map (caseAV))), (93, .int .i64 (x1.cases.length : Int)), (94, .int .i64 (k : Int))]) (fun k => ((swH H id q ((((((((((((((((s).add (eList eField 32 a.fields))).add (eList eHeader 8 a.headers))).add (eCnt a.states.length 12)).add (eAll eState (a.states.take k1)))).add (eNum x1.id 2))).add (eNum x1.header 2))).add (eNum x1.select 2))).add (eCnt x1.cases.length 6)).add (eAll eCase (x1.cases.take k)))).push (.cells (clSch a))).push (.cells (clSta x1))) (fun k => k ≤ x1.cases.length) (fun k => x1.cases.length - k) 0 (by omega) ?_ fun k2 hk2 => ?_
        · rw [yar, eAll, enc_add0]
          refine ⟨by simp only [zkk, zkp, zky, swH_nx]; omega, by repeat (first | exact AHeap.Le.refl _ | refine AHeap.Le.push ?_ _), closed_cells (closed_cells (hcl1 _) (lt_cl (x := schAV a) fun _ => lt_schAV a)) (lt_cl (x := stateAV x1) fun _ => lt_stateAV x1), ?_, ?_⟩
          · simp [ltF, zky, swH_nx, znh, zmz, zna, lt_map, lt_map lt_fieldAV, lt_map lt_headerAV, lt_map lt_caseAV, lt_map lt_stateAV, lt_map lt_paramAV, lt_map lt_primAV, lt_map lt_keyAV, lt_map lt_stageAV, lt_map lt_refAV, lt_map lt_grantAV, lt_map lt_actionAV, lt_map lt_tableAV, lt_map lt_roleAV, lt_map fun _ => lt_vv, lt_map fun _ => of_eq_true zmz, lt_map fun _ => of_eq_true zna]
            try omega
          · simp [subW, wk2, wk1, wkM, Fr.get]
        simp only [go_sem, reduceCtorEq, Nat.reduceEqDiff, Nat.reduceAdd, Nat.reduceMul, Nat.reduceSub, Nat.reduceLeDiff, Nat.reduceLT, Int.reduceMul, Int.reduceAdd, Int.reduceSub, Int.reduceToNat]
        refine cond_split (fun hc => ?_) (fun hc => ?_)
        · have hk2' : k2 < x1.cases.length := by simp at hc; omega
          obtain ⟨x2, hx2⟩ : ∃ x2, x2 = x1.cases[k2] := ⟨_, rfl⟩
          have hg2 := getD_map (f := caseAV) (l := x1.cases) (k := k2) (x := x2) (by rw [List.getElem?_eq_getElem hk2', hx2])
          have e25 : IntKind.i64.wrap ((k2 : Int) + 1) = ((k2 + 1 : Nat) : Int) := by rw [wrap_i64] <;> omega
          have ho2 := (ho1) x2 (by rw [hx2]; exact List.getElem_mem hk2')
          obtain ⟨es2, hlk2⟩ := put_step (g := eCase) hk2' hx2 hT23
          simp only [go_sem, reduceCtorEq, Nat.reduceEqDiff, Nat.reduceAdd, Nat.reduceMul, Nat.reduceSub, Nat.reduceLeDiff, Nat.reduceLT, Int.reduceMul, Int.reduceAdd, Int.reduceSub, Int.reduceToNat, schAV, schC, inL, boL, vc, clSch, clFld, clHdr, clCas, clSta, clPar, clPrm, clKey, clStg, clRef, clGra, clAct, clTab, clRol, AV.cells, actionAV, caseAV, fieldAV, grantAV, headerAV, keyAV, paramAV, primAV, refAV, roleAV, stageAV, stateAV, tableAV, ybb, zky, Int.toNat_natCast, ybb, hg1, stateAV, Int.toNat_natCast, ybb, hg2, caseAV, vc, swH_nx]
          refine ⟨by omega, ?_⟩
          rw [show eCase x2 = ((eVal x2.value).add ((eVal x2.mask).add (eNum x2.next 2))) from rfl] at es2 hlk2
          rw [← enc_assoc, ← enc_assoc] at hlk2
          rw [← enc_assoc, ← enc_assoc] at es2
          have hm21 := enc_pre hlk2
          have hm20 := enc_pre hm21
          try simp only [go_sem, reduceCtorEq, Nat.reduceEqDiff, Nat.reduceAdd, Nat.reduceMul, Nat.reduceSub, Nat.reduceLeDiff, Nat.reduceLT, Int.reduceMul, Int.reduceAdd, Int.reduceSub, Int.reduceToNat, schAV, schC, inL, boL, vc, clSch, clFld, clHdr, clCas, clSta, clPar, clPrm, clKey, clStg, clRef, clGra, clAct, clTab, clRol, AV.cells, actionAV, caseAV, fieldAV, grantAV, headerAV, keyAV, paramAV, primAV, refAV, roleAV, stageAV, stateAV, tableAV, ybb, zky, Int.toNat_natCast, ybb, hg1, stateAV, Int.toNat_natCast, ybb, hg2, caseAV, vc, swH_nx]
          refine w_val (ho2.1) ((hW.next _).push3 _ _ _) hm20 ?_
          rw [hF.p3]
          try simp only [go_sem, reduceCtorEq, Nat.reduceEqDiff, Nat.reduceAdd, Nat.reduceMul, Nat.reduceSub, Nat.reduceLeDiff, Nat.reduceLT, Int.reduceMul, Int.reduceAdd, Int.reduceSub, Int.reduceToNat, schAV, schC, inL, boL, vc, clSch, clFld, clHdr, clCas, clSta, clPar, clPrm, clKey, clStg, clRef, clGra, clAct, clTab, clRol, AV.cells, actionAV, caseAV, fieldAV, grantAV, headerAV, keyAV, paramAV, primAV, refAV, roleAV, stageAV, stateAV, tableAV, ybb, zky, Int.toNat_natCast, ybb, hg1, stateAV, Int.toNat_natCast, ybb, hg2, caseAV, vc, swH_nx]
          refine w_val (ho2.2) ((hW.next _).push3 _ _ _) hm21 ?_
          rw [hF.p3]
          try simp only [go_sem, reduceCtorEq, Nat.reduceEqDiff, Nat.reduceAdd, Nat.reduceMul, Nat.reduceSub, Nat.reduceLeDiff, Nat.reduceLT, Int.reduceMul, Int.reduceAdd, Int.reduceSub, Int.reduceToNat, schAV, schC, inL, boL, vc, clSch, clFld, clHdr, clCas, clSta, clPar, clPrm, clKey, clStg, clRef, clGra, clAct, clTab, clRol, AV.cells, actionAV, caseAV, fieldAV, grantAV, headerAV, keyAV, paramAV, primAV, refAV, roleAV, stageAV, stateAV, tableAV, ybb, zky, Int.toNat_natCast, ybb, hg1, stateAV, Int.toNat_natCast, ybb, hg2, caseAV, vc, swH_nx]
          refine w_num (.inr rfl) ((hW.next _).push3 _ _ _) hlk2 ?_
          rw [hF.p3]
          rw [es2]
          simp only [go_sem, reduceCtorEq, Nat.reduceEqDiff, Nat.reduceAdd, Nat.reduceMul, Nat.reduceSub, Nat.reduceLeDiff, Nat.reduceLT, Int.reduceMul, Int.reduceAdd, Int.reduceSub, Int.reduceToNat, e25]
          refine ⟨k2 + 1, by omega, by omega, by simp only [zkk, zkp, zky, swH_nx]; omega, by repeat (first | exact AHeap.Le.refl _ | refine AHeap.Le.push ?_ _), closed_cells (closed_cells (hcl1 _) (lt_cl (x := schAV a) fun _ => lt_schAV a)) (lt_cl (x := stateAV x1) fun _ => lt_stateAV x1), ?_, ?_⟩
          · simp [ltF, zky, swH_nx, znh, zmz, zna, lt_map lt_fieldAV, lt_map lt_headerAV, lt_map lt_caseAV, lt_map lt_stateAV, lt_map lt_paramAV, lt_map lt_primAV, lt_map lt_keyAV, lt_map lt_stageAV, lt_map lt_refAV, lt_map lt_grantAV, lt_map lt_actionAV, lt_map lt_tableAV, lt_map lt_roleAV, lt_map fun _ => lt_vv, lt_map fun _ => of_eq_true zmz, lt_map fun _ => of_eq_true zna]
            try omega
          · simp [subW, wk2, wk1, wkM, Fr.get]
        · have hk2' : k2 = x1.cases.length := by simp at hc; omega
          subst hk2'
          rw [List.take_length]
          rw [← hE23]
          try simp only [go_sem, reduceCtorEq, Nat.reduceEqDiff, Nat.reduceAdd, Nat.reduceMul, Nat.reduceSub, Nat.reduceLeDiff, Nat.reduceLT, Int.reduceMul, Int.reduceAdd, Int.reduceSub, Int.reduceToNat, schAV, schC, inL, boL, vc, clSch, clFld, clHdr, clCas, clSta, clPar, clPrm, clKey, clStg, clRef, clGra, clAct, clTab, clRol, AV.cells, actionAV, caseAV, fieldAV, grantAV, headerAV, keyAV, paramAV, primAV, refAV, roleAV, stageAV, stateAV, tableAV, ybb, zky, Int.toNat_natCast, ybb, hg1, stateAV, swH_nx]
          refine w_num (.inr rfl) ((hW.next _).push2 _ _) hlk1 ?_
          rw [hF.p2]
          rw [es1]
          simp only [go_sem, reduceCtorEq, Nat.reduceEqDiff, Nat.reduceAdd, Nat.reduceMul, Nat.reduceSub, Nat.reduceLeDiff, Nat.reduceLT, Int.reduceMul, Int.reduceAdd, Int.reduceSub, Int.reduceToNat, e15]
          refine ⟨k1 + 1, by omega, by omega, by simp only [zkk, zkp, zky, swH_nx]; omega, by repeat (first | exact AHeap.Le.refl _ | refine AHeap.Le.push ?_ _), closed_cells (hcl1 _) (lt_cl (x := schAV a) fun _ => lt_schAV a), ?_, ?_⟩
          · simp [ltF, zky, swH_nx, znh, zmz, zna, lt_map lt_fieldAV, lt_map lt_headerAV, lt_map lt_caseAV, lt_map lt_stateAV, lt_map lt_paramAV, lt_map lt_primAV, lt_map lt_keyAV, lt_map lt_stageAV, lt_map lt_refAV, lt_map lt_grantAV, lt_map lt_actionAV, lt_map lt_tableAV, lt_map lt_roleAV, lt_map fun _ => lt_vv, lt_map fun _ => of_eq_true zmz, lt_map fun _ => of_eq_true zna]
            try omega
          · simp [subW, wk2, wk1, wkM, Fr.get]
      · have hk1' : k1 = a.states.length := by simp at hc; omega
        subst hk1'
        rw [List.take_length]
        rw [← hE12]
        try simp only [go_sem, reduceCtorEq, Nat.reduceEqDiff, Nat.reduceAdd, Nat.reduceMul, Nat.reduceSub, Nat.reduceLeDiff, Nat.reduceLT, Int.reduceMul, Int.reduceAdd, Int.reduceSub, Int.reduceToNat, schAV, schC, inL, boL, vc, clSch, clFld, clHdr, clCas, clSta, clPar, clPrm, clKey, clStg, clRef, clGra, clAct, clTab, clRol, AV.cells, actionAV, caseAV, fieldAV, grantAV, headerAV, keyAV, paramAV, primAV, refAV, roleAV, stageAV, stateAV, tableAV, ybb, zky, swH_nx]
        refine ⟨?_, by repeat (first | exact AHeap.Le.refl _ | refine AHeap.Le.push ?_ _), hcl1 _, ?_⟩
        · simp [wk, wk2, wk1, wkLL]
        · simp [znm, znp]
end Go.AL

