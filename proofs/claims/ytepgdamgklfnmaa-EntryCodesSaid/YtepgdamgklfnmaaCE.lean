/- Contracts and plain laws, a part of the proof; no condition of its own. -/
import Derived.Test.YtepgdamgklfnmaaCW
import Derived.Test.YtepgdamgklfnmaaLRead
open List renaming length_cons → yaz, length_nil → yba, take_of_length_le → ybc, drop_append → ybd, take_append → ybe, drop_eq_nil_of_le → ybf, take_zero → yar, drop_zero → yap
open Go Go.AL Go.Proofs
namespace Go.AL
set_option linter.all false
set_option maxRecDepth 10000
theorem ti_reader : ti Try.prog 116 = some ⟨.struct [(0, 22, false), (1, 58, false)], 2, 32, .agg [.slice .nil 1 [], .int .i64 0]⟩ := by kernel_rfl
theorem ti_errno : ti Try.prog 58 = some ⟨.int .i64, 1, 8, .int .i64 0⟩ := by kernel_rfl
theorem ti_preader : ti Try.prog 55 = some ⟨.ptr 116, 1, 8, .nilp⟩ := by kernel_rfl
attribute [go_sem] ti_reader ti_errno ti_preader

def p_Clone : List AV → AHeap → (AV → Prop) → Prop
  | [.slice _ 1 l], _, K => (isB l ∧ l.length ≤ 140737488355328) ∧ K (.slice .any 1 (bys (unb l)))
  | _, _, _ => False
theorem ok_Clone : EntOk Try.prog 56 (Ent.pure p_Clone) := by
  refine EntOk.pure fun args H K h => ?_
  unfold p_Clone at h
  split at h
  rotate_left
  · exact h.elim
  rename_i m l
  obtain ⟨⟨c1, hle⟩, hK⟩ := h
  refine ⟨_, hK, ?_⟩
  obtain ⟨xs, rfl⟩ := isB_out c1
  simp only [zlf, zkq] at *
  refine ACalls.of_aw (Ω := []) (T := assoc []) mixed TblOk.nil Try.func56 (by kernel_rfl) (by rfl) (rs := [.tmp 2]) (by rfl) (by kernel_rfl) (by simp only [Try.ntmps56, yaz, yba]; decide) (Nat.le_refl _) fun hcl hlt => ?_
  change aw _ _ _ (KI Try.prog [] (aEnd Try.prog [.tmp 2] H.nx _ _) []) _ _
  clear hK hlt
  simp only [go_sem, zav, reduceCtorEq, Nat.reduceEqDiff, Nat.reduceAdd, Nat.reduceMul, Nat.reduceSub, Nat.reduceLeDiff, Nat.reduceLT, Int.reduceMul, Int.reduceAdd, Int.reduceSub, Int.reduceToNat, byq]
  intro b hb
  refine both_split (fun h1 => ?_) (fun h1 => ?_)
  · subst h1
    have : xs = [] := by
      cases xs with
      | nil => rfl
      | cons a t => simp [bys] at hb
    subst this
    simp (disch := first | assumption | omega | (simp; done) | (simp; omega) | (simp only [bt, and_true]; first | done | omega | (simp; done))) [↓zlu, beq, ybc, ybd, ybe, endOk, wk, wk2, wk1, wkM, wkL, wkLL, ybf, hcl]
  · refine ⟨by omega, ?_⟩
    simp (disch := first | assumption | omega | (simp; done) | (simp; omega) | (simp only [bt, and_true]; first | done | omega | (simp; done))) [↓zlu, beq, ybc, ybd, ybe, endOk, wk, wk2, wk1, wkM, wkL, wkLL, ybf, hcl]

def e_New : List AV → AHeap → (AEnd → AHeap → Prop) → Prop
  | [.slice _ 1 l], H, K => (isB l ∧ l.length ≤ 140737488355328) ∧ K (.ret (.ptr H.nx 0)) (H.push (.cells [.slice .any 1 (bys (unb l)), .int .i64 0]))
  | _, _, _ => False
theorem ok_New : EntOk Try.prog 20 (Ent.effect e_New) := by
  refine EntOk.effect fun args H K h => ?_
  unfold e_New at h
  split at h
  rotate_left
  · exact h.elim
  rename_i m l
  obtain ⟨⟨c1, hle⟩, hK⟩ := h
  refine ⟨_, _, hK, ?_⟩
  obtain ⟨xs, rfl⟩ := isB_out c1
  simp only [zlf, zkq] at *
  refine ACalls.of_aw (Ω := [(56, Ent.pure p_Clone)]) (T := assoc []) mixed (TblOk.cons ok_Clone TblOk.nil) Try.func20 (by kernel_rfl) (by rfl) (rs := [.tmp 2]) (by rfl) (by kernel_rfl) (by simp only [Try.ntmps20, yaz, yba]; decide) (by simp only [zkk]; omega) fun hcl hlt => ?_
  change aw _ _ _ (KI Try.prog [(56, Ent.pure p_Clone)] (aEnd Try.prog [.tmp 2] H.nx _ _) []) _ _
  clear hK hlt
  simp only [go_sem, zav, reduceCtorEq, Nat.reduceEqDiff, Nat.reduceAdd, Nat.reduceMul, Nat.reduceSub, Nat.reduceLeDiff, Nat.reduceLT, Int.reduceMul, Int.reduceAdd, Int.reduceSub, Int.reduceToNat, byq, p_Clone]
  refine ⟨by omega, ?_⟩
  have hc : (H.push (.cells [.slice .any 1 (bys xs), .int .i64 0])).Closed := closed_cells hcl (by simp [ltL, zly, zml])
  simp (disch := first | assumption | omega | (simp; done) | (simp; omega) | (simp only [bt, and_true]; first | done | omega | (simp; done))) [↓zlu, beq, ybc, ybd, ybe, endOk, wk, wk2, wk1, wkM, wkL, wkLL, ybf, hc]

def p_done : List AV → AHeap → (AV → Prop) → Prop
  | [.nilp], _, K => K (.bool true)
  | [.ptr id 0], H, K => onR H id fun m l e => K (.bool (e != 0))
  | _, _, _ => False
theorem ok_done : EntOk Try.prog 65 (Ent.pure p_done) := by
  refine EntOk.pure fun args H K h => ?_
  unfold p_done at h
  split at h
  · refine ⟨_, h, ?_⟩
    refine ACalls.of_aw (Ω := []) (T := assoc []) mixed TblOk.nil Try.func65 (by kernel_rfl) (by rfl) (rs := [.tmp 2]) (by rfl) (by kernel_rfl) (by simp only [Try.ntmps65, yaz, yba]; decide) (Nat.le_refl _) fun hcl hlt => ?_
    change aw _ _ _ (KI Try.prog [] (aEnd Try.prog [.tmp 2] H.nx _ _) []) _ _
    clear h hlt
    simp only [go_sem, zav, reduceCtorEq, Nat.reduceEqDiff, Nat.reduceAdd, Nat.reduceMul, Nat.reduceSub, Nat.reduceLeDiff, Nat.reduceLT, Int.reduceMul, Int.reduceAdd, Int.reduceSub, Int.reduceToNat, byq]
    simp (disch := first | assumption | omega | (simp; done) | (simp; omega) | (simp only [bt, and_true]; first | done | omega | (simp; done))) [↓zlu, beq, ybc, ybd, ybe, endOk, wk, wk2, wk1, wkM, wkL, wkLL, ybf, hcl]
  · rename_i id
    obtain ⟨m, l, e, hid, hle, hK⟩ := onR_out h
    refine ⟨_, hK, ?_⟩
    have hcs := cells_some hid
    refine ACalls.of_aw (Ω := []) (T := assoc []) mixed TblOk.nil Try.func65 (by kernel_rfl) (by rfl) (rs := [.tmp 2]) (by rfl) (by kernel_rfl) (by simp only [Try.ntmps65, yaz, yba]; decide) (Nat.le_refl _) fun hcl hlt => ?_
    change aw _ _ _ (KI Try.prog [] (aEnd Try.prog [.tmp 2] H.nx _ _) []) _ _
    clear h hK hlt
    simp only [go_sem, zav, reduceCtorEq, Nat.reduceEqDiff, Nat.reduceAdd, Nat.reduceMul, Nat.reduceSub, Nat.reduceLeDiff, Nat.reduceLT, Int.reduceMul, Int.reduceAdd, Int.reduceSub, Int.reduceToNat, byq, hcs]
    simp (disch := first | assumption | omega | (simp; done) | (simp; omega) | (simp only [bt, and_true]; first | done | omega | (simp; done))) [↓zlu, beq, ybc, ybd, ybe, endOk, wk, wk2, wk1, wkM, wkL, wkLL, ybf, hcl]
  · exact h.elim

def e_fail : List AV → AHeap → (AEnd → AHeap → Prop) → Prop
  | [.ptr id 0, .int .i64 x], H, K => onR H id fun m l e => True ∧ K (.ret (.tup [])) (H.set id (.cells [.slice m 1 (bys l), .int .i64 x]))
  | _, _, _ => False
theorem ok_fail : EntOk Try.prog 85 (Ent.effect e_fail) := by
  refine EntOk.effect fun args H K h => ?_
  unfold e_fail at h
  split at h
  rotate_left
  · exact h.elim
  rename_i id x
  obtain ⟨m, l, e, hid, hle, h⟩ := onR_out h
  obtain ⟨hpre, hK⟩ := h
  refine ⟨_, _, hK, ?_⟩
  clear hK
  have hl0 := AHeap.get_lt hid
  have hne := far_of hl0
  have hss := set_same hid
  have hcs := cells_some hid
  have hcm := fun cs => @cells_set_same H id cs hl0
  have hgm := fun o => @get_set_same' H id o hl0
  refine ACalls.of_aw (Ω := []) (T := assoc []) mixed TblOk.nil Try.func85 (by kernel_rfl) (by rfl) (rs := []) (by rfl) (by kernel_rfl) (by simp only [Try.ntmps85, yaz, yba]; decide) (Nat.le_refl _) fun hcl hlt => ?_
  change aw _ _ _ (KI Try.prog [] (aEnd Try.prog [] H.nx _ _) []) _ _
  clear hlt
  have hcl1 := fun l' e' => closedR hid hcl m (.inl rfl) l' e'
  have hcl2 := fun l' e' => closedR hid hcl .any (.inr rfl) l' e' 
  simp only [go_sem, zav, reduceCtorEq, Nat.reduceEqDiff, Nat.reduceAdd, Nat.reduceMul, Nat.reduceSub, Nat.reduceLeDiff, Nat.reduceLT, Int.reduceMul, Int.reduceAdd, Int.reduceSub, Int.reduceToNat, byq, hne, hid, hcs, hcm, hgm, onR, onRo_some, onRo_nil, zlh, zlf, zkq, and_true, true_and]
  simp (disch := first | assumption | omega | (simp; done) | (simp; omega) | (simp only [bt, and_true]; first | done | omega | (simp; done))) [↓zlu, beq, ybc, ybd, ybe, endOk, wk, wk2, wk1, wkM, wkL, wkLL, ybf, hss, hl0, hcl1, hcl2, zlh, zlf, zkq]

def e_peek : List AV → AHeap → (AEnd → AHeap → Prop) → Prop
  | [.ptr id 0, .int .i64 a, .int .i64 n], H, K => onR H id fun m l e => (0 ≤ a ∧ a ≤ 100000 ∧ 0 ≤ n ∧ n ≤ 100000) ∧
      (if (l.length : Int) < a + n then K (.ret (.tup [.slice .any 1 [], .bool false])) (H.set id (.cells [.slice m 1 (bys l), .int .i64 1]))
       else K (.ret (.tup [.slice .any 1 (bys ((l.take (a + n).toNat).drop a.toNat)), .bool true])) H)
  | _, _, _ => False
theorem ok_peek : EntOk Try.prog 86 (Ent.effect e_peek) := by
  refine EntOk.effect fun args H K h => ?_
  unfold e_peek at h
  split at h
  rotate_left
  · exact h.elim
  rename_i id a n
  obtain ⟨m, l, e, hid, hle, h⟩ := onR_out h
  obtain ⟨hpre, hK⟩ := h
  have hl0 := AHeap.get_lt hid
  have hne := far_of hl0
  have hss := set_same hid
  have hcs := cells_some hid
  have hcm := fun cs => @cells_set_same H id cs hl0
  have hgm := fun o => @get_set_same' H id o hl0
  have hw : IntKind.i64.wrap (a + n) = a + n := by rw [wrap_i64] <;> omega
  split at hK
  · rename_i hlt0
    refine ⟨_, _, hK, ?_⟩
    refine ACalls.of_aw (Ω := [(85, Ent.effect e_fail)]) (T := assoc []) mixed (TblOk.cons ok_fail TblOk.nil) Try.func86 (by kernel_rfl) (by rfl) (rs := [.tmp 6,.tmp 7]) (by rfl) (by kernel_rfl) (by simp only [Try.ntmps86, yaz, yba]; decide) (Nat.le_refl _) fun hcl hlt => ?_
    change aw _ _ _ (KI Try.prog [(85, Ent.effect e_fail)] (aEnd Try.prog [.tmp 6,.tmp 7] H.nx _ _) []) _ _
    clear hlt hK
    have hcl1 := fun l' e' => closedR hid hcl m (.inl rfl) l' e'
    have hd : decide ((l.length : Int) < a + n) = true := by simpa using hlt0
    simp only [go_sem, zav, reduceCtorEq, Nat.reduceEqDiff, Nat.reduceAdd, Nat.reduceMul, Nat.reduceSub, Nat.reduceLeDiff, Nat.reduceLT, Int.reduceMul, Int.reduceAdd, Int.reduceSub, Int.reduceToNat, byq, hne, hid, hcs, hcm, hgm, onR, onRo_some, onRo_nil, zlh, zlf, zkq, and_true, true_and, e_fail, hw, hd]
    refine ⟨by omega, ?_⟩
    simp (disch := first | assumption | omega | (simp; done) | (simp; omega) | (simp only [bt, and_true]; first | done | omega | (simp; done))) [↓zlu, beq, ybc, ybd, ybe, endOk, wk, wk2, wk1, wkM, wkL, wkLL, ybf, hss, hl0, hcl1]
  · rename_i hlt0
    refine ⟨_, _, hK, ?_⟩
    refine ACalls.of_aw (Ω := [(85, Ent.effect e_fail)]) (T := assoc []) mixed (TblOk.cons ok_fail TblOk.nil) Try.func86 (by kernel_rfl) (by rfl) (rs := [.tmp 6,.tmp 7]) (by rfl) (by kernel_rfl) (by simp only [Try.ntmps86, yaz, yba]; decide) (Nat.le_refl _) fun hcl hlt => ?_
    change aw _ _ _ (KI Try.prog [(85, Ent.effect e_fail)] (aEnd Try.prog [.tmp 6,.tmp 7] H.nx _ _) []) _ _
    clear hlt hK
    have hd : decide ((l.length : Int) < a + n) = false := by simpa using hlt0
    simp only [go_sem, zav, reduceCtorEq, Nat.reduceEqDiff, Nat.reduceAdd, Nat.reduceMul, Nat.reduceSub, Nat.reduceLeDiff, Nat.reduceLT, Int.reduceMul, Int.reduceAdd, Int.reduceSub, Int.reduceToNat, byq, hne, hid, hcs, hcm, hgm, onR, onRo_some, onRo_nil, zlh, zlf, zkq, and_true, true_and, e_fail, hw, hd]
    refine ⟨by omega, ?_⟩
    simp (disch := first | assumption | omega | (simp; done) | (simp; omega) | (simp only [bt, and_true]; first | done | omega | (simp; done))) [↓zlu, beq, ybc, ybd, ybe, endOk, wk, wk2, wk1, wkM, wkL, wkLL, ybf, hcl]

def p_unsigned : List AV → AHeap → (AV → Prop) → Prop
  | [.slice _ 1 l], _, K => (isB l ∧ l.length ≤ 6) ∧ K (.int .i64 (beVal (unb l) : Nat))
  | _, _, _ => False
theorem ok_unsigned : EntOk Try.prog 87 (Ent.pure p_unsigned) := by
  refine EntOk.pure fun args H K h => ?_
  unfold p_unsigned at h
  split at h
  rotate_left
  · exact h.elim
  rename_i m l
  obtain ⟨⟨c1, hle⟩, hK⟩ := h
  refine ⟨_, hK, ?_⟩
  obtain ⟨xs, rfl⟩ := isB_out c1
  simp only [zlf, zkq] at *
  refine ACalls.of_aw (Ω := []) (T := assoc []) mixed TblOk.nil Try.func87 (by kernel_rfl) (by rfl) (rs := [.tmp 2]) (by rfl) (by kernel_rfl) (by simp only [Try.ntmps87, yaz, yba]; decide) (Nat.le_refl _) fun hcl hlt => ?_
  change aw _ _ _ (KI Try.prog [] (aEnd Try.prog [.tmp 2] H.nx _ _) []) _ _
  clear hK hlt
  simp only [go_sem, reduceCtorEq, Nat.reduceEqDiff, Nat.reduceAdd, Nat.reduceMul, Nat.reduceSub, Nat.reduceLeDiff, Nat.reduceLT, Int.reduceMul, Int.reduceAdd, Int.reduceSub, Int.reduceToNat, byq]
  refine loop_intro (A := Nat) (fun k => [(8, .int .i64 (k : Int)), (7, .int .i64 (xs.length : Int)), (6, .slice m 1 (bys xs)), (3, .int .i64 (beVal (xs.take k) : Nat))])
    (fun k => H) (fun k => k ≤ xs.length) (fun k => xs.length - k) 0 (by omega) ?_ fun k hk => ?_
  · simp only [bnq, enter, subF, ltF, ne_eq, Nat.reduceEqDiff, reduceCtorEq, yar, beVal_nil, true_or, and_true]
  simp only [go_sem, reduceCtorEq, Nat.reduceEqDiff, Nat.reduceAdd, Nat.reduceMul, Nat.reduceSub, Nat.reduceLeDiff, Nat.reduceLT, Int.reduceMul, Int.reduceAdd, Int.reduceSub, Int.reduceToNat, byq]
  refine cond_split (fun hc => ?_) (fun hc => ?_)
  · have hk : k < xs.length := by simp at hc; omega
    have e1 : IntKind.i64.wrap ((k : Int) + 1) = ((k + 1 : Nat) : Int) := by rw [wrap_i64] <;> omega
    have hb : beVal (xs.take k) < 256 ^ 6 := beVal_take_lt xs k 6 hle
    have hx : (bys xs).getD k .junk = ofByte (xs.getD k 0) := bys_get hk
    have e2 : IntKind.i64.wrap (((xs.getD k 0).toNat : Nat) : Int) = (((xs.getD k 0).toNat : Nat) : Int) := wrap_i64_nat _ (by have := UInt8.toNat_lt (xs.getD k 0); omega)
    have e3 := shl8_or (beVal (xs.take k)) (xs.getD k 0).toNat (by omega) (UInt8.toNat_lt _)
    rw [← beVal_step xs k hk] at e3
    simp only [go_sem, reduceCtorEq, Nat.reduceEqDiff, Nat.reduceAdd, Nat.reduceMul, Nat.reduceSub, Nat.reduceLeDiff, Nat.reduceLT, Int.reduceMul, Int.reduceAdd, Int.reduceSub, Int.reduceToNat, byq, Int.toNat_natCast, hx, e1, zkq, ofByte, e2, e3]
    refine ⟨by omega, by decide, k + 1, by omega, by omega, ?_⟩
    simp only [bnq, enter, subF, ltF, ne_eq, Nat.reduceEqDiff, reduceCtorEq, true_or, and_self]
  · have hk : k = xs.length := by simp at hc; omega
    subst hk
    simp only [go_sem, reduceCtorEq, Nat.reduceEqDiff, Nat.reduceAdd, Nat.reduceMul, Nat.reduceSub, Nat.reduceLeDiff, Nat.reduceLT, Int.reduceMul, Int.reduceAdd, Int.reduceSub, Int.reduceToNat, byq, List.take_length]
    simp (disch := first | assumption | omega | (simp; done) | (simp; omega) | (simp only [bt, and_true]; first | done | omega | (simp; done))) [↓zlu, beq, ybc, ybd, ybe, endOk, wk, wk2, wk1, wkM, wkL, wkLL, ybf, hcl]
end Go.AL


open Go Go.AL Go.Proofs
namespace Go.AL
set_option linter.all false
set_option maxRecDepth 10000

def e_Uint : List AV → AHeap → (AEnd → AHeap → Prop) → Prop
  | [.ptr id 0, .int .i64 w], H, K => onR H id fun m l e => True ∧ K (.ret (.int .i64 (uintR (m, l, e) w).1)) (H.set id (.cells (cellR (uintR (m, l, e) w).2)))
  | _, _, _ => False
theorem ok_Uint : EntOk Try.prog 57 (Ent.effect e_Uint) := by
  refine EntOk.effect fun args H K h => ?_
  unfold e_Uint at h
  split at h
  rotate_left
  · exact h.elim
  rename_i id w
  obtain ⟨m, l, e, hid, hle, h⟩ := onR_out h
  obtain ⟨hpre, hK⟩ := h
  refine ⟨_, _, hK, ?_⟩
  clear hK
  have hl0 := AHeap.get_lt hid
  have hne := far_of hl0
  have hss := set_same hid
  have hcs := cells_some hid
  have hcm := fun cs => @cells_set_same H id cs hl0
  have hgm := fun o => @get_set_same' H id o hl0
  by_cases h0 : e = 0
  case neg =>
    have d0 : (e != 0) = true := by simpa using h0
    rw [show uintR (m, l, e) w = (0, m, l, e) by simp [uintR, h0]]
    dsimp only [cellR]
    try rw [hss]
    refine ACalls.of_aw (Ω := [(65, Ent.pure p_done), (85, Ent.effect e_fail), (86, Ent.effect e_peek), (87, Ent.pure p_unsigned)]) (T := assoc []) mixed (TblOk.cons ok_done (TblOk.cons ok_fail (TblOk.cons ok_peek (TblOk.cons ok_unsigned TblOk.nil)))) Try.func57 (by kernel_rfl) (by rfl) (rs := [.tmp 4]) (by rfl) (by kernel_rfl) (by simp only [Try.ntmps57, yaz, yba]; decide) (by simp [zkl]) fun hcl hlt => ?_
    change aw _ _ _ (KI Try.prog [(65, Ent.pure p_done), (85, Ent.effect e_fail), (86, Ent.effect e_peek), (87, Ent.pure p_unsigned)] (aEnd Try.prog [.tmp 4] H.nx _ _) []) _ _
    clear hlt
    have hcl1 := fun l' e' => closedR hid hcl m (.inl rfl) l' e'
    have hcl2 := fun l' e' => closedR hid hcl .any (.inr rfl) l' e' 
    simp only [go_sem, zav, reduceCtorEq, Nat.reduceEqDiff, Nat.reduceAdd, Nat.reduceMul, Nat.reduceSub, Nat.reduceLeDiff, Nat.reduceLT, Int.reduceMul, Int.reduceAdd, Int.reduceSub, Int.reduceToNat, byq, hne, hid, hcs, hcm, hgm, onR, onRo_some, onRo_nil, zlh, zlf, zkq, and_true, true_and, hid, p_done, d0]
    simp (disch := first | assumption | omega | (simp; done) | (simp; omega) | (simp only [bt, and_true]; first | done | omega | (simp; done))) [↓zlu, beq, ybc, ybd, ybe, endOk, wk, wk2, wk1, wkM, wkL, wkLL, ybf, hss, hl0, hcl, hcl1, hcl2, hle]
    try omega
  subst h0
  have d0 : ((0 : Int) != 0) = false := rfl
  by_cases h1 : w < 1
  · have d1 : decide (w < 1) = true := by simpa using h1
    rw [show uintR (m, l, 0) w = (0, m, l, 4) by simp [uintR, h1]]
    dsimp only [cellR]
    try rw [hss]
    refine ACalls.of_aw (Ω := [(65, Ent.pure p_done), (85, Ent.effect e_fail), (86, Ent.effect e_peek), (87, Ent.pure p_unsigned)]) (T := assoc []) mixed (TblOk.cons ok_done (TblOk.cons ok_fail (TblOk.cons ok_peek (TblOk.cons ok_unsigned TblOk.nil)))) Try.func57 (by kernel_rfl) (by rfl) (rs := [.tmp 4]) (by rfl) (by kernel_rfl) (by simp only [Try.ntmps57, yaz, yba]; decide) (by simp [zkl]) fun hcl hlt => ?_
    change aw _ _ _ (KI Try.prog [(65, Ent.pure p_done), (85, Ent.effect e_fail), (86, Ent.effect e_peek), (87, Ent.pure p_unsigned)] (aEnd Try.prog [.tmp 4] H.nx _ _) []) _ _
    clear hlt
    have hcl1 := fun l' e' => closedR hid hcl m (.inl rfl) l' e'
    have hcl2 := fun l' e' => closedR hid hcl .any (.inr rfl) l' e' 
    simp only [go_sem, zav, reduceCtorEq, Nat.reduceEqDiff, Nat.reduceAdd, Nat.reduceMul, Nat.reduceSub, Nat.reduceLeDiff, Nat.reduceLT, Int.reduceMul, Int.reduceAdd, Int.reduceSub, Int.reduceToNat, byq, hne, hid, hcs, hcm, hgm, onR, onRo_some, onRo_nil, zlh, zlf, zkq, and_true, true_and, hid, p_done, e_fail, d0, d1]
    simp (disch := first | assumption | omega | (simp; done) | (simp; omega) | (simp only [bt, and_true]; first | done | omega | (simp; done))) [↓zlu, beq, ybc, ybd, ybe, endOk, wk, wk2, wk1, wkM, wkL, wkLL, ybf, hss, hl0, hcl, hcl1, hcl2, hle]
    try omega
  have d1 : decide (w < 1) = false := by simpa using h1
  by_cases h2 : 4 < w
  · have d2 : decide (w > 4) = true := by simpa using h2
    rw [show uintR (m, l, 0) w = (0, m, l, 4) by simp [uintR, h2]]
    dsimp only [cellR]
    try rw [hss]
    refine ACalls.of_aw (Ω := [(65, Ent.pure p_done), (85, Ent.effect e_fail), (86, Ent.effect e_peek), (87, Ent.pure p_unsigned)]) (T := assoc []) mixed (TblOk.cons ok_done (TblOk.cons ok_fail (TblOk.cons ok_peek (TblOk.cons ok_unsigned TblOk.nil)))) Try.func57 (by kernel_rfl) (by rfl) (rs := [.tmp 4]) (by rfl) (by kernel_rfl) (by simp only [Try.ntmps57, yaz, yba]; decide) (by simp [zkl]) fun hcl hlt => ?_
    change aw _ _ _ (KI Try.prog [(65, Ent.pure p_done), (85, Ent.effect e_fail), (86, Ent.effect e_peek), (87, Ent.pure p_unsigned)] (aEnd Try.prog [.tmp 4] H.nx _ _) []) _ _
    clear hlt
    have hcl1 := fun l' e' => closedR hid hcl m (.inl rfl) l' e'
    have hcl2 := fun l' e' => closedR hid hcl .any (.inr rfl) l' e' 
    simp only [go_sem, zav, reduceCtorEq, Nat.reduceEqDiff, Nat.reduceAdd, Nat.reduceMul, Nat.reduceSub, Nat.reduceLeDiff, Nat.reduceLT, Int.reduceMul, Int.reduceAdd, Int.reduceSub, Int.reduceToNat, byq, hne, hid, hcs, hcm, hgm, onR, onRo_some, onRo_nil, zlh, zlf, zkq, and_true, true_and, hid, p_done, e_fail, d0, d1, d2]
    simp (disch := first | assumption | omega | (simp; done) | (simp; omega) | (simp only [bt, and_true]; first | done | omega | (simp; done))) [↓zlu, beq, ybc, ybd, ybe, endOk, wk, wk2, wk1, wkM, wkL, wkLL, ybf, hss, hl0, hcl, hcl1, hcl2, hle]
    try omega
  have d2 : decide (w > 4) = false := by simp; omega
  by_cases h3 : (l.length : Int) < w
  · have d3 : (l.length : Int) < 0 + w := by omega
    rw [show uintR (m, l, 0) w = (0, m, l, 1) by simp [uintR, h1, h2, h3]]
    dsimp only [cellR]
    try rw [hss]
    refine ACalls.of_aw (Ω := [(65, Ent.pure p_done), (85, Ent.effect e_fail), (86, Ent.effect e_peek), (87, Ent.pure p_unsigned)]) (T := assoc []) mixed (TblOk.cons ok_done (TblOk.cons ok_fail (TblOk.cons ok_peek (TblOk.cons ok_unsigned TblOk.nil)))) Try.func57 (by kernel_rfl) (by rfl) (rs := [.tmp 4]) (by rfl) (by kernel_rfl) (by simp only [Try.ntmps57, yaz, yba]; decide) (by simp [zkl]) fun hcl hlt => ?_
    change aw _ _ _ (KI Try.prog [(65, Ent.pure p_done), (85, Ent.effect e_fail), (86, Ent.effect e_peek), (87, Ent.pure p_unsigned)] (aEnd Try.prog [.tmp 4] H.nx _ _) []) _ _
    clear hlt
    have hcl1 := fun l' e' => closedR hid hcl m (.inl rfl) l' e'
    have hcl2 := fun l' e' => closedR hid hcl .any (.inr rfl) l' e' 
    simp only [go_sem, zav, reduceCtorEq, Nat.reduceEqDiff, Nat.reduceAdd, Nat.reduceMul, Nat.reduceSub, Nat.reduceLeDiff, Nat.reduceLT, Int.reduceMul, Int.reduceAdd, Int.reduceSub, Int.reduceToNat, byq, hne, hid, hcs, hcm, hgm, onR, onRo_some, onRo_nil, zlh, zlf, zkq, and_true, true_and, hid, p_done, e_peek, d0, d1, d2, if_pos d3]
    simp (disch := first | assumption | omega | (simp; done) | (simp; omega) | (simp only [bt, and_true]; first | done | omega | (simp; done))) [↓zlu, beq, ybc, ybd, ybe, endOk, wk, wk2, wk1, wkM, wkL, wkLL, ybf, hss, hl0, hcl, hcl1, hcl2, hle]
    try omega
  · have d3 : ¬ (l.length : Int) < 0 + w := by omega
    have d4 : (0 + w).toNat = w.toNat := by omega
    have d5 : Int.toNat 0 = 0 := rfl
    have d6 : (l.take w.toNat).length = w.toNat := by rw [List.length_take]; omega
    have d7 : List.take (l.length : Int).toNat l = l := by simp
    rw [show uintR (m, l, 0) w = (((beVal (l.take w.toNat) : Nat) : Int), Mark.any, l.drop w.toNat, (0 : Int)) by simp [uintR, h1, h2, h3]]
    dsimp only [cellR]
    try rw [hss]
    refine ACalls.of_aw (Ω := [(65, Ent.pure p_done), (85, Ent.effect e_fail), (86, Ent.effect e_peek), (87, Ent.pure p_unsigned)]) (T := assoc []) mixed (TblOk.cons ok_done (TblOk.cons ok_fail (TblOk.cons ok_peek (TblOk.cons ok_unsigned TblOk.nil)))) Try.func57 (by kernel_rfl) (by rfl) (rs := [.tmp 4]) (by rfl) (by kernel_rfl) (by simp only [Try.ntmps57, yaz, yba]; decide) (by simp [zkl]) fun hcl hlt => ?_
    change aw _ _ _ (KI Try.prog [(65, Ent.pure p_done), (85, Ent.effect e_fail), (86, Ent.effect e_peek), (87, Ent.pure p_unsigned)] (aEnd Try.prog [.tmp 4] H.nx _ _) []) _ _
    clear hlt
    have hcl1 := fun l' e' => closedR hid hcl m (.inl rfl) l' e'
    have hcl2 := fun l' e' => closedR hid hcl .any (.inr rfl) l' e' 
    simp only [go_sem, zav, reduceCtorEq, Nat.reduceEqDiff, Nat.reduceAdd, Nat.reduceMul, Nat.reduceSub, Nat.reduceLeDiff, Nat.reduceLT, Int.reduceMul, Int.reduceAdd, Int.reduceSub, Int.reduceToNat, byq, hne, hid, hcs, hcm, hgm, onR, onRo_some, onRo_nil, zlh, zlf, zkq, and_true, true_and, hid, p_done, e_peek, d0, d1, d2, if_neg d3, d4, d5, yap, p_unsigned, d6, d7]
    simp (disch := first | assumption | omega | (simp; done) | (simp; omega) | (simp only [bt, and_true]; first | done | omega | (simp; done))) [↓zlu, beq, ybc, ybd, ybe, endOk, wk, wk2, wk1, wkM, wkL, wkLL, ybf, hss, hl0, hcl, hcl1, hcl2, hle]
    try omega

def e_RBool : List AV → AHeap → (AEnd → AHeap → Prop) → Prop
  | [.ptr id 0], H, K => onR H id fun m l e => True ∧ K (.ret (.bool (boolR (m, l, e)).1)) (H.set id (.cells (cellR (boolR (m, l, e)).2)))
  | _, _, _ => False
theorem ok_RBool : EntOk Try.prog 88 (Ent.effect e_RBool) := by
  refine EntOk.effect fun args H K h => ?_
  unfold e_RBool at h
  split at h
  rotate_left
  · exact h.elim
  rename_i id
  obtain ⟨m, l, e, hid, hle, h⟩ := onR_out h
  obtain ⟨hpre, hK⟩ := h
  refine ⟨_, _, hK, ?_⟩
  clear hK
  have hl0 := AHeap.get_lt hid
  have hne := far_of hl0
  have hss := set_same hid
  have hcs := cells_some hid
  have hcm := fun cs => @cells_set_same H id cs hl0
  have hgm := fun o => @get_set_same' H id o hl0
  by_cases h0 : e = 0
  case neg =>
    have d0 : (e != 0) = true := by simpa using h0
    rw [show boolR (m, l, e) = (false, m, l, e) by simp [boolR, h0]]
    dsimp only [cellR]
    try rw [hss]
    refine ACalls.of_aw (Ω := [(65, Ent.pure p_done), (85, Ent.effect e_fail), (86, Ent.effect e_peek)]) (T := assoc []) mixed (TblOk.cons ok_done (TblOk.cons ok_fail (TblOk.cons ok_peek TblOk.nil))) Try.func88 (by kernel_rfl) (by rfl) (rs := [.tmp 2]) (by rfl) (by kernel_rfl) (by simp only [Try.ntmps88, yaz, yba]; decide) (by simp [zkl]) fun hcl hlt => ?_
    change aw _ _ _ (KI Try.prog [(65, Ent.pure p_done), (85, Ent.effect e_fail), (86, Ent.effect e_peek)] (aEnd Try.prog [.tmp 2] H.nx _ _) []) _ _
    clear hlt
    have hcl1 := fun l' e' => closedR hid hcl m (.inl rfl) l' e'
    have hcl2 := fun l' e' => closedR hid hcl .any (.inr rfl) l' e' 
    simp only [go_sem, zav, reduceCtorEq, Nat.reduceEqDiff, Nat.reduceAdd, Nat.reduceMul, Nat.reduceSub, Nat.reduceLeDiff, Nat.reduceLT, Int.reduceMul, Int.reduceAdd, Int.reduceSub, Int.reduceToNat, byq, hne, hid, hcs, hcm, hgm, onR, onRo_some, onRo_nil, zlh, zlf, zkq, and_true, true_and, hid, p_done, d0]
    simp (disch := first | assumption | omega | (simp; done) | (simp; omega) | (simp only [bt, and_true]; first | done | omega | (simp; done))) [↓zlu, beq, ybc, ybd, ybe, endOk, wk, wk2, wk1, wkM, wkL, wkLL, ybf, hss, hl0, hcl, hcl1, hcl2, hle]
    try omega
  subst h0
  have d0 : ((0 : Int) != 0) = false := rfl
  by_cases h1 : l.length < 1
  · have d1 : (l.length : Int) < 1 := by omega
    rw [show boolR (m, l, 0) = (false, m, l, 1) by simp [boolR, h1]]
    dsimp only [cellR]
    try rw [hss]
    refine ACalls.of_aw (Ω := [(65, Ent.pure p_done), (85, Ent.effect e_fail), (86, Ent.effect e_peek)]) (T := assoc []) mixed (TblOk.cons ok_done (TblOk.cons ok_fail (TblOk.cons ok_peek TblOk.nil))) Try.func88 (by kernel_rfl) (by rfl) (rs := [.tmp 2]) (by rfl) (by kernel_rfl) (by simp only [Try.ntmps88, yaz, yba]; decide) (by simp [zkl]) fun hcl hlt => ?_
    change aw _ _ _ (KI Try.prog [(65, Ent.pure p_done), (85, Ent.effect e_fail), (86, Ent.effect e_peek)] (aEnd Try.prog [.tmp 2] H.nx _ _) []) _ _
    clear hlt
    have hcl1 := fun l' e' => closedR hid hcl m (.inl rfl) l' e'
    have hcl2 := fun l' e' => closedR hid hcl .any (.inr rfl) l' e' 
    simp only [go_sem, zav, reduceCtorEq, Nat.reduceEqDiff, Nat.reduceAdd, Nat.reduceMul, Nat.reduceSub, Nat.reduceLeDiff, Nat.reduceLT, Int.reduceMul, Int.reduceAdd, Int.reduceSub, Int.reduceToNat, byq, hne, hid, hcs, hcm, hgm, onR, onRo_some, onRo_nil, zlh, zlf, zkq, and_true, true_and, hid, p_done, e_peek, d0, if_pos d1]
    simp (disch := first | assumption | omega | (simp; done) | (simp; omega) | (simp only [bt, and_true]; first | done | omega | (simp; done))) [↓zlu, beq, ybc, ybd, ybe, endOk, wk, wk2, wk1, wkM, wkL, wkLL, ybf, hss, hl0, hcl, hcl1, hcl2, hle]
    try omega
  have d1 : ¬ (l.length : Int) < 1 := by omega
  have d5 : Int.toNat 0 = 0 := rfl
  have d6 : (l.take 1).length = 1 := by rw [List.length_take]; omega
  have d7 : List.take (l.length : Int).toNat l = l := by simp
  have d8 : (bys (l.take 1)).getD 0 .junk = ofByte (b0 l) := b0_get l 1 (by omega) (by omega)
  have d9 : Int.toNat (0 + 1) = 1 := rfl
  have d10 : Int.toNat 1 = 1 := rfl
  by_cases h2 : 1 < (b0 l).toNat
  · have d2 : decide (((b0 l).toNat : Int) > 1) = true := by simp; omega
    rw [show boolR (m, l, 0) = (false, m, l, 2) by simp [boolR, h1, h2]]
    dsimp only [cellR]
    try rw [hss]
    refine ACalls.of_aw (Ω := [(65, Ent.pure p_done), (85, Ent.effect e_fail), (86, Ent.effect e_peek)]) (T := assoc []) mixed (TblOk.cons ok_done (TblOk.cons ok_fail (TblOk.cons ok_peek TblOk.nil))) Try.func88 (by kernel_rfl) (by rfl) (rs := [.tmp 2]) (by rfl) (by kernel_rfl) (by simp only [Try.ntmps88, yaz, yba]; decide) (by simp [zkl]) fun hcl hlt => ?_
    change aw _ _ _ (KI Try.prog [(65, Ent.pure p_done), (85, Ent.effect e_fail), (86, Ent.effect e_peek)] (aEnd Try.prog [.tmp 2] H.nx _ _) []) _ _
    clear hlt
    have hcl1 := fun l' e' => closedR hid hcl m (.inl rfl) l' e'
    have hcl2 := fun l' e' => closedR hid hcl .any (.inr rfl) l' e' 
    simp only [go_sem, zav, reduceCtorEq, Nat.reduceEqDiff, Nat.reduceAdd, Nat.reduceMul, Nat.reduceSub, Nat.reduceLeDiff, Nat.reduceLT, Int.reduceMul, Int.reduceAdd, Int.reduceSub, Int.reduceToNat, byq, hne, hid, hcs, hcm, hgm, onR, onRo_some, onRo_nil, zlh, zlf, zkq, and_true, true_and, hid, p_done, e_peek, e_fail, d0, if_neg d1, d2, d5, d6, d7, d8, d9, d10, yap, ofByte]
    simp (disch := first | assumption | omega | (simp; done) | (simp; omega) | (simp only [bt, and_true]; first | done | omega | (simp; done))) [↓zlu, beq, ybc, ybd, ybe, endOk, wk, wk2, wk1, wkM, wkL, wkLL, ybf, hss, hl0, hcl, hcl1, hcl2, hle]
    try omega
  · have d2 : decide (((b0 l).toNat : Int) > 1) = false := by simp; omega
    have d3 : ((((b0 l).toNat : Nat) : Int) == 1) = ((b0 l).toNat == 1) := by rw [Bool.eq_iff_iff]; simp; omega
    rw [show boolR (m, l, 0) = ((b0 l).toNat == 1, Mark.any, l.drop 1, (0 : Int)) by simp [boolR, h1, h2]]
    dsimp only [cellR]
    try rw [hss]
    refine ACalls.of_aw (Ω := [(65, Ent.pure p_done), (85, Ent.effect e_fail), (86, Ent.effect e_peek)]) (T := assoc []) mixed (TblOk.cons ok_done (TblOk.cons ok_fail (TblOk.cons ok_peek TblOk.nil))) Try.func88 (by kernel_rfl) (by rfl) (rs := [.tmp 2]) (by rfl) (by kernel_rfl) (by simp only [Try.ntmps88, yaz, yba]; decide) (by simp [zkl]) fun hcl hlt => ?_
    change aw _ _ _ (KI Try.prog [(65, Ent.pure p_done), (85, Ent.effect e_fail), (86, Ent.effect e_peek)] (aEnd Try.prog [.tmp 2] H.nx _ _) []) _ _
    clear hlt
    have hcl1 := fun l' e' => closedR hid hcl m (.inl rfl) l' e'
    have hcl2 := fun l' e' => closedR hid hcl .any (.inr rfl) l' e' 
    simp only [go_sem, zav, reduceCtorEq, Nat.reduceEqDiff, Nat.reduceAdd, Nat.reduceMul, Nat.reduceSub, Nat.reduceLeDiff, Nat.reduceLT, Int.reduceMul, Int.reduceAdd, Int.reduceSub, Int.reduceToNat, byq, hne, hid, hcs, hcm, hgm, onR, onRo_some, onRo_nil, zlh, zlf, zkq, and_true, true_and, hid, p_done, e_peek, e_fail, d0, if_neg d1, d2, d3, d5, d6, d7, d8, d9, d10, yap, ofByte]
    simp (disch := first | assumption | omega | (simp; done) | (simp; omega) | (simp only [bt, and_true]; first | done | omega | (simp; done))) [↓zlu, beq, ybc, ybd, ybe, endOk, wk, wk2, wk1, wkM, wkL, wkLL, ybf, hss, hl0, hcl, hcl1, hcl2, hle]
    try omega

def e_RCount : List AV → AHeap → (AEnd → AHeap → Prop) → Prop
  | [.ptr id 0, .int .i64 most], H, K => onR H id fun m l e => True ∧ K (.ret (.int .i64 (countR (m, l, e) most).1)) (H.set id (.cells (cellR (countR (m, l, e) most).2)))
  | _, _, _ => False
theorem ok_RCount : EntOk Try.prog 58 (Ent.effect e_RCount) := by
  refine EntOk.effect fun args H K h => ?_
  unfold e_RCount at h
  split at h
  rotate_left
  · exact h.elim
  rename_i id most
  obtain ⟨m, l, e, hid, hle, h⟩ := onR_out h
  obtain ⟨hpre, hK⟩ := h
  refine ⟨_, _, hK, ?_⟩
  clear hK
  have hl0 := AHeap.get_lt hid
  have hne := far_of hl0
  have hss := set_same hid
  have hcs := cells_some hid
  have hcm := fun cs => @cells_set_same H id cs hl0
  have hgm := fun o => @get_set_same' H id o hl0
  by_cases h0 : e = 0
  case neg =>
    have d0 : (e != 0) = true := by simpa using h0
    rw [show countR (m, l, e) most = (0, m, l, e) by simp [countR, h0]]
    dsimp only [cellR]
    try rw [hss]
    refine ACalls.of_aw (Ω := [(65, Ent.pure p_done), (86, Ent.effect e_peek), (87, Ent.pure p_unsigned), (85, Ent.effect e_fail)]) (T := assoc []) mixed (TblOk.cons ok_done (TblOk.cons ok_peek (TblOk.cons ok_unsigned (TblOk.cons ok_fail TblOk.nil)))) Try.func58 (by kernel_rfl) (by rfl) (rs := [.tmp 4]) (by rfl) (by kernel_rfl) (by simp only [Try.ntmps58, yaz, yba]; decide) (by simp [zkl]) fun hcl hlt => ?_
    change aw _ _ _ (KI Try.prog [(65, Ent.pure p_done), (86, Ent.effect e_peek), (87, Ent.pure p_unsigned), (85, Ent.effect e_fail)] (aEnd Try.prog [.tmp 4] H.nx _ _) []) _ _
    clear hlt
    have hcl1 := fun l' e' => closedR hid hcl m (.inl rfl) l' e'
    have hcl2 := fun l' e' => closedR hid hcl .any (.inr rfl) l' e' 
    simp only [go_sem, zav, reduceCtorEq, Nat.reduceEqDiff, Nat.reduceAdd, Nat.reduceMul, Nat.reduceSub, Nat.reduceLeDiff, Nat.reduceLT, Int.reduceMul, Int.reduceAdd, Int.reduceSub, Int.reduceToNat, byq, hne, hid, hcs, hcm, hgm, onR, onRo_some, onRo_nil, zlh, zlf, zkq, and_true, true_and, hid, p_done, d0]
    simp (disch := first | assumption | omega | (simp; done) | (simp; omega) | (simp only [bt, and_true]; first | done | omega | (simp; done))) [↓zlu, beq, ybc, ybd, ybe, endOk, wk, wk2, wk1, wkM, wkL, wkLL, ybf, hss, hl0, hcl, hcl1, hcl2, hle]
    try omega
  subst h0
  have d0 : ((0 : Int) != 0) = false := rfl
  by_cases h1 : l.length < 2
  · have d1 : (l.length : Int) < 2 := by omega
    rw [show countR (m, l, 0) most = (0, m, l, 1) by simp [countR, h1]]
    dsimp only [cellR]
    try rw [hss]
    refine ACalls.of_aw (Ω := [(65, Ent.pure p_done), (86, Ent.effect e_peek), (87, Ent.pure p_unsigned), (85, Ent.effect e_fail)]) (T := assoc []) mixed (TblOk.cons ok_done (TblOk.cons ok_peek (TblOk.cons ok_unsigned (TblOk.cons ok_fail TblOk.nil)))) Try.func58 (by kernel_rfl) (by rfl) (rs := [.tmp 4]) (by rfl) (by kernel_rfl) (by simp only [Try.ntmps58, yaz, yba]; decide) (by simp [zkl]) fun hcl hlt => ?_
    change aw _ _ _ (KI Try.prog [(65, Ent.pure p_done), (86, Ent.effect e_peek), (87, Ent.pure p_unsigned), (85, Ent.effect e_fail)] (aEnd Try.prog [.tmp 4] H.nx _ _) []) _ _
    clear hlt
    have hcl1 := fun l' e' => closedR hid hcl m (.inl rfl) l' e'
    have hcl2 := fun l' e' => closedR hid hcl .any (.inr rfl) l' e' 
    simp only [go_sem, zav, reduceCtorEq, Nat.reduceEqDiff, Nat.reduceAdd, Nat.reduceMul, Nat.reduceSub, Nat.reduceLeDiff, Nat.reduceLT, Int.reduceMul, Int.reduceAdd, Int.reduceSub, Int.reduceToNat, byq, hne, hid, hcs, hcm, hgm, onR, onRo_some, onRo_nil, zlh, zlf, zkq, and_true, true_and, hid, p_done, e_peek, d0, if_pos d1]
    simp (disch := first | assumption | omega | (simp; done) | (simp; omega) | (simp only [bt, and_true]; first | done | omega | (simp; done))) [↓zlu, beq, ybc, ybd, ybe, endOk, wk, wk2, wk1, wkM, wkL, wkLL, ybf, hss, hl0, hcl, hcl1, hcl2, hle]
    try omega
  have d1 : ¬ (l.length : Int) < 2 := by omega
  have d5 : Int.toNat 0 = 0 := rfl
  have d9 : Int.toNat (0 + 2) = 2 := rfl
  have d10 : Int.toNat 2 = 2 := rfl
  have d6 : (l.take 2).length = 2 := by rw [List.length_take]; omega
  have d7 : List.take (l.length : Int).toNat l = l := by simp
  by_cases h2 : most < (beVal (l.take 2) : Nat)
  · have d2 : decide (((beVal (l.take 2) : Nat) : Int) > most) = true := by simpa using h2
    rw [show countR (m, l, 0) most = (0, m, l, 3) by simp [countR, h1, h2]]
    dsimp only [cellR]
    try rw [hss]
    refine ACalls.of_aw (Ω := [(65, Ent.pure p_done), (86, Ent.effect e_peek), (87, Ent.pure p_unsigned), (85, Ent.effect e_fail)]) (T := assoc []) mixed (TblOk.cons ok_done (TblOk.cons ok_peek (TblOk.cons ok_unsigned (TblOk.cons ok_fail TblOk.nil)))) Try.func58 (by kernel_rfl) (by rfl) (rs := [.tmp 4]) (by rfl) (by kernel_rfl) (by simp only [Try.ntmps58, yaz, yba]; decide) (by simp [zkl]) fun hcl hlt => ?_
    change aw _ _ _ (KI Try.prog [(65, Ent.pure p_done), (86, Ent.effect e_peek), (87, Ent.pure p_unsigned), (85, Ent.effect e_fail)] (aEnd Try.prog [.tmp 4] H.nx _ _) []) _ _
    clear hlt
    have hcl1 := fun l' e' => closedR hid hcl m (.inl rfl) l' e'
    have hcl2 := fun l' e' => closedR hid hcl .any (.inr rfl) l' e' 
    simp only [go_sem, zav, reduceCtorEq, Nat.reduceEqDiff, Nat.reduceAdd, Nat.reduceMul, Nat.reduceSub, Nat.reduceLeDiff, Nat.reduceLT, Int.reduceMul, Int.reduceAdd, Int.reduceSub, Int.reduceToNat, byq, hne, hid, hcs, hcm, hgm, onR, onRo_some, onRo_nil, zlh, zlf, zkq, and_true, true_and, hid, p_done, e_peek, p_unsigned, e_fail, d0, if_neg d1, d2, d5, d6, d7, d9, d10, yap]
    simp (disch := first | assumption | omega | (simp; done) | (simp; omega) | (simp only [bt, and_true]; first | done | omega | (simp; done))) [↓zlu, beq, ybc, ybd, ybe, endOk, wk, wk2, wk1, wkM, wkL, wkLL, ybf, hss, hl0, hcl, hcl1, hcl2, hle]
    try omega
  · have d2 : decide (((beVal (l.take 2) : Nat) : Int) > most) = false := by simpa using h2
    rw [show countR (m, l, 0) most = (((beVal (l.take 2) : Nat) : Int), Mark.any, l.drop 2, (0 : Int)) by simp [countR, h1, h2]]
    dsimp only [cellR]
    try rw [hss]
    refine ACalls.of_aw (Ω := [(65, Ent.pure p_done), (86, Ent.effect e_peek), (87, Ent.pure p_unsigned), (85, Ent.effect e_fail)]) (T := assoc []) mixed (TblOk.cons ok_done (TblOk.cons ok_peek (TblOk.cons ok_unsigned (TblOk.cons ok_fail TblOk.nil)))) Try.func58 (by kernel_rfl) (by rfl) (rs := [.tmp 4]) (by rfl) (by kernel_rfl) (by simp only [Try.ntmps58, yaz, yba]; decide) (by simp [zkl]) fun hcl hlt => ?_
    change aw _ _ _ (KI Try.prog [(65, Ent.pure p_done), (86, Ent.effect e_peek), (87, Ent.pure p_unsigned), (85, Ent.effect e_fail)] (aEnd Try.prog [.tmp 4] H.nx _ _) []) _ _
    clear hlt
    have hcl1 := fun l' e' => closedR hid hcl m (.inl rfl) l' e'
    have hcl2 := fun l' e' => closedR hid hcl .any (.inr rfl) l' e' 
    simp only [go_sem, zav, reduceCtorEq, Nat.reduceEqDiff, Nat.reduceAdd, Nat.reduceMul, Nat.reduceSub, Nat.reduceLeDiff, Nat.reduceLT, Int.reduceMul, Int.reduceAdd, Int.reduceSub, Int.reduceToNat, byq, hne, hid, hcs, hcm, hgm, onR, onRo_some, onRo_nil, zlh, zlf, zkq, and_true, true_and, hid, p_done, e_peek, p_unsigned, e_fail, d0, if_neg d1, d2, d5, d6, d7, d9, d10, yap]
    simp (disch := first | assumption | omega | (simp; done) | (simp; omega) | (simp only [bt, and_true]; first | done | omega | (simp; done))) [↓zlu, beq, ybc, ybd, ybe, endOk, wk, wk2, wk1, wkM, wkL, wkLL, ybf, hss, hl0, hcl, hcl1, hcl2, hle]
    try omega

def p_RLeft : List AV → AHeap → (AV → Prop) → Prop
  | [.ptr id 0], H, K => onR H id fun m l e => K (.int .i64 (l.length : Int))
  | _, _, _ => False
theorem ok_RLeft : EntOk Try.prog 25 (Ent.pure p_RLeft) := by
  refine EntOk.pure fun args H K h => ?_
  unfold p_RLeft at h
  split at h
  rotate_left
  · exact h.elim
  rename_i id
  obtain ⟨m, l, e, hid, hle, hK⟩ := onR_out h
  refine ⟨_, hK, ?_⟩
  have hcs := cells_some hid
  refine ACalls.of_aw (Ω := []) (T := assoc []) mixed TblOk.nil Try.func25 (by kernel_rfl) (by rfl) (rs := [.tmp 2]) (by rfl) (by kernel_rfl) (by simp only [Try.ntmps25, yaz, yba]; decide) (Nat.le_refl _) fun hcl hlt => ?_
  change aw _ _ _ (KI Try.prog [] (aEnd Try.prog [.tmp 2] H.nx _ _) []) _ _
  clear h hK hlt
  simp only [go_sem, zav, reduceCtorEq, Nat.reduceEqDiff, Nat.reduceAdd, Nat.reduceMul, Nat.reduceSub, Nat.reduceLeDiff, Nat.reduceLT, Int.reduceMul, Int.reduceAdd, Int.reduceSub, Int.reduceToNat, byq, hcs]
  simp (disch := first | assumption | omega | (simp; done) | (simp; omega) | (simp only [bt, and_true]; first | done | omega | (simp; done))) [↓zlu, beq, ybc, ybd, ybe, endOk, wk, wk2, wk1, wkM, wkL, wkLL, ybf, hcl]

def p_RErr : List AV → AHeap → (AV → Prop) → Prop
  | [.nilp], _, K => K (.int .i64 0)
  | [.ptr id 0], H, K => onR H id fun m l e => K (.int .i64 e)
  | _, _, _ => False
theorem ok_RErr : EntOk Try.prog 24 (Ent.pure p_RErr) := by
  refine EntOk.pure fun args H K h => ?_
  unfold p_RErr at h
  split at h
  · refine ⟨_, h, ?_⟩
    refine ACalls.of_aw (Ω := []) (T := assoc []) mixed TblOk.nil Try.func24 (by kernel_rfl) (by rfl) (rs := [.tmp 2]) (by rfl) (by kernel_rfl) (by simp only [Try.ntmps24, yaz, yba]; decide) (Nat.le_refl _) fun hcl hlt => ?_
    change aw _ _ _ (KI Try.prog [] (aEnd Try.prog [.tmp 2] H.nx _ _) []) _ _
    clear h hlt
    simp only [go_sem, zav, reduceCtorEq, Nat.reduceEqDiff, Nat.reduceAdd, Nat.reduceMul, Nat.reduceSub, Nat.reduceLeDiff, Nat.reduceLT, Int.reduceMul, Int.reduceAdd, Int.reduceSub, Int.reduceToNat, byq]
    simp (disch := first | assumption | omega | (simp; done) | (simp; omega) | (simp only [bt, and_true]; first | done | omega | (simp; done))) [↓zlu, beq, ybc, ybd, ybe, endOk, wk, wk2, wk1, wkM, wkL, wkLL, ybf, hcl]
  · rename_i id
    obtain ⟨m, l, e, hid, hle, hK⟩ := onR_out h
    refine ⟨_, hK, ?_⟩
    have hcs := cells_some hid
    refine ACalls.of_aw (Ω := []) (T := assoc []) mixed TblOk.nil Try.func24 (by kernel_rfl) (by rfl) (rs := [.tmp 2]) (by rfl) (by kernel_rfl) (by simp only [Try.ntmps24, yaz, yba]; decide) (Nat.le_refl _) fun hcl hlt => ?_
    change aw _ _ _ (KI Try.prog [] (aEnd Try.prog [.tmp 2] H.nx _ _) []) _ _
    clear h hK hlt
    simp only [go_sem, zav, reduceCtorEq, Nat.reduceEqDiff, Nat.reduceAdd, Nat.reduceMul, Nat.reduceSub, Nat.reduceLeDiff, Nat.reduceLT, Int.reduceMul, Int.reduceAdd, Int.reduceSub, Int.reduceToNat, byq, hcs]
    simp (disch := first | assumption | omega | (simp; done) | (simp; omega) | (simp only [bt, and_true]; first | done | omega | (simp; done))) [↓zlu, beq, ybc, ybd, ybe, endOk, wk, wk2, wk1, wkM, wkL, wkLL, ybf, hcl]
  · exact h.elim

def p_RFinish : List AV → AHeap → (AV → Prop) → Prop
  | [.ptr id 0], H, K => onR H id fun m l e => K (.int .i64 (finishR (m, l, e)))
  | _, _, _ => False
theorem ok_RFinish : EntOk Try.prog 26 (Ent.pure p_RFinish) := by
  refine EntOk.pure fun args H K h => ?_
  unfold p_RFinish at h
  split at h
  rotate_left
  · exact h.elim
  rename_i id
  obtain ⟨m, l, e, hid, hle, hK⟩ := onR_out h
  refine ⟨_, hK, ?_⟩
  have hcs := cells_some hid
  by_cases h0 : e = 0
  · subst h0
    have d0 : ((0 : Int) != 0) = false := rfl
    by_cases h1 : 0 < l.length
    · have d1 : decide ((l.length : Int) > 0) = true := by simpa using h1
      rw [show finishR (m, l, 0) = 2 by simp [finishR, h1]]
      refine ACalls.of_aw (Ω := [(65, Ent.pure p_done), (24, Ent.pure p_RErr)]) (T := assoc []) mixed (TblOk.cons ok_done (TblOk.cons ok_RErr TblOk.nil)) Try.func26 (by kernel_rfl) (by rfl) (rs := [.tmp 2]) (by rfl) (by kernel_rfl) (by simp only [Try.ntmps26, yaz, yba]; decide) (Nat.le_refl _) fun hcl hlt => ?_
      change aw _ _ _ (KI Try.prog [(65, Ent.pure p_done), (24, Ent.pure p_RErr)] (aEnd Try.prog [.tmp 2] H.nx _ _) []) _ _
      clear h hK hlt
      simp only [go_sem, zav, reduceCtorEq, Nat.reduceEqDiff, Nat.reduceAdd, Nat.reduceMul, Nat.reduceSub, Nat.reduceLeDiff, Nat.reduceLT, Int.reduceMul, Int.reduceAdd, Int.reduceSub, Int.reduceToNat, byq, hcs, hid, p_done, p_RErr, onR, onRo_some, onRo_nil, d0, d1]
      simp (disch := first | assumption | omega | (simp; done) | (simp; omega) | (simp only [bt, and_true]; first | done | omega | (simp; done))) [↓zlu, beq, ybc, ybd, ybe, endOk, wk, wk2, wk1, wkM, wkL, wkLL, ybf, hcl, hle, zlh, zkq]
    · have hl : l = [] := List.eq_nil_of_length_eq_zero (by omega)
      subst hl
      have d1 : decide ((([] : List UInt8).length : Int) > 0) = false := rfl
      rw [show finishR (m, [], 0) = 0 by simp [finishR]]
      refine ACalls.of_aw (Ω := [(65, Ent.pure p_done), (24, Ent.pure p_RErr)]) (T := assoc []) mixed (TblOk.cons ok_done (TblOk.cons ok_RErr TblOk.nil)) Try.func26 (by kernel_rfl) (by rfl) (rs := [.tmp 2]) (by rfl) (by kernel_rfl) (by simp only [Try.ntmps26, yaz, yba]; decide) (Nat.le_refl _) fun hcl hlt => ?_
      change aw _ _ _ (KI Try.prog [(65, Ent.pure p_done), (24, Ent.pure p_RErr)] (aEnd Try.prog [.tmp 2] H.nx _ _) []) _ _
      clear h hK hlt
      simp only [go_sem, zav, reduceCtorEq, Nat.reduceEqDiff, Nat.reduceAdd, Nat.reduceMul, Nat.reduceSub, Nat.reduceLeDiff, Nat.reduceLT, Int.reduceMul, Int.reduceAdd, Int.reduceSub, Int.reduceToNat, byq, hcs, hid, p_done, p_RErr, onR, onRo_some, onRo_nil, d0, d1]
      simp (disch := first | assumption | omega | (simp; done) | (simp; omega) | (simp only [bt, and_true]; first | done | omega | (simp; done))) [↓zlu, beq, ybc, ybd, ybe, endOk, wk, wk2, wk1, wkM, wkL, wkLL, ybf, hcl, zlh, zli, zkq, both]
  · have d0 : (e != 0) = true := by simpa using h0
    rw [show finishR (m, l, e) = e by simp [finishR, h0]]
    refine ACalls.of_aw (Ω := [(65, Ent.pure p_done), (24, Ent.pure p_RErr)]) (T := assoc []) mixed (TblOk.cons ok_done (TblOk.cons ok_RErr TblOk.nil)) Try.func26 (by kernel_rfl) (by rfl) (rs := [.tmp 2]) (by rfl) (by kernel_rfl) (by simp only [Try.ntmps26, yaz, yba]; decide) (Nat.le_refl _) fun hcl hlt => ?_
    change aw _ _ _ (KI Try.prog [(65, Ent.pure p_done), (24, Ent.pure p_RErr)] (aEnd Try.prog [.tmp 2] H.nx _ _) []) _ _
    clear h hK hlt
    simp only [go_sem, zav, reduceCtorEq, Nat.reduceEqDiff, Nat.reduceAdd, Nat.reduceMul, Nat.reduceSub, Nat.reduceLeDiff, Nat.reduceLT, Int.reduceMul, Int.reduceAdd, Int.reduceSub, Int.reduceToNat, byq, hcs, hid, p_done, p_RErr, onR, onRo_some, onRo_nil, d0, zlf]
    simp (disch := first | assumption | omega | (simp; done) | (simp; omega) | (simp only [bt, and_true]; first | done | omega | (simp; done))) [↓zlu, beq, ybc, ybd, ybe, endOk, wk, wk2, wk1, wkM, wkL, wkLL, ybf, hcl, hle, zlh, zkq]
end Go.AL

