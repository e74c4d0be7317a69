/- Contracts and plain laws, a part of the proof; no condition of its own. -/
import Derived.Test.YtgihhefckdgeoaaS10t
open List renaming length_cons → yaz, length_nil → yba, take_of_length_le → ybc, drop_append → ybd, take_append → ybe, drop_eq_nil_of_le → ybf, length_map → ybb, map_nil → yaf, cons_append → yal, nil_append → yak, take_succ_cons → yaq, take_zero → yar, drop_succ_cons → yao, drop_zero → yap
open Go Go.AL Go.Proofs
namespace Go.AL
set_option linter.all false
set_option maxRecDepth 10000

def p_PfxC : List AV → AHeap → (AV → Prop) → Prop
  | [x], H, K => ∃ t, x = keyAV t ∧ K (.bool (t.kind == 2))
  | _, _, _ => False
theorem ok_PfxC : EntOk Try.prog 86 (Ent.pure p_PfxC) := by
  refine EntOk.pure fun args H K h => ?_
  unfold p_PfxC at h
  split at h
  rotate_left
  · exact h.elim
  rename_i x
  obtain ⟨t, rfl, hK⟩ := h
  refine ⟨_, hK, ?_⟩
  clear hK
  unfold keyAV
  refine ACalls.of_aw (Ω := []) (T := assoc []) mixed TblOk.nil Try.func86 (by kernel_rfl) (by rfl) (rs := [.tmp 2]) (by rfl) (by kernel_rfl) (by simp only [Try.ntmps86, yaz, yba]; decide) (Nat.le_refl _) fun hcl hlt => ?_
  change aw _ _ _ (KI Try.prog [] (aEnd Try.prog [.tmp 2] H.nx _ _) []) _ _
  clear hlt
  simp only [go_sem, reduceCtorEq, Nat.reduceEqDiff, Nat.reduceAdd, Nat.reduceMul, Nat.reduceSub, Nat.reduceLeDiff, Nat.reduceLT, Int.reduceMul, Int.reduceAdd, Int.reduceSub, Int.reduceToNat]
  (repeat with_reducible refine And.intro (by first | exact True.intro | decide | omega | (simp [zhx, zge, zgf, zgg, zgi, zgh, zgm]; first | done | omega)) ?_)
  simp (disch := first | assumption | omega | (simp; done) | (simp; omega) | (simp only [bt, and_true]; first | done | omega | (simp; done))) [↓zlq, beq, ybc, ybd, ybe, endOk, wk, wk2, wk1, wkM, wkL, wkLL, ybf, hcl]
def p_IdxP : List AV → AHeap → (AV → Prop) → Prop
  | [.slice _ 3 l, .func (.func 86) [] []], H, K => ∃ ts : List SKey, (l = ts.map keyAV ∧ ts.length ≤ 1000000) ∧ K (.int .i64 (ixP (fun t : SKey => t.kind == 2) ts 0))
  | _, _, _ => False
theorem ok_IdxP : EntOk Try.prog 85 (Ent.pure p_IdxP) := by
  refine EntOk.pure fun args H K h => ?_
  unfold p_IdxP at h
  split at h
  rotate_left
  · exact h.elim
  rename_i m l
  obtain ⟨ts, ⟨rfl, hl⟩, hK⟩ := h
  refine ⟨_, hK, ?_⟩
  clear hK
  generalize hR : ixP (fun t : SKey => t.kind == 2) ts 0 = R
  refine ACalls.of_aw (Ω := [(86, Ent.pure p_PfxC)]) (T := assoc []) mixed (TblOk.cons ok_PfxC TblOk.nil) Try.func85 (by kernel_rfl) (by rfl) (rs := [.tmp 4]) (by rfl) (by kernel_rfl) (by simp only [Try.ntmps85, yaz, yba]; decide) (Nat.le_refl _) fun hcl hlt => ?_
  change aw _ _ _ (KI Try.prog [(86, Ent.pure p_PfxC)] (aEnd Try.prog [.tmp 4] H.nx _ _ (assoc [])) []) _ _
  have hm : AV.lt H.nx (.slice m 3 (ts.map keyAV)) := hlt _ (by simp)
  have hf : AV.lt H.nx (.func (.func 86) [] []) := hlt _ (by simp)
  clear hlt
  simp only [go_sem, reduceCtorEq, Nat.reduceEqDiff, Nat.reduceAdd, Nat.reduceMul, Nat.reduceSub, Nat.reduceLeDiff, Nat.reduceLT, Int.reduceMul, Int.reduceAdd, Int.reduceSub, Int.reduceToNat, ybb]
  refine loop_introW (A := Nat) (fun k => [(0, .slice m 3 (ts.map keyAV)), (1, .func (.func 86) [] []), (7, .int .i64 (ts.length : Int)), (8, .int .i64 (k : Int))]) (fun _ => H) (fun k => k ≤ ts.length ∧ ixP (fun t : SKey => t.kind == 2) (ts.drop k) k = R) (fun k => ts.length - k) 0 ⟨by omega, hR⟩ ?_ fun k hk => ?_
  · refine ⟨Nat.le_refl _, AHeap.Le.refl _, hcl, ?_, ?_⟩
    · simp [ltF, zmh, hm, hf]
    · simp [subW, wk2, wk1, wkM, Fr.get]
  clear hR
  obtain ⟨hk, hR⟩ := hk
  simp only [go_sem, reduceCtorEq, Nat.reduceEqDiff, Nat.reduceAdd, Nat.reduceMul, Nat.reduceSub, Nat.reduceLeDiff, Nat.reduceLT, Int.reduceMul, Int.reduceAdd, Int.reduceSub, Int.reduceToNat]
  refine cond_split (fun hc => ?_) (fun hc => ?_)
  · have hk' : k < ts.length := by simp at hc; omega
    obtain ⟨x, hx⟩ : ∃ x, x = ts[k] := ⟨_, rfl⟩
    have hd : ts.drop k = x :: ts.drop (k + 1) := by rw [hx]; exact List.drop_eq_getElem_cons hk'
    have hg' := getD_map (f := keyAV) (l := ts) (k := k) (x := x) (by rw [List.getElem?_eq_getElem hk', hx])
    have e5 : IntKind.i64.wrap ((k : Int) + 1) = ((k + 1 : Nat) : Int) := by rw [wrap_i64] <;> omega
    have hcell : (keyAV x).cells.length = 3 := rfl
    rw [hd] at hR
    unfold ixP at hR
    have hag : ∃ cs, keyAV x = .agg cs ∧ cs.length = 3 := ⟨_, rfl, rfl⟩
    obtain ⟨cs, hcs, hcl3⟩ := hag
    have hts : List.take 3 cs = cs := ybc (by omega)
    simp only [go_sem, reduceCtorEq, Nat.reduceEqDiff, Nat.reduceAdd, Nat.reduceMul, Nat.reduceSub, Nat.reduceLeDiff, Nat.reduceLT, Int.reduceMul, Int.reduceAdd, Int.reduceSub, Int.reduceToNat, Int.toNat_natCast, ybb, hg', hcs, hcl3, hts, p_PfxC]
    (repeat with_reducible refine And.intro (by first | exact True.intro | decide | omega | (simp [zhx, zge, zgf, zgg, zgi, zgh, zgm]; first | done | omega)) ?_)
    refine ⟨x, hcs.symm, ?_⟩
    try simp only [blkP, go_sem, reduceCtorEq, Nat.reduceEqDiff, Nat.reduceAdd, Nat.reduceMul, Nat.reduceSub, Nat.reduceLeDiff, Nat.reduceLT, Int.reduceMul, Int.reduceAdd, Int.reduceSub, Int.reduceToNat]
    (repeat with_reducible refine And.intro (by first | exact True.intro | decide | omega | (simp [zhx, zge, zgf, zgg, zgi, zgh, zgm]; first | done | omega)) ?_)
    refine cond_split (fun hq => ?_) (fun hq => ?_)
    · rw [if_pos hq] at hR
      subst hR
      simp only [go_sem, reduceCtorEq, Nat.reduceEqDiff, Nat.reduceAdd, Nat.reduceMul, Nat.reduceSub, Nat.reduceLeDiff, Nat.reduceLT, Int.reduceMul, Int.reduceAdd, Int.reduceSub, Int.reduceToNat]
      simp (disch := first | assumption | omega | (simp; done) | (simp; omega) | (simp only [bt, and_true]; first | done | omega | (simp; done))) [↓zlq, beq, ybc, ybd, ybe, endOk, wk, wk2, wk1, wkM, wkL, wkLL, ybf, hcl]
    · rw [if_neg (by rw [hq]; decide)] at hR
      simp only [go_sem, reduceCtorEq, Nat.reduceEqDiff, Nat.reduceAdd, Nat.reduceMul, Nat.reduceSub, Nat.reduceLeDiff, Nat.reduceLT, Int.reduceMul, Int.reduceAdd, Int.reduceSub, Int.reduceToNat, e5]
      refine ⟨k + 1, ⟨by omega, hR⟩, by omega, Nat.le_refl _, AHeap.Le.refl _, hcl, ?_, ?_⟩
      · simp [ltF, zmh, hm, hf]
      · simp [subW, wk2, wk1, wkM, Fr.get]
  · have hk' : k = ts.length := by simp at hc; omega
    subst hk'
    rw [List.drop_length] at hR
    unfold ixP at hR
    subst hR
    simp only [go_sem, reduceCtorEq, Nat.reduceEqDiff, Nat.reduceAdd, Nat.reduceMul, Nat.reduceSub, Nat.reduceLeDiff, Nat.reduceLT, Int.reduceMul, Int.reduceAdd, Int.reduceSub, Int.reduceToNat]
    simp (disch := first | assumption | omega | (simp; done) | (simp; omega) | (simp only [bt, and_true]; first | done | omega | (simp; done))) [↓zlq, beq, ybc, ybd, ybe, endOk, wk, wk2, wk1, wkM, wkL, wkLL, ybf, hcl]
def pfxAt (ms : List SMatch) (i : Int) : Int := if i < 0 ∨ (ms.length : Int) ≤ i then 0 else (ms.getD i.toNat noMatch).pfx
def prefixE (S : Sch) (e : SEntry) : Int := match tabF S e.table with | some t => pfxAt e.ms (ixP (fun k : SKey => k.kind == 2) t.keys 0) | none => 0
structure PLen (S : Sch) (e : SEntry) : Prop where
  s : SLen S
  k : ∀ t ∈ S.tables, t.keys.length ≤ 1000000
  m : e.ms.length ≤ 140737488355328
def p_ePrefix : List AV → AHeap → (AV → Prop) → Prop
  | [.agg l, .agg le], _, K => ∃ (S : Sch) (e : SEntry), (l = schC S ∧ le = entryC e ∧ PLen S e) ∧ K (.int .i64 (prefixE S e))
  | _, _, _ => False
set_option maxHeartbeats 2000000 in
theorem ok_ePrefix : EntOk Try.prog 27 (Ent.pure p_ePrefix) := by
  refine EntOk.pure fun args H K h => ?_
  unfold p_ePrefix at h
  split at h
  rotate_left
  · exact h.elim
  rename_i l le
  obtain ⟨S, e, ⟨rfl, rfl, hS, hk, hm⟩, hK⟩ := h
  refine ⟨_, hK, ?_⟩
  clear hK
  unfold prefixE
  have h1 := hS.tl
  cases ht : tabF S e.table with
  | none =>
    dsimp only
    refine ACalls.of_aw (Ω := [(76, Ent.pure p_eTable), (85, Ent.pure p_IdxP)]) (T := assoc []) mixed (TblOk.cons ok_eTable (TblOk.cons ok_IdxP TblOk.nil)) Try.func27 (by kernel_rfl) (by rfl) (rs := [.tmp 4]) (by rfl) (by kernel_rfl) (by simp only [Try.ntmps27, yaz, yba]; decide) (Nat.le_refl _) fun hcl hlt => ?_
    change aw _ _ _ (KI Try.prog [(76, Ent.pure p_eTable), (85, Ent.pure p_IdxP)] (aEnd Try.prog [.tmp 4] H.nx _ _ (assoc [])) []) _ _
    clear hlt
    simp only [go_sem, reduceCtorEq, Nat.reduceEqDiff, Nat.reduceAdd, Nat.reduceMul, Nat.reduceSub, Nat.reduceLeDiff, Nat.reduceLT, Int.reduceMul, Int.reduceAdd, Int.reduceSub, Int.reduceToNat, schC, entryC, p_eTable]
    refine ⟨S, ⟨rfl, h1⟩, ?_⟩
    rw [ht]
    simp only [blkP, go_sem, reduceCtorEq, Nat.reduceEqDiff, Nat.reduceAdd, Nat.reduceMul, Nat.reduceSub, Nat.reduceLeDiff, Nat.reduceLT, Int.reduceMul, Int.reduceAdd, Int.reduceSub, Int.reduceToNat, tableAV, noTable, yaf, inL, p_IdxP]
    refine ⟨[], ⟨rfl, by decide⟩, ?_⟩
    try simp only [blkP, go_sem, reduceCtorEq, Nat.reduceEqDiff, Nat.reduceAdd, Nat.reduceMul, Nat.reduceSub, Nat.reduceLeDiff, Nat.reduceLT, Int.reduceMul, Int.reduceAdd, Int.reduceSub, Int.reduceToNat, Bool.not_false]
    simp (disch := first | assumption | omega | (simp; done) | (simp; omega) | (simp only [bt, and_true]; first | done | omega | (simp; done))) [↓zlq, beq, ybc, ybd, ybe, endOk, wk, wk2, wk1, wkM, wkL, wkLL, ybf, hcl]
    first | done | repeat (first | exact AHeap.Le.refl _ | refine AHeap.Le.push ?_ _)
  | some t =>
    dsimp only
    have hkl := hk t (List.mem_of_find?_eq_some ht)
    obtain ⟨b1, b2⟩ := ixP_lt (q := fun k : SKey => k.kind == 2) (l := t.keys) (k := 0)
    generalize hi : ixP (fun k : SKey => k.kind == 2) t.keys 0 = i at *
    unfold pfxAt
    by_cases q1 : i < 0
    · rw [if_pos (.inl q1)]
      have d1 : decide (i < 0) = true := decide_eq_true q1
      refine ACalls.of_aw (Ω := [(76, Ent.pure p_eTable), (85, Ent.pure p_IdxP)]) (T := assoc []) mixed (TblOk.cons ok_eTable (TblOk.cons ok_IdxP TblOk.nil)) Try.func27 (by kernel_rfl) (by rfl) (rs := [.tmp 4]) (by rfl) (by kernel_rfl) (by simp only [Try.ntmps27, yaz, yba]; decide) (Nat.le_refl _) fun hcl hlt => ?_
      change aw _ _ _ (KI Try.prog [(76, Ent.pure p_eTable), (85, Ent.pure p_IdxP)] (aEnd Try.prog [.tmp 4] H.nx _ _ (assoc [])) []) _ _
      clear hlt
      simp only [go_sem, reduceCtorEq, Nat.reduceEqDiff, Nat.reduceAdd, Nat.reduceMul, Nat.reduceSub, Nat.reduceLeDiff, Nat.reduceLT, Int.reduceMul, Int.reduceAdd, Int.reduceSub, Int.reduceToNat, schC, entryC, p_eTable]
      refine ⟨S, ⟨rfl, h1⟩, ?_⟩
      rw [ht]
      simp only [blkP, go_sem, reduceCtorEq, Nat.reduceEqDiff, Nat.reduceAdd, Nat.reduceMul, Nat.reduceSub, Nat.reduceLeDiff, Nat.reduceLT, Int.reduceMul, Int.reduceAdd, Int.reduceSub, Int.reduceToNat, tableAV, p_IdxP]
      refine ⟨t.keys, ⟨rfl, hkl⟩, ?_⟩
      rw [hi]
      try simp only [blkP, go_sem, reduceCtorEq, Nat.reduceEqDiff, Nat.reduceAdd, Nat.reduceMul, Nat.reduceSub, Nat.reduceLeDiff, Nat.reduceLT, Int.reduceMul, Int.reduceAdd, Int.reduceSub, Int.reduceToNat, Bool.not_true, d1]
      simp (disch := first | assumption | omega | (simp; done) | (simp; omega) | (simp only [bt, and_true]; first | done | omega | (simp; done))) [↓zlq, beq, ybc, ybd, ybe, endOk, wk, wk2, wk1, wkM, wkL, wkLL, ybf, hcl]
      first | done | repeat (first | exact AHeap.Le.refl _ | refine AHeap.Le.push ?_ _)
    obtain ⟨n, rfl⟩ : ∃ n : Nat, i = (n : Int) := ⟨i.toNat, by omega⟩
    have d1 : decide ((n : Int) < 0) = false := decide_eq_false q1
    by_cases q2 : (e.ms.length : Int) ≤ (n : Int)
    · rw [if_pos (.inr q2)]
      have d2 : decide ((n : Int) ≥ (e.ms.length : Int)) = true := decide_eq_true q2
      refine ACalls.of_aw (Ω := [(76, Ent.pure p_eTable), (85, Ent.pure p_IdxP)]) (T := assoc []) mixed (TblOk.cons ok_eTable (TblOk.cons ok_IdxP TblOk.nil)) Try.func27 (by kernel_rfl) (by rfl) (rs := [.tmp 4]) (by rfl) (by kernel_rfl) (by simp only [Try.ntmps27, yaz, yba]; decide) (Nat.le_refl _) fun hcl hlt => ?_
      change aw _ _ _ (KI Try.prog [(76, Ent.pure p_eTable), (85, Ent.pure p_IdxP)] (aEnd Try.prog [.tmp 4] H.nx _ _ (assoc [])) []) _ _
      clear hlt
      simp only [go_sem, reduceCtorEq, Nat.reduceEqDiff, Nat.reduceAdd, Nat.reduceMul, Nat.reduceSub, Nat.reduceLeDiff, Nat.reduceLT, Int.reduceMul, Int.reduceAdd, Int.reduceSub, Int.reduceToNat, schC, entryC, p_eTable]
      refine ⟨S, ⟨rfl, h1⟩, ?_⟩
      rw [ht]
      simp only [blkP, go_sem, reduceCtorEq, Nat.reduceEqDiff, Nat.reduceAdd, Nat.reduceMul, Nat.reduceSub, Nat.reduceLeDiff, Nat.reduceLT, Int.reduceMul, Int.reduceAdd, Int.reduceSub, Int.reduceToNat, tableAV, p_IdxP]
      refine ⟨t.keys, ⟨rfl, hkl⟩, ?_⟩
      rw [hi]
      try simp only [blkP, go_sem, reduceCtorEq, Nat.reduceEqDiff, Nat.reduceAdd, Nat.reduceMul, Nat.reduceSub, Nat.reduceLeDiff, Nat.reduceLT, Int.reduceMul, Int.reduceAdd, Int.reduceSub, Int.reduceToNat, Bool.not_true, d1, d2, ybb]
      simp (disch := first | assumption | omega | (simp; done) | (simp; omega) | (simp only [bt, and_true]; first | done | omega | (simp; done))) [↓zlq, beq, ybc, ybd, ybe, endOk, wk, wk2, wk1, wkM, wkL, wkLL, ybf, hcl]
      first | done | repeat (first | exact AHeap.Le.refl _ | refine AHeap.Le.push ?_ _)
    rw [if_neg (by omega), Int.toNat_natCast]
    have d2 : decide ((n : Int) ≥ (e.ms.length : Int)) = false := decide_eq_false q2
    have hml : n < e.ms.length := by omega
    obtain ⟨m, hmm⟩ : ∃ m, m = e.ms[n] := ⟨_, rfl⟩
    have hmg := getD_map (f := matchAV) (l := e.ms) (k := n) (x := m) (by rw [List.getElem?_eq_getElem hml, hmm])
    have hmd : e.ms.getD n noMatch = m := by rw [List.getD_eq_getElem?_getD, List.getElem?_eq_getElem hml, hmm]; rfl
    rw [hmd]
    refine ACalls.of_aw (Ω := [(76, Ent.pure p_eTable), (85, Ent.pure p_IdxP)]) (T := assoc []) mixed (TblOk.cons ok_eTable (TblOk.cons ok_IdxP TblOk.nil)) Try.func27 (by kernel_rfl) (by rfl) (rs := [.tmp 4]) (by rfl) (by kernel_rfl) (by simp only [Try.ntmps27, yaz, yba]; decide) (Nat.le_refl _) fun hcl hlt => ?_
    change aw _ _ _ (KI Try.prog [(76, Ent.pure p_eTable), (85, Ent.pure p_IdxP)] (aEnd Try.prog [.tmp 4] H.nx _ _ (assoc [])) []) _ _
    clear hlt
    simp only [go_sem, reduceCtorEq, Nat.reduceEqDiff, Nat.reduceAdd, Nat.reduceMul, Nat.reduceSub, Nat.reduceLeDiff, Nat.reduceLT, Int.reduceMul, Int.reduceAdd, Int.reduceSub, Int.reduceToNat, schC, entryC, p_eTable]
    refine ⟨S, ⟨rfl, h1⟩, ?_⟩
    rw [ht]
    simp only [blkP, go_sem, reduceCtorEq, Nat.reduceEqDiff, Nat.reduceAdd, Nat.reduceMul, Nat.reduceSub, Nat.reduceLeDiff, Nat.reduceLT, Int.reduceMul, Int.reduceAdd, Int.reduceSub, Int.reduceToNat, tableAV, p_IdxP]
    refine ⟨t.keys, ⟨rfl, hkl⟩, ?_⟩
    rw [hi]
    try simp only [blkP, go_sem, reduceCtorEq, Nat.reduceEqDiff, Nat.reduceAdd, Nat.reduceMul, Nat.reduceSub, Nat.reduceLeDiff, Nat.reduceLT, Int.reduceMul, Int.reduceAdd, Int.reduceSub, Int.reduceToNat, Bool.not_true, d1, d2, ybb, Int.toNat_natCast, hmg, matchAV, matchC, vc, yal, yak]
    (repeat with_reducible refine And.intro (by first | exact True.intro | decide | omega | (simp [zhx, zge, zgf, zgg, zgi, zgh, zgm]; first | done | omega)) ?_)
    simp (disch := first | assumption | omega | (simp; done) | (simp; omega) | (simp only [bt, and_true]; first | done | omega | (simp; done))) [↓zlq, beq, ybc, ybd, ybe, endOk, wk, wk2, wk1, wkM, wkL, wkLL, ybf, hcl]
    first | done | repeat (first | exact AHeap.Le.refl _ | refine AHeap.Le.push ?_ _)
def p_rPrefix : List AV → AHeap → (AV → Prop) → Prop
  | [.agg l, .agg le], _, K => ∃ (S : Sch) (e : SEntry), (l = schC S ∧ le = entryC e ∧ PLen S e) ∧ K (.int .i64 (prefixE S e))
  | _, _, _ => False
theorem tabF_none {S : Sch} {n : Int} (h : tabF S n = none) : ixP (fun f : STable => f.id == n) S.tables 0 = -1 := by
  obtain ⟨b1, b2⟩ := ixP_lt (q := fun f : STable => f.id == n) (l := S.tables) (k := 0)
  rcases b2 with b2 | b2
  · exact b2
  obtain ⟨i, hi⟩ : ∃ i : Nat, ixP (fun f : STable => f.id == n) S.tables 0 = ((0 + i : Nat) : Int) := ⟨(ixP (fun f : STable => f.id == n) S.tables 0).toNat, by omega⟩
  obtain ⟨x, h1, h2, h3⟩ := ixP_get hi
  unfold tabF at h
  rw [h3] at h
  cases h
set_option maxHeartbeats 2000000 in
theorem ok_rPrefix : EntOk Try.prog 28 (Ent.pure p_rPrefix) := by
  refine EntOk.pure fun args H K h => ?_
  unfold p_rPrefix at h
  split at h
  rotate_left
  · exact h.elim
  rename_i l le
  obtain ⟨S, e, ⟨rfl, rfl, hS, hk, hm⟩, hK⟩ := h
  refine ⟨_, hK, ?_⟩
  clear hK
  unfold prefixE
  cases ht : tabF S e.table with
  | none =>
    dsimp only
    have hi := tabF_none ht
    refine ACalls.of_aw (Ω := [(83, Ent.pure p_rTableOf)]) (T := assoc []) mixed (TblOk.cons ok_rTableOf TblOk.nil) Try.func28 (by kernel_rfl) (by rfl) (rs := [.tmp 4]) (by rfl) (by kernel_rfl) (by simp only [Try.ntmps28, yaz, yba]; decide) (Nat.le_refl _) fun hcl hlt => ?_
    change aw _ _ _ (KI Try.prog [(83, Ent.pure p_rTableOf)] (aEnd Try.prog [.tmp 4] H.nx _ _ (assoc [])) []) _ _
    clear hlt
    simp only [go_sem, reduceCtorEq, Nat.reduceEqDiff, Nat.reduceAdd, Nat.reduceMul, Nat.reduceSub, Nat.reduceLeDiff, Nat.reduceLT, Int.reduceMul, Int.reduceAdd, Int.reduceSub, Int.reduceToNat, schC, entryC, p_rTableOf]
    refine ⟨S, ⟨rfl, hS⟩, ?_⟩
    rw [hi]
    simp only [blkP, go_sem, reduceCtorEq, Nat.reduceEqDiff, Nat.reduceAdd, Nat.reduceMul, Nat.reduceSub, Nat.reduceLeDiff, Nat.reduceLT, Int.reduceMul, Int.reduceAdd, Int.reduceSub, Int.reduceToNat, show decide ((-1 : Int) < 0) = true from rfl]
    simp (disch := first | assumption | omega | (simp; done) | (simp; omega) | (simp only [bt, and_true]; first | done | omega | (simp; done))) [↓zlq, beq, ybc, ybd, ybe, endOk, wk, wk2, wk1, wkM, wkL, wkLL, ybf, hcl]
    first | done | repeat (first | exact AHeap.Le.refl _ | refine AHeap.Le.push ?_ _)
  | some t =>
    dsimp only
    have hkl := hk t (List.mem_of_find?_eq_some ht)
    obtain ⟨i, hil, hi, hti⟩ := tabF_get ht
    have hgt := getD_map (f := tableAV) (l := S.tables) (k := i) (x := t) hti
    have d1 : decide ((i : Int) < 0) = false := decide_eq_false (by omega)
    generalize hR : pfxAt e.ms (ixP (fun k : SKey => k.kind == 2) t.keys 0) = R
    refine ACalls.of_aw (Ω := [(83, Ent.pure p_rTableOf)]) (T := assoc []) mixed (TblOk.cons ok_rTableOf TblOk.nil) Try.func28 (by kernel_rfl) (by rfl) (rs := [.tmp 4]) (by rfl) (by kernel_rfl) (by simp only [Try.ntmps28, yaz, yba]; decide) (Nat.le_refl _) fun hcl hlt => ?_
    change aw _ _ _ (KI Try.prog [(83, Ent.pure p_rTableOf)] (aEnd Try.prog [.tmp 4] H.nx _ _ (assoc [])) []) _ _
    clear hlt
    simp only [go_sem, reduceCtorEq, Nat.reduceEqDiff, Nat.reduceAdd, Nat.reduceMul, Nat.reduceSub, Nat.reduceLeDiff, Nat.reduceLT, Int.reduceMul, Int.reduceAdd, Int.reduceSub, Int.reduceToNat, schC, entryC, p_rTableOf]
    refine ⟨S, ⟨rfl, hS⟩, ?_⟩
    rw [hi]
    simp only [blkP, go_sem, reduceCtorEq, Nat.reduceEqDiff, Nat.reduceAdd, Nat.reduceMul, Nat.reduceSub, Nat.reduceLeDiff, Nat.reduceLT, Int.reduceMul, Int.reduceAdd, Int.reduceSub, Int.reduceToNat, d1, schC, Int.toNat_natCast, hgt, tableAV, ybb]
    (repeat with_reducible refine And.intro (by first | exact True.intro | decide | omega | (simp [zhx, zge, zgf, zgg, zgi, zgh, zgm]; first | done | omega)) ?_)
    obtain ⟨HB, hHB⟩ : ∃ HB, (H.push (.cells (schC S))).push (.cells (entryC e)) = HB := ⟨_, rfl⟩
    have hclB : HB.Closed := by
      rw [← hHB]
      exact closed_cells (closed_cells hcl (ltL_iff.2 fun j hj => AV.lt_cells (lt_sch S) j hj)) (ltL_iff.2 fun j hj => AV.lt_cells (lt_entry e) j hj)
    have hnB : HB.nx = H.nx + 1 + 1 := by rw [← hHB]; rfl
    refine loop_introW (A := Nat) (fun k => [(3, .ptr (H.nx + 1) 0), (19, .slice .any 3 (t.keys.map keyAV)), (20, .int .i64 (t.keys.length : Int)), (21, .int .i64 (k : Int))]) (fun _ => HB) (fun k => k ≤ t.keys.length ∧ pfxAt e.ms (ixP (fun k : SKey => k.kind == 2) (t.keys.drop k) k) = R) (fun k => t.keys.length - k) 0 ⟨by omega, hR⟩ ?_ fun k hk => ?_
    · refine ⟨by simp only [hnB, zjs, zjx]; omega, by rw [← hHB]; exact AHeap.Le.refl _, hclB, ?_, ?_⟩
      · simp [ltF, hnB, zmp, zmh, lt_map lt_key]
      · simp [subW, wk2, wk1, wkM, Fr.get]
    clear hR
    obtain ⟨hk, hR⟩ := hk
    simp only [go_sem, reduceCtorEq, Nat.reduceEqDiff, Nat.reduceAdd, Nat.reduceMul, Nat.reduceSub, Nat.reduceLeDiff, Nat.reduceLT, Int.reduceMul, Int.reduceAdd, Int.reduceSub, Int.reduceToNat]
    refine cond_split (fun hc => ?_) (fun hc => ?_)
    · have hk' : k < t.keys.length := by simp at hc; omega
      obtain ⟨x, hx⟩ : ∃ x, x = t.keys[k] := ⟨_, rfl⟩
      have hxk : t.keys[k]? = some x := by rw [List.getElem?_eq_getElem hk', hx]
      have hd : t.keys.drop k = x :: t.keys.drop (k + 1) := by rw [hx]; exact List.drop_eq_getElem_cons hk'
      have hkg := getD_map (f := keyAV) (l := t.keys) (k := k) (x := x) hxk
      have e5 : IntKind.i64.wrap ((k : Int) + 1) = ((k + 1 : Nat) : Int) := by rw [wrap_i64] <;> omega
      rw [hd] at hR
      unfold ixP at hR
      rw [← hHB]
      cases hq : (x.kind == 2)
      · rw [hq, if_neg (by decide)] at hR
        simp only [go_sem, reduceCtorEq, Nat.reduceEqDiff, Nat.reduceAdd, Nat.reduceMul, Nat.reduceSub, Nat.reduceLeDiff, Nat.reduceLT, Int.reduceMul, Int.reduceAdd, Int.reduceSub, Int.reduceToNat, schC, entryC, Int.toNat_natCast, ybb, hkg, keyAV, hq]
        (repeat with_reducible refine And.intro (by first | exact True.intro | decide | omega | (simp [zhx, zge, zgf, zgg, zgi, zgh, zgm]; first | done | omega)) ?_)
        simp only [go_sem, reduceCtorEq, Nat.reduceEqDiff, Nat.reduceAdd, Nat.reduceMul, Nat.reduceSub, Nat.reduceLeDiff, Nat.reduceLT, Int.reduceMul, Int.reduceAdd, Int.reduceSub, Int.reduceToNat, e5]
        refine ⟨k + 1, ⟨by omega, hR⟩, by omega, by simp only [zkg]; omega, (AHeap.Le.refl _).push _, by rw [← hHB] at hclB; exact hclB, ?_, ?_⟩
        · simp [ltF, zkg, zmp, zmh, lt_map lt_key]
          try omega
        · simp [subW, wk2, wk1, wkM, Fr.get]
      · rw [hq, if_pos rfl] at hR
        by_cases q2 : (e.ms.length : Int) ≤ (k : Int)
        · have d2 : decide ((k : Int) < (e.ms.length : Int)) = false := decide_eq_false (by omega)
          have hR' : pfxAt e.ms (ixP (fun k : SKey => k.kind == 2) (t.keys.drop (k + 1)) (k + 1)) = R := by
            rw [← hR]
            obtain ⟨b1, b2⟩ := ixP_lt (q := fun k : SKey => k.kind == 2) (l := t.keys.drop (k + 1)) (k := k + 1)
            unfold pfxAt
            rw [if_pos (by omega), if_pos (.inr q2)]
          simp only [go_sem, reduceCtorEq, Nat.reduceEqDiff, Nat.reduceAdd, Nat.reduceMul, Nat.reduceSub, Nat.reduceLeDiff, Nat.reduceLT, Int.reduceMul, Int.reduceAdd, Int.reduceSub, Int.reduceToNat, schC, entryC, Int.toNat_natCast, ybb, hkg, keyAV, hq, d2]
          (repeat with_reducible refine And.intro (by first | exact True.intro | decide | omega | (simp [zhx, zge, zgf, zgg, zgi, zgh, zgm]; first | done | omega)) ?_)
          simp only [go_sem, reduceCtorEq, Nat.reduceEqDiff, Nat.reduceAdd, Nat.reduceMul, Nat.reduceSub, Nat.reduceLeDiff, Nat.reduceLT, Int.reduceMul, Int.reduceAdd, Int.reduceSub, Int.reduceToNat, e5]
          refine ⟨k + 1, ⟨by omega, hR'⟩, by omega, by simp only [zkg]; omega, (AHeap.Le.refl _).push _, by rw [← hHB] at hclB; exact hclB, ?_, ?_⟩
          · simp [ltF, zkg, zmp, zmh, lt_map lt_key]
            try omega
          · simp [subW, wk2, wk1, wkM, Fr.get]
        · have d2 : decide ((k : Int) < (e.ms.length : Int)) = true := decide_eq_true (by omega)
          have hml : k < e.ms.length := by omega
          obtain ⟨m, hmm⟩ : ∃ m, m = e.ms[k] := ⟨_, rfl⟩
          have hmg := getD_map (f := matchAV) (l := e.ms) (k := k) (x := m) (by rw [List.getElem?_eq_getElem hml, hmm])
          have hmd : e.ms.getD k noMatch = m := by rw [List.getD_eq_getElem?_getD, List.getElem?_eq_getElem hml, hmm]; rfl
          unfold pfxAt at hR
          rw [if_neg (by omega), Int.toNat_natCast, hmd] at hR
          subst hR
          simp only [go_sem, reduceCtorEq, Nat.reduceEqDiff, Nat.reduceAdd, Nat.reduceMul, Nat.reduceSub, Nat.reduceLeDiff, Nat.reduceLT, Int.reduceMul, Int.reduceAdd, Int.reduceSub, Int.reduceToNat, schC, entryC, Int.toNat_natCast, ybb, hkg, keyAV, hq, d2, hmg, matchAV, matchC, vc, yal, yak]
          (repeat with_reducible refine And.intro (by first | exact True.intro | decide | omega | (simp [zhx, zge, zgf, zgg, zgi, zgh, zgm]; first | done | omega)) ?_)
          simp (disch := first | assumption | omega | (simp; done) | (simp; omega) | (simp only [bt, and_true]; first | done | omega | (simp; done))) [↓zlq, beq, ybc, ybd, ybe, endOk, wk, wk2, wk1, wkM, wkL, wkLL, ybf, hcl]
          first | done | repeat (first | exact AHeap.Le.refl _ | refine AHeap.Le.push ?_ _)
    · have hk' : k = t.keys.length := by simp at hc; omega
      subst hk'
      rw [List.drop_length] at hR
      unfold ixP pfxAt at hR
      rw [if_pos (.inl (by decide))] at hR
      subst hR
      rw [← hHB]
      simp only [go_sem, reduceCtorEq, Nat.reduceEqDiff, Nat.reduceAdd, Nat.reduceMul, Nat.reduceSub, Nat.reduceLeDiff, Nat.reduceLT, Int.reduceMul, Int.reduceAdd, Int.reduceSub, Int.reduceToNat]
      simp (disch := first | assumption | omega | (simp; done) | (simp; omega) | (simp only [bt, and_true]; first | done | omega | (simp; done))) [↓zlq, beq, ybc, ybd, ybe, endOk, wk, wk2, wk1, wkM, wkL, wkLL, ybf, hcl]
      first | done | repeat (first | exact AHeap.Le.refl _ | refine AHeap.Le.push ?_ _)
end Go.AL


open Go Go.AL Go.Proofs
namespace Go.AL
set_option linter.all false
set_option maxRecDepth 10000

def p_gNaN : List AV → AHeap → (AV → Prop) → Prop
  | [.int .i64 x], _, K => K (.bool false)
  | _, _, _ => False
theorem ok_gNaN : EntOk Try.prog 146 (Ent.pure p_gNaN) := by
  refine EntOk.pure fun args H K h => ?_
  unfold p_gNaN at h
  split at h
  rotate_left
  · exact h.elim
  rename_i x
  refine ⟨_, h, ?_⟩
  clear h
  refine ACalls.of_aw (Ω := []) (T := assoc []) mixed TblOk.nil Try.func146 (by kernel_rfl) (by rfl) (rs := [.tmp 2]) (by rfl) (by kernel_rfl) (by simp only [Try.ntmps146, yaz, yba]; decide) (Nat.le_refl _) fun hcl hlt => ?_
  change aw _ _ _ (KI Try.prog [] (aEnd Try.prog [.tmp 2] H.nx _ _) []) _ _
  clear hlt
  simp only [go_sem, reduceCtorEq, Nat.reduceEqDiff, Nat.reduceAdd, Nat.reduceMul, Nat.reduceSub, Nat.reduceLeDiff, Nat.reduceLT, Int.reduceMul, Int.reduceAdd, Int.reduceSub, Int.reduceToNat, bne_self_eq_false]
  simp (disch := first | assumption | omega | (simp; done) | (simp; omega) | (simp only [bt, and_true]; first | done | omega | (simp; done))) [↓zlq, beq, ybc, ybd, ybe, endOk, wk, wk2, wk1, wkM, wkL, wkLL, ybf, hcl]
def cmpI (a b : Int) : Int := if a < b then -1 else if b < a then 1 else 0
def p_gCompare : List AV → AHeap → (AV → Prop) → Prop
  | [.int .i64 a, .int .i64 b], _, K => K (.int .i64 (cmpI a b))
  | _, _, _ => False
theorem ok_gCompare : EntOk Try.prog 88 (Ent.pure p_gCompare) := by
  refine EntOk.pure fun args H K h => ?_
  unfold p_gCompare at h
  split at h
  rotate_left
  · exact h.elim
  rename_i a b
  refine ⟨_, h, ?_⟩
  clear h
  unfold cmpI
  by_cases h1 : a < b
  · rw [if_pos h1]
    have d1 : decide (a < b) = true := decide_eq_true h1
    refine ACalls.of_aw (Ω := [(146, Ent.pure p_gNaN)]) (T := assoc []) mixed (TblOk.cons ok_gNaN TblOk.nil) Try.func88 (by kernel_rfl) (by rfl) (rs := [.tmp 4]) (by rfl) (by kernel_rfl) (by simp only [Try.ntmps88, yaz, yba]; decide) (Nat.le_refl _) fun hcl hlt => ?_
    change aw _ _ _ (KI Try.prog [(146, Ent.pure p_gNaN)] (aEnd Try.prog [.tmp 4] H.nx _ _) []) _ _
    clear hlt
    simp only [go_sem, reduceCtorEq, Nat.reduceEqDiff, Nat.reduceAdd, Nat.reduceMul, Nat.reduceSub, Nat.reduceLeDiff, Nat.reduceLT, Int.reduceMul, Int.reduceAdd, Int.reduceSub, Int.reduceToNat, p_gNaN, d1]
    simp (disch := first | assumption | omega | (simp; done) | (simp; omega) | (simp only [bt, and_true]; first | done | omega | (simp; done))) [↓zlq, beq, ybc, ybd, ybe, endOk, wk, wk2, wk1, wkM, wkL, wkLL, ybf, hcl]
  · rw [if_neg h1]
    have d1 : decide (a < b) = false := decide_eq_false h1
    by_cases h2 : b < a
    · rw [if_pos h2]
      have d2 : decide (a > b) = true := decide_eq_true h2
      refine ACalls.of_aw (Ω := [(146, Ent.pure p_gNaN)]) (T := assoc []) mixed (TblOk.cons ok_gNaN TblOk.nil) Try.func88 (by kernel_rfl) (by rfl) (rs := [.tmp 4]) (by rfl) (by kernel_rfl) (by simp only [Try.ntmps88, yaz, yba]; decide) (Nat.le_refl _) fun hcl hlt => ?_
      change aw _ _ _ (KI Try.prog [(146, Ent.pure p_gNaN)] (aEnd Try.prog [.tmp 4] H.nx _ _) []) _ _
      clear hlt
      simp only [go_sem, reduceCtorEq, Nat.reduceEqDiff, Nat.reduceAdd, Nat.reduceMul, Nat.reduceSub, Nat.reduceLeDiff, Nat.reduceLT, Int.reduceMul, Int.reduceAdd, Int.reduceSub, Int.reduceToNat, p_gNaN, d1, d2]
      simp (disch := first | assumption | omega | (simp; done) | (simp; omega) | (simp only [bt, and_true]; first | done | omega | (simp; done))) [↓zlq, beq, ybc, ybd, ybe, endOk, wk, wk2, wk1, wkM, wkL, wkLL, ybf, hcl]
    · rw [if_neg h2]
      have d2 : decide (a > b) = false := decide_eq_false h2
      refine ACalls.of_aw (Ω := [(146, Ent.pure p_gNaN)]) (T := assoc []) mixed (TblOk.cons ok_gNaN TblOk.nil) Try.func88 (by kernel_rfl) (by rfl) (rs := [.tmp 4]) (by rfl) (by kernel_rfl) (by simp only [Try.ntmps88, yaz, yba]; decide) (Nat.le_refl _) fun hcl hlt => ?_
      change aw _ _ _ (KI Try.prog [(146, Ent.pure p_gNaN)] (aEnd Try.prog [.tmp 4] H.nx _ _) []) _ _
      clear hlt
      simp only [go_sem, reduceCtorEq, Nat.reduceEqDiff, Nat.reduceAdd, Nat.reduceMul, Nat.reduceSub, Nat.reduceLeDiff, Nat.reduceLT, Int.reduceMul, Int.reduceAdd, Int.reduceSub, Int.reduceToNat, p_gNaN, d1, d2]
      simp (disch := first | assumption | omega | (simp; done) | (simp; omega) | (simp only [bt, and_true]; first | done | omega | (simp; done))) [↓zlq, beq, ybc, ybd, ybe, endOk, wk, wk2, wk1, wkM, wkL, wkLL, ybf, hcl]
def firstI : List Int → Int
  | [] => 0
  | x :: xs => if (x != 0) = true then x else firstI xs
def p_eFirst : List AV → AHeap → (AV → Prop) → Prop
  | [.slice _ 1 l], _, K => ∃ xs : List Int, (l = inL xs ∧ xs.length ≤ 1000000) ∧ K (.int .i64 (firstI xs))
  | _, _, _ => False
theorem ok_eFirst : EntOk Try.prog 87 (Ent.pure p_eFirst) := by
  refine EntOk.pure fun args H K h => ?_
  unfold p_eFirst at h
  split at h
  rotate_left
  · exact h.elim
  rename_i m l
  obtain ⟨xs, ⟨rfl, hl⟩, hK⟩ := h
  refine ⟨_, hK, ?_⟩
  clear hK
  generalize hR : firstI xs = R
  refine ACalls.of_aw (Ω := []) (T := assoc []) mixed TblOk.nil Try.func87 (by kernel_rfl) (by rfl) (rs := [.tmp 2]) (by rfl) (by kernel_rfl) (by simp only [Try.ntmps87, yaz, yba]; decide) (Nat.le_refl _) fun hcl hlt => ?_
  change aw _ _ _ (KI Try.prog [] (aEnd Try.prog [.tmp 2] H.nx _ _) []) _ _
  have hm : AV.lt H.nx (.slice m 1 (inL xs)) := hlt _ (by simp)
  clear hlt
  simp only [go_sem, reduceCtorEq, Nat.reduceEqDiff, Nat.reduceAdd, Nat.reduceMul, Nat.reduceSub, Nat.reduceLeDiff, Nat.reduceLT, Int.reduceMul, Int.reduceAdd, Int.reduceSub, Int.reduceToNat, inL_len]
  refine loop_introW (A := Nat) (fun k => [(5, .slice m 1 (inL xs)), (6, .int .i64 (xs.length : Int)), (7, .int .i64 (k : Int))]) (fun _ => H) (fun k => k ≤ xs.length ∧ firstI (xs.drop k) = R) (fun k => xs.length - k) 0 ⟨by omega, hR⟩ ?_ fun k hk => ?_
  · refine ⟨Nat.le_refl _, AHeap.Le.refl _, hcl, ?_, ?_⟩
    · simp [ltF, zmh, hm]
    · simp [subW, wk2, wk1, wkM, Fr.get]
  clear hR
  obtain ⟨hk, hR⟩ := hk
  simp only [go_sem, reduceCtorEq, Nat.reduceEqDiff, Nat.reduceAdd, Nat.reduceMul, Nat.reduceSub, Nat.reduceLeDiff, Nat.reduceLT, Int.reduceMul, Int.reduceAdd, Int.reduceSub, Int.reduceToNat]
  refine cond_split (fun hc => ?_) (fun hc => ?_)
  · have hk' : k < xs.length := by simp at hc; omega
    obtain ⟨x, hx⟩ : ∃ x, x = xs[k] := ⟨_, rfl⟩
    have hd : xs.drop k = x :: xs.drop (k + 1) := by rw [hx]; exact List.drop_eq_getElem_cons hk'
    have hg := getD_map (f := AV.int .i64) (l := xs) (k := k) (x := x) (by rw [List.getElem?_eq_getElem hk', hx])
    have e5 : IntKind.i64.wrap ((k : Int) + 1) = ((k + 1 : Nat) : Int) := by rw [wrap_i64] <;> omega
    rw [hd] at hR
    unfold firstI at hR
    simp only [go_sem, reduceCtorEq, Nat.reduceEqDiff, Nat.reduceAdd, Nat.reduceMul, Nat.reduceSub, Nat.reduceLeDiff, Nat.reduceLT, Int.reduceMul, Int.reduceAdd, Int.reduceSub, Int.reduceToNat, Int.toNat_natCast, inL, hg, ybb]
    (repeat with_reducible refine And.intro (by first | exact True.intro | decide | omega | (simp [zhx, zge, zgf, zgg, zgi, zgh, zgm]; first | done | omega)) ?_)
    refine cond_split (fun hq => ?_) (fun hq => ?_)
    · rw [if_pos hq] at hR
      subst hR
      simp only [go_sem, reduceCtorEq, Nat.reduceEqDiff, Nat.reduceAdd, Nat.reduceMul, Nat.reduceSub, Nat.reduceLeDiff, Nat.reduceLT, Int.reduceMul, Int.reduceAdd, Int.reduceSub, Int.reduceToNat]
      simp (disch := first | assumption | omega | (simp; done) | (simp; omega) | (simp only [bt, and_true]; first | done | omega | (simp; done))) [↓zlq, beq, ybc, ybd, ybe, endOk, wk, wk2, wk1, wkM, wkL, wkLL, ybf, hcl]
    · rw [if_neg (by rw [hq]; decide)] at hR
      simp only [go_sem, reduceCtorEq, Nat.reduceEqDiff, Nat.reduceAdd, Nat.reduceMul, Nat.reduceSub, Nat.reduceLeDiff, Nat.reduceLT, Int.reduceMul, Int.reduceAdd, Int.reduceSub, Int.reduceToNat, e5]
      unfold inL at hm
      refine ⟨k + 1, ⟨by omega, hR⟩, by omega, Nat.le_refl _, AHeap.Le.refl _, hcl, ?_, ?_⟩
      · simp [ltF, zmh, hm]
      · simp [subW, wk2, wk1, wkM, Fr.get]
  · have hk' : k = xs.length := by simp at hc; omega
    subst hk'
    rw [List.drop_length] at hR
    unfold firstI at hR
    subst hR
    simp only [go_sem, reduceCtorEq, Nat.reduceEqDiff, Nat.reduceAdd, Nat.reduceMul, Nat.reduceSub, Nat.reduceLeDiff, Nat.reduceLT, Int.reduceMul, Int.reduceAdd, Int.reduceSub, Int.reduceToNat]
    simp (disch := first | assumption | omega | (simp; done) | (simp; omega) | (simp only [bt, and_true]; first | done | omega | (simp; done))) [↓zlq, beq, ybc, ybd, ybe, endOk, wk, wk2, wk1, wkM, wkL, wkLL, ybf, hcl]
/-- an installed entry -/
def instC (e : SEntry) (n r : Int) : List AV := entryC e ++ [.int .i64 n, .int .i64 r]
def beatsE (S : Sch) (e1 : SEntry) (n1 : Int) (e2 : SEntry) (n2 : Int) : Bool := decide (firstI [cmpI e1.prio e2.prio, cmpI (prefixE S e1) (prefixE S e2), cmpI n1 n2] > 0)
theorem cmpI_pos {a b : Int} : (cmpI a b > 0) = (b < a) := by
  unfold cmpI
  split
  · exact propext ⟨fun h => absurd h (by decide), fun h => by omega⟩
  · split
    · rename_i h; exact propext ⟨fun _ => h, fun _ => by decide⟩
    · rename_i h; exact propext ⟨fun h => absurd h (by decide), fun h' => absurd h' h⟩
theorem cmpI_zero {a b : Int} : (cmpI a b != 0) = (a != b) := by
  unfold cmpI
  split
  · have : a ≠ b := by omega
    simp [this]
  · split
    · have : a ≠ b := by omega
      simp [this]
    · have : a = b := by omega
      simp [this]
theorem beatsE_def {S : Sch} {e1 e2 : SEntry} {n1 n2 : Int} : beatsE S e1 n1 e2 n2 = if (e1.prio != e2.prio) = true then decide (e1.prio > e2.prio) else if (prefixE S e1 != prefixE S e2) = true then decide (prefixE S e1 > prefixE S e2) else decide (n1 > n2) := by
  unfold beatsE
  simp only [firstI, cmpI_zero]
  split
  · simp only [cmpI_pos]
  · split
    · simp only [cmpI_pos]
    · split
      · simp only [cmpI_pos]
      · rename_i h
        have : n1 = n2 := by simpa using h
        subst this
        simp
def p_eBeats : List AV → AHeap → (AV → Prop) → Prop
  | [.agg l, .agg l1, .agg l2], _, K => ∃ (S : Sch) (e1 : SEntry) (n1 r1 : Int) (e2 : SEntry) (n2 r2 : Int), (l = schC S ∧ l1 = instC e1 n1 r1 ∧ l2 = instC e2 n2 r2 ∧ PLen S e1 ∧ PLen S e2) ∧ K (.bool (beatsE S e1 n1 e2 n2))
  | _, _, _ => False
def p_rBeats := p_eBeats
set_option maxHeartbeats 2000000 in
theorem ok_eBeats : EntOk Try.prog 29 (Ent.pure p_eBeats) := by
  refine EntOk.pure fun args H K h => ?_
  unfold p_eBeats at h
  split at h
  rotate_left
  · exact h.elim
  rename_i l l1 l2
  obtain ⟨S, e1, n1, r1, e2, n2, r2, ⟨rfl, rfl, rfl, h1, h2⟩, hK⟩ := h
  refine ⟨_, hK, ?_⟩
  clear hK
  unfold beatsE
  refine ACalls.of_aw (Ω := [(27, Ent.pure p_ePrefix), (88, Ent.pure p_gCompare), (87, Ent.pure p_eFirst)]) (T := assoc [(1, [[], [], [], [], [], [], [2, 5], [], [], [], [2, 5, 6, 7, 9], [], [], [], [2, 5, 6, 7, 9, 10, 11, 13], [2, 5, 6, 7, 9, 10, 11, 13, 14], [], [], [], [], [2, 5, 6, 7, 9, 10, 11, 13, 14, 15, 17, 19], [2, 5, 6, 7, 9, 10, 11, 13, 14, 15, 17, 19, 20], [2, 5, 6, 7, 9, 10, 11, 13, 14, 15, 17, 19, 20, 21]])]) mixed (TblOk.cons ok_ePrefix (TblOk.cons ok_gCompare (TblOk.cons ok_eFirst TblOk.nil))) Try.func29 (by kernel_rfl) (by rfl) (rs := [.tmp 6]) (by rfl) (by kernel_rfl) (by simp only [Try.ntmps29, yaz, yba]; decide) (Nat.le_refl _) fun hcl hlt => ?_
  change aw _ _ _ (KI Try.prog [(27, Ent.pure p_ePrefix), (88, Ent.pure p_gCompare), (87, Ent.pure p_eFirst)] (aEnd Try.prog [.tmp 6] H.nx _ _ (assoc [(1, [[], [], [], [], [], [], [2, 5], [], [], [], [2, 5, 6, 7, 9], [], [], [], [2, 5, 6, 7, 9, 10, 11, 13], [2, 5, 6, 7, 9, 10, 11, 13, 14], [], [], [], [], [2, 5, 6, 7, 9, 10, 11, 13, 14, 15, 17, 19], [2, 5, 6, 7, 9, 10, 11, 13, 14, 15, 17, 19, 20], [2, 5, 6, 7, 9, 10, 11, 13, 14, 15, 17, 19, 20, 21]])])) []) _ _
  clear hlt
  simp only [go_sem, reduceCtorEq, Nat.reduceEqDiff, Nat.reduceAdd, Nat.reduceMul, Nat.reduceSub, Nat.reduceLeDiff, Nat.reduceLT, Int.reduceMul, Int.reduceAdd, Int.reduceSub, Int.reduceToNat, schC, entryC, instC, yal, yak, p_gCompare, p_ePrefix]
  (repeat with_reducible refine And.intro (by first | exact True.intro | decide | omega | (simp [zhx, zge, zgf, zgg, zgi, zgh, zgm]; first | done | omega)) ?_)
  refine ⟨S, e1, ⟨rfl, rfl, h1⟩, ?_⟩
  simp only [blkE, blkP, bhq, Nat.reduceMod, Nat.reduceDiv, stepH, stepM, toMs1, toMs, toMs0, strK, pubK, pubF, pubV, yaq, yar, yao, yap, go_sem, reduceCtorEq, Nat.reduceEqDiff, Nat.reduceAdd, Nat.reduceMul, Nat.reduceSub, Nat.reduceLeDiff, Nat.reduceLT, Int.reduceMul, Int.reduceAdd, Int.reduceSub, Int.reduceToNat, schC, entryC, instC, yal, yak, p_gCompare, p_ePrefix]
  (repeat with_reducible refine And.intro (by first | exact True.intro | decide | omega | (simp [zhx, zge, zgf, zgg, zgi, zgh, zgm]; first | done | omega)) ?_)
  refine ⟨S, e2, ⟨rfl, rfl, h2⟩, ?_⟩
  simp only [blkE, blkP, bhq, Nat.reduceMod, Nat.reduceDiv, stepH, stepM, toMs1, toMs, toMs0, strK, pubK, pubF, pubV, yaq, yar, yao, yap, go_sem, reduceCtorEq, Nat.reduceEqDiff, Nat.reduceAdd, Nat.reduceMul, Nat.reduceSub, Nat.reduceLeDiff, Nat.reduceLT, Int.reduceMul, Int.reduceAdd, Int.reduceSub, Int.reduceToNat, schC, entryC, instC, yal, yak, p_gCompare, p_ePrefix, p_eFirst]
  refine ⟨[cmpI e1.prio e2.prio, cmpI (prefixE S e1) (prefixE S e2), cmpI n1 n2], ⟨rfl, by simp⟩, ?_⟩
  simp (disch := first | assumption | omega | (simp; done) | (simp; omega) | (simp only [bt, and_true]; first | done | omega | (simp; done))) [↓zlq, beq, ybc, ybd, ybe, endOk, wk, wk2, wk1, wkM, wkL, wkLL, ybf, hcl]
  first | done | repeat (first | exact AHeap.Le.refl _ | refine AHeap.Le.push ?_ _)
set_option maxHeartbeats 2000000 in
theorem ok_rBeats : EntOk Try.prog 30 (Ent.pure p_rBeats) := by
  unfold p_rBeats
  refine EntOk.pure fun args H K h => ?_
  unfold p_eBeats at h
  split at h
  rotate_left
  · exact h.elim
  rename_i l l1 l2
  obtain ⟨S, e1, n1, r1, e2, n2, r2, ⟨rfl, rfl, rfl, h1, h2⟩, hK⟩ := h
  refine ⟨_, hK, ?_⟩
  clear hK
  rw [beatsE_def]
  cases q1 : (e1.prio != e2.prio)
  · rw [if_neg (by decide)]
    cases q2 : (prefixE S e1 != prefixE S e2)
    · rw [if_neg (by decide)]
      refine ACalls.of_aw (Ω := [(28, Ent.pure p_rPrefix)]) (T := assoc [(3, [[], [], [], [0, 2], [], [], [], [0, 2, 3, 4, 6]])]) mixed (TblOk.cons ok_rPrefix TblOk.nil) Try.func30 (by kernel_rfl) (by rfl) (rs := [.tmp 6]) (by rfl) (by kernel_rfl) (by simp only [Try.ntmps30, yaz, yba]; decide) (Nat.le_refl _) fun hcl hlt => ?_
      change aw _ _ _ (KI Try.prog [(28, Ent.pure p_rPrefix)] (aEnd Try.prog [.tmp 6] H.nx _ _ (assoc [(3, [[], [], [], [0, 2], [], [], [], [0, 2, 3, 4, 6]])])) []) _ _
      clear hlt
      simp only [go_sem, reduceCtorEq, Nat.reduceEqDiff, Nat.reduceAdd, Nat.reduceMul, Nat.reduceSub, Nat.reduceLeDiff, Nat.reduceLT, Int.reduceMul, Int.reduceAdd, Int.reduceSub, Int.reduceToNat, schC, entryC, instC, yal, yak, p_rPrefix, q1]
      (repeat with_reducible refine And.intro (by first | exact True.intro | decide | omega | (simp [zhx, zge, zgf, zgg, zgi, zgh, zgm]; first | done | omega)) ?_)
      refine ⟨S, e1, ⟨rfl, rfl, h1⟩, ?_⟩
      try simp only [blkE, blkP, bhq, Nat.reduceMod, Nat.reduceDiv, stepH, stepM, toMs1, toMs, toMs0, strK, pubK, pubF, pubV, yaq, yar, yao, yap, go_sem, reduceCtorEq, Nat.reduceEqDiff, Nat.reduceAdd, Nat.reduceMul, Nat.reduceSub, Nat.reduceLeDiff, Nat.reduceLT, Int.reduceMul, Int.reduceAdd, Int.reduceSub, Int.reduceToNat, schC, entryC, instC, yal, yak, p_rPrefix]
      (repeat with_reducible refine And.intro (by first | exact True.intro | decide | omega | (simp [zhx, zge, zgf, zgg, zgi, zgh, zgm]; first | done | omega)) ?_)
      refine ⟨S, e2, ⟨rfl, rfl, h2⟩, ?_⟩
      try simp only [blkE, blkP, bhq, Nat.reduceMod, Nat.reduceDiv, stepH, stepM, toMs1, toMs, toMs0, strK, pubK, pubF, pubV, yaq, yar, yao, yap, go_sem, reduceCtorEq, Nat.reduceEqDiff, Nat.reduceAdd, Nat.reduceMul, Nat.reduceSub, Nat.reduceLeDiff, Nat.reduceLT, Int.reduceMul, Int.reduceAdd, Int.reduceSub, Int.reduceToNat, schC, entryC, instC, yal, yak, q2]
      simp (disch := first | assumption | omega | (simp; done) | (simp; omega) | (simp only [bt, and_true]; first | done | omega | (simp; done))) [↓zlq, beq, ybc, ybd, ybe, endOk, wk, wk2, wk1, wkM, wkL, wkLL, ybf, hcl]
      first | done | repeat (first | exact AHeap.Le.refl _ | refine AHeap.Le.push ?_ _)
    · rw [if_pos rfl]
      refine ACalls.of_aw (Ω := [(28, Ent.pure p_rPrefix)]) (T := assoc [(3, [[], [], [], [0, 2], [], [], [], [0, 2, 3, 4, 6]])]) mixed (TblOk.cons ok_rPrefix TblOk.nil) Try.func30 (by kernel_rfl) (by rfl) (rs := [.tmp 6]) (by rfl) (by kernel_rfl) (by simp only [Try.ntmps30, yaz, yba]; decide) (Nat.le_refl _) fun hcl hlt => ?_
      change aw _ _ _ (KI Try.prog [(28, Ent.pure p_rPrefix)] (aEnd Try.prog [.tmp 6] H.nx _ _ (assoc [(3, [[], [], [], [0, 2], [], [], [], [0, 2, 3, 4, 6]])])) []) _ _
      clear hlt
      simp only [go_sem, reduceCtorEq, Nat.reduceEqDiff, Nat.reduceAdd, Nat.reduceMul, Nat.reduceSub, Nat.reduceLeDiff, Nat.reduceLT, Int.reduceMul, Int.reduceAdd, Int.reduceSub, Int.reduceToNat, schC, entryC, instC, yal, yak, p_rPrefix, q1]
      (repeat with_reducible refine And.intro (by first | exact True.intro | decide | omega | (simp [zhx, zge, zgf, zgg, zgi, zgh, zgm]; first | done | omega)) ?_)
      refine ⟨S, e1, ⟨rfl, rfl, h1⟩, ?_⟩
      try simp only [blkE, blkP, bhq, Nat.reduceMod, Nat.reduceDiv, stepH, stepM, toMs1, toMs, toMs0, strK, pubK, pubF, pubV, yaq, yar, yao, yap, go_sem, reduceCtorEq, Nat.reduceEqDiff, Nat.reduceAdd, Nat.reduceMul, Nat.reduceSub, Nat.reduceLeDiff, Nat.reduceLT, Int.reduceMul, Int.reduceAdd, Int.reduceSub, Int.reduceToNat, schC, entryC, instC, yal, yak, p_rPrefix]
      (repeat with_reducible refine And.intro (by first | exact True.intro | decide | omega | (simp [zhx, zge, zgf, zgg, zgi, zgh, zgm]; first | done | omega)) ?_)
      refine ⟨S, e2, ⟨rfl, rfl, h2⟩, ?_⟩
      try simp only [blkE, blkP, bhq, Nat.reduceMod, Nat.reduceDiv, stepH, stepM, toMs1, toMs, toMs0, strK, pubK, pubF, pubV, yaq, yar, yao, yap, go_sem, reduceCtorEq, Nat.reduceEqDiff, Nat.reduceAdd, Nat.reduceMul, Nat.reduceSub, Nat.reduceLeDiff, Nat.reduceLT, Int.reduceMul, Int.reduceAdd, Int.reduceSub, Int.reduceToNat, schC, entryC, instC, yal, yak, q2]
      simp (disch := first | assumption | omega | (simp; done) | (simp; omega) | (simp only [bt, and_true]; first | done | omega | (simp; done))) [↓zlq, beq, ybc, ybd, ybe, endOk, wk, wk2, wk1, wkM, wkL, wkLL, ybf, hcl]
      first | done | repeat (first | exact AHeap.Le.refl _ | refine AHeap.Le.push ?_ _)
  · rw [if_pos rfl]
    refine ACalls.of_aw (Ω := [(28, Ent.pure p_rPrefix)]) (T := assoc [(3, [[], [], [], [0, 2], [], [], [], [0, 2, 3, 4, 6]])]) mixed (TblOk.cons ok_rPrefix TblOk.nil) Try.func30 (by kernel_rfl) (by rfl) (rs := [.tmp 6]) (by rfl) (by kernel_rfl) (by simp only [Try.ntmps30, yaz, yba]; decide) (Nat.le_refl _) fun hcl hlt => ?_
    change aw _ _ _ (KI Try.prog [(28, Ent.pure p_rPrefix)] (aEnd Try.prog [.tmp 6] H.nx _ _ (assoc [(3, [[], [], [], [0, 2], [], [], [], [0, 2, 3, 4, 6]])])) []) _ _
    clear hlt
    simp only [go_sem, reduceCtorEq, Nat.reduceEqDiff, Nat.reduceAdd, Nat.reduceMul, Nat.reduceSub, Nat.reduceLeDiff, Nat.reduceLT, Int.reduceMul, Int.reduceAdd, Int.reduceSub, Int.reduceToNat, schC, entryC, instC, yal, yak, p_rPrefix, q1]
    simp (disch := first | assumption | omega | (simp; done) | (simp; omega) | (simp only [bt, and_true]; first | done | omega | (simp; done))) [↓zlq, beq, ybc, ybd, ybe, endOk, wk, wk2, wk1, wkM, wkL, wkLL, ybf, hcl]
    first | done | repeat (first | exact AHeap.Le.refl _ | refine AHeap.Le.push ?_ _)
end Go.AL


open Go Go.AL Go.Proofs
namespace Go.AL
set_option linter.all false
set_option maxRecDepth 10000

theorem beatsE_anti {S : Sch} {e1 e2 : SEntry} {n1 n2 : Int} (h : n1 ≠ n2) : (beatsE S e1 n1 e2 n2 != beatsE S e2 n2 e1 n1) = true := by
  rw [beatsE_def, beatsE_def]
  by_cases q1 : e1.prio = e2.prio
  · by_cases q2 : prefixE S e1 = prefixE S e2
    · have b1 : (e1.prio != e2.prio) = false := by simp [q1]
      have b2 : (e2.prio != e1.prio) = false := by simp [q1]
      have b3 : (prefixE S e1 != prefixE S e2) = false := by simp [q2]
      have b4 : (prefixE S e2 != prefixE S e1) = false := by simp [q2]
      rw [b1, b2, b3, b4]
      simp
      omega
    · have b1 : (e1.prio != e2.prio) = false := by simp [q1]
      have b2 : (e2.prio != e1.prio) = false := by simp [q1]
      have b3 : (prefixE S e1 != prefixE S e2) = true := by simp [q2]
      have b4 : (prefixE S e2 != prefixE S e1) = true := by simp [Ne.symm q2]
      rw [b1, b2, b3, b4]
      simp
      omega
  · have b1 : (e1.prio != e2.prio) = true := by simp [q1]
    have b2 : (e2.prio != e1.prio) = true := by simp [Ne.symm q1]
    rw [b1, b2]
    simp
    omega
theorem beatsE_self {S : Sch} {e : SEntry} {n : Int} : beatsE S e n e n = false := by
  rw [beatsE_def]
  simp
theorem GenS.slen {S : Sch} (h : GenS S) (h2 : S.headers.length ≤ 1000000) (h3 : S.states.length ≤ 1000000) (h4 : S.roles.length ≤ 1000000) : SLen S := ⟨by have := h.fl; omega, h2, h3, by have := h.al; omega, by have := h.tl; omega, h4⟩
def p_EntryBeats : List AV → AHeap → (AV → Prop) → Prop
  | [.slice _ 1 l1, .slice _ 1 l2, .int .i64 n, .int .i64 a, .int .i64 b, .agg l5], _, K => ∃ (e0 : SEntry) (n0 r0 : Int), (isB l1 ∧ isB l2 ∧ -9223372036854775808 ≤ n ∧ n < 9223372036854775808 ∧ l5 = instC e0 n0 r0 ∧ e0.ms.length ≤ 140737488355328) ∧ K (.bool true)
  | _, _, _ => False
set_option maxHeartbeats 8000000 in
theorem ok_EntryBeats : EntOk Try.prog 5 (Ent.pure p_EntryBeats) := by
  refine EntOk.pure fun args H K h => ?_
  unfold p_EntryBeats at h
  split at h
  rotate_left
  · exact h.elim
  rename_i m1 l1 m2 l2 n na nb l5
  obtain ⟨e0, n0, r0, ⟨c1, c2, hn1, hn2, rfl, hl0⟩, hK⟩ := h
  refine ⟨_, hK, ?_⟩
  clear hK
  obtain ⟨x1, rfl⟩ := isB_out c1
  obtain ⟨x2, rfl⟩ := isB_out c2
  clear c1 c2
  obtain ⟨B1, hB1⟩ : ∃ B1, x1.take (min (x1.length : Int) 120).toNat = B1 := ⟨_, rfl⟩
  obtain ⟨B2, hB2⟩ : ∃ B2, x2.take (min (x2.length : Int) 40).toNat = B2 := ⟨_, rfl⟩
  have hL1 : B1.length ≤ 1000000 := by rw [← hB1, List.length_take]; omega
  have hL2 : B2.length ≤ 1000000 := by rw [← hB2, List.length_take]; omega
  have hG := genS_ok B1 0
  have hSl : SLen (gSchema B1 0).1 := (genS_ok B1 0).slen (by simp only [gSchema]; decide) (by
    show (gStates B1 (cp 0 2)).1.length ≤ 1000000
    unfold gStates
    split <;> split <;> simp) (by simp [gSchema, gRoles])
  generalize hS : gSchema B1 0 = SS at *
  obtain ⟨S, w1⟩ := SS
  dsimp only at hG hSl
  have hz1 : zod B1 0 = codV B1 (cp 0 0) := zod_codV
  have hz2 : zod B2 0 = codV B2 (cp 0 0) := zod_codV
  have hE := gEntry_ok hG (b := B2) (v := 0) (n := n)
  have htm := tableAt_mem (S := S) (n := n) hG.t1
  have hkl := hG.kl _ htm
  have hst : (gsEntry S n B2 0) = (entryAV (gEntry S B2 0 n).1, (gEntry S B2 0 n).2) := rfl
  generalize he : gEntry S B2 0 n = ee at *
  obtain ⟨e1, w2⟩ := ee
  dsimp only at hE hst
  have hE2 := gEntry_ok hG (b := B2) (v := w2) (n := n)
  have hst2 : (gsEntry S n B2 w2) = (entryAV (gEntry S B2 w2 n).1, (gEntry S B2 w2 n).2) := rfl
  generalize he2 : gEntry S B2 w2 n = ee at *
  obtain ⟨e2, w3⟩ := ee
  dsimp only at hE2 hst2
  have hk := fun t ht => Nat.le_trans (hG.kl t ht) (show 100 ≤ 1000000 by decide)
  have p0 : PLen S e0 := ⟨hSl, hk, hl0⟩
  have p1 : PLen S e1 := ⟨hSl, hk, by have := hE.ml; omega⟩
  have p2 : PLen S e2 := ⟨hSl, hk, by have := hE2.ml; omega⟩
  refine ACalls.of_aw (Ω := [(12, Ent.effect e_ZNew), (13, Ent.effect e_CSchema), (14, Ent.effect e_CEntry), (29, Ent.pure p_eBeats), (30, Ent.pure p_rBeats), (22, Ent.pure p_begun10)]) (T := assoc [(2, [[], [], [], [1], [], [], [], [], [], [1, 3, 7], [], [], [], [], [1, 3, 7, 9, 12, 13], [1, 3, 7, 9, 12, 13]]), (3, [[], [], [], [0, 1, 2], [], [], [], [0, 1, 2, 3, 4, 5, 6], [], [], [3, 7], [3, 7], [3, 7], [0, 1, 2, 3, 4, 5, 6, 7, 10, 11, 12], [3, 7], [3, 7], [3, 7], [0, 1, 2, 3, 4, 5, 6, 7, 10, 11, 12, 13, 14, 15, 16], [], [], [], [3, 7, 13, 17], [3, 7, 13, 17], [3, 7, 13, 17], [0, 1, 2, 3, 4, 5, 6, 7, 10, 11, 12, 13, 14, 15, 16, 17, 21, 22, 23], [3, 7, 13, 17], [3, 7, 13, 17], [3, 7, 13, 17], [0, 1, 2, 3, 4, 5, 6, 7, 10, 11, 12, 13, 14, 15, 16, 17, 21, 22, 23, 24, 25, 26, 27]]), (5, [[], [], [], [], [], [], [], [4, 5, 6], [], [], [], [4, 5, 6, 7, 8, 9, 10], [], [], [], [7, 11], [7, 11], [7, 11], [4, 5, 6, 7, 8, 9, 10, 11, 15, 16, 17], [], [], [], [4, 5, 6, 7, 8, 9, 10, 11, 15, 16, 17, 18]]), (802, [[12, 67], [13, 67]])]) mixed (TblOk.cons ok_ZNew (TblOk.cons ok_CSchema (TblOk.cons ok_CEntry (TblOk.cons ok_eBeats (TblOk.cons ok_rBeats (TblOk.cons ok_begun10 TblOk.nil)))))) Try.func5 (by kernel_rfl) (by rfl) (rs := [.tmp 12]) (by rfl) (by kernel_rfl) (by simp only [Try.ntmps5, yaz, yba]; decide) (Nat.le_refl _) fun hcl hlt => ?_
  change aw _ _ _ (KI Try.prog [(12, Ent.effect e_ZNew), (13, Ent.effect e_CSchema), (14, Ent.effect e_CEntry), (29, Ent.pure p_eBeats), (30, Ent.pure p_rBeats), (22, Ent.pure p_begun10)] (aEnd Try.prog [.tmp 12] H.nx _ _ (assoc [(2, [[], [], [], [1], [], [], [], [], [], [1, 3, 7], [], [], [], [], [1, 3, 7, 9, 12, 13], [1, 3, 7, 9, 12, 13]]), (3, [[], [], [], [0, 1, 2], [], [], [], [0, 1, 2, 3, 4, 5, 6], [], [], [3, 7], [3, 7], [3, 7], [0, 1, 2, 3, 4, 5, 6, 7, 10, 11, 12], [3, 7], [3, 7], [3, 7], [0, 1, 2, 3, 4, 5, 6, 7, 10, 11, 12, 13, 14, 15, 16], [], [], [], [3, 7, 13, 17], [3, 7, 13, 17], [3, 7, 13, 17], [0, 1, 2, 3, 4, 5, 6, 7, 10, 11, 12, 13, 14, 15, 16, 17, 21, 22, 23], [3, 7, 13, 17], [3, 7, 13, 17], [3, 7, 13, 17], [0, 1, 2, 3, 4, 5, 6, 7, 10, 11, 12, 13, 14, 15, 16, 17, 21, 22, 23, 24, 25, 26, 27]]), (5, [[], [], [], [], [], [], [], [4, 5, 6], [], [], [], [4, 5, 6, 7, 8, 9, 10], [], [], [], [7, 11], [7, 11], [7, 11], [4, 5, 6, 7, 8, 9, 10, 11, 15, 16, 17], [], [], [], [4, 5, 6, 7, 8, 9, 10, 11, 15, 16, 17, 18]]), (802, [[12, 67], [13, 67]])])) []) _ _
  clear hlt
  simp only [go_sem, reduceCtorEq, Nat.reduceEqDiff, Nat.reduceAdd, Nat.reduceMul, Nat.reduceSub, Nat.reduceLeDiff, Nat.reduceLT, Int.reduceMul, Int.reduceAdd, Int.reduceSub, Int.reduceToNat, e_ZNew]
  refine ⟨x1, ⟨rfl, by omega⟩, ?_⟩
  rw [hB1, hz1]
  have hSch : e_CSchema = eG fun b v => (schAV (gSchema b v).1, (gSchema b v).2) := rfl
  simp only [blkE, blkP, bhq, Nat.reduceMod, Nat.reduceDiv, stepH, stepM, toMs1, toMs, toMs0, strK, pubK, pubF, pubV, yaq, yar, yao, yap, go_sem, reduceCtorEq, Nat.reduceEqDiff, Nat.reduceAdd, Nat.reduceMul, Nat.reduceSub, Nat.reduceLeDiff, Nat.reduceLT, Int.reduceMul, Int.reduceAdd, Int.reduceSub, Int.reduceToNat, e_ZNew, hSch, eG, onC_cod hL1, Nat.zero_min, cp0, hS, schAV, schC]
  refine ⟨x2, ⟨rfl, by omega⟩, ?_⟩
  rw [hB2, hz2]
  simp only [blkE, blkP, bhq, Nat.reduceMod, Nat.reduceDiv, stepH, stepM, toMs1, toMs, toMs0, strK, pubK, pubF, pubV, yaq, yar, yao, yap, go_sem, reduceCtorEq, Nat.reduceEqDiff, Nat.reduceAdd, Nat.reduceMul, Nat.reduceSub, Nat.reduceLeDiff, Nat.reduceLT, Int.reduceMul, Int.reduceAdd, Int.reduceSub, Int.reduceToNat, e_ZNew, hSch, eG, onC_cod hL1, Nat.zero_min, cp0, hS, schAV, schC]
  refine ⟨S, ⟨rfl, hG, hn1, hn2⟩, ?_⟩
  simp only [blkE, blkP, bhq, Nat.reduceMod, Nat.reduceDiv, stepH, stepM, toMs1, toMs, toMs0, strK, pubK, pubF, pubV, yaq, yar, yao, yap, go_sem, reduceCtorEq, Nat.reduceEqDiff, Nat.reduceAdd, Nat.reduceMul, Nat.reduceSub, Nat.reduceLeDiff, Nat.reduceLT, Int.reduceMul, Int.reduceAdd, Int.reduceSub, Int.reduceToNat, onS_cod hL2 (st_entry _ _), hst, hst2, entryAV, entryC, eG_onS, cp0]
  refine ⟨S, ⟨rfl, hG, hn1, hn2⟩, ?_⟩
  simp only [blkE, blkP, bhq, Nat.reduceMod, Nat.reduceDiv, stepH, stepM, toMs1, toMs, toMs0, strK, pubK, pubF, pubV, yaq, yar, yao, yap, go_sem, reduceCtorEq, Nat.reduceEqDiff, Nat.reduceAdd, Nat.reduceMul, Nat.reduceSub, Nat.reduceLeDiff, Nat.reduceLT, Int.reduceMul, Int.reduceAdd, Int.reduceSub, Int.reduceToNat, onS_cod hL2 (st_entry _ _), hst, hst2, entryAV, entryC, instC, yal, yak, eG_onS, cp0, p_eBeats, p_rBeats, bne_self_eq_false]
  refine ⟨S, e1, na, 0, e2, nb, 0, ⟨rfl, rfl, rfl, p1, p2⟩, S, e1, na, 0, e2, nb, 0, ⟨rfl, rfl, rfl, p1, p2⟩, ?_⟩
  refine both_split (fun h => by simp at h) (fun _ => ?_)
  refine ⟨S, e0, n0, r0, e1, na, 0, ⟨rfl, rfl, rfl, p0, p1⟩, S, e0, n0, r0, e1, na, 0, ⟨rfl, rfl, rfl, p0, p1⟩, ?_⟩
  refine both_split (fun h => by simp at h) (fun _ => ?_)
  refine ⟨S, e1, na, 0, e0, n0, r0, ⟨rfl, rfl, rfl, p1, p0⟩, S, e1, na, 0, e0, n0, r0, ⟨rfl, rfl, rfl, p1, p0⟩, ?_⟩
  refine cond_split (fun h => by simp at h) (fun _ => ?_)
  by_cases hq : na = nb
  · have dq : (na == nb) = true := by simp [hq]
    simp only [blkE, blkP, bhq, Nat.reduceMod, Nat.reduceDiv, stepH, stepM, toMs1, toMs, toMs0, strK, pubK, pubF, pubV, yaq, yar, yao, yap, go_sem, reduceCtorEq, Nat.reduceEqDiff, Nat.reduceAdd, Nat.reduceMul, Nat.reduceSub, Nat.reduceLeDiff, Nat.reduceLT, Int.reduceMul, Int.reduceAdd, Int.reduceSub, Int.reduceToNat, onS_cod hL2 (st_entry _ _), entryAV, entryC, instC, yal, yak, p_eBeats, p_rBeats, dq, p_begun10]
    refine ⟨S, e1, na, 0, e1, na, 0, ⟨rfl, rfl, rfl, p1, p1⟩, ?_⟩
    try simp only [blkE, blkP, bhq, Nat.reduceMod, Nat.reduceDiv, stepH, stepM, toMs1, toMs, toMs0, strK, pubK, pubF, pubV, yaq, yar, yao, yap, go_sem, reduceCtorEq, Nat.reduceEqDiff, Nat.reduceAdd, Nat.reduceMul, Nat.reduceSub, Nat.reduceLeDiff, Nat.reduceLT, Int.reduceMul, Int.reduceAdd, Int.reduceSub, Int.reduceToNat, onS_cod hL2 (st_entry _ _), entryAV, entryC, instC, yal, yak, p_eBeats, p_rBeats, dq, p_begun10, beatsE_self, Bool.not_false]
    simp (disch := first | assumption | omega | (simp; done) | (simp; omega) | (simp only [bt, and_true]; first | done | omega | (simp; done))) [↓zlq, beq, ybc, ybd, ybe, endOk, wk, wk2, wk1, wkM, wkL, wkLL, ybf, hcl]
    first | done | repeat (first | exact AHeap.Le.refl _ | refine AHeap.Le.push ?_ _)
  · have dq : (na == nb) = false := by simp [hq]
    simp only [blkE, blkP, bhq, Nat.reduceMod, Nat.reduceDiv, stepH, stepM, toMs1, toMs, toMs0, strK, pubK, pubF, pubV, yaq, yar, yao, yap, go_sem, reduceCtorEq, Nat.reduceEqDiff, Nat.reduceAdd, Nat.reduceMul, Nat.reduceSub, Nat.reduceLeDiff, Nat.reduceLT, Int.reduceMul, Int.reduceAdd, Int.reduceSub, Int.reduceToNat, onS_cod hL2 (st_entry _ _), entryAV, entryC, instC, yal, yak, p_eBeats, p_rBeats, dq, p_begun10]
    refine ⟨S, e1, na, 0, e2, nb, 0, ⟨rfl, rfl, rfl, p1, p2⟩, ?_⟩
    refine ⟨S, e2, nb, 0, e1, na, 0, ⟨rfl, rfl, rfl, p2, p1⟩, ?_⟩
    have ha := beatsE_anti (S := S) (e1 := e1) (e2 := e2) hq
    refine both_split (fun _ => ?_) (fun h => absurd h (by simp at ha ⊢; exact ha))
    refine ⟨S, e1, na, 0, e1, na, 0, ⟨rfl, rfl, rfl, p1, p1⟩, ?_⟩
    rw [beatsE_self]
    refine both_split (fun _ => ?_) (fun h => absurd h (by decide))
    simp (disch := first | assumption | omega | (simp; done) | (simp; omega) | (simp only [bt, and_true]; first | done | omega | (simp; done))) [↓zlq, beq, ybc, ybd, ybe, endOk, wk, wk2, wk1, wkM, wkL, wkLL, ybf, hcl]
    first | done | repeat (first | exact AHeap.Le.refl _ | refine AHeap.Le.push ?_ _)
end Go.AL

