/- Contracts and plain laws, a part of the proof; no condition of its own. -/
import Derived.Test.YtgihhefckdgeoaaS10t
open List renaming length_cons → yaz, length_nil → yba, take_of_length_le → ybc, drop_append → ybd, take_append → ybe, drop_eq_nil_of_le → ybf, length_map → ybb, map_nil → yaf, cons_append → yal, nil_append → yak, take_succ_cons → yaq, take_zero → yar, drop_succ_cons → yao, drop_zero → yap
open Go Go.AL Go.Proofs
namespace Go.AL
set_option linter.all false
set_option maxRecDepth 10000

def p_PfxC : List AV → AHeap → (AV → Prop) → Prop
  | [x], H, K => ∃ t, x = keyAV t ∧ K (.bool (t.kind == 2))
  | _, _, _ => False
theorem ok_PfxC : EntOk Try.prog 86 (Ent.pure p_PfxC) := by
  refine EntOk.pure fun args H K h => ?_
  unfold p_PfxC at h
  split at h
  rotate_left
  · exact h.elim
  rename_i x
  obtain ⟨t, rfl, hK⟩ := h
  refine ⟨_, hK, ?_⟩
  clear hK
  unfold keyAV
  refine ACalls.of_aw (Ω := []) (T := assoc []) mixed TblOk.nil Try.func86 (by kernel_rfl) (by rfl) (rs := [.tmp 2]) (by rfl) (by kernel_rfl) (by simp only [Try.ntmps86, yaz, yba]; decide) (Nat.le_refl _) fun hcl hlt => ?_
  change aw _ _ _ (KI Try.prog [] (aEnd Try.prog [.tmp 2] H.nx _ _) []) _ _
  clear hlt
  simp only [go_sem, reduceCtorEq, Nat.reduceEqDiff, Nat.reduceAdd, Nat.reduceMul, Nat.reduceSub, Nat.reduceLeDiff, Nat.reduceLT, Int.reduceMul, Int.reduceAdd, Int.reduceSub, Int.reduceToNat]
  (repeat with_reducible refine And.intro (by first | exact True.intro | decide | omega | (simp [zhx, zge, zgf, zgg, zgi, zgh, zgm]; first | done | omega)) ?_)
  simp (disch := first | assumption | omega | (simp; done) | (simp; omega) | (simp only [bt, and_true]; first | done | omega | (simp; done))) [↓zlq, beq, ybc, ybd, ybe, endOk, wk, wk2, wk1, wkM, wkL, wkLL, ybf, hcl]
def p_IdxP : List AV → AHeap → (AV → Prop) → Prop
  | [.slice _ 3 l, .func (.func 86) [] []], H, K => ∃ ts : List SKey, (l = ts.map keyAV ∧ ts.length ≤ 1000000) ∧ K (.int .i64 (ixP (fun t : SKey => t.kind == 2) ts 0))
  | _, _, _ => False
theorem ok_IdxP : EntOk Try.prog 85 (Ent.pure p_IdxP) := by
  refine EntOk.pure fun args H K h => ?_
  unfold p_IdxP at h
  split at h
  rotate_left
  · exact h.elim
  rename_i m l
  obtain ⟨ts, ⟨rfl, hl⟩, hK⟩ := h
  refine ⟨_, hK, ?_⟩
  clear hK
  generalize hR : ixP (fun t : SKey => t.kind == 2) ts 0 = R
  refine ACalls.of_aw (Ω := [(86, Ent.pure p_PfxC)]) (T := assoc []) mixed (TblOk.cons ok_PfxC TblOk.nil) Try.func85 (by kernel_rfl) (by rfl) (rs := [.tmp 4]) (by rfl) (by kernel_rfl) (by simp only [Try.ntmps85, yaz, yba]; decide) (Nat.le_refl _) fun hcl hlt => ?_
  change aw _ _ _ (KI Try.prog [(86, Ent.pure p_PfxC)] (aEnd Try.prog [.tmp 4] H.nx _ _ (assoc [])) []) _ _
  have hm : AV.lt H.nx (.slice m 3 (ts.map keyAV)) := hlt _ (by simp)
  have hf : AV.lt H.nx (.func (.func 86) [] []) := hlt _ (by simp)
  clear hlt
  simp only [go_sem, reduceCtorEq, Nat.reduceEqDiff, Nat.reduceAdd, Nat.reduceMul, Nat.reduceSub, Nat.reduceLeDiff, Nat.reduceLT, Int.reduceMul, Int.reduceAdd, Int.reduceSub, Int.reduceToNat, ybb]
  refine loop_introW (A := Nat) (fun k => [(0, .slice m 3 (ts.map keyAV)), (1, .func (.func 86) [] []), (7, .int .i64 (ts.length : Int)), (8, .int .i64 (k : Int))]) (fun _ => H) (fun k => k ≤ ts.length ∧ ixP (fun t : SKey => t.kind == 2) (ts.drop k) k = R) (fun k => ts.length - k) 0 ⟨by omega, hR⟩ ?_ fun k hk => ?_
  · refine ⟨Nat.le_refl _, AHeap.Le.refl _, hcl, ?_, ?_⟩
    · simp [ltF, zmh, hm, hf]
    · simp [subW, wk2, wk1, wkM, Fr.get]
  clear hR
  obtain ⟨hk, hR⟩ := hk
  simp only [go_sem, reduceCtorEq, Nat.reduceEqDiff, Nat.reduceAdd, Nat.reduceMul, Nat.reduceSub, Nat.reduceLeDiff, Nat.reduceLT, Int.reduceMul, Int.reduceAdd, Int.reduceSub, Int.reduceToNat]
  refine cond_split (fun hc => ?_) (fun hc => ?_)
  · have hk' : k < ts.length := by simp at hc; omega
    obtain ⟨x, hx⟩ : ∃ x, x = ts[k] := ⟨_, rfl⟩
    have hd : ts.drop k = x :: ts.drop (k + 1) := by rw [hx]; exact List.drop_eq_getElem_cons hk'
    have hg' := getD_map (f := keyAV) (l := ts) (k := k) (x := x) (by rw [List.getElem?_eq_getElem hk', hx])
    have e5 : IntKind.i64.wrap ((k : Int) + 1) = ((k + 1 : Nat) : Int) := by rw [wrap_i64] <;> omega
    have hcell : (keyAV x).cells.length = 3 := rfl
    rw [hd] at hR
    unfold ixP at hR
    have hag : ∃ cs, keyAV x = .agg cs ∧ cs.length = 3 := ⟨_, rfl, rfl⟩
    obtain ⟨cs, hcs, hcl3⟩ := hag
    have hts : List.take 3 cs = cs := ybc (by omega)
    simp only [go_sem, reduceCtorEq, Nat.reduceEqDiff, Nat.reduceAdd, Nat.reduceMul, Nat.reduceSub, Nat.reduceLeDiff, Nat.reduceLT, Int.reduceMul, Int.reduceAdd, Int.reduceSub, Int.reduceToNat, Int.toNat_natCast, ybb, hg', hcs, hcl3, hts, p_PfxC]
    (repeat with_reducible refine And.intro (by first | exact True.intro | decide | omega | (simp [zhx, zge, zgf, zgg, zgi, zgh, zgm]; first | done | omega)) ?_)
    refine ⟨x, hcs.symm, ?_⟩
    try simp only [blkP, go_sem, reduceCtorEq, Nat.reduceEqDiff, Nat.reduceAdd, Nat.reduceMul, Nat.reduceSub, Nat.reduceLeDiff, Nat.reduceLT, Int.reduceMul, Int.reduceAdd, Int.reduceSub, Int.reduceToNat]
    (repeat with_reducible refine And.intro (by first | exact True.intro | decide | omega | (simp [zhx, zge, zgf, zgg, zgi, zgh, zgm]; first | done | omega)) ?_)
    refine cond_split (fun hq => ?_) (fun hq => ?_)
    · rw [if_pos hq] at hR
      subst hR
      simp only [go_sem, reduceCtorEq, Nat.reduceEqDiff, Nat.reduceAdd, Nat.reduceMul, Nat.reduceSub, Nat.reduceLeDiff, Nat.reduceLT, Int.reduceMul, Int.reduceAdd, Int.reduceSub, Int.reduceToNat]
      simp (disch := first | assumption | omega | (simp; done) | (simp; omega) | (simp only [bt, and_true]; first | done | omega | (simp; done))) [↓zlq, beq, ybc, ybd, ybe, endOk, wk, wk2, wk1, wkM, wkL, wkLL, ybf, hcl]
    · rw [if_neg (by rw [hq]; decide)] at hR
      simp only [go_sem, reduceCtorEq, Nat.reduceEqDiff, Nat.reduceAdd, Nat.reduceMul, Nat.reduceSub, Nat.reduceLeDiff, Nat.reduceLT, Int.reduceMul, Int.reduceAdd, Int.reduceSub, Int.reduceToNat, e5]
      refine ⟨k + 1, ⟨by omega, hR⟩, by omega, Nat.le_refl _, AHeap.Le.refl _, hcl, ?_, ?_⟩
      · simp [ltF, zmh, hm, hf]
      · simp [subW, wk2, wk1, wkM, Fr.get]
  · have hk' : k = ts.length := by simp at hc; omega
    subst hk'
    rw [List.drop_length] at hR
    unfold ixP at hR
    subst hR
    simp only [go_sem, reduceCtorEq, Nat.reduceEqDiff, Nat.reduceAdd, Nat.reduceMul, Nat.reduceSub, Nat.reduceLeDiff, Nat.reduceLT, Int.reduceMul, Int.reduceAdd, Int.reduceSub, Int.reduceToNat]
    simp (disch := first | assumption | omega | (simp; done) | (simp; omega) | (simp only [bt, and_true]; first | done | omega | (simp; done))) [↓zlq, beq, ybc, ybd, ybe, endOk, wk, wk2, wk1, wkM, wkL, wkLL, ybf, hcl]
def pfxAt (ms : List SMatch) (i : Int) : Int := if i < 0 ∨ (ms.length : Int) ≤ i then 0 else (ms.getD i.toNat noMatch).pfx
def prefixE (S : Sch) (e : SEntry) : Int := match tabF S e.table with | some t => pfxAt e.ms (ixP (fun k : SKey => k.kind == 2) t.keys 0) | none => 0
structure PLen (S : Sch) (e : SEntry) : Prop where
  s : SLen S
  k : ∀ t ∈ S.tables, t.keys.length ≤ 1000000
  m : e.ms.length ≤ 140737488355328
def p_ePrefix : List AV → AHeap → (AV → Prop) → Prop
  | [.agg l, .agg le], _, K => ∃ (S : Sch) (e : SEntry), (l = schC S ∧ le = entryC e ∧ PLen S e) ∧ K (.int .i64 (prefixE S e))
  | _, _, _ => False
set_option maxHeartbeats 2000000 in
theorem ok_ePrefix : EntOk Try.prog 27 (Ent.pure p_ePrefix) := by
  refine EntOk.pure fun args H K h => ?_
  unfold p_ePrefix at h
  split at h
  rotate_left
  · exact h.elim
  rename_i l le
  obtain ⟨S, e, ⟨rfl, rfl, hS, hk, hm⟩, hK⟩ := h
  refine ⟨_, hK, ?_⟩
  clear hK
  unfold prefixE
  have h1 := hS.tl
  cases ht : tabF S e.table with
  | none =>
    dsimp only
    refine ACalls.of_aw (Ω := [(76, Ent.pure p_eTable), (85, Ent.pure p_IdxP)]) (T := assoc []) mixed (TblOk.cons ok_eTable (TblOk.cons ok_IdxP TblOk.nil)) Try.func27 (by kernel_rfl) (by rfl) (rs := [.tmp 4]) (by rfl) (by kernel_rfl) (by simp only [Try.ntmps27, yaz, yba]; decide) (Nat.le_refl _) fun hcl hlt => ?_
    change aw _ _ _ (KI Try.prog [(76, Ent.pure p_eTable), (85, Ent.pure p_IdxP)] (aEnd Try.prog [.tmp 4] H.nx _ _ (assoc [])) []) _ _
    clear hlt
    simp only [go_sem, reduceCtorEq, Nat.reduceEqDiff, Nat.reduceAdd, Nat.reduceMul, Nat.reduceSub, Nat.reduceLeDiff, Nat.reduceLT, Int.reduceMul, Int.reduceAdd, Int.reduceSub, Int.reduceToNat, schC, entryC, p_eTable]
    refine ⟨S, ⟨rfl, h1⟩, ?_⟩
    rw [ht]
    simp only [blkP, go_sem, reduceCtorEq, Nat.reduceEqDiff, Nat.reduceAdd, Nat.reduceMul, Nat.reduceSub, Nat.reduceLeDiff, Nat.reduceLT, Int.reduceMul, Int.reduceAdd, Int.reduceSub, Int.reduceToNat, tableAV, noTable, yaf, inL, p_IdxP]
    refine ⟨[], ⟨rfl, by decide⟩, ?_⟩
    try simp only [blkP, go_sem, reduceCtorEq, Nat.reduceEqDiff, Nat.reduceAdd, Nat.reduceMul, Nat.reduceSub, Nat.reduceLeDiff, Nat.reduceLT, Int.reduceMul, Int.reduceAdd, Int.reduceSub, Int.reduceToNat, Bool.not_false]
    simp (disch := first | assumption | omega | (simp; done) | (simp; omega) | (simp only [bt, and_true]; first | done | omega | (simp; done))) [↓zlq, beq, ybc, ybd, ybe, endOk, wk, wk2, wk1, wkM, wkL, wkLL, ybf, hcl]
    first | done | repeat (first | exact AHeap.Le.refl _ | refine AHeap.Le.push ?_ _)
  | some t =>
    dsimp only
    have hkl := hk t (List.mem_of_find?_eq_some ht)
    obtain ⟨b1, b2⟩ := ixP_lt (q := fun k : SKey => k.kind == 2) (l := t.keys) (k := 0)
    generalize hi : ixP (fun k : SKey => k.kind == 2) t.keys 0 = i at *
    unfold pfxAt
    by_cases q1 : i < 0
    · rw [if_pos (.inl q1)]
      have d1 : decide (i < 0) = true := decide_eq_true q1
      refine ACalls.of_aw (Ω := [(76, Ent.pure p_eTable), (85, Ent.pure p_IdxP)]) (T := assoc []) mixed (TblOk.cons ok_eTable (TblOk.cons ok_IdxP TblOk.nil)) Try.func27 (by kernel_rfl) (by rfl) (rs := [.tmp 4]) (by rfl) (by kernel_rfl) (by simp only [Try.ntmps27, yaz, yba]; decide) (Nat.le_refl _) fun hcl hlt => ?_
      change aw _ _ _ (KI Try.prog [(76, Ent.pure p_eTable), (85, Ent.pure p_IdxP)] (aEnd Try.prog [.tmp 4] H.nx _ _ (assoc [])) []) _ _
      clear hlt
      simp only [go_sem, reduceCtorEq, Nat.reduceEqDiff, Nat.reduceAdd, Nat.reduceMul, Nat.reduceSub, Nat.reduceLeDiff, Nat.reduceLT, Int.reduceMul, Int.reduceAdd, Int.reduceSub, Int.reduceToNat, schC, entryC, p_eTable]
      refine ⟨S, ⟨rfl, h1⟩, ?_⟩
      rw [ht]
      simp only [blkP, go_sem, reduceCtorEq, Nat.reduceEqDiff, Nat.reduceAdd, Nat.reduceMul, Nat.reduceSub, Nat.reduceLeDiff, Nat.reduceLT, Int.reduceMul, Int.reduceAdd, Int.reduceSub, Int.reduceToNat, tableAV, p_IdxP]
      refine ⟨t.keys, ⟨rfl, hkl⟩, ?_⟩
      rw [hi]
      try simp only [blkP, go_sem, reduceCtorEq, Nat.reduceEqDiff, Nat.reduceAdd, Nat.reduceMul, Nat.reduceSub, Nat.reduceLeDiff, Nat.reduceLT, Int.reduceMul, Int.reduceAdd, Int.reduceSub, Int.reduceToNat, Bool.not_true, d1]
      simp (disch := first | assumption | omega | (simp; done) | (simp; omega) | (simp only [bt, and_true]; first | done | omega | (simp; done))) [↓zlq, beq, ybc, ybd, ybe, endOk, wk, wk2, wk1, wkM, wkL, wkLL, ybf, hcl]
      first | done | repeat (first | exact AHeap.Le.refl _ | refine AHeap.Le.push ?_ _)
    obtain ⟨n, rfl⟩ : ∃ n : Nat, i = (n : Int) := ⟨i.toNat, by omega⟩
    have d1 : decide ((n : Int) < 0) = false := decide_eq_false q1
    by_cases q2 : (e.ms.length : Int) ≤ (n : Int)
    · rw [if_pos (.inr q2)]
      have d2 : decide ((n : Int) ≥ (e.ms.length : Int)) = true := decide_eq_true q2
      refine ACalls.of_aw (Ω := [(76, Ent.pure p_eTable), (85, Ent.pure p_IdxP)]) (T := assoc []) mixed (TblOk.cons ok_eTable (TblOk.cons ok_IdxP TblOk.nil)) Try.func27 (by kernel_rfl) (by rfl) (rs := [.tmp 4]) (by rfl) (by kernel_rfl) (by simp only [Try.ntmps27, yaz, yba]; decide) (Nat.le_refl _) fun hcl hlt => ?_
      change aw _ _ _ (KI Try.prog [(76, Ent.pure p_eTable), (85, Ent.pure p_IdxP)] (aEnd Try.prog [.tmp 4] H.nx _ _ (assoc [])) []) _ _
      clear hlt
      simp only [go_sem, reduceCtorEq, Nat.reduceEqDiff, Nat.reduceAdd, Nat.reduceMul, Nat.reduceSub, Nat.reduceLeDiff, Nat.reduceLT, Int.reduceMul, Int.reduceAdd, Int.reduceSub, Int.reduceToNat, schC, entryC, p_eTable]
      refine ⟨S, ⟨rfl, h1⟩, ?_⟩
      rw [ht]
      simp only [blkP, go_sem, reduceCtorEq, Nat.reduceEqDiff, Nat.reduceAdd, Nat.reduceMul, Nat.reduceSub, Nat.reduceLeDiff, Nat.reduceLT, Int.reduceMul, Int.reduceAdd, Int.reduceSub, Int.reduceToNat, tableAV, p_IdxP]
      refine ⟨t.keys, ⟨rfl, hkl⟩, ?_⟩
      rw [hi]
      try simp only [blkP, go_sem, reduceCtorEq, Nat.reduceEqDiff, Nat.reduceAdd, Nat.reduceMul, Nat.reduceSub, Nat.reduceLeDiff, Nat.reduceLT, Int.reduceMul, Int.reduceAdd, Int.reduceSub, Int.reduceToNat, Bool.not_true, d1, d2, ybb]
      simp (disch := first | assumption | omega | (simp; done) | (simp; omega) | (simp only [bt, and_true]; first | done | omega | (simp; done))) [↓zlq, beq, ybc, ybd, ybe, endOk, wk, wk2, wk1, wkM, wkL, wkLL, ybf, hcl]
      first | done | repeat (first | exact AHeap.Le.refl _ | refine AHeap.Le.push ?_ _)
    rw [if_neg (by omega), Int.toNat_natCast]
    have d2 : decide ((n : Int) ≥ (e.ms.length : Int)) = false := decide_eq_false q2
    have hml : n < e.ms.length := by omega
    obtain ⟨m, hmm⟩ : ∃ m, m = e.ms[n] := ⟨_, rfl⟩
    have hmg := getD_map (f := matchAV) (l := e.ms) (k := n) (x := m) (by rw [List.getElem?_eq_getElem hml, hmm])
    have hmd : e.ms.getD n noMatch = m := by rw [List.getD_eq_getElem?_getD, List.getElem?_eq_getElem hml, hmm]; rfl
    rw [hmd]
    refine ACalls.of_aw (Ω := [(76, Ent.pure p_eTable), (85, Ent.pure p_IdxP)]) (T := assoc []) mixed (TblOk.cons ok_eTable (TblOk.cons ok_IdxP TblOk.nil)) Try.func27 (by kernel_rfl) (by rfl) (rs := [.tmp 4]) (by rfl) (by kernel_rfl) (by simp only [Try.ntmps27, yaz, yba]; decide) (Nat.le_refl _) fun hcl hlt => ?_
    change aw _ _ _ (KI Try.prog [(76, Ent.pure p_eTable), (85, Ent.pure p_IdxP)] (aEnd Try.prog [.tmp 4] H.nx _ _ (assoc [])) []) _ _
    clear hlt
    simp only [go_sem, reduceCtorEq, Nat.reduceEqDiff, Nat.reduceAdd, Nat.reduceMul, Nat.reduceSub, Nat.reduceLeDiff, Nat.reduceLT, Int.reduceMul, Int.reduceAdd, Int.reduceSub, Int.reduceToNat, schC, entryC, p_eTable]
    refine ⟨S, ⟨rfl, h1⟩, ?_⟩
    rw [ht]
    simp only [blkP, go_sem, reduceCtorEq, Nat.reduceEqDiff, Nat.reduceAdd, Nat.reduceMul, Nat.reduceSub, Nat.reduceLeDiff, Nat.reduceLT, Int.reduceMul, Int.reduceAdd, Int.reduceSub, Int.reduceToNat, tableAV, p_IdxP]
    refine ⟨t.keys, ⟨rfl, hkl⟩, ?_⟩
    rw [hi]
    try simp only [blkP, go_sem, reduceCtorEq, Nat.reduceEqDiff, Nat.reduceAdd, Nat.reduceMul, Nat.reduceSub, Nat.reduceLeDiff, Nat.reduceLT, Int.reduceMul, Int.reduceAdd, Int.reduceSub, Int.reduceToNat, Bool.not_true, d1, d2, ybb, Int.toNat_natCast, hmg, matchAV, matchC, vc, yal, yak]
    (repeat with_reducible refine And.intro (by first | exact True.intro | decide | omega | (simp [zhx, zge, zgf, zgg, zgi, zgh, zgm]; first | done | omega)) ?_)
    simp (disch := first | assumption | omega | (simp; done) | (simp; omega) | (simp only [bt, and_true]; first | done | omega | (simp; done))) [↓zlq, beq, ybc, ybd, ybe, endOk, wk, wk2, wk1, wkM, wkL, wkLL, ybf, hcl]
    first | done | repeat (first | exact AHeap.Le.refl _ | refine AHeap.Le.push ?_ _)
def p_rPrefix : List AV → AHeap → (AV → Prop) → Prop
  | [.agg l, .agg le], _, K => ∃ (S : Sch) (e : SEntry), (l = schC S ∧ le = entryC e ∧ PLen S e) ∧ K (.int .i64 (prefixE S e))
  | _, _, _ => False
theorem tabF_none {S : Sch} {n : Int} (h : tabF S n = none) : ixP (fun f : STable => f.id == n) S.tables 0 = -1 := by
  obtain ⟨b1, b2⟩ := ixP_lt (q := fun f : STable => f.id == n) (l := S.tables) (k := 0)
  rcases b2 with b2 | b2
  · exact b2
  obtain ⟨i, hi⟩ : ∃ i : Nat, ixP (fun f : STable => f.id == n) S.tables 0 = ((0 + i : Nat) : Int) := ⟨(ixP (fun f : STable => f.id == n) S.tables 0).toNat, by omega⟩
  obtain ⟨x, h1, h2, h3⟩ := ixP_get hi
  unfold tabF at h
  rw [h3] at h
  cases h
set_option maxHeartbeats 2000000 in
theorem ok_rPrefix : EntOk Try.prog 28 (Ent.pure p_rPrefix) := by
  refine EntOk.pure fun args H K h => ?_
  unfold p_rPrefix at h
  split at h
  rotate_left
  · exact h.elim
  rename_i l le
  obtain ⟨S, e, ⟨rfl, rfl, hS, hk, hm⟩, hK⟩ := h
  refine ⟨_, hK, ?_⟩
  clear hK
  unfold prefixE
  cases ht : tabF S e.table with
  | none =>
    dsimp only
    have hi := tabF_none ht
    refine ACalls.of_aw (Ω := [(83, Ent.pure p_rTableOf)]) (T := assoc []) mixed (TblOk.cons ok_rTableOf TblOk.nil) Try.func28 (by kernel_rfl) (by rfl) (rs := [.tmp 4]) (by rfl) (by kernel_rfl) (by simp only [Try.ntmps28, yaz, yba]; decide) (Nat.le_refl _) fun hcl hlt => ?_
    change aw _ _ _ (KI Try.prog [(83, Ent.pure p_rTableOf)] (aEnd Try.prog [.tmp 4] H.nx _ _ (assoc [])) []) _ _
    clear hlt
    simp only [go_sem, reduceCtorEq, Nat.reduceEqDiff, Nat.reduceAdd, Nat.reduceMul, Nat.reduceSub, Nat.reduceLeDiff, Nat.reduceLT, Int.reduceMul, Int.reduceAdd, Int.reduceSub, Int.reduceToNat, schC, entryC, p_rTableOf]
    refine ⟨S, ⟨rfl, hS⟩, ?_⟩
    rw [hi]
    simp only [blkP, go_sem, reduceCtorEq, Nat.reduceEqDiff, Nat.reduceAdd, Nat.reduceMul, Nat.reduceSub, Nat.reduceLeDiff, Nat.reduceLT, Int.reduceMul, Int.reduceAdd, Int.reduceSub, Int.reduceToNat, show decide ((-1 : Int) < 0) = true from rfl]
    simp (disch := first | assumption | omega | (simp; done) | (simp; omega) | (simp only [bt, and_true]; first | done | omega | (simp; done))) [↓zlq, beq, ybc, ybd, ybe, endOk, wk, wk2, wk1, wkM, wkL, wkLL, ybf, hcl]
    first | done | repeat (first | exact AHeap.Le.refl _ | refine AHeap.Le.push ?_ _)
  | some t =>
    dsimp only
    have hkl := hk t (List.mem_of_find?_eq_some ht)
    obtain ⟨i, hil, hi, hti⟩ := tabF_get ht
    have hgt := getD_map (f := tableAV) (l := S.tables) (k := i) (x := t) hti
    have d1 : decide ((i : Int) < 0) = false := decide_eq_false (by omega)
    generalize hR : pfxAt e.ms (ixP (fun k : SKey => k.kind == 2) t.keys 0) = R
    refine ACalls.of_aw (Ω := [(83, Ent.pure p_rTableOf)]) (T := assoc []) mixed (TblOk.cons ok_rTableOf TblOk.nil) Try.func28 (by kernel_rfl) (by rfl) (rs := [.tmp 4]) (by rfl) (by kernel_rfl) (by simp only [Try.ntmps28, yaz, yba]; decide) (Nat.le_refl _) fun hcl hlt => ?_
    change aw _ _ _ (KI Try.prog [(83, Ent.pure p_rTableOf)] (aEnd Try.prog [.tmp 4] H.nx _ _ (assoc [])) []) _ _
    clear hlt
    simp only [go_sem, reduceCtorEq, Nat.reduceEqDiff, Nat.reduceAdd, Nat.reduceMul, Nat.reduceSub, Nat.reduceLeDiff, Nat.reduceLT, Int.reduceMul, Int.reduceAdd, Int.reduceSub, Int.reduceToNat, schC, entryC, p_rTableOf]
    refine ⟨S, ⟨rfl, hS⟩, ?_⟩
    rw [hi]
    simp only [blkP, go_sem, reduceCtorEq, Nat.reduceEqDiff, Nat.reduceAdd, Nat.reduceMul, Nat.reduceSub, Nat.reduceLeDiff, Nat.reduceLT, Int.reduceMul, Int.reduceAdd, Int.reduceSub, Int.reduceToNat, d1, schC, Int.toNat_natCast, hgt, tableAV, ybb]
    (repeat with_reducible refine And.intro (by first | exact True.intro | decide | omega | (simp [zhx, zge, zgf, zgg, zgi, zgh, zgm]; first | done | omega)) ?_)
    obtain ⟨HB, hHB⟩ : ∃ HB, (H.push (.cells (schC S))).push (.cells (entryC e)) = HB := ⟨_, rfl⟩
    have hclB : HB.Closed := by
      rw [← hHB]
      exact closed_cells (closed_cells hcl (ltL_iff.2 fun j hj => AV.lt_cells (lt_sch S) j hj)) (ltL_iff.2 fun j hj => AV.lt_cells (lt_entry e) j hj)
    have hnB : HB.nx = H.nx + 1 + 1 := by rw [← hHB]; rfl
    refine loop_introW (A := Nat) (fun k => [(3, .ptr (H.nx + 1) 0), (19, .slice .any 3 (t.keys.map keyAV)), (20, .int .i64 (t.keys.length : Int)), (21, .int .i64 (k : Int))]) (fun _ => HB) (fun k => k ≤ t.keys.length ∧ pfxAt e.ms (ixP (fun k : SKey => k.kind == 2) (t.keys.drop k) k) = R) (fun k => t.keys.length - k) 0 ⟨by omega, hR⟩ ?_ fun k hk => ?_
    · refine ⟨by simp only [hnB, zjs, zjx]; omega, by rw [← hHB]; exact AHeap.Le.refl _, hclB, ?_, ?_⟩
      · simp [ltF, hnB, zmp, zmh, lt_map lt_key]
      · simp [subW, wk2, wk1, wkM, Fr.get]
    clear hR
    obtain ⟨hk, hR⟩ := hk
    simp only [go_sem, reduceCtorEq, Nat.reduceEqDiff, Nat.reduceAdd, Nat.reduceMul, Nat.reduceSub, Nat.reduceLeDiff, Nat.reduceLT, Int.reduceMul, Int.reduceAdd, Int.reduceSub, Int.reduceToNat]
    refine cond_split (fun hc => ?_) (fun hc => ?_)
    · have hk' : k < t.keys.length := by simp at hc; omega
      obtain ⟨x, hx⟩ : ∃ x, x = t.keys[k] := ⟨_, rfl⟩
      have hxk : t.keys[k]? = some x := by rw [List.getElem?_eq_getElem hk', hx]
      have hd : t.keys.drop k = x :: t.keys.drop (k + 1) := by rw [hx]; exact List.drop_eq_getElem_cons hk'
      have hkg := getD_map (f := keyAV) (l := t.keys) (k := k) (x := x) hxk
      have e5 : IntKind.i64.wrap ((k : Int) + 1) = ((k + 1 : Nat) : Int) := by rw [wrap_i64] <;> omega
      rw [hd] at hR
      unfold ixP at hR
      rw [← hHB]
      cases hq : (x.kind == 2)
      · rw [hq, if_neg (by decide)] at hR
        simp only [go_sem, reduceCtorEq, Nat.reduceEqDiff, Nat.reduceAdd, Nat.reduceMul, Nat.reduceSub, Nat.reduceLeDiff, Nat.reduceLT, Int.reduceMul, Int.reduceAdd, Int.reduceSub, Int.reduceToNat, schC, entryC, Int.toNat_natCast, ybb, hkg, keyAV, hq]
        (repeat with_reducible refine And.intro (by first | exact True.intro | decide | omega | (simp [zhx, zge, zgf, zgg, zgi, zgh, zgm]; first | done | omega)) ?_)
        simp only [go_sem, reduceCtorEq, Nat.reduceEqDiff, Nat.reduceAdd, Nat.reduceMul, Nat.reduceSub, Nat.reduceLeDiff, Nat.reduceLT, Int.reduceMul, Int.reduceAdd, Int.reduceSub, Int.reduceToNat, e5]
        refine ⟨k + 1, ⟨by omega, hR⟩, by omega, by simp only [zkg]; omega, (AHeap.Le.refl _).push _, by rw [← hHB] at hclB; exact hclB, ?_, ?_⟩
        · simp [ltF, zkg, zmp, zmh, lt_map lt_key]
          try omega
        · simp [subW, wk2, wk1, wkM, Fr.get]
      · rw [hq, if_pos rfl] at hR
        by_cases q2 : (e.ms.length : Int) ≤ (k : Int)
        · have d2 : decide ((k : Int) < (e.ms.length : Int)) = false := decide_eq_false (by omega)
          have hR' : pfxAt e.ms (ixP (fun k : SKey => k.kind == 2) (t.keys.drop (k + 1)) (k + 1)) = R := by
            rw [← hR]
            obtain ⟨b1, b2⟩ := ixP_lt (q := fun k : SKey => k.kind == 2) (l := t.keys.drop (k + 1)) (k := k + 1)
            unfold pfxAt
            rw [if_pos (by omega), if_pos (.inr q2)]
          simp only [go_sem, reduceCtorEq, Nat.reduceEqDiff, Nat.reduceAdd, Nat.reduceMul, Nat.reduceSub, Nat.reduceLeDiff, Nat.reduceLT, Int.reduceMul, Int.reduceAdd, Int.reduceSub, Int.reduceToNat, schC, entryC, Int.toNat_natCast, ybb, hkg, keyAV, hq, d2]
          (repeat with_reducible refine And.intro (by first | exact True.intro | decide | omega | (simp [zhx, zge, zgf, zgg, zgi, zgh, zgm]; first | done | omega)) ?_)
          simp only [go_sem, reduceCtorEq, Nat.reduceEqDiff, Nat.reduceAdd, Nat.reduceMul, Nat.reduceSub, Nat.reduceLeDiff, Nat.reduceLT, Int.reduceMul, Int.reduceAdd, Int.reduceSub, Int.reduceToNat, e5]
          refine ⟨k + 1, ⟨by omega, hR'⟩, by omega, by simp only [zkg]; omega, (AHeap.Le.refl _).push _, by rw [← hHB] at hclB; exact hclB, ?_, ?_⟩
          · simp [ltF, zkg, zmp, zmh, lt_map lt_key]
            try omega
          · simp [subW, wk2, wk1, wkM, Fr.get]
        · have d2 : decide ((k : Int) < (e.ms.length : Int)) = true := decide_eq_true (by omega)
          have hml : k < e.ms.length := by omega
          obtain ⟨m, hmm⟩ : ∃ m, m = e.ms[k] := ⟨_, rfl⟩
          have hmg := getD_map (f := matchAV) (l := e.ms) (k := k) (x := m) (by rw [List.getElem?_eq_getElem hml, hmm])
          have hmd : e.ms.getD k noMatch = m := by rw [List.getD_eq_getElem?_getD, List.getElem?_eq_getElem hml, hmm]; rfl
          unfold pfxAt at hR
          rw [if_neg (by omega), Int.toNat_natCast, hmd] at hR
          subst hR
          simp only [go_sem, reduceCtorEq, Nat.reduceEqDiff, Nat.reduceAdd, Nat.reduceMul, Nat.reduceSub, Nat.reduceLeDiff, Nat.reduceLT, Int.reduceMul, Int.reduceAdd, Int.reduceSub, Int.reduceToNat, schC, entryC, Int.toNat_natCast, ybb, hkg, keyAV, hq, d2, hmg, matchAV, matchC, vc, yal, yak]
          (repeat with_reducible refine And.intro (by first | exact True.intro | decide | omega | (simp [zhx, zge, zgf, zgg, zgi, zgh, zgm]; first | done | omega)) ?_)
          simp (disch := first | assumption | omega | (simp; done) | (simp; omega) | (simp only [bt, and_true]; first | done | omega | (simp; done))) [↓zlq, beq, ybc, ybd, ybe, endOk, wk, wk2, wk1, wkM, wkL, wkLL, ybf, hcl]
          first | done | repeat (first | exact AHeap.Le.refl _ | refine AHeap.Le.push ?_ _)
    · have hk' : k = t.keys.length := by simp at hc; omega
      subst hk'
      rw [List.drop_length] at hR
      unfold ixP pfxAt at hR
      rw [if_pos (.inl (by decide))] at hR
      subst hR
      rw [← hHB]
      simp only [go_sem, reduceCtorEq, Nat.reduceEqDiff, Nat.reduceAdd, Nat.reduceMul, Nat.reduceSub, Nat.reduceLeDiff, Nat.reduceLT, Int.reduceMul, Int.reduceAdd, Int.reduceSub, Int.reduceToNat]
      simp (disch := first | assumption | omega | (simp; done) | (simp; omega) | (simp only [bt, and_true]; first | done | omega | (simp; done))) [↓zlq, beq, ybc, ybd, ybe, endOk, wk, wk2, wk1, wkM, wkL, wkLL, ybf, hcl]
      first | done | repeat (first | exact AHeap.Le.refl _ | refine AHeap.Le.push ?_ _)
end Go.AL


open Go Go.AL Go.Proofs
namespace Go.AL
set_option linter.all false
set_option maxRecDepth 10000

end Go.AL


open Go Go.AL Go.Proofs
namespace Go.AL
set_option linter.all false
set_option maxRecDepth 10000
theorem ti_ppoints : ti Try.prog 63 = some ⟨.slice 45, 1, 24, .slice .nil 1 []⟩ := by kernel_rfl
theorem ti_ppoint : ti Try.prog 45 = some ⟨.array 4 25, 8, 64, .agg [.int .u64 0, .int .u64 0, .int .u64 0, .int .u64 0, .int .u64 0, .int .u64 0, .int .u64 0, .int .u64 0]⟩ := by kernel_rfl
attribute [go_sem] ti_ppoints ti_ppoint
theorem allOne_ptY : ∀ (q : List Nat), allOne (pointC q) = true
  | [] => rfl
  | x :: q => by
    have := allOne_ptY q
    simp only [allOne, pointC, List.flatMap_cons, vc, yal, yak, List.all_cons, AV.one, Bool.true_and] at this ⊢
    exact this
theorem pt_setY : ∀ (q : List Nat) (k y : Nat), k < q.length → splice (pointC q) (k * 2) (vc y) = pointC (q.set k y)
  | x :: q, 0, y, _ => by
    simp only [pointC, List.flatMap_cons, List.set_cons_zero, vc, yal, yak, Nat.zero_mul, splice]
    cases h : List.flatMap vc q with
    | nil => rfl
    | cons c cs => rfl
  | x :: q, k + 1, y, h => by
    have ih := pt_setY q k y (by simpa using h)
    rw [show (k + 1) * 2 = k * 2 + 1 + 1 by omega]
    simp only [pointC, List.flatMap_cons, List.set_cons_succ, vc, yal, yak, splice] at ih ⊢
    rw [ih]
theorem hasF_of {S : Sch} {n : Int} (h : 1 ≤ bitsF S n) : hasF S n := by
  unfold hasF
  obtain ⟨b1, b2⟩ := ixP_lt (q := fun f : SField => f.id == n) (l := S.fields) (k := 0)
  rcases b2 with b2 | b2
  · have := ixP_none b2
    unfold bitsF at h
    rw [bitsL_ix, this] at h
    exact absurd h (by decide)
  · omega
theorem ltL_ptY {n : Nat} {p : List Nat} : ltL n (pointC p) = True := eq_true ltL_pt
theorem low_lt {x : Nat} {w : Int} (h : x < 2 ^ 128) : low x w < 2 ^ 128 := by
  unfold low
  split
  · exact h
  · exact Nat.lt_of_le_of_lt (Nat.mod_le _ _) h
theorem iand127 (a : Int) : 0 ≤ iand .i64 a 127 ∧ iand .i64 a 127 ≤ 127 := by
  have h : (BitVec.ofInt 64 a &&& BitVec.ofInt 64 127).toNat ≤ 127 := by
    rw [BitVec.toNat_and]
    exact Nat.and_le_right
  change 0 ≤ IntKind.i64.wrap ((BitVec.ofInt 64 a &&& BitVec.ofInt 64 127).toNat : Int) ∧ IntKind.i64.wrap ((BitVec.ofInt 64 a &&& BitVec.ofInt 64 127).toNat : Int) ≤ 127
  generalize (BitVec.ofInt 64 a &&& BitVec.ofInt 64 127).toNat = z at *
  rw [wrap_i64] <;> omega
theorem GenS.slen {S : Sch} (h : GenS S) (h2 : S.headers.length ≤ 1000000) (h3 : S.states.length ≤ 1000000) (h4 : S.roles.length ≤ 1000000) : SLen S := ⟨by have := h.fl; omega, h2, h3, by have := h.al; omega, by have := h.tl; omega, h4⟩
theorem slen_gen {b : List UInt8} : SLen (gSchema b 0).1 := (genS_ok b 0).slen (by simp only [gSchema]; decide) (by
    show (gStates b (cp 0 2)).1.length ≤ 1000000
    unfold gStates
    split <;> split <;> simp) (by simp [gSchema, gRoles])
def p_EntryCovers : List AV → AHeap → (AV → Prop) → Prop
  | [.slice _ 1 l1, .slice _ 1 l2, .agg lm, .int .i64 c, .int .i64 d, .agg [.int .u64 a, .int .u64 b], .agg lp, .int .i64 n], _, K => ∃ (m : SMatch) (p : List Nat), (isB l1 ∧ isB l2 ∧ lm = matchC m ∧ MOk m ∧ -9223372036854775808 ≤ m.pfx ∧ m.pfx ≤ 9223372036854775807 ∧ -9223372036854775808 ≤ c ∧ c ≤ 9223372036854775807 ∧ isV a b ∧ lp = pointC p ∧ POk p ∧ -9223372036854775808 ≤ n ∧ n < 9223372036854775808) ∧ K (.bool true)
  | _, _, _ => False
set_option maxHeartbeats 8000000 in
theorem ok_EntryCovers : EntOk Try.prog 4 (Ent.pure p_EntryCovers) := by
  refine EntOk.pure fun args H K h => ?_
  unfold p_EntryCovers at h
  split at h
  rotate_left
  · exact h.elim
  rename_i m1 l1 m2 l2 lm c d a b lp n
  obtain ⟨m, p, ⟨c1, c2, rfl, hm, hp1, hp2, hc1, hc2, hab, rfl, ⟨hp4, hpv⟩, hn1, hn2⟩, hK⟩ := h
  refine ⟨_, hK, ?_⟩
  clear hK
  obtain ⟨x1, rfl⟩ := isB_out c1
  obtain ⟨x2, rfl⟩ := isB_out c2
  obtain ⟨v, hv, rfl, rfl, -⟩ := isV_out hab
  have iv := isV_of hv
  clear hab c1 c2
  obtain ⟨pr, mv, mk, pf, mh⟩ := m
  obtain ⟨hmv, hmk, hmh⟩ := hm
  dsimp only at hp1 hp2 hmv hmk hmh
  have im := isV_of hmv
  obtain ⟨B1, hB1⟩ : ∃ B1, x1.take (min (x1.length : Int) 120).toNat = B1 := ⟨_, rfl⟩
  obtain ⟨B2, hB2⟩ : ∃ B2, x2.take (min (x2.length : Int) 40).toNat = B2 := ⟨_, rfl⟩
  have hL1 : B1.length ≤ 1000000 := by rw [← hB1, List.length_take]; omega
  have hL2 : B2.length ≤ 1000000 := by rw [← hB2, List.length_take]; omega
  have hG := genS_ok B1 0
  have hT := tabS_ok B1 0
  have hSl : SLen (gSchema B1 0).1 := slen_gen
  generalize hS : gSchema B1 0 = SS at *
  obtain ⟨S, w1⟩ := SS
  dsimp only at hG hSl hT
  have hz1 : zod B1 0 = codV B1 (cp 0 0) := zod_codV
  have hz2 : zod B2 0 = codV B2 (cp 0 0) := zod_codV
  have hE := gEntry_ok hG (b := B2) (v := 0) (n := n)
  have htm := tableAt_mem (S := S) (n := n) hG.t1
  have hkl := hG.kl _ htm
  have hst : (gsEntry S n B2 0) = (entryAV (gEntry S B2 0 n).1, (gEntry S B2 0 n).2) := rfl
  generalize he : gEntry S B2 0 n = ee at *
  obtain ⟨e, w2⟩ := ee
  dsimp only at hE hst
  have hpt := gPoint_ok (b := B2) 4 w2
  have hsp : gsPoint B2 w2 = (.agg (pointC (gPoint B2 4 w2).1), (gPoint B2 4 w2).2) := rfl
  generalize hp : gPoint B2 4 w2 = pp at *
  obtain ⟨pa, w3⟩ := pp
  dsimp only at hpt hsp
  have hpt2 := gPoint_ok (b := B2) 4 w3
  have hsp2 : gsPoint B2 w3 = (.agg (pointC (gPoint B2 4 w3).1), (gPoint B2 4 w3).2) := rfl
  generalize hp' : gPoint B2 4 w3 = pp at *
  obtain ⟨pb, w4⟩ := pp
  dsimp only at hpt2 hsp2
  obtain ⟨pa4, pav⟩ := hpt
  obtain ⟨pb4, pbv⟩ := hpt2
  have hRM : RM S e (tableAt S n) := ⟨by rw [hE.tb]; exact hT.uq _ htm, by have := hE.ml; omega, by have := hT.k4 _ htm; omega, fun k hk => by
    have := hG.kb _ htm k hk
    exact ⟨hasF_of this.1, by omega, by omega⟩, fun m hm => by have := hE.mo m hm; have h1 := this.p0; have h2 := this.p1; omega⟩
  have heo := hE.ok (by omega) hG.pl
  have hpe : PLen S e := ⟨hSl, fun t ht => Nat.le_trans (hG.kl t ht) (by decide), heo.ml⟩
  have hml3 : e.ms.length ≤ 3 := by have := hE.ml; have := hT.k4 _ htm; omega
  refine ACalls.of_aw (Ω := [(12, Ent.effect e_ZNew), (13, Ent.effect e_CSchema), (14, Ent.effect e_CEntry), (15, Ent.effect e_CPoint), (16, Ent.pure p_ZMod), (23, Ent.pure p_cLow), (20, Ent.pure p_rXor), (24, Ent.pure p_eCovers), (25, Ent.pure p_rCovers), (21, Ent.pure p_eMatches), (26, Ent.pure p_rMatches), (27, Ent.pure p_ePrefix), (28, Ent.pure p_rPrefix), (22, Ent.pure p_begun10)]) (T := assoc [(8, [[], [], [], [], [], [], [5], [4, 5, 6], [], [], [0, 2, 4, 5, 6, 7, 9]]), (11, [[], [], [], [], [0, 3], [], [], [], [], [0, 3, 4, 5, 8]]), (18, [[], [], [], [], [2], [0, 2, 4]]), (25, [[], [], [], [], [], [], [], [], [], [5], [2, 5, 9], [], [2, 5, 9, 10]]), (27, [[], [], [], [0, 1, 2], [], [], [], [0, 1, 2, 3, 4, 5, 6]]), (30, [[], [], [0, 1], [], [], [0, 1, 2, 3, 4], [], [], [0, 1, 2, 3, 4, 5]])]) mixed (TblOk.cons ok_ZNew (TblOk.cons ok_CSchema (TblOk.cons ok_CEntry (TblOk.cons ok_CPoint (TblOk.cons ok_ZMod (TblOk.cons ok_cLow (TblOk.cons ok_rXor (TblOk.cons ok_eCovers (TblOk.cons ok_rCovers (TblOk.cons ok_eMatches (TblOk.cons ok_rMatches (TblOk.cons ok_ePrefix (TblOk.cons ok_rPrefix (TblOk.cons ok_begun10 TblOk.nil)))))))))))))) Try.func4 (by kernel_rfl) (by rfl) (rs := [.tmp 16]) (by rfl) (by kernel_rfl) (by simp only [Try.ntmps4, yaz, yba]; decide) (Nat.le_refl _) fun hcl hlt => ?_
  change aw _ _ _ (KI Try.prog [(12, Ent.effect e_ZNew), (13, Ent.effect e_CSchema), (14, Ent.effect e_CEntry), (15, Ent.effect e_CPoint), (16, Ent.pure p_ZMod), (23, Ent.pure p_cLow), (20, Ent.pure p_rXor), (24, Ent.pure p_eCovers), (25, Ent.pure p_rCovers), (21, Ent.pure p_eMatches), (26, Ent.pure p_rMatches), (27, Ent.pure p_ePrefix), (28, Ent.pure p_rPrefix), (22, Ent.pure p_begun10)] (aEnd Try.prog [.tmp 16] H.nx _ _ (assoc [(8, [[], [], [], [], [], [], [5], [4, 5, 6], [], [], [0, 2, 4, 5, 6, 7, 9]]), (11, [[], [], [], [], [0, 3], [], [], [], [], [0, 3, 4, 5, 8]]), (18, [[], [], [], [], [2], [0, 2, 4]]), (25, [[], [], [], [], [], [], [], [], [], [5], [2, 5, 9], [], [2, 5, 9, 10]]), (27, [[], [], [], [0, 1, 2], [], [], [], [0, 1, 2, 3, 4, 5, 6]]), (30, [[], [], [0, 1], [], [], [0, 1, 2, 3, 4], [], [], [0, 1, 2, 3, 4, 5]])])) []) _ _
  have hb1 := hlt (.slice m1 1 (bys x1)) (by simp)
  have hb2 := hlt (.slice m2 1 (bys x2)) (by simp)
  clear hlt
  have hpl := pointC_len p
  have q0 := Int.emod_nonneg pf (show (200 : Int) ≠ 0 by omega)
  have q1 := Int.emod_lt_of_pos pf (show (0 : Int) < 200 by omega)
  have ew : IntKind.i64.wrap (pf % 200 - 20) = pf % 200 - 20 := by rw [wrap_i64] <;> omega
  simp only [go_sem, reduceCtorEq, Nat.reduceEqDiff, Nat.reduceAdd, Nat.reduceMul, Nat.reduceSub, Nat.reduceLeDiff, Nat.reduceLT, Int.reduceMul, Int.reduceAdd, Int.reduceSub, Int.reduceToNat, matchC, vc, yal, yak, p_ZMod, ew]
  (repeat with_reducible refine And.intro (by first | exact True.intro | decide | omega | (simp [zhx, zge, zgf, zgg, zgi, zgh, zgm]; first | done | omega)) ?_)
  obtain ⟨HB, hHB⟩ : ∃ HB, (((H.push (.cells [.bool pr, .int .u64 ((mv / 2 ^ 64 : Nat) : Int), .int .u64 ((mv % 2 ^ 64 : Nat) : Int), .int .u64 ((mk / 2 ^ 64 : Nat) : Int), .int .u64 ((mk % 2 ^ 64 : Nat) : Int), .int .i64 (pf % 200 - 20), .int .u64 ((mh / 2 ^ 64 : Nat) : Int), .int .u64 ((mh % 2 ^ 64 : Nat) : Int)])).push (.cells [.int .u64 ((v / 2 ^ 64 : Nat) : Int), .int .u64 ((v % 2 ^ 64 : Nat) : Int)])).push (.cells (pointC p))).push (.buf 1 2) = HB := ⟨_, rfl⟩
  have hclB : HB.Closed := by
    rw [← hHB]
    exact closed_buf (closed_cells (closed_cells (closed_cells hcl (by simp [zmw, zmx, zmh, zmi])) (by simp [zmw, zmx, zmh])) ltL_pt)
  have hnB : HB.nx = H.nx + 1 + 1 + 1 + 1 := by rw [← hHB]; rfl
  have hlv : low v 9 < 2 ^ 128 := low_lt hv
  have il := isV_of hlv
  have ivz : isVz ((v / 2 ^ 64 : Nat) : Int) ((v % 2 ^ 64 : Nat) : Int) = True := iv
  have up : ∀ {x : AV} {j : Nat}, H.nx ≤ j → AV.lt H.nx x → AV.lt j x := fun h hx => AV.lt_mono h _ hx
  refine loop_introW (A := Nat) (fun k => [(0, .slice .any 1 (bys x1)), (1, .slice .any 1 (bys x2)), (4, .int .i64 d), (7, .int .i64 n), (10, .ptr H.nx 0), (13, .ptr (H.nx + 1) 0), (14, .ptr (H.nx + 1 + 1) 0), (38, .slice .any 1 [.int .i64 c, .int .i64 (c % 6)]), (39, .int .i64 ((2 : Nat) : Int)), (40, .int .i64 (k : Int))]) (fun _ => HB) (fun k => k ≤ 2) (fun k => 2 - k) 0 (by omega) ?_ fun k hk => ?_
  · rw [← hHB]
    refine ⟨by simp only [zkg, zjs, zjx]; omega, AHeap.Le.refl _, by rw [← hHB] at hclB; exact hclB, ?_, ?_⟩
    · simp [ltF, zkg, zmp, zmh, lt_sliceL, zmw, zmx, zlr]
      omega
    · simp [subW, wk2, wk1, wkM, Fr.get]
  simp only [go_sem, reduceCtorEq, Nat.reduceEqDiff, Nat.reduceAdd, Nat.reduceMul, Nat.reduceSub, Nat.reduceLeDiff, Nat.reduceLT, Int.reduceMul, Int.reduceAdd, Int.reduceSub, Int.reduceToNat]
  refine cond_split (fun hc => ?_) (fun hc => ?_)
  · have hk' : k < 2 := by simp at hc; omega
    obtain ⟨kk, hkk⟩ : ∃ kk : Int, ([.int .i64 c, .int .i64 (c % 6)] : List AV).getD k .junk = .int .i64 kk := by
      rcases (by omega : k = 0 ∨ k = 1) with rfl | rfl
      · exact ⟨c, rfl⟩
      · exact ⟨c % 6, rfl⟩
    have e5 : IntKind.i64.wrap ((k : Int) + 1) = ((k + 1 : Nat) : Int) := by rw [wrap_i64] <;> omega
    rw [← hHB]
    simp only [blkE, blkP, bhq, Nat.reduceMod, Nat.reduceDiv, stepH, stepM, toMs1, toMs, toMs0, strK, pubK, pubF, pubV, yaq, yar, yao, yap, go_sem, reduceCtorEq, Nat.reduceEqDiff, Nat.reduceAdd, Nat.reduceMul, Nat.reduceSub, Nat.reduceLeDiff, Nat.reduceLT, Int.reduceMul, Int.reduceAdd, Int.reduceSub, Int.reduceToNat, Int.toNat_natCast, yal, yak, hkk]
    refine ⟨⟨by omega, by omega⟩, ?_⟩
    refine loop_introW (A := Nat) (fun j => [(0, .slice .any 1 (bys x1)), (1, .slice .any 1 (bys x2)), (4, .int .i64 d), (7, .int .i64 n), (10, .ptr H.nx 0), (13, .ptr (H.nx + 1) 0), (14, .ptr (H.nx + 1 + 1) 0), (38, .slice .any 1 [.int .i64 c, .int .i64 (c % 6)]), (39, .int .i64 ((2 : Nat) : Int)), (40, .int .i64 (k : Int)), (18, .int .i64 kk), (46, .slice .any 1 [.int .i64 (iand .i64 d 127), .int .i64 128, .int .i64 32]), (47, .int .i64 ((3 : Nat) : Int)), (48, .int .i64 (j : Int))]) (fun _ => HB.push (.buf 1 3)) (fun j => j ≤ 3) (fun j => 3 - j) 0 (by omega) ?_ fun j hj => ?_
    · rw [← hHB]
      refine ⟨by simp only [zkg, zjs, zjx]; omega, AHeap.Le.refl _, by rw [← hHB] at hclB; exact closed_buf hclB, ?_, ?_⟩
      · simp [ltF, zkg, zmp, zmh, lt_sliceL, zmw, zmx, zlr]
        omega
      · simp [subW, wk2, wk1, wkM, Fr.get]
    simp only [go_sem, reduceCtorEq, Nat.reduceEqDiff, Nat.reduceAdd, Nat.reduceMul, Nat.reduceSub, Nat.reduceLeDiff, Nat.reduceLT, Int.reduceMul, Int.reduceAdd, Int.reduceSub, Int.reduceToNat]
    refine cond_split (fun hc1 => ?_) (fun hc1 => ?_)
    · have hj' : j < 3 := by simp at hc1; omega
      obtain ⟨ww, hww, hw0, hw1⟩ : ∃ ww : Int, ([.int .i64 (iand .i64 d 127), .int .i64 128, .int .i64 32] : List AV).getD j .junk = .int .i64 ww ∧ 0 ≤ ww ∧ ww ≤ 128 := by
        have := iand127 d
        rcases (by omega : j = 0 ∨ j = 1 ∨ j = 2) with rfl | rfl | rfl
        · exact ⟨_, rfl, by omega, by omega⟩
        · exact ⟨128, rfl, by omega, by omega⟩
        · exact ⟨32, rfl, by omega, by omega⟩
      have e6 : IntKind.i64.wrap ((j : Int) + 1) = ((j + 1 : Nat) : Int) := by rw [wrap_i64] <;> omega
      rw [← hHB]
      simp only [blkE, blkP, bhq, Nat.reduceMod, Nat.reduceDiv, stepH, stepM, toMs1, toMs, toMs0, strK, pubK, pubF, pubV, yaq, yar, yao, yap, go_sem, reduceCtorEq, Nat.reduceEqDiff, Nat.reduceAdd, Nat.reduceMul, Nat.reduceSub, Nat.reduceLeDiff, Nat.reduceLT, Int.reduceMul, Int.reduceAdd, Int.reduceSub, Int.reduceToNat, Int.toNat_natCast, yal, yak, hww, p_cLow, p_rXor, p2V, iv, im, il, vOf_back, ivz, vv]
      (repeat with_reducible refine And.intro (by first | exact True.intro | decide | omega | (simp [zhx, zge, zgf, zgg, zgi, zgh, zgm]; first | done | omega)) ?_)
      refine loop_introW (A := Nat) (fun i => [(0, .slice .any 1 (bys x1)), (1, .slice .any 1 (bys x2)), (4, .int .i64 d), (7, .int .i64 n), (10, .ptr H.nx 0), (13, .ptr (H.nx + 1) 0), (14, .ptr (H.nx + 1 + 1) 0), (38, .slice .any 1 [.int .i64 c, .int .i64 (c % 6)]), (39, .int .i64 ((2 : Nat) : Int)), (40, .int .i64 (k : Int)), (18, .int .i64 kk), (46, .slice .any 1 [.int .i64 (iand .i64 d 127), .int .i64 128, .int .i64 32]), (47, .int .i64 ((3 : Nat) : Int)), (48, .int .i64 (j : Int)), (20, .int .i64 ww), (62, .slice .any 2 [.agg [.int .u64 ((v / 2 ^ 64 : Nat) : Int), .int .u64 ((v % 2 ^ 64 : Nat) : Int)], .agg [.int .u64 ((mv / 2 ^ 64 : Nat) : Int), .int .u64 ((mv % 2 ^ 64 : Nat) : Int)], .agg [.int .u64 (((mv ^^^ low v 9) / 2 ^ 64 : Nat) : Int), .int .u64 (((mv ^^^ low v 9) % 2 ^ 64 : Nat) : Int)], .agg [.int .u64 ((mh / 2 ^ 64 : Nat) : Int), .int .u64 ((mh % 2 ^ 64 : Nat) : Int)]]), (63, .int .i64 ((4 : Nat) : Int)), (64, .int .i64 (i : Int))]) (fun _ => (HB.push (.buf 1 3)).push (.buf 2 4)) (fun i => i ≤ 4) (fun i => 4 - i) 0 (by omega) ?_ fun i hi => ?_
      · rw [← hHB]
        refine ⟨by simp only [zkg, zjs, zjx]; omega, AHeap.Le.refl _, by rw [← hHB] at hclB; exact closed_buf (closed_buf hclB), ?_, ?_⟩
        · simp [ltF, zkg, zmp, zmh, lt_sliceL, zmw, zmx, zlr, zmt]
          omega
        · simp [subW, wk2, wk1, wkM, Fr.get]
      simp only [go_sem, reduceCtorEq, Nat.reduceEqDiff, Nat.reduceAdd, Nat.reduceMul, Nat.reduceSub, Nat.reduceLeDiff, Nat.reduceLT, Int.reduceMul, Int.reduceAdd, Int.reduceSub, Int.reduceToNat]
      refine cond_split (fun hc2 => ?_) (fun hc2 => ?_)
      · have hi' : i < 4 := by simp at hc2; omega
        obtain ⟨y, hy, hyv⟩ : ∃ y : Nat, ([.agg [.int .u64 ((v / 2 ^ 64 : Nat) : Int), .int .u64 ((v % 2 ^ 64 : Nat) : Int)], .agg [.int .u64 ((mv / 2 ^ 64 : Nat) : Int), .int .u64 ((mv % 2 ^ 64 : Nat) : Int)], .agg [.int .u64 (((mv ^^^ low v 9) / 2 ^ 64 : Nat) : Int), .int .u64 (((mv ^^^ low v 9) % 2 ^ 64 : Nat) : Int)], .agg [.int .u64 ((mh / 2 ^ 64 : Nat) : Int), .int .u64 ((mh % 2 ^ 64 : Nat) : Int)]] : List AV).getD i .junk = .agg [.int .u64 ((y / 2 ^ 64 : Nat) : Int), .int .u64 ((y % 2 ^ 64 : Nat) : Int)] ∧ y < 2 ^ 128 := by
          rcases (by omega : i = 0 ∨ i = 1 ∨ i = 2 ∨ i = 3) with rfl | rfl | rfl | rfl
          · exact ⟨v, rfl, hv⟩
          · exact ⟨mv, rfl, hmv⟩
          · exact ⟨mv ^^^ low v 9, rfl, Nat.xor_lt_two_pow hmv hlv⟩
          · exact ⟨mh, rfl, hmh⟩
        have e7 : IntKind.i64.wrap ((i : Int) + 1) = ((i + 1 : Nat) : Int) := by rw [wrap_i64] <;> omega
        rw [← hHB]
        simp only [blkE, blkP, bhq, Nat.reduceMod, Nat.reduceDiv, stepH, stepM, toMs1, toMs, toMs0, strK, pubK, pubF, pubV, yaq, yar, yao, yap, go_sem, reduceCtorEq, Nat.reduceEqDiff, Nat.reduceAdd, Nat.reduceMul, Nat.reduceSub, Nat.reduceLeDiff, Nat.reduceLT, Int.reduceMul, Int.reduceAdd, Int.reduceSub, Int.reduceToNat, Int.toNat_natCast, yal, yak, hy, p_eCovers, p_rCovers]
        refine ⟨⟨by omega, by omega⟩, ⟨pr, mv, mk, pf % 200 - 20, mh⟩, ⟨rfl, ⟨hmv, hmk, hmh⟩, of_eq_true (isV_of hyv)⟩, ⟨pr, mv, mk, pf % 200 - 20, mh⟩, ⟨rfl, ⟨hmv, hmk, hmh⟩, of_eq_true (isV_of hyv), hw0, hw1, by dsimp only; omega, by dsimp only; omega⟩, ?_⟩
        refine cond_split (fun h => by simp at h) (fun _ => ?_)
        simp only [blkE, blkP, bhq, Nat.reduceMod, Nat.reduceDiv, stepH, stepM, toMs1, toMs, toMs0, strK, pubK, pubF, pubV, yaq, yar, yao, yap, go_sem, reduceCtorEq, Nat.reduceEqDiff, Nat.reduceAdd, Nat.reduceMul, Nat.reduceSub, Nat.reduceLeDiff, Nat.reduceLT, Int.reduceMul, Int.reduceAdd, Int.reduceSub, Int.reduceToNat, Int.toNat_natCast, yal, yak, e7]
        refine ⟨i + 1, by omega, by omega, by simp only [zkg]; omega, by repeat (first | exact AHeap.Le.refl _ | refine AHeap.Le.push ?_ _), by rw [← hHB] at hclB; exact closed_buf (closed_buf hclB), ?_, ?_⟩
        · simp [ltF, zkg, zmp, zmh, lt_sliceL, zmw, zmx, zlr, zmt]
          omega
        · simp [subW, wk2, wk1, wkM, Fr.get]
      · have hi' : i = 4 := by simp at hc2; omega
        subst hi'
        rw [← hHB]
        simp only [blkE, blkP, bhq, Nat.reduceMod, Nat.reduceDiv, stepH, stepM, toMs1, toMs, toMs0, strK, pubK, pubF, pubV, yaq, yar, yao, yap, go_sem, reduceCtorEq, Nat.reduceEqDiff, Nat.reduceAdd, Nat.reduceMul, Nat.reduceSub, Nat.reduceLeDiff, Nat.reduceLT, Int.reduceMul, Int.reduceAdd, Int.reduceSub, Int.reduceToNat, Int.toNat_natCast, yal, yak, e6]
        refine ⟨j + 1, by omega, by omega, by simp only [zkg]; omega, by repeat (first | exact AHeap.Le.refl _ | refine AHeap.Le.push ?_ _), by rw [← hHB] at hclB; exact closed_buf hclB, ?_, ?_⟩
        · simp [ltF, zkg, zmp, zmh, lt_sliceL, zmw, zmx, zlr]
          omega
        · simp [subW, wk2, wk1, wkM, Fr.get]
    · have hj' : j = 3 := by simp at hc1; omega
      subst hj'
      rw [← hHB]
      simp only [blkE, blkP, bhq, Nat.reduceMod, Nat.reduceDiv, stepH, stepM, toMs1, toMs, toMs0, strK, pubK, pubF, pubV, yaq, yar, yao, yap, go_sem, reduceCtorEq, Nat.reduceEqDiff, Nat.reduceAdd, Nat.reduceMul, Nat.reduceSub, Nat.reduceLeDiff, Nat.reduceLT, Int.reduceMul, Int.reduceAdd, Int.reduceSub, Int.reduceToNat, Int.toNat_natCast, yal, yak, e5]
      refine ⟨k + 1, by omega, by omega, by simp only [zkg]; omega, by repeat (first | exact AHeap.Le.refl _ | refine AHeap.Le.push ?_ _), by rw [← hHB] at hclB; exact hclB, ?_, ?_⟩
      · simp [ltF, zkg, zmp, zmh, lt_sliceL, zmw, zmx, zlr]
        omega
      · simp [subW, wk2, wk1, wkM, Fr.get]
  · have hk' : k = 2 := by simp at hc; omega
    subst hk'
    rw [← hHB]
    simp only [go_sem, reduceCtorEq, Nat.reduceEqDiff, Nat.reduceAdd, Nat.reduceMul, Nat.reduceSub, Nat.reduceLeDiff, Nat.reduceLT, Int.reduceMul, Int.reduceAdd, Int.reduceSub, Int.reduceToNat, e_ZNew]
    refine ⟨x1, ⟨rfl, by omega⟩, ?_⟩
    rw [hB1, hz1]
    have hSch : e_CSchema = eG fun b v => (schAV (gSchema b v).1, (gSchema b v).2) := rfl
    simp only [blkE, blkP, bhq, Nat.reduceMod, Nat.reduceDiv, stepH, stepM, toMs1, toMs, toMs0, strK, pubK, pubF, pubV, yaq, yar, yao, yap, go_sem, reduceCtorEq, Nat.reduceEqDiff, Nat.reduceAdd, Nat.reduceMul, Nat.reduceSub, Nat.reduceLeDiff, Nat.reduceLT, Int.reduceMul, Int.reduceAdd, Int.reduceSub, Int.reduceToNat, e_ZNew, hSch, eG, onC_cod hL1, Nat.zero_min, cp0, hS, schAV, schC]
    refine ⟨x2, ⟨rfl, by omega⟩, ?_⟩
    rw [hB2, hz2]
    simp only [blkE, blkP, bhq, Nat.reduceMod, Nat.reduceDiv, stepH, stepM, toMs1, toMs, toMs0, strK, pubK, pubF, pubV, yaq, yar, yao, yap, go_sem, reduceCtorEq, Nat.reduceEqDiff, Nat.reduceAdd, Nat.reduceMul, Nat.reduceSub, Nat.reduceLeDiff, Nat.reduceLT, Int.reduceMul, Int.reduceAdd, Int.reduceSub, Int.reduceToNat, e_ZNew, hSch, eG, onC_cod hL1, Nat.zero_min, cp0, hS, schAV, schC]
    refine ⟨S, ⟨rfl, hG, hn1, hn2⟩, ?_⟩
    have hq8 : ∀ q : List Nat, q.length = 4 → (pointC q).length = 8 := fun q h => by rw [pointC_len]; omega
    have ht8 : ∀ q : List Nat, q.length = 4 → List.take 8 (pointC q) = pointC q := fun q h => ybc (by rw [hq8 q h]; omega)
    have hp8 := hq8 p hp4
    have hpt8 := ht8 p hp4
    have ha8 := hq8 pa pa4
    have hb8 := hq8 pb pb4
    simp only [blkE, blkP, bhq, Nat.reduceMod, Nat.reduceDiv, stepH, stepM, toMs1, toMs, toMs0, strK, pubK, pubF, pubV, yaq, yar, yao, yap, go_sem, reduceCtorEq, Nat.reduceEqDiff, Nat.reduceAdd, Nat.reduceMul, Nat.reduceSub, Nat.reduceLeDiff, Nat.reduceLT, Int.reduceMul, Int.reduceAdd, Int.reduceSub, Int.reduceToNat, e_ZNew, onS_cod hL2 (st_entry _ _), onS_cod hL2 st_point, cp0, hst, entryAV, entryC, e_CPoint, eG_onS, hsp, hsp2, hp8, hpt8, ha8, hb8, allOne_ptY]
    (repeat with_reducible refine And.intro (by first | exact True.intro | decide | omega | (simp [zhx, zge, zgf, zgg, zgi, zgh, zgm]; first | done | omega)) ?_)
    obtain ⟨HC, hHC⟩ : ∃ HC, HC = (((((((((H.push (.cells [.bool pr, .int .u64 ((mv / 2 ^ 64 : Nat) : Int), .int .u64 ((mv % 2 ^ 64 : Nat) : Int), .int .u64 ((mk / 2 ^ 64 : Nat) : Int), .int .u64 ((mk % 2 ^ 64 : Nat) : Int), .int .i64 (pf % 200 - 20), .int .u64 ((mh / 2 ^ 64 : Nat) : Int), .int .u64 ((mh % 2 ^ 64 : Nat) : Int)])).push (.cells [.int .u64 ((v / 2 ^ 64 : Nat) : Int), .int .u64 ((v % 2 ^ 64 : Nat) : Int)])).push (.cells (pointC p))).push (.buf 1 2)).push (codV B1 w1)).push (codV B2 w4)).push (.cells (schC S))).push (.cells (entryC e))).push (.buf 8 3)) := ⟨_, rfl⟩
    have hclC : HC.Closed := by
      rw [hHC]
      rw [← hHB] at hclB
      exact closed_buf (closed_cells (closed_cells (closed_cells (closed_cells hclB codV_lt) codV_lt) (ltL_iff.2 fun j hj => AV.lt_cells (lt_sch S) j hj)) (ltL_iff.2 fun j hj => AV.lt_cells (lt_entry e) j hj))
    have hnC : HC.nx = H.nx + 1 + 1 + 1 + 1 + 1 + 1 + 1 + 1 + 1 := by rw [hHC]; rfl
    have up64 : ∀ {q : List Nat}, (∀ x ∈ q, x < 2 ^ 64) → ∀ x ∈ q, x < 2 ^ 128 := fun h x hx => Nat.lt_of_lt_of_le (h x hx) (by decide)
    refine loop_introW (A := Nat) (fun i => [(23, .ptr (H.nx + 1 + 1 + 1 + 1 + 1 + 1) 0), (25, .ptr (H.nx + 1 + 1 + 1 + 1 + 1 + 1 + 1) 0), (96, .slice .any 8 [.agg (pointC p), .agg (pointC pa), .agg (pointC pb)]), (97, .int .i64 ((3 : Nat) : Int)), (98, .int .i64 (i : Int))]) (fun _ => HC) (fun i => i ≤ 3) (fun i => 3 - i) 0 (by omega) ?_ fun i hi => ?_
    · refine ⟨by simp only [hnC, zjs, zjx]; omega, by rw [hHC]; exact AHeap.Le.refl _, hclC, ?_, ?_⟩
      · simp [ltF, hnC, zmp, zmh, lt_sliceL, zmw, zmx, zmt, ltL_ptY]
        try omega
      · simp [subW, wk2, wk1, wkM, Fr.get]
    simp only [go_sem, reduceCtorEq, Nat.reduceEqDiff, Nat.reduceAdd, Nat.reduceMul, Nat.reduceSub, Nat.reduceLeDiff, Nat.reduceLT, Int.reduceMul, Int.reduceAdd, Int.reduceSub, Int.reduceToNat]
    refine cond_split (fun hc3 => ?_) (fun hc3 => ?_)
    · have hi' : i < 3 := by simp at hc3; omega
      obtain ⟨q, hq, q4, qv⟩ : ∃ q : List Nat, ([.agg (pointC p), .agg (pointC pa), .agg (pointC pb)] : List AV).getD i .junk = .agg (pointC q) ∧ q.length = 4 ∧ ∀ x ∈ q, x < 2 ^ 128 := by
        rcases (by omega : i = 0 ∨ i = 1 ∨ i = 2) with rfl | rfl | rfl
        · exact ⟨p, rfl, hp4, hpv⟩
        · exact ⟨pa, rfl, pa4, up64 pav⟩
        · exact ⟨pb, rfl, pb4, up64 pbv⟩
      have q8 := hq8 q q4
      have qt8 := ht8 q q4
      have hqs : splice [.int .u64 0, .int .u64 0, .int .u64 0, .int .u64 0, .int .u64 0, .int .u64 0, .int .u64 0, .int .u64 0] 0 (pointC q) = pointC q := splice_all _ _ (by rw [q8]; rfl)
      have e5 : IntKind.i64.wrap ((i : Int) + 1) = ((i + 1 : Nat) : Int) := by rw [wrap_i64] <;> omega
      by_cases h0 : i = 0
      · have d0 : decide ((i : Int) > 0) = false := decide_eq_false (by omega)
        rw [hHC]
        simp only [blkE, blkP, bhq, Nat.reduceMod, Nat.reduceDiv, stepH, stepM, toMs1, toMs, toMs0, strK, pubK, pubF, pubV, yaq, yar, yao, yap, go_sem, reduceCtorEq, Nat.reduceEqDiff, Nat.reduceAdd, Nat.reduceMul, Nat.reduceSub, Nat.reduceLeDiff, Nat.reduceLT, Int.reduceMul, Int.reduceAdd, Int.reduceSub, Int.reduceToNat, schC, entryC, Int.toNat_natCast, ybb, yal, yak, hq, q8, qt8, hqs, allOne_ptY, d0, p_eMatches, p_rMatches]
        (repeat with_reducible refine And.intro (by first | exact True.intro | decide | omega | (simp [zhx, zge, zgf, zgg, zgi, zgh, zgm]; first | done | omega)) ?_)
        refine ⟨S, e, q, ⟨rfl, rfl, rfl, hSl.tl, hSl.fl, hpe.k, heo, ⟨q4, qv⟩⟩, ?_⟩
        try simp only [blkE, blkP, bhq, Nat.reduceMod, Nat.reduceDiv, stepH, stepM, toMs1, toMs, toMs0, strK, pubK, pubF, pubV, yaq, yar, yao, yap, go_sem, reduceCtorEq, Nat.reduceEqDiff, Nat.reduceAdd, Nat.reduceMul, Nat.reduceSub, Nat.reduceLeDiff, Nat.reduceLT, Int.reduceMul, Int.reduceAdd, Int.reduceSub, Int.reduceToNat, schC, entryC, Int.toNat_natCast, ybb, yal, yak, q8, qt8, p_rMatches]
        refine ⟨S, e, q, tableAt S n, ⟨rfl, rfl, rfl, hSl, heo, ⟨q4, qv⟩, hRM⟩, ?_⟩
        try simp only [blkE, blkP, bhq, Nat.reduceMod, Nat.reduceDiv, stepH, stepM, toMs1, toMs, toMs0, strK, pubK, pubF, pubV, yaq, yar, yao, yap, go_sem, reduceCtorEq, Nat.reduceEqDiff, Nat.reduceAdd, Nat.reduceMul, Nat.reduceSub, Nat.reduceLeDiff, Nat.reduceLT, Int.reduceMul, Int.reduceAdd, Int.reduceSub, Int.reduceToNat, schC, entryC, Int.toNat_natCast, ybb, yal, yak]
        refine cond_split (fun h => by simp at h) (fun _ => ?_)
        simp only [blkE, blkP, bhq, Nat.reduceMod, Nat.reduceDiv, stepH, stepM, toMs1, toMs, toMs0, strK, pubK, pubF, pubV, yaq, yar, yao, yap, go_sem, reduceCtorEq, Nat.reduceEqDiff, Nat.reduceAdd, Nat.reduceMul, Nat.reduceSub, Nat.reduceLeDiff, Nat.reduceLT, Int.reduceMul, Int.reduceAdd, Int.reduceSub, Int.reduceToNat, schC, entryC, Int.toNat_natCast, ybb, yal, yak, e5]
        refine ⟨i + 1, by omega, by omega, by simp only [zkg]; omega, by repeat (first | exact AHeap.Le.refl _ | refine AHeap.Le.push ?_ _), by rw [hHC] at hclC; exact hclC, ?_, ?_⟩
        · simp [ltF, hnC, zkg, zmp, zmh, lt_sliceL, zmw, zmx, zmt, ltL_ptY]
          try omega
        · simp [subW, wk2, wk1, wkM, Fr.get]
      · have d0 : decide ((i : Int) > 0) = true := decide_eq_true (by omega)
        rw [hHC]
        simp only [blkE, blkP, bhq, Nat.reduceMod, Nat.reduceDiv, stepH, stepM, toMs1, toMs, toMs0, strK, pubK, pubF, pubV, yaq, yar, yao, yap, go_sem, reduceCtorEq, Nat.reduceEqDiff, Nat.reduceAdd, Nat.reduceMul, Nat.reduceSub, Nat.reduceLeDiff, Nat.reduceLT, Int.reduceMul, Int.reduceAdd, Int.reduceSub, Int.reduceToNat, schC, entryC, Int.toNat_natCast, ybb, yal, yak, hq, q8, qt8, hqs, allOne_ptY, d0]
        (repeat with_reducible refine And.intro (by first | exact True.intro | decide | omega | (simp [zhx, zge, zgf, zgg, zgi, zgh, zgm]; first | done | omega)) ?_)
        have hlm : (e.ms.map matchAV).length = e.ms.length := ybb ..
        refine loop_introW (A := Nat × List Nat) (fun x => [(23, .ptr (H.nx + 1 + 1 + 1 + 1 + 1 + 1) 0), (25, .ptr (H.nx + 1 + 1 + 1 + 1 + 1 + 1 + 1) 0), (26, .int .i64 (i : Int)), (27, .ptr (H.nx + 1 + 1 + 1 + 1 + 1 + 1 + 1 + 1 + 1) 0), (96, .slice .any 8 [.agg (pointC p), .agg (pointC pa), .agg (pointC pb)]), (97, .int .i64 ((3 : Nat) : Int)), (98, .int .i64 (i : Int)), (106, .slice .any 8 (e.ms.map matchAV)), (107, .int .i64 (e.ms.length : Int)), (108, .int .i64 (x.1 : Int))]) (fun x => HC.push (.cells (pointC x.2))) (fun x => x.1 ≤ e.ms.length ∧ x.2.length = 4 ∧ ∀ y ∈ x.2, y < 2 ^ 128) (fun x => e.ms.length - x.1) (0, q) ⟨by omega, q4, qv⟩ ?_ fun x hx => ?_
        · refine ⟨by simp only [zkg, hnC, zjs, zjx]; omega, by rw [hHC]; exact AHeap.Le.refl _, closed_cells hclC ltL_pt, ?_, ?_⟩
          · simp [ltF, zkg, hnC, zmp, zmh, lt_sliceL, zmw, zmx, zmt, ltL_ptY, lt_map lt_match]
            try omega
          · simp [subW, wk2, wk1, wkM, Fr.get]
        clear hq q8 qt8 hqs q4 qv
        obtain ⟨j, q⟩ := x
        obtain ⟨hj, q4, qv⟩ := hx
        dsimp only at hj q4 qv ⊢
        have q8 := hq8 q q4
        have qt8 := ht8 q q4
        simp only [go_sem, reduceCtorEq, Nat.reduceEqDiff, Nat.reduceAdd, Nat.reduceMul, Nat.reduceSub, Nat.reduceLeDiff, Nat.reduceLT, Int.reduceMul, Int.reduceAdd, Int.reduceSub, Int.reduceToNat]
        refine cond_split (fun hc4 => ?_) (fun hc4 => ?_)
        · have hj' : j < e.ms.length := by simp at hc4; omega
          obtain ⟨m, hm⟩ : ∃ m, m = e.ms[j] := ⟨_, rfl⟩
          have hmg := getD_map (f := matchAV) (l := e.ms) (k := j) (x := m) (by rw [List.getElem?_eq_getElem hj', hm])
          have hmo := heo.mo m (by rw [hm]; exact List.getElem_mem hj')
          have e6 : IntKind.i64.wrap ((j : Int) + 1) = ((j + 1 : Nat) : Int) := by rw [wrap_i64] <;> omega
          have e7 : IntKind.i64.wrap (4 * (i : Int)) = 4 * (i : Int) := by rw [wrap_i64] <;> omega
          have e8 : IntKind.i64.wrap (4 * (i : Int) - 4) = 4 * (i : Int) - 4 := by rw [wrap_i64] <;> omega
          obtain ⟨y, hy⟩ : ∃ y, y = q[j]'(by omega) := ⟨_, rfl⟩
          have hyv : y < 2 ^ 128 := qv y (by rw [hy]; exact List.getElem_mem _)
          have hpg := pt_get q j (by omega)
          rw [List.getD_eq_getElem?_getD, List.getElem?_eq_getElem (by omega), ← hy, Option.getD_some] at hpg
          have hwl := low_lt (w := 4 * (i : Int) - 4) hyv
          have iw := isV_of hwl
          have imv := isV_of hmo.v
          have iyz : isVz ((y / 2 ^ 64 : Nat) : Int) ((y % 2 ^ 64 : Nat) : Int) = True := isV_of hyv
          have hzl := Nat.xor_lt_two_pow hmo.v hwl
          have hps := pt_setY q j (m.value ^^^ low y (4 * (i : Int) - 4)) (by omega)
          simp only [vc] at hps
          have hdl : 2 ≤ (List.drop (j * 2) (pointC q)).length := by rw [List.length_drop, q8]; omega
          rw [hHC]
          simp only [blkE, blkP, bhq, Nat.reduceMod, Nat.reduceDiv, stepH, stepM, toMs1, toMs, toMs0, strK, pubK, pubF, pubV, yaq, yar, yao, yap, go_sem, reduceCtorEq, Nat.reduceEqDiff, Nat.reduceAdd, Nat.reduceMul, Nat.reduceSub, Nat.reduceLeDiff, Nat.reduceLT, Int.reduceMul, Int.reduceAdd, Int.reduceSub, Int.reduceToNat, schC, entryC, Int.toNat_natCast, ybb, yal, yak, hmg, matchAV, matchC, vc, q8, qt8, hpg, hps, hdl, e6, e7, e8, p_cLow, p_rXor, p2V, vv, iw, imv, iyz, vOf_back, allOne_ptY]
          (repeat with_reducible refine And.intro (by first | exact True.intro | decide | omega | (simp [zhx, zge, zgf, zgg, zgi, zgh, zgm]; first | done | omega)) ?_)
          refine ⟨(j + 1, q.set j (m.value ^^^ low y (4 * (i : Int) - 4))), ⟨by dsimp only; omega, by dsimp only; rw [List.length_set]; exact q4, fun z hz => ?_⟩, by dsimp only; omega, by simp only [zkg]; omega, by repeat (first | exact AHeap.Le.refl _ | refine AHeap.Le.push ?_ _), by rw [hHC] at hclC; exact closed_cells hclC ltL_pt, ?_, ?_⟩
          · rcases List.mem_or_eq_of_mem_set hz with hz | hz
            · exact qv z hz
            · rw [hz]; exact hzl
          · simp [ltF, hnC, zkg, zmp, zmh, lt_sliceL, zmw, zmx, zmt, ltL_ptY, lt_map lt_match]
            try omega
          · simp [subW, wk2, wk1, wkM, Fr.get]
        · have hj' : j = e.ms.length := by simp at hc4; omega
          subst hj'
          rw [hHC]
          simp only [blkE, blkP, bhq, Nat.reduceMod, Nat.reduceDiv, stepH, stepM, toMs1, toMs, toMs0, strK, pubK, pubF, pubV, yaq, yar, yao, yap, go_sem, reduceCtorEq, Nat.reduceEqDiff, Nat.reduceAdd, Nat.reduceMul, Nat.reduceSub, Nat.reduceLeDiff, Nat.reduceLT, Int.reduceMul, Int.reduceAdd, Int.reduceSub, Int.reduceToNat, schC, entryC, Int.toNat_natCast, ybb, yal, yak, q8, qt8, p_eMatches]
          refine ⟨S, e, q, ⟨rfl, rfl, rfl, hSl.tl, hSl.fl, hpe.k, heo, ⟨q4, qv⟩⟩, ?_⟩
          try simp only [blkE, blkP, bhq, Nat.reduceMod, Nat.reduceDiv, stepH, stepM, toMs1, toMs, toMs0, strK, pubK, pubF, pubV, yaq, yar, yao, yap, go_sem, reduceCtorEq, Nat.reduceEqDiff, Nat.reduceAdd, Nat.reduceMul, Nat.reduceSub, Nat.reduceLeDiff, Nat.reduceLT, Int.reduceMul, Int.reduceAdd, Int.reduceSub, Int.reduceToNat, schC, entryC, Int.toNat_natCast, ybb, yal, yak, q8, qt8, p_rMatches]
          refine ⟨S, e, q, tableAt S n, ⟨rfl, rfl, rfl, hSl, heo, ⟨q4, qv⟩, hRM⟩, ?_⟩
          try simp only [blkE, blkP, bhq, Nat.reduceMod, Nat.reduceDiv, stepH, stepM, toMs1, toMs, toMs0, strK, pubK, pubF, pubV, yaq, yar, yao, yap, go_sem, reduceCtorEq, Nat.reduceEqDiff, Nat.reduceAdd, Nat.reduceMul, Nat.reduceSub, Nat.reduceLeDiff, Nat.reduceLT, Int.reduceMul, Int.reduceAdd, Int.reduceSub, Int.reduceToNat, schC, entryC, Int.toNat_natCast, ybb, yal, yak]
          refine cond_split (fun h => by simp at h) (fun _ => ?_)
          simp only [blkE, blkP, bhq, Nat.reduceMod, Nat.reduceDiv, stepH, stepM, toMs1, toMs, toMs0, strK, pubK, pubF, pubV, yaq, yar, yao, yap, go_sem, reduceCtorEq, Nat.reduceEqDiff, Nat.reduceAdd, Nat.reduceMul, Nat.reduceSub, Nat.reduceLeDiff, Nat.reduceLT, Int.reduceMul, Int.reduceAdd, Int.reduceSub, Int.reduceToNat, schC, entryC, Int.toNat_natCast, ybb, yal, yak, e5]
          refine ⟨i + 1, by omega, by omega, by simp only [zkg]; omega, by repeat (first | exact AHeap.Le.refl _ | refine AHeap.Le.push ?_ _), by rw [hHC] at hclC; exact hclC, ?_, ?_⟩
          · simp [ltF, hnC, zkg, zmp, zmh, lt_sliceL, zmw, zmx, zmt, ltL_ptY]
            try omega
          · simp [subW, wk2, wk1, wkM, Fr.get]
    · have hi' : i = 3 := by simp at hc3; omega
      subst hi'
      rw [hHC]
      simp only [blkE, blkP, bhq, Nat.reduceMod, Nat.reduceDiv, stepH, stepM, toMs1, toMs, toMs0, strK, pubK, pubF, pubV, yaq, yar, yao, yap, go_sem, reduceCtorEq, Nat.reduceEqDiff, Nat.reduceAdd, Nat.reduceMul, Nat.reduceSub, Nat.reduceLeDiff, Nat.reduceLT, Int.reduceMul, Int.reduceAdd, Int.reduceSub, Int.reduceToNat, schC, entryC, Int.toNat_natCast, ybb, yal, yak, p_ePrefix, p_rPrefix]
      refine ⟨S, e, ⟨rfl, rfl, hpe⟩, S, e, ⟨rfl, rfl, hpe⟩, ?_⟩
      refine both_split (fun _ => ?_) (fun h => by simp at h)
      simp only [p_begun10]
      simp (disch := first | assumption | omega | (simp; done) | (simp; omega) | (simp only [bt, and_true]; first | done | omega | (simp; done))) [↓zlq, beq, ybc, ybd, ybe, endOk, wk, wk2, wk1, wkM, wkL, wkLL, ybf, hcl]
      first | done | repeat (first | exact AHeap.Le.refl _ | refine AHeap.Le.push ?_ _)
end Go.AL

