/- Contracts and plain laws, a part of the proof; no condition of its own. -/
import Derived.Test.YtknhoembfohbiaaS07b
open List renaming length_cons → yaz, length_nil → yba, take_of_length_le → ybc, drop_append → ybd, take_append → ybe, drop_eq_nil_of_le → ybf
open Go Go.AL Go.Proofs
namespace Go.AL
set_option linter.all false
set_option maxRecDepth 10000
def e_yImp (f : Nat) := e_rule .imp f
def e_yOr (f : Nat) := e_rule .or f
def e_yAnd (f : Nat) := e_rule .and f
def e_yNot (f : Nat) := e_rule .not f
def e_yCmp (f : Nat) := e_rule .cmp f
def e_ySum (f : Nat) := e_rule .sum f
def e_yUn (f : Nat) := e_rule .un f
def e_yAtom (f : Nat) := e_rule .atom f
def xR : PR → AEnd
  | .ok a _ _ => .ret (.int .i64 (a : Int))
  | .bad p => .panic (.iface 237 (.int .i64 (p : Int)))
def HR (m : Mark) (l : List Tok) (tb id : Nat) (H : AHeap) : PR → AHeap
  | .ok _ p t => (H.set id (pst m l p tb t)).set tb (.buf 7 t.length)
  | .bad _ => (H.del id).del tb
theorem xR_ok {a p : Nat} {t : List Nd} : xR (.ok a p t) = .ret (.int .i64 (a : Int)) := rfl
theorem xR_bad {p : Nat} : xR (.bad p) = .panic (.iface 237 (.int .i64 (p : Int))) := rfl
theorem HR_ok {m : Mark} {l : List Tok} {tb id a p : Nat} {t : List Nd} {H : AHeap} : HR m l tb id H (.ok a p t) = (H.set id (pst m l p tb t)).set tb (.buf 7 t.length) := rfl
theorem HR_bad {m : Mark} {l : List Tok} {tb id p : Nat} {H : AHeap} : HR m l tb id H (.bad p) = (H.del id).del tb := rfl
theorem endR_some {m : Mark} {l : List Tok} {tb id : Nat} {H : AHeap} {K : AEnd → AHeap → Prop} {r : PR} : endR m l tb id H K (some r) = K (xR r) (HR m l tb id H r) := by cases r <;> rfl
theorem HR_nx {m : Mark} {l : List Tok} {tb id : Nat} {H : AHeap} {r : PR} : H.nx ≤ (HR m l tb id H r).nx := by cases r <;> exact Nat.le_refl _
theorem opsC_len : (opsC.length ≤ 100) = True := eq_true (by decide)
theorem opsS_len : (opsS.length ≤ 100) = True := eq_true (by decide)
def opv (l : List Tok) (p : Nat) : Nat := (opOf l p opsS).getD 0
def oph (l : List Tok) (p : Nat) : Nat := if (opOf l p opsS).isSome then p + 1 else p
theorem vOf01 : vOf 0 1 = 1 := rfl
theorem isV01 : isV 0 1 = True := eq_true (by unfold isV; decide)
theorem vOf00 : vOf 0 0 = 0 := rfl
theorem isV00 : isV 0 0 = True := eq_true (by unfold isV; decide)
set_option maxHeartbeats 2000000 in
theorem st_yImp {f : Nat} (h_yOr : EntOk Try.prog 198 (Ent.effect (e_yOr f))) (h_yImp : EntOk Try.prog 151 (Ent.effect (e_yImp f))) : EntOk Try.prog 151 (Ent.effect (e_yImp (f + 1))) := by
  refine EntOk.effect fun args H K h => ?_
  unfold e_yImp e_rule at h
  split at h
  rotate_left
  · exact h.elim
  rename_i id
  obtain ⟨m, l, p, tb, t, hg, hpre, hK⟩ := h
  cases ho : run l (f + 1) .imp p t with
  | none => rw [ho] at hK; exact hK.elim
  | some r =>
  rw [ho, endR_some] at hK
  refine ⟨_, _, hK, ?_⟩
  clear hK
  rw [run] at ho
  simp only [step] at ho
  have hpre' := hpre
  obtain ⟨hne, htb, ht, hp, hl, hgl, hgt⟩ := hpre
  have hid := AHeap.get_lt hg
  have htbl := AHeap.get_lt htb
  have f1 := far_of hid
  have f2 := far_of htbl
  have hl5 : l.length ≤ 100000 := by omega
  have i1 := @Int.natCast_nonneg
  have hne' : (id = tb) = False := eq_false hne
  refine ACalls.of_aw (Ω := [(198, Ent.effect (e_yOr f)), (199, Ent.effect e_ySym), (151, Ent.effect (e_yImp f)), (200, Ent.effect e_yAdd)]) (T := assoc []) mixed (TblOk.cons h_yOr (TblOk.cons ok_ySym (TblOk.cons h_yImp (TblOk.cons ok_yAdd TblOk.nil)))) Try.func151 (by kernel_rfl) (by rfl) (rs := [.tmp 2]) (by rfl) (by kernel_rfl) (by simp only [Try.ntmps151, yaz, yba]; decide) HR_nx fun hcl hlt => ?_
  change aw _ _ _ (KI Try.prog [(198, Ent.effect (e_yOr f)), (199, Ent.effect e_ySym), (151, Ent.effect (e_yImp f)), (200, Ent.effect e_yAdd)] (aEnd Try.prog [.tmp 2] H.nx _ _) []) _ _
  clear hlt
  obtain ⟨hgi, hgt', hsi, hcl2, hst⟩ := pre_facts hg hpre' hcl
  rcases thenR_some ho with ⟨q, h1, rfl⟩ | ⟨a, p1, t1, h1, h2⟩
  · simp only [go_sem, reduceCtorEq, Nat.reduceEqDiff, Nat.reduceAdd, Nat.reduceMul, Nat.reduceSub, Nat.reduceLeDiff, Nat.reduceLT, Int.reduceMul, Int.reduceAdd, Int.reduceSub, Int.reduceToNat, f1, f2, hgi, hgt', hsi, hst, onP_some, endR_bad, endR_ok, xR_ok, xR_bad, HR_ok, HR_bad, dd_set, dd_set1, e_ySym, e_yAdd, e_rule, hne, ne_eq, hne', hl5, Int.toNat_natCast, vOf00, isV00, i1, Int.reduceLE, eq_self, not_false_eq_true, e_yOr, hg, hpre', h1]
    simp (disch := first | assumption | omega | (simp; done) | (simp; omega) | (simp only [bt, and_true]; first | done | omega | (simp; done))) [↓zlf, beq, ybc, ybd, ybe, endOk, wk, wk2, wk1, wkM, wkL, wkLL, ybf, dd_cl hcl, zln, dd_le, dd_le1, dd_le2]
  clear ho
  obtain ⟨k1, k2, k3, k4, k5, k6⟩ := run_post _ h1 hgt trivial hp
  simp only [Rl.isL, Bool.false_eq_true, if_false] at k4
  have hp1 : preP ((H.set id (pst m l p1 tb t1)).set tb (.buf 7 t1.length)) id tb l p1 t1 := preP_set hpre' k2 (by omega) k5
  cases hs : isS l p1 [45, 62] with
  | false =>
    rw [hs, if_neg (by simp)] at h2
    cases h2
    simp only [go_sem, reduceCtorEq, Nat.reduceEqDiff, Nat.reduceAdd, Nat.reduceMul, Nat.reduceSub, Nat.reduceLeDiff, Nat.reduceLT, Int.reduceMul, Int.reduceAdd, Int.reduceSub, Int.reduceToNat, f1, f2, hgi, hgt', hsi, hst, onP_some, endR_bad, endR_ok, xR_ok, xR_bad, HR_ok, HR_bad, dd_set, dd_set1, e_ySym, e_yAdd, e_rule, hne, ne_eq, hne', hl5, Int.toNat_natCast, vOf00, isV00, i1, Int.reduceLE, eq_self, not_false_eq_true, e_yOr, hg, hpre', h1, k2, hs, if_false]
    simp (disch := first | assumption | omega | (simp; done) | (simp; omega) | (simp only [bt, and_true]; first | done | omega | (simp; done))) [↓zlf, beq, ybc, ybd, ybe, endOk, wk, wk2, wk1, wkM, wkL, wkLL, ybf, hcl2]
  | true =>
    rw [hs, if_pos rfl] at h2
    have hlt1 := isS_lt hs
    have hp2 : preP ((H.set id (pst m l (p1 + 1) tb t1)).set tb (.buf 7 t1.length)) id tb l (p1 + 1) t1 := preP_set hpre' hlt1 (by omega) k5
    rcases thenR_some h2 with ⟨q, h3, rfl⟩ | ⟨b, p2, t2, h3, h4⟩
    · simp only [go_sem, reduceCtorEq, Nat.reduceEqDiff, Nat.reduceAdd, Nat.reduceMul, Nat.reduceSub, Nat.reduceLeDiff, Nat.reduceLT, Int.reduceMul, Int.reduceAdd, Int.reduceSub, Int.reduceToNat, f1, f2, hgi, hgt', hsi, hst, onP_some, endR_bad, endR_ok, xR_ok, xR_bad, HR_ok, HR_bad, dd_set, dd_set1, e_ySym, e_yAdd, e_rule, hne, ne_eq, hne', hl5, Int.toNat_natCast, vOf00, isV00, i1, Int.reduceLE, eq_self, not_false_eq_true, e_yOr, e_yImp, hg, hpre', h1, k2, hs, if_true, hp2, h3]
      simp (disch := first | assumption | omega | (simp; done) | (simp; omega) | (simp only [bt, and_true]; first | done | omega | (simp; done))) [↓zlf, beq, ybc, ybd, ybe, endOk, wk, wk2, wk1, wkM, wkL, wkLL, ybf, dd_cl hcl, zln, dd_le, dd_le1, dd_le2]
    cases h4
    obtain ⟨k1b, k2b, k3b, k4b, k5b, k6b⟩ := run_post _ h3 k5 trivial hlt1
    simp only [Rl.isL, Bool.false_eq_true, if_false] at k4b
    have ht2 : t2.length ≤ 100000 := by omega
    simp only [go_sem, reduceCtorEq, Nat.reduceEqDiff, Nat.reduceAdd, Nat.reduceMul, Nat.reduceSub, Nat.reduceLeDiff, Nat.reduceLT, Int.reduceMul, Int.reduceAdd, Int.reduceSub, Int.reduceToNat, f1, f2, hgi, hgt', hsi, hst, onP_some, endR_bad, endR_ok, xR_ok, xR_bad, HR_ok, HR_bad, dd_set, dd_set1, e_ySym, e_yAdd, e_rule, hne, ne_eq, hne', hl5, Int.toNat_natCast, vOf00, isV00, i1, Int.reduceLE, eq_self, not_false_eq_true, e_yOr, e_yImp, hg, hpre', h1, k2, hs, if_true, hp2, h3, ht2, nd2]
    have hc3 := hcl2 p2 (t2 ++ [⟨16, a, b, [], [], 0⟩])
    simp only [List.length_append, yaz, yba, Nat.zero_add] at hc3 ⊢
    simp (disch := first | assumption | omega | (simp; done) | (simp; omega) | (simp only [bt, and_true]; first | done | omega | (simp; done))) [↓zlf, beq, ybc, ybd, ybe, endOk, wk, wk2, wk1, wkM, wkL, wkLL, ybf, hc3]
set_option maxHeartbeats 2000000 in
theorem st_yOr {f : Nat} (h_yAnd : EntOk Try.prog 222 (Ent.effect (e_yAnd f))) : EntOk Try.prog 198 (Ent.effect (e_yOr (f + 1))) := by
  refine EntOk.effect fun args H K h => ?_
  unfold e_yOr e_rule at h
  split at h
  rotate_left
  · exact h.elim
  rename_i id
  obtain ⟨m, l, p, tb, t, hg, hpre, hK⟩ := h
  cases ho : run l (f + 1) .or p t with
  | none => rw [ho] at hK; exact hK.elim
  | some r =>
  rw [ho, endR_some] at hK
  refine ⟨_, _, hK, ?_⟩
  clear hK
  rw [run] at ho
  simp only [step] at ho
  have hpre' := hpre
  obtain ⟨hne, htb, ht, hp, hl, hgl, hgt⟩ := hpre
  have hid := AHeap.get_lt hg
  have htbl := AHeap.get_lt htb
  have f1 := far_of hid
  have f2 := far_of htbl
  have hl5 : l.length ≤ 100000 := by omega
  have i1 := @Int.natCast_nonneg
  have hne' : (id = tb) = False := eq_false hne
  refine ACalls.of_aw (Ω := [(222, Ent.effect (e_yAnd f)), (199, Ent.effect e_ySym), (200, Ent.effect e_yAdd)]) (T := assoc []) mixed (TblOk.cons h_yAnd (TblOk.cons ok_ySym (TblOk.cons ok_yAdd TblOk.nil))) Try.func198 (by kernel_rfl) (by rfl) (rs := [.tmp 2]) (by rfl) (by kernel_rfl) (by simp only [Try.ntmps198, yaz, yba]; decide) HR_nx fun hcl hlt => ?_
  change aw _ _ _ (KI Try.prog [(222, Ent.effect (e_yAnd f)), (199, Ent.effect e_ySym), (200, Ent.effect e_yAdd)] (aEnd Try.prog [.tmp 2] H.nx _ _) []) _ _
  clear hlt
  obtain ⟨hgi, hgt', hsi, hcl2, hst⟩ := pre_facts hg hpre' hcl
  rcases thenR_some ho with ⟨q, h1, rfl⟩ | ⟨a, p1, t1, h1, h2⟩
  · simp only [go_sem, reduceCtorEq, Nat.reduceEqDiff, Nat.reduceAdd, Nat.reduceMul, Nat.reduceSub, Nat.reduceLeDiff, Nat.reduceLT, Int.reduceMul, Int.reduceAdd, Int.reduceSub, Int.reduceToNat, f1, f2, hgi, hgt', hsi, hst, onP_some, endR_bad, endR_ok, xR_ok, xR_bad, HR_ok, HR_bad, dd_set, dd_set1, e_ySym, e_yAdd, e_rule, hne, ne_eq, hne', hl5, Int.toNat_natCast, vOf00, isV00, i1, Int.reduceLE, eq_self, not_false_eq_true, e_yAnd, hg, hpre', h1]
    simp (disch := first | assumption | omega | (simp; done) | (simp; omega) | (simp only [bt, and_true]; first | done | omega | (simp; done))) [↓zlf, beq, ybc, ybd, ybe, endOk, wk, wk2, wk1, wkM, wkL, wkLL, ybf, dd_cl hcl, zln, dd_le, dd_le1, dd_le2]
  clear ho
  obtain ⟨k1, k2, k3, k4, k5, k6⟩ := run_post _ h1 hgt trivial hp
  simp only [Rl.isL, Bool.false_eq_true, if_false] at k4
  have hp1 : preP ((H.set id (pst m l p1 tb t1)).set tb (.buf 7 t1.length)) id tb l p1 t1 := preP_set hpre' k2 (by omega) k5
  simp only [go_sem, reduceCtorEq, Nat.reduceEqDiff, Nat.reduceAdd, Nat.reduceMul, Nat.reduceSub, Nat.reduceLeDiff, Nat.reduceLT, Int.reduceMul, Int.reduceAdd, Int.reduceSub, Int.reduceToNat, f1, f2, hgi, hgt', hsi, hst, onP_some, endR_bad, endR_ok, xR_ok, xR_bad, HR_ok, HR_bad, dd_set, dd_set1, e_ySym, e_yAdd, e_rule, hne, ne_eq, hne', hl5, Int.toNat_natCast, vOf00, isV00, i1, Int.reduceLE, eq_self, not_false_eq_true, e_yAnd, hg, hpre', h1]
  refine loop_introW (A := Nat × Nat × Nat × List Nd) (fun x => [(0, .ptr id 0), (3, .int .i64 (x.2.1 : Int))]) (fun x => (H.set id (pst m l x.2.2.1 tb x.2.2.2)).set tb (.buf 7 x.2.2.2.length))
    (fun x => x.1 ≤ f ∧ run l x.1 (.orL x.2.1) x.2.2.1 x.2.2.2 = some r ∧ x.2.2.1 ≤ l.length ∧ x.2.2.2.length ≤ x.2.2.1 ∧ Good x.2.2.2 ∧ x.2.1 < x.2.2.2.length) (fun x => x.1) (f, a, p1, t1) ⟨Nat.le_refl _, h2, k2, by dsimp only; omega, k5, k1⟩ ?_ fun x hx => ?_
  · (simp only [bkq, enterW, subW, ltF, ne_eq, Nat.reduceEqDiff, reduceCtorEq, hcl2, hid]; try simp (disch := first | assumption | omega | (simp; done) | (simp; omega) | (simp only [bt, and_true]; first | done | omega | (simp; done))) [↓zlf, beq, ybc, ybd, ybe, endOk, wk, wk2, wk1, wkM, wkL, wkLL, ybf, byq, biq, isDs_ints, hcl, hcl2, hid]; try (repeat' (first | assumption | omega | exact True.intro | refine And.intro ?_ ?_ | refine closed_buf ?_ | refine closed_set_buf ?_ | refine closed_cells ?_ ?_ | refine closed_set ?_ ?_ | refine closed_del ?_ | exact AHeap.Le.refl _ | refine AHeap.Le.push ?_ _ | refine AHeap.Le.del ?_ ?_ | (simp only [bt, and_true, true_and, hcl2, hid]; first | done | omega | (simp; done)))))
  obtain ⟨g, a', p', t'⟩ := x
  obtain ⟨x1, x2, x3, x4, x5, x6⟩ := hx
  dsimp only at x1 x2 x3 x4 x5 x6 ⊢
  have ht' : t'.length ≤ 100000 := by omega
  have hpx : preP ((H.set id (pst m l p' tb t')).set tb (.buf 7 t'.length)) id tb l p' t' := preP_set hpre' x3 x4 x5
  cases g with
  | zero => cases x2
  | succ g =>
  rw [run] at x2
  simp only [step] at x2
  cases hs : isS l p' [124, 124] with
  | false =>
    rw [hs, if_neg (by simp)] at x2
    cases x2
    simp only [go_sem, reduceCtorEq, Nat.reduceEqDiff, Nat.reduceAdd, Nat.reduceMul, Nat.reduceSub, Nat.reduceLeDiff, Nat.reduceLT, Int.reduceMul, Int.reduceAdd, Int.reduceSub, Int.reduceToNat, f1, f2, hgi, hgt', hsi, hst, onP_some, endR_bad, endR_ok, xR_ok, xR_bad, HR_ok, HR_bad, dd_set, dd_set1, e_ySym, e_yAdd, e_rule, hne, ne_eq, hne', hl5, Int.toNat_natCast, vOf00, isV00, i1, Int.reduceLE, eq_self, not_false_eq_true, x3, hs, if_false]
    simp (disch := first | assumption | omega | (simp; done) | (simp; omega) | (simp only [bt, and_true]; first | done | omega | (simp; done))) [↓zlf, beq, ybc, ybd, ybe, endOk, wk, wk2, wk1, wkM, wkL, wkLL, ybf, hcl2]
  | true =>
    rw [hs, if_pos rfl] at x2
    have hlt1 := isS_lt hs
    have hp2 : preP ((H.set id (pst m l (p' + 1) tb t')).set tb (.buf 7 t'.length)) id tb l (p' + 1) t' := preP_set hpre' hlt1 (by omega) x5
    rcases thenR_some x2 with ⟨q, h3, rfl⟩ | ⟨b, p2, t2, h3, h4⟩
    · have h3' := run_mono (show g ≤ f by omega) h3
      simp only [go_sem, reduceCtorEq, Nat.reduceEqDiff, Nat.reduceAdd, Nat.reduceMul, Nat.reduceSub, Nat.reduceLeDiff, Nat.reduceLT, Int.reduceMul, Int.reduceAdd, Int.reduceSub, Int.reduceToNat, f1, f2, hgi, hgt', hsi, hst, onP_some, endR_bad, endR_ok, xR_ok, xR_bad, HR_ok, HR_bad, dd_set, dd_set1, e_ySym, e_yAdd, e_rule, hne, ne_eq, hne', hl5, Int.toNat_natCast, vOf00, isV00, i1, Int.reduceLE, eq_self, not_false_eq_true, e_yAnd, x3, hs, if_true, hp2, h3']
      simp (disch := first | assumption | omega | (simp; done) | (simp; omega) | (simp only [bt, and_true]; first | done | omega | (simp; done))) [↓zlf, beq, ybc, ybd, ybe, endOk, wk, wk2, wk1, wkM, wkL, wkLL, ybf, dd_cl hcl, zln, dd_le, dd_le1, dd_le2]
    have h3' := run_mono (show g ≤ f by omega) h3
    obtain ⟨k1b, k2b, k3b, k4b, k5b, k6b⟩ := run_post _ h3 x5 trivial hlt1
    simp only [Rl.isL, Bool.false_eq_true, if_false] at k4b
    have ht2 : t2.length ≤ 100000 := by omega
    simp only [go_sem, reduceCtorEq, Nat.reduceEqDiff, Nat.reduceAdd, Nat.reduceMul, Nat.reduceSub, Nat.reduceLeDiff, Nat.reduceLT, Int.reduceMul, Int.reduceAdd, Int.reduceSub, Int.reduceToNat, f1, f2, hgi, hgt', hsi, hst, onP_some, endR_bad, endR_ok, xR_ok, xR_bad, HR_ok, HR_bad, dd_set, dd_set1, e_ySym, e_yAdd, e_rule, hne, ne_eq, hne', hl5, Int.toNat_natCast, vOf00, isV00, i1, Int.reduceLE, eq_self, not_false_eq_true, e_yAnd, x3, hs, if_true, hp2, h3', ht2]
    have hc3 := hcl2 p2 (t2 ++ [⟨15, a', b, [], [], 0⟩])
    refine ⟨(g, t2.length, p2, t2 ++ [⟨15, a', b, [], [], 0⟩]), ⟨by dsimp only; omega, h4, k2b, by simp; omega, k5b.snoc ⟨(show 1 ≤ 15 by decide), (show 15 ≤ 16 by decide)⟩ (show (0 : Nat) < 2 ^ 128 by decide) (.inr ⟨by simp only; omega, by simp only; omega⟩), by simp⟩, by dsimp only; omega, ?_⟩
    simp only [List.length_append, yaz, yba, Nat.zero_add] at hc3 ⊢
    (simp only [bkq, enterW, subW, ltF, ne_eq, Nat.reduceEqDiff, reduceCtorEq, hc3, hid]; try simp (disch := first | assumption | omega | (simp; done) | (simp; omega) | (simp only [bt, and_true]; first | done | omega | (simp; done))) [↓zlf, beq, ybc, ybd, ybe, endOk, wk, wk2, wk1, wkM, wkL, wkLL, ybf, byq, biq, isDs_ints, hcl, hc3, hid]; try (repeat' (first | assumption | omega | exact True.intro | refine And.intro ?_ ?_ | refine closed_buf ?_ | refine closed_set_buf ?_ | refine closed_cells ?_ ?_ | refine closed_set ?_ ?_ | refine closed_del ?_ | exact AHeap.Le.refl _ | refine AHeap.Le.push ?_ _ | refine AHeap.Le.del ?_ ?_ | (simp only [bt, and_true, true_and, hc3, hid]; first | done | omega | (simp; done)))))
set_option maxHeartbeats 2000000 in
theorem st_yAnd {f : Nat} (h_yNot : EntOk Try.prog 226 (Ent.effect (e_yNot f))) : EntOk Try.prog 222 (Ent.effect (e_yAnd (f + 1))) := by
  refine EntOk.effect fun args H K h => ?_
  unfold e_yAnd e_rule at h
  split at h
  rotate_left
  · exact h.elim
  rename_i id
  obtain ⟨m, l, p, tb, t, hg, hpre, hK⟩ := h
  cases ho : run l (f + 1) .and p t with
  | none => rw [ho] at hK; exact hK.elim
  | some r =>
  rw [ho, endR_some] at hK
  refine ⟨_, _, hK, ?_⟩
  clear hK
  rw [run] at ho
  simp only [step] at ho
  have hpre' := hpre
  obtain ⟨hne, htb, ht, hp, hl, hgl, hgt⟩ := hpre
  have hid := AHeap.get_lt hg
  have htbl := AHeap.get_lt htb
  have f1 := far_of hid
  have f2 := far_of htbl
  have hl5 : l.length ≤ 100000 := by omega
  have i1 := @Int.natCast_nonneg
  have hne' : (id = tb) = False := eq_false hne
  refine ACalls.of_aw (Ω := [(226, Ent.effect (e_yNot f)), (199, Ent.effect e_ySym), (200, Ent.effect e_yAdd)]) (T := assoc []) mixed (TblOk.cons h_yNot (TblOk.cons ok_ySym (TblOk.cons ok_yAdd TblOk.nil))) Try.func222 (by kernel_rfl) (by rfl) (rs := [.tmp 2]) (by rfl) (by kernel_rfl) (by simp only [Try.ntmps222, yaz, yba]; decide) HR_nx fun hcl hlt => ?_
  change aw _ _ _ (KI Try.prog [(226, Ent.effect (e_yNot f)), (199, Ent.effect e_ySym), (200, Ent.effect e_yAdd)] (aEnd Try.prog [.tmp 2] H.nx _ _) []) _ _
  clear hlt
  obtain ⟨hgi, hgt', hsi, hcl2, hst⟩ := pre_facts hg hpre' hcl
  rcases thenR_some ho with ⟨q, h1, rfl⟩ | ⟨a, p1, t1, h1, h2⟩
  · simp only [go_sem, reduceCtorEq, Nat.reduceEqDiff, Nat.reduceAdd, Nat.reduceMul, Nat.reduceSub, Nat.reduceLeDiff, Nat.reduceLT, Int.reduceMul, Int.reduceAdd, Int.reduceSub, Int.reduceToNat, f1, f2, hgi, hgt', hsi, hst, onP_some, endR_bad, endR_ok, xR_ok, xR_bad, HR_ok, HR_bad, dd_set, dd_set1, e_ySym, e_yAdd, e_rule, hne, ne_eq, hne', hl5, Int.toNat_natCast, vOf00, isV00, i1, Int.reduceLE, eq_self, not_false_eq_true, e_yNot, hg, hpre', h1]
    simp (disch := first | assumption | omega | (simp; done) | (simp; omega) | (simp only [bt, and_true]; first | done | omega | (simp; done))) [↓zlf, beq, ybc, ybd, ybe, endOk, wk, wk2, wk1, wkM, wkL, wkLL, ybf, dd_cl hcl, zln, dd_le, dd_le1, dd_le2]
  clear ho
  obtain ⟨k1, k2, k3, k4, k5, k6⟩ := run_post _ h1 hgt trivial hp
  simp only [Rl.isL, Bool.false_eq_true, if_false] at k4
  have hp1 : preP ((H.set id (pst m l p1 tb t1)).set tb (.buf 7 t1.length)) id tb l p1 t1 := preP_set hpre' k2 (by omega) k5
  simp only [go_sem, reduceCtorEq, Nat.reduceEqDiff, Nat.reduceAdd, Nat.reduceMul, Nat.reduceSub, Nat.reduceLeDiff, Nat.reduceLT, Int.reduceMul, Int.reduceAdd, Int.reduceSub, Int.reduceToNat, f1, f2, hgi, hgt', hsi, hst, onP_some, endR_bad, endR_ok, xR_ok, xR_bad, HR_ok, HR_bad, dd_set, dd_set1, e_ySym, e_yAdd, e_rule, hne, ne_eq, hne', hl5, Int.toNat_natCast, vOf00, isV00, i1, Int.reduceLE, eq_self, not_false_eq_true, e_yNot, hg, hpre', h1]
  refine loop_introW (A := Nat × Nat × Nat × List Nd) (fun x => [(0, .ptr id 0), (3, .int .i64 (x.2.1 : Int))]) (fun x => (H.set id (pst m l x.2.2.1 tb x.2.2.2)).set tb (.buf 7 x.2.2.2.length))
    (fun x => x.1 ≤ f ∧ run l x.1 (.andL x.2.1) x.2.2.1 x.2.2.2 = some r ∧ x.2.2.1 ≤ l.length ∧ x.2.2.2.length ≤ x.2.2.1 ∧ Good x.2.2.2 ∧ x.2.1 < x.2.2.2.length) (fun x => x.1) (f, a, p1, t1) ⟨Nat.le_refl _, h2, k2, by dsimp only; omega, k5, k1⟩ ?_ fun x hx => ?_
  · (simp only [bkq, enterW, subW, ltF, ne_eq, Nat.reduceEqDiff, reduceCtorEq, hcl2, hid]; try simp (disch := first | assumption | omega | (simp; done) | (simp; omega) | (simp only [bt, and_true]; first | done | omega | (simp; done))) [↓zlf, beq, ybc, ybd, ybe, endOk, wk, wk2, wk1, wkM, wkL, wkLL, ybf, byq, biq, isDs_ints, hcl, hcl2, hid]; try (repeat' (first | assumption | omega | exact True.intro | refine And.intro ?_ ?_ | refine closed_buf ?_ | refine closed_set_buf ?_ | refine closed_cells ?_ ?_ | refine closed_set ?_ ?_ | refine closed_del ?_ | exact AHeap.Le.refl _ | refine AHeap.Le.push ?_ _ | refine AHeap.Le.del ?_ ?_ | (simp only [bt, and_true, true_and, hcl2, hid]; first | done | omega | (simp; done)))))
  obtain ⟨g, a', p', t'⟩ := x
  obtain ⟨x1, x2, x3, x4, x5, x6⟩ := hx
  dsimp only at x1 x2 x3 x4 x5 x6 ⊢
  have ht' : t'.length ≤ 100000 := by omega
  have hpx : preP ((H.set id (pst m l p' tb t')).set tb (.buf 7 t'.length)) id tb l p' t' := preP_set hpre' x3 x4 x5
  cases g with
  | zero => cases x2
  | succ g =>
  rw [run] at x2
  simp only [step] at x2
  cases hs : isS l p' [38, 38] with
  | false =>
    rw [hs, if_neg (by simp)] at x2
    cases x2
    simp only [go_sem, reduceCtorEq, Nat.reduceEqDiff, Nat.reduceAdd, Nat.reduceMul, Nat.reduceSub, Nat.reduceLeDiff, Nat.reduceLT, Int.reduceMul, Int.reduceAdd, Int.reduceSub, Int.reduceToNat, f1, f2, hgi, hgt', hsi, hst, onP_some, endR_bad, endR_ok, xR_ok, xR_bad, HR_ok, HR_bad, dd_set, dd_set1, e_ySym, e_yAdd, e_rule, hne, ne_eq, hne', hl5, Int.toNat_natCast, vOf00, isV00, i1, Int.reduceLE, eq_self, not_false_eq_true, x3, hs, if_false]
    simp (disch := first | assumption | omega | (simp; done) | (simp; omega) | (simp only [bt, and_true]; first | done | omega | (simp; done))) [↓zlf, beq, ybc, ybd, ybe, endOk, wk, wk2, wk1, wkM, wkL, wkLL, ybf, hcl2]
  | true =>
    rw [hs, if_pos rfl] at x2
    have hlt1 := isS_lt hs
    have hp2 : preP ((H.set id (pst m l (p' + 1) tb t')).set tb (.buf 7 t'.length)) id tb l (p' + 1) t' := preP_set hpre' hlt1 (by omega) x5
    rcases thenR_some x2 with ⟨q, h3, rfl⟩ | ⟨b, p2, t2, h3, h4⟩
    · have h3' := run_mono (show g ≤ f by omega) h3
      simp only [go_sem, reduceCtorEq, Nat.reduceEqDiff, Nat.reduceAdd, Nat.reduceMul, Nat.reduceSub, Nat.reduceLeDiff, Nat.reduceLT, Int.reduceMul, Int.reduceAdd, Int.reduceSub, Int.reduceToNat, f1, f2, hgi, hgt', hsi, hst, onP_some, endR_bad, endR_ok, xR_ok, xR_bad, HR_ok, HR_bad, dd_set, dd_set1, e_ySym, e_yAdd, e_rule, hne, ne_eq, hne', hl5, Int.toNat_natCast, vOf00, isV00, i1, Int.reduceLE, eq_self, not_false_eq_true, e_yNot, x3, hs, if_true, hp2, h3']
      simp (disch := first | assumption | omega | (simp; done) | (simp; omega) | (simp only [bt, and_true]; first | done | omega | (simp; done))) [↓zlf, beq, ybc, ybd, ybe, endOk, wk, wk2, wk1, wkM, wkL, wkLL, ybf, dd_cl hcl, zln, dd_le, dd_le1, dd_le2]
    have h3' := run_mono (show g ≤ f by omega) h3
    obtain ⟨k1b, k2b, k3b, k4b, k5b, k6b⟩ := run_post _ h3 x5 trivial hlt1
    simp only [Rl.isL, Bool.false_eq_true, if_false] at k4b
    have ht2 : t2.length ≤ 100000 := by omega
    simp only [go_sem, reduceCtorEq, Nat.reduceEqDiff, Nat.reduceAdd, Nat.reduceMul, Nat.reduceSub, Nat.reduceLeDiff, Nat.reduceLT, Int.reduceMul, Int.reduceAdd, Int.reduceSub, Int.reduceToNat, f1, f2, hgi, hgt', hsi, hst, onP_some, endR_bad, endR_ok, xR_ok, xR_bad, HR_ok, HR_bad, dd_set, dd_set1, e_ySym, e_yAdd, e_rule, hne, ne_eq, hne', hl5, Int.toNat_natCast, vOf00, isV00, i1, Int.reduceLE, eq_self, not_false_eq_true, e_yNot, x3, hs, if_true, hp2, h3', ht2]
    have hc3 := hcl2 p2 (t2 ++ [⟨14, a', b, [], [], 0⟩])
    refine ⟨(g, t2.length, p2, t2 ++ [⟨14, a', b, [], [], 0⟩]), ⟨by dsimp only; omega, h4, k2b, by simp; omega, k5b.snoc ⟨(show 1 ≤ 14 by decide), (show 14 ≤ 16 by decide)⟩ (show (0 : Nat) < 2 ^ 128 by decide) (.inr ⟨by simp only; omega, by simp only; omega⟩), by simp⟩, by dsimp only; omega, ?_⟩
    simp only [List.length_append, yaz, yba, Nat.zero_add] at hc3 ⊢
    (simp only [bkq, enterW, subW, ltF, ne_eq, Nat.reduceEqDiff, reduceCtorEq, hc3, hid]; try simp (disch := first | assumption | omega | (simp; done) | (simp; omega) | (simp only [bt, and_true]; first | done | omega | (simp; done))) [↓zlf, beq, ybc, ybd, ybe, endOk, wk, wk2, wk1, wkM, wkL, wkLL, ybf, byq, biq, isDs_ints, hcl, hc3, hid]; try (repeat' (first | assumption | omega | exact True.intro | refine And.intro ?_ ?_ | refine closed_buf ?_ | refine closed_set_buf ?_ | refine closed_cells ?_ ?_ | refine closed_set ?_ ?_ | refine closed_del ?_ | exact AHeap.Le.refl _ | refine AHeap.Le.push ?_ _ | refine AHeap.Le.del ?_ ?_ | (simp only [bt, and_true, true_and, hc3, hid]; first | done | omega | (simp; done)))))
set_option maxHeartbeats 2000000 in
theorem st_yNot {f : Nat} (h_yNot : EntOk Try.prog 226 (Ent.effect (e_yNot f))) (h_yCmp : EntOk Try.prog 228 (Ent.effect (e_yCmp f))) : EntOk Try.prog 226 (Ent.effect (e_yNot (f + 1))) := by
  refine EntOk.effect fun args H K h => ?_
  unfold e_yNot e_rule at h
  split at h
  rotate_left
  · exact h.elim
  rename_i id
  obtain ⟨m, l, p, tb, t, hg, hpre, hK⟩ := h
  cases ho : run l (f + 1) .not p t with
  | none => rw [ho] at hK; exact hK.elim
  | some r =>
  rw [ho, endR_some] at hK
  refine ⟨_, _, hK, ?_⟩
  clear hK
  rw [run] at ho
  simp only [step] at ho
  have hpre' := hpre
  obtain ⟨hne, htb, ht, hp, hl, hgl, hgt⟩ := hpre
  have hid := AHeap.get_lt hg
  have htbl := AHeap.get_lt htb
  have f1 := far_of hid
  have f2 := far_of htbl
  have hl5 : l.length ≤ 100000 := by omega
  have i1 := @Int.natCast_nonneg
  have hne' : (id = tb) = False := eq_false hne
  refine ACalls.of_aw (Ω := [(199, Ent.effect e_ySym), (226, Ent.effect (e_yNot f)), (200, Ent.effect e_yAdd), (228, Ent.effect (e_yCmp f))]) (T := assoc []) mixed (TblOk.cons ok_ySym (TblOk.cons h_yNot (TblOk.cons ok_yAdd (TblOk.cons h_yCmp TblOk.nil)))) Try.func226 (by kernel_rfl) (by rfl) (rs := [.tmp 2]) (by rfl) (by kernel_rfl) (by simp only [Try.ntmps226, yaz, yba]; decide) HR_nx fun hcl hlt => ?_
  change aw _ _ _ (KI Try.prog [(199, Ent.effect e_ySym), (226, Ent.effect (e_yNot f)), (200, Ent.effect e_yAdd), (228, Ent.effect (e_yCmp f))] (aEnd Try.prog [.tmp 2] H.nx _ _) []) _ _
  clear hlt
  obtain ⟨hgi, hgt', hsi, hcl2, hst⟩ := pre_facts hg hpre' hcl
  cases hs : isS l p [33] with
  | false =>
    rw [hs, if_neg (by simp)] at ho
    simp only [go_sem, reduceCtorEq, Nat.reduceEqDiff, Nat.reduceAdd, Nat.reduceMul, Nat.reduceSub, Nat.reduceLeDiff, Nat.reduceLT, Int.reduceMul, Int.reduceAdd, Int.reduceSub, Int.reduceToNat, f1, f2, hgi, hgt', hsi, hst, onP_some, endR_bad, endR_ok, xR_ok, xR_bad, HR_ok, HR_bad, dd_set, dd_set1, e_ySym, e_yAdd, e_rule, hne, ne_eq, hne', hl5, Int.toNat_natCast, vOf00, isV00, i1, Int.reduceLE, eq_self, not_false_eq_true, e_yCmp, hg, hp, hs, if_false, hpre', ho, endR_some]
    cases r with
    | ok a q u =>
      simp only [go_sem, reduceCtorEq, Nat.reduceEqDiff, Nat.reduceAdd, Nat.reduceMul, Nat.reduceSub, Nat.reduceLeDiff, Nat.reduceLT, Int.reduceMul, Int.reduceAdd, Int.reduceSub, Int.reduceToNat, f1, f2, hgi, hgt', hsi, hst, onP_some, endR_bad, endR_ok, xR_ok, xR_bad, HR_ok, HR_bad, dd_set, dd_set1, e_ySym, e_yAdd, e_rule, hne, ne_eq, hne', hl5, Int.toNat_natCast, vOf00, isV00, i1, Int.reduceLE, eq_self, not_false_eq_true]
      simp (disch := first | assumption | omega | (simp; done) | (simp; omega) | (simp only [bt, and_true]; first | done | omega | (simp; done))) [↓zlf, beq, ybc, ybd, ybe, endOk, wk, wk2, wk1, wkM, wkL, wkLL, ybf, hcl2]
    | bad q =>
      simp only [go_sem, reduceCtorEq, Nat.reduceEqDiff, Nat.reduceAdd, Nat.reduceMul, Nat.reduceSub, Nat.reduceLeDiff, Nat.reduceLT, Int.reduceMul, Int.reduceAdd, Int.reduceSub, Int.reduceToNat, f1, f2, hgi, hgt', hsi, hst, onP_some, endR_bad, endR_ok, xR_ok, xR_bad, HR_ok, HR_bad, dd_set, dd_set1, e_ySym, e_yAdd, e_rule, hne, ne_eq, hne', hl5, Int.toNat_natCast, vOf00, isV00, i1, Int.reduceLE, eq_self, not_false_eq_true]
      simp (disch := first | assumption | omega | (simp; done) | (simp; omega) | (simp only [bt, and_true]; first | done | omega | (simp; done))) [↓zlf, beq, ybc, ybd, ybe, endOk, wk, wk2, wk1, wkM, wkL, wkLL, ybf, dd_cl hcl, zln, dd_le, dd_le1, dd_le2]
  | true =>
    rw [hs, if_pos rfl] at ho
    have hlt1 := isS_lt hs
    have hgi1 : ∀ X, (H.set id X).get id = some X := fun X => AHeap.get_set_same _ _ hid
    have hp2 : preP (H.set id (pst m l (p + 1) tb t)) id tb l (p + 1) t := preP_set1 hpre' hlt1 (by omega)
    have hss : ∀ X Y, (H.set id X).set id Y = H.set id Y := fun X Y => by simp only [AHeap.set]; congr 1; funext k; by_cases hk : k = id <;> simp [hk]
    rcases thenR_some ho with ⟨q, h3, rfl⟩ | ⟨b, p2, t2, h3, h4⟩
    · simp only [go_sem, reduceCtorEq, Nat.reduceEqDiff, Nat.reduceAdd, Nat.reduceMul, Nat.reduceSub, Nat.reduceLeDiff, Nat.reduceLT, Int.reduceMul, Int.reduceAdd, Int.reduceSub, Int.reduceToNat, f1, f2, hgi, hgt', hsi, hst, onP_some, endR_bad, endR_ok, xR_ok, xR_bad, HR_ok, HR_bad, dd_set, dd_set1, e_ySym, e_yAdd, e_rule, hne, ne_eq, hne', hl5, Int.toNat_natCast, vOf00, isV00, i1, Int.reduceLE, eq_self, not_false_eq_true, e_yNot, hg, hp, hs, if_true, hgi1, hss, hp2, h3]
      simp (disch := first | assumption | omega | (simp; done) | (simp; omega) | (simp only [bt, and_true]; first | done | omega | (simp; done))) [↓zlf, beq, ybc, ybd, ybe, endOk, wk, wk2, wk1, wkM, wkL, wkLL, ybf, dd_cl hcl, zln, dd_le, dd_le1, dd_le2]
    cases h4
    obtain ⟨k1b, k2b, k3b, k4b, k5b, k6b⟩ := run_post _ h3 hgt trivial hlt1
    simp only [Rl.isL, Bool.false_eq_true, if_false] at k4b
    have ht2 : t2.length ≤ 100000 := by omega
    simp only [go_sem, reduceCtorEq, Nat.reduceEqDiff, Nat.reduceAdd, Nat.reduceMul, Nat.reduceSub, Nat.reduceLeDiff, Nat.reduceLT, Int.reduceMul, Int.reduceAdd, Int.reduceSub, Int.reduceToNat, f1, f2, hgi, hgt', hsi, hst, onP_some, endR_bad, endR_ok, xR_ok, xR_bad, HR_ok, HR_bad, dd_set, dd_set1, e_ySym, e_yAdd, e_rule, hne, ne_eq, hne', hl5, Int.toNat_natCast, vOf00, isV00, i1, Int.reduceLE, eq_self, not_false_eq_true, e_yNot, hg, hp, hs, if_true, hgi1, hss, hp2, h3, ht2, nd2]
    have hc3 := hcl2 p2 (t2 ++ [⟨5, b, 0, [], [], 0⟩])
    simp only [List.length_append, yaz, yba, Nat.zero_add] at hc3 ⊢
    simp (disch := first | assumption | omega | (simp; done) | (simp; omega) | (simp only [bt, and_true]; first | done | omega | (simp; done))) [↓zlf, beq, ybc, ybd, ybe, endOk, wk, wk2, wk1, wkM, wkL, wkLL, ybf, hc3]
set_option maxHeartbeats 2000000 in
theorem st_yUn {f : Nat} (h_yUn : EntOk Try.prog 234 (Ent.effect (e_yUn f))) (h_yAtom : EntOk Try.prog 237 (Ent.effect (e_yAtom f))) : EntOk Try.prog 234 (Ent.effect (e_yUn (f + 1))) := by
  refine EntOk.effect fun args H K h => ?_
  unfold e_yUn e_rule at h
  split at h
  rotate_left
  · exact h.elim
  rename_i id
  obtain ⟨m, l, p, tb, t, hg, hpre, hK⟩ := h
  cases ho : run l (f + 1) .un p t with
  | none => rw [ho] at hK; exact hK.elim
  | some r =>
  rw [ho, endR_some] at hK
  refine ⟨_, _, hK, ?_⟩
  clear hK
  rw [run] at ho
  simp only [step] at ho
  have hpre' := hpre
  obtain ⟨hne, htb, ht, hp, hl, hgl, hgt⟩ := hpre
  have hid := AHeap.get_lt hg
  have htbl := AHeap.get_lt htb
  have f1 := far_of hid
  have f2 := far_of htbl
  have hl5 : l.length ≤ 100000 := by omega
  have i1 := @Int.natCast_nonneg
  have hne' : (id = tb) = False := eq_false hne
  refine ACalls.of_aw (Ω := [(199, Ent.effect e_ySym), (234, Ent.effect (e_yUn f)), (200, Ent.effect e_yAdd), (237, Ent.effect (e_yAtom f))]) (T := assoc []) mixed (TblOk.cons ok_ySym (TblOk.cons h_yUn (TblOk.cons ok_yAdd (TblOk.cons h_yAtom TblOk.nil)))) Try.func234 (by kernel_rfl) (by rfl) (rs := [.tmp 2]) (by rfl) (by kernel_rfl) (by simp only [Try.ntmps234, yaz, yba]; decide) HR_nx fun hcl hlt => ?_
  change aw _ _ _ (KI Try.prog [(199, Ent.effect e_ySym), (234, Ent.effect (e_yUn f)), (200, Ent.effect e_yAdd), (237, Ent.effect (e_yAtom f))] (aEnd Try.prog [.tmp 2] H.nx _ _) []) _ _
  clear hlt
  obtain ⟨hgi, hgt', hsi, hcl2, hst⟩ := pre_facts hg hpre' hcl
  cases hs : isS l p [45] with
  | false =>
    rw [hs, if_neg (by simp)] at ho
    simp only [go_sem, reduceCtorEq, Nat.reduceEqDiff, Nat.reduceAdd, Nat.reduceMul, Nat.reduceSub, Nat.reduceLeDiff, Nat.reduceLT, Int.reduceMul, Int.reduceAdd, Int.reduceSub, Int.reduceToNat, f1, f2, hgi, hgt', hsi, hst, onP_some, endR_bad, endR_ok, xR_ok, xR_bad, HR_ok, HR_bad, dd_set, dd_set1, e_ySym, e_yAdd, e_rule, hne, ne_eq, hne', hl5, Int.toNat_natCast, vOf00, isV00, i1, Int.reduceLE, eq_self, not_false_eq_true, e_yAtom, hg, hp, hs, if_false, hpre', ho, endR_some]
    cases r with
    | ok a q u =>
      simp only [go_sem, reduceCtorEq, Nat.reduceEqDiff, Nat.reduceAdd, Nat.reduceMul, Nat.reduceSub, Nat.reduceLeDiff, Nat.reduceLT, Int.reduceMul, Int.reduceAdd, Int.reduceSub, Int.reduceToNat, f1, f2, hgi, hgt', hsi, hst, onP_some, endR_bad, endR_ok, xR_ok, xR_bad, HR_ok, HR_bad, dd_set, dd_set1, e_ySym, e_yAdd, e_rule, hne, ne_eq, hne', hl5, Int.toNat_natCast, vOf00, isV00, i1, Int.reduceLE, eq_self, not_false_eq_true]
      simp (disch := first | assumption | omega | (simp; done) | (simp; omega) | (simp only [bt, and_true]; first | done | omega | (simp; done))) [↓zlf, beq, ybc, ybd, ybe, endOk, wk, wk2, wk1, wkM, wkL, wkLL, ybf, hcl2]
    | bad q =>
      simp only [go_sem, reduceCtorEq, Nat.reduceEqDiff, Nat.reduceAdd, Nat.reduceMul, Nat.reduceSub, Nat.reduceLeDiff, Nat.reduceLT, Int.reduceMul, Int.reduceAdd, Int.reduceSub, Int.reduceToNat, f1, f2, hgi, hgt', hsi, hst, onP_some, endR_bad, endR_ok, xR_ok, xR_bad, HR_ok, HR_bad, dd_set, dd_set1, e_ySym, e_yAdd, e_rule, hne, ne_eq, hne', hl5, Int.toNat_natCast, vOf00, isV00, i1, Int.reduceLE, eq_self, not_false_eq_true]
      simp (disch := first | assumption | omega | (simp; done) | (simp; omega) | (simp only [bt, and_true]; first | done | omega | (simp; done))) [↓zlf, beq, ybc, ybd, ybe, endOk, wk, wk2, wk1, wkM, wkL, wkLL, ybf, dd_cl hcl, zln, dd_le, dd_le1, dd_le2]
  | true =>
    rw [hs, if_pos rfl] at ho
    have hlt1 := isS_lt hs
    have hgi1 : ∀ X, (H.set id X).get id = some X := fun X => AHeap.get_set_same _ _ hid
    have hp2 : preP (H.set id (pst m l (p + 1) tb t)) id tb l (p + 1) t := preP_set1 hpre' hlt1 (by omega)
    have hss : ∀ X Y, (H.set id X).set id Y = H.set id Y := fun X Y => by simp only [AHeap.set]; congr 1; funext k; by_cases hk : k = id <;> simp [hk]
    rcases thenR_some ho with ⟨q, h3, rfl⟩ | ⟨b, p2, t2, h3, h4⟩
    · simp only [go_sem, reduceCtorEq, Nat.reduceEqDiff, Nat.reduceAdd, Nat.reduceMul, Nat.reduceSub, Nat.reduceLeDiff, Nat.reduceLT, Int.reduceMul, Int.reduceAdd, Int.reduceSub, Int.reduceToNat, f1, f2, hgi, hgt', hsi, hst, onP_some, endR_bad, endR_ok, xR_ok, xR_bad, HR_ok, HR_bad, dd_set, dd_set1, e_ySym, e_yAdd, e_rule, hne, ne_eq, hne', hl5, Int.toNat_natCast, vOf00, isV00, i1, Int.reduceLE, eq_self, not_false_eq_true, e_yUn, hg, hp, hs, if_true, hgi1, hss, hp2, h3]
      simp (disch := first | assumption | omega | (simp; done) | (simp; omega) | (simp only [bt, and_true]; first | done | omega | (simp; done))) [↓zlf, beq, ybc, ybd, ybe, endOk, wk, wk2, wk1, wkM, wkL, wkLL, ybf, dd_cl hcl, zln, dd_le, dd_le1, dd_le2]
    cases h4
    obtain ⟨k1b, k2b, k3b, k4b, k5b, k6b⟩ := run_post _ h3 hgt trivial hlt1
    simp only [Rl.isL, Bool.false_eq_true, if_false] at k4b
    have ht2 : t2.length ≤ 100000 := by omega
    simp only [go_sem, reduceCtorEq, Nat.reduceEqDiff, Nat.reduceAdd, Nat.reduceMul, Nat.reduceSub, Nat.reduceLeDiff, Nat.reduceLT, Int.reduceMul, Int.reduceAdd, Int.reduceSub, Int.reduceToNat, f1, f2, hgi, hgt', hsi, hst, onP_some, endR_bad, endR_ok, xR_ok, xR_bad, HR_ok, HR_bad, dd_set, dd_set1, e_ySym, e_yAdd, e_rule, hne, ne_eq, hne', hl5, Int.toNat_natCast, vOf00, isV00, i1, Int.reduceLE, eq_self, not_false_eq_true, e_yUn, hg, hp, hs, if_true, hgi1, hss, hp2, h3, ht2, nd2]
    have hc3 := hcl2 p2 (t2 ++ [⟨4, b, 0, [], [], 0⟩])
    simp only [List.length_append, yaz, yba, Nat.zero_add] at hc3 ⊢
    simp (disch := first | assumption | omega | (simp; done) | (simp; omega) | (simp only [bt, and_true]; first | done | omega | (simp; done))) [↓zlf, beq, ybc, ybd, ybe, endOk, wk, wk2, wk1, wkM, wkL, wkLL, ybf, hc3]
set_option maxHeartbeats 2000000 in
theorem st_yCmp {f : Nat} (h_ySum : EntOk Try.prog 230 (Ent.effect (e_ySum f))) : EntOk Try.prog 228 (Ent.effect (e_yCmp (f + 1))) := by
  refine EntOk.effect fun args H K h => ?_
  unfold e_yCmp e_rule at h
  split at h
  rotate_left
  · exact h.elim
  rename_i id
  obtain ⟨m, l, p, tb, t, hg, hpre, hK⟩ := h
  cases ho : run l (f + 1) .cmp p t with
  | none => rw [ho] at hK; exact hK.elim
  | some r =>
  rw [ho, endR_some] at hK
  refine ⟨_, _, hK, ?_⟩
  clear hK
  rw [run] at ho
  simp only [step] at ho
  have hpre' := hpre
  obtain ⟨hne, htb, ht, hp, hl, hgl, hgt⟩ := hpre
  have hid := AHeap.get_lt hg
  have htbl := AHeap.get_lt htb
  have f1 := far_of hid
  have f2 := far_of htbl
  have hl5 : l.length ≤ 100000 := by omega
  have i1 := @Int.natCast_nonneg
  have hne' : (id = tb) = False := eq_false hne
  refine ACalls.of_aw (Ω := [(230, Ent.effect (e_ySum f)), (232, Ent.pure p_yCompares), (231, Ent.effect e_yOper), (200, Ent.effect e_yAdd)]) (T := assoc []) mixed (TblOk.cons h_ySum (TblOk.cons ok_yCompares (TblOk.cons ok_yOper (TblOk.cons ok_yAdd TblOk.nil)))) Try.func228 (by kernel_rfl) (by rfl) (rs := [.tmp 2]) (by rfl) (by kernel_rfl) (by simp only [Try.ntmps228, yaz, yba]; decide) HR_nx fun hcl hlt => ?_
  change aw _ _ _ (KI Try.prog [(230, Ent.effect (e_ySum f)), (232, Ent.pure p_yCompares), (231, Ent.effect e_yOper), (200, Ent.effect e_yAdd)] (aEnd Try.prog [.tmp 2] H.nx _ _) []) _ _
  clear hlt
  obtain ⟨hgi, hgt', hsi, hcl2, hst⟩ := pre_facts hg hpre' hcl
  rcases thenR_some ho with ⟨q, h1, rfl⟩ | ⟨a, p1, t1, h1, h2⟩
  · simp only [go_sem, reduceCtorEq, Nat.reduceEqDiff, Nat.reduceAdd, Nat.reduceMul, Nat.reduceSub, Nat.reduceLeDiff, Nat.reduceLT, Int.reduceMul, Int.reduceAdd, Int.reduceSub, Int.reduceToNat, f1, f2, hgi, hgt', hsi, hst, onP_some, endR_bad, endR_ok, xR_ok, xR_bad, HR_ok, HR_bad, dd_set, dd_set1, e_ySym, e_yAdd, e_rule, hne, ne_eq, hne', hl5, Int.toNat_natCast, vOf00, isV00, i1, Int.reduceLE, eq_self, not_false_eq_true, e_ySum, hg, hpre', h1]
    simp (disch := first | assumption | omega | (simp; done) | (simp; omega) | (simp only [bt, and_true]; first | done | omega | (simp; done))) [↓zlf, beq, ybc, ybd, ybe, endOk, wk, wk2, wk1, wkM, wkL, wkLL, ybf, dd_cl hcl, zln, dd_le, dd_le1, dd_le2]
  clear ho
  obtain ⟨k1, k2, k3, k4, k5, k6⟩ := run_post _ h1 hgt trivial hp
  simp only [Rl.isL, Bool.false_eq_true, if_false] at k4
  have hp1 : preP ((H.set id (pst m l p1 tb t1)).set tb (.buf 7 t1.length)) id tb l p1 t1 := preP_set hpre' k2 (by omega) k5
  cases hs : opOf l p1 opsC with
  | none =>
    rw [hs] at h2
    cases h2
    simp only [go_sem, reduceCtorEq, Nat.reduceEqDiff, Nat.reduceAdd, Nat.reduceMul, Nat.reduceSub, Nat.reduceLeDiff, Nat.reduceLT, Int.reduceMul, Int.reduceAdd, Int.reduceSub, Int.reduceToNat, f1, f2, hgi, hgt', hsi, hst, onP_some, endR_bad, endR_ok, xR_ok, xR_bad, HR_ok, HR_bad, dd_set, dd_set1, e_ySym, e_yAdd, e_rule, hne, ne_eq, hne', hl5, Int.toNat_natCast, vOf00, isV00, i1, Int.reduceLE, eq_self, not_false_eq_true, e_yOper, p_yCompares, p_ySums, onOps_some, opsC_len, opsS_len, e_ySum, hg, hpre', h1, k2, hs, onN_none]
    refine cond_ff rfl ?_
    simp only [go_sem, reduceCtorEq, Nat.reduceEqDiff, Nat.reduceAdd, Nat.reduceMul, Nat.reduceSub, Nat.reduceLeDiff, Nat.reduceLT, Int.reduceMul, Int.reduceAdd, Int.reduceSub, Int.reduceToNat, f1, f2, hgi, hgt', hsi, hst, onP_some, endR_bad, endR_ok, xR_ok, xR_bad, HR_ok, HR_bad, dd_set, dd_set1, e_ySym, e_yAdd, e_rule, hne, ne_eq, hne', hl5, Int.toNat_natCast, vOf00, isV00, i1, Int.reduceLE, eq_self, not_false_eq_true]
    simp (disch := first | assumption | omega | (simp; done) | (simp; omega) | (simp only [bt, and_true]; first | done | omega | (simp; done))) [↓zlf, beq, ybc, ybd, ybe, endOk, wk, wk2, wk1, wkM, wkL, wkLL, ybf, hcl2]
  | some op =>
    rw [hs] at h2
    dsimp only at h2
    obtain ⟨hlt1, so, hso⟩ := opOf_lt hs
    obtain ⟨o1, o2⟩ := opsC_op hso
    have hop : ((op : Int) != 0) = true := by simp; omega
    have hp2 : preP ((H.set id (pst m l (p1 + 1) tb t1)).set tb (.buf 7 t1.length)) id tb l (p1 + 1) t1 := preP_set hpre' hlt1 (by omega) k5
    rcases thenR_some h2 with ⟨q, h3, rfl⟩ | ⟨b, p2, t2, h3, h4⟩
    · simp only [go_sem, reduceCtorEq, Nat.reduceEqDiff, Nat.reduceAdd, Nat.reduceMul, Nat.reduceSub, Nat.reduceLeDiff, Nat.reduceLT, Int.reduceMul, Int.reduceAdd, Int.reduceSub, Int.reduceToNat, f1, f2, hgi, hgt', hsi, hst, onP_some, endR_bad, endR_ok, xR_ok, xR_bad, HR_ok, HR_bad, dd_set, dd_set1, e_ySym, e_yAdd, e_rule, hne, ne_eq, hne', hl5, Int.toNat_natCast, vOf00, isV00, i1, Int.reduceLE, eq_self, not_false_eq_true, e_yOper, p_yCompares, p_ySums, onOps_some, opsC_len, opsS_len, e_ySum, hg, hpre', h1, k2, hs, onN_some, hop, hp2, h3]
      simp (disch := first | assumption | omega | (simp; done) | (simp; omega) | (simp only [bt, and_true]; first | done | omega | (simp; done))) [↓zlf, beq, ybc, ybd, ybe, endOk, wk, wk2, wk1, wkM, wkL, wkLL, ybf, dd_cl hcl, zln, dd_le, dd_le1, dd_le2]
    cases h4
    obtain ⟨k1b, k2b, k3b, k4b, k5b, k6b⟩ := run_post _ h3 k5 trivial hlt1
    simp only [Rl.isL, Bool.false_eq_true, if_false] at k4b
    have ht2 : t2.length ≤ 100000 := by omega
    simp only [go_sem, reduceCtorEq, Nat.reduceEqDiff, Nat.reduceAdd, Nat.reduceMul, Nat.reduceSub, Nat.reduceLeDiff, Nat.reduceLT, Int.reduceMul, Int.reduceAdd, Int.reduceSub, Int.reduceToNat, f1, f2, hgi, hgt', hsi, hst, onP_some, endR_bad, endR_ok, xR_ok, xR_bad, HR_ok, HR_bad, dd_set, dd_set1, e_ySym, e_yAdd, e_rule, hne, ne_eq, hne', hl5, Int.toNat_natCast, vOf00, isV00, i1, Int.reduceLE, eq_self, not_false_eq_true, e_yOper, p_yCompares, p_ySums, onOps_some, opsC_len, opsS_len, e_ySum, hg, hpre', h1, k2, hs, onN_some, hop, hp2, h3, ht2, nd2]
    have hc3 := hcl2 p2 (t2 ++ [⟨op, a, b, [], [], 0⟩])
    simp only [List.length_append, yaz, yba, Nat.zero_add] at hc3 ⊢
    simp (disch := first | assumption | omega | (simp; done) | (simp; omega) | (simp only [bt, and_true]; first | done | omega | (simp; done))) [↓zlf, beq, ybc, ybd, ybe, endOk, wk, wk2, wk1, wkM, wkL, wkLL, ybf, hc3]
set_option maxHeartbeats 2000000 in
theorem st_ySum {f : Nat} (h_yUn : EntOk Try.prog 234 (Ent.effect (e_yUn f))) : EntOk Try.prog 230 (Ent.effect (e_ySum (f + 1))) := by
  refine EntOk.effect fun args H K h => ?_
  unfold e_ySum e_rule at h
  split at h
  rotate_left
  · exact h.elim
  rename_i id
  obtain ⟨m, l, p, tb, t, hg, hpre, hK⟩ := h
  cases ho : run l (f + 1) .sum p t with
  | none => rw [ho] at hK; exact hK.elim
  | some r =>
  rw [ho, endR_some] at hK
  refine ⟨_, _, hK, ?_⟩
  clear hK
  rw [run] at ho
  simp only [step] at ho
  have hpre' := hpre
  obtain ⟨hne, htb, ht, hp, hl, hgl, hgt⟩ := hpre
  have hid := AHeap.get_lt hg
  have htbl := AHeap.get_lt htb
  have f1 := far_of hid
  have f2 := far_of htbl
  have hl5 : l.length ≤ 100000 := by omega
  have i1 := @Int.natCast_nonneg
  have hne' : (id = tb) = False := eq_false hne
  refine ACalls.of_aw (Ω := [(234, Ent.effect (e_yUn f)), (235, Ent.pure p_ySums), (231, Ent.effect e_yOper), (200, Ent.effect e_yAdd)]) (T := assoc []) mixed (TblOk.cons h_yUn (TblOk.cons ok_ySums (TblOk.cons ok_yOper (TblOk.cons ok_yAdd TblOk.nil)))) Try.func230 (by kernel_rfl) (by rfl) (rs := [.tmp 2]) (by rfl) (by kernel_rfl) (by simp only [Try.ntmps230, yaz, yba]; decide) HR_nx fun hcl hlt => ?_
  change aw _ _ _ (KI Try.prog [(234, Ent.effect (e_yUn f)), (235, Ent.pure p_ySums), (231, Ent.effect e_yOper), (200, Ent.effect e_yAdd)] (aEnd Try.prog [.tmp 2] H.nx _ _) []) _ _
  clear hlt
  obtain ⟨hgi, hgt', hsi, hcl2, hst⟩ := pre_facts hg hpre' hcl
  rcases thenR_some ho with ⟨q, h1, rfl⟩ | ⟨a, p1, t1, h1, h2⟩
  · simp only [go_sem, reduceCtorEq, Nat.reduceEqDiff, Nat.reduceAdd, Nat.reduceMul, Nat.reduceSub, Nat.reduceLeDiff, Nat.reduceLT, Int.reduceMul, Int.reduceAdd, Int.reduceSub, Int.reduceToNat, f1, f2, hgi, hgt', hsi, hst, onP_some, endR_bad, endR_ok, xR_ok, xR_bad, HR_ok, HR_bad, dd_set, dd_set1, e_ySym, e_yAdd, e_rule, hne, ne_eq, hne', hl5, Int.toNat_natCast, vOf00, isV00, i1, Int.reduceLE, eq_self, not_false_eq_true, e_yUn, hg, hpre', h1]
    simp (disch := first | assumption | omega | (simp; done) | (simp; omega) | (simp only [bt, and_true]; first | done | omega | (simp; done))) [↓zlf, beq, ybc, ybd, ybe, endOk, wk, wk2, wk1, wkM, wkL, wkLL, ybf, dd_cl hcl, zln, dd_le, dd_le1, dd_le2]
  clear ho
  obtain ⟨k1, k2, k3, k4, k5, k6⟩ := run_post _ h1 hgt trivial hp
  simp only [Rl.isL, Bool.false_eq_true, if_false] at k4
  have hp1 : preP ((H.set id (pst m l p1 tb t1)).set tb (.buf 7 t1.length)) id tb l p1 t1 := preP_set hpre' k2 (by omega) k5
  have hsn : ∀ p', opOf l p' opsS = none → opv l p' = 0 ∧ oph l p' = p' := fun p' e => by simp [opv, oph, e]
  have hss : ∀ p' op, opOf l p' opsS = some op → opv l p' = op ∧ oph l p' = p' + 1 := fun p' op e => by simp [opv, oph, e]
  have hev : ∀ p', (opOf l p' opsS = none ∧ opv l p' = 0 ∧ oph l p' = p') ∨ ∃ op, opOf l p' opsS = some op ∧ opv l p' = op ∧ oph l p' = p' + 1 := fun p' => by
    cases hs : opOf l p' opsS with
    | none => exact .inl ⟨rfl, hsn _ hs⟩
    | some op => exact .inr ⟨op, rfl, hss _ _ hs⟩
  simp only [go_sem, reduceCtorEq, Nat.reduceEqDiff, Nat.reduceAdd, Nat.reduceMul, Nat.reduceSub, Nat.reduceLeDiff, Nat.reduceLT, Int.reduceMul, Int.reduceAdd, Int.reduceSub, Int.reduceToNat, f1, f2, hgi, hgt', hsi, hst, onP_some, endR_bad, endR_ok, xR_ok, xR_bad, HR_ok, HR_bad, dd_set, dd_set1, e_ySym, e_yAdd, e_rule, hne, ne_eq, hne', hl5, Int.toNat_natCast, vOf00, isV00, i1, Int.reduceLE, eq_self, not_false_eq_true, e_yOper, p_yCompares, p_ySums, onOps_some, opsC_len, opsS_len, e_yUn, hg, hpre', h1, k2]
  rcases hev p1 with ⟨hs1, v1, v2⟩ | ⟨op1, hs1, v1, v2⟩
  all_goals
    simp only [go_sem, reduceCtorEq, Nat.reduceEqDiff, Nat.reduceAdd, Nat.reduceMul, Nat.reduceSub, Nat.reduceLeDiff, Nat.reduceLT, Int.reduceMul, Int.reduceAdd, Int.reduceSub, Int.reduceToNat, f1, f2, hgi, hgt', hsi, hst, onP_some, endR_bad, endR_ok, xR_ok, xR_bad, HR_ok, HR_bad, dd_set, dd_set1, e_ySym, e_yAdd, e_rule, hne, ne_eq, hne', hl5, Int.toNat_natCast, vOf00, isV00, i1, Int.reduceLE, eq_self, not_false_eq_true, e_yOper, p_yCompares, p_ySums, onOps_some, opsC_len, opsS_len, k2, hs1, onN_none, onN_some]
    refine loop_introW (A := Nat × Nat × Nat × List Nd) (fun x => [(0, .ptr id 0), (3, .int .i64 (x.2.1 : Int)), (4, .int .i64 (opv l x.2.2.1 : Int))]) (fun x => (H.set id (pst m l (oph l x.2.2.1) tb x.2.2.2)).set tb (.buf 7 x.2.2.2.length)) (fun x => x.1 ≤ f ∧ run l x.1 (.sumL x.2.1) x.2.2.1 x.2.2.2 = some r ∧ x.2.2.1 ≤ l.length ∧ x.2.2.2.length ≤ x.2.2.1 ∧ Good x.2.2.2 ∧ x.2.1 < x.2.2.2.length) (fun x => x.1) (f, a, p1, t1) ⟨Nat.le_refl _, h2, k2, by dsimp only; omega, k5, k1⟩ ?_ fun x hx => ?_
    · dsimp only
      rw [v1, v2]
      (simp only [bkq, enterW, subW, ltF, ne_eq, Nat.reduceEqDiff, reduceCtorEq, hcl2, hid]; try simp (disch := first | assumption | omega | (simp; done) | (simp; omega) | (simp only [bt, and_true]; first | done | omega | (simp; done))) [↓zlf, beq, ybc, ybd, ybe, endOk, wk, wk2, wk1, wkM, wkL, wkLL, ybf, byq, biq, isDs_ints, hcl, hcl2, hid]; try (repeat' (first | assumption | omega | exact True.intro | refine And.intro ?_ ?_ | refine closed_buf ?_ | refine closed_set_buf ?_ | refine closed_cells ?_ ?_ | refine closed_set ?_ ?_ | refine closed_del ?_ | exact AHeap.Le.refl _ | refine AHeap.Le.push ?_ _ | refine AHeap.Le.del ?_ ?_ | (simp only [bt, and_true, true_and, hcl2, hid]; first | done | omega | (simp; done)))))
    obtain ⟨g, a', p', t'⟩ := x
    obtain ⟨x1, x2, x3, x4, x5, x6⟩ := hx
    dsimp only at x1 x2 x3 x4 x5 x6 ⊢
    have ht' : t'.length ≤ 100000 := by omega
    cases g with
    | zero => cases x2
    | succ g =>
    rw [run] at x2
    simp only [step] at x2
    rcases hev p' with ⟨hs, u1, u2⟩ | ⟨op, hs, u1, u2⟩
    · rw [hs] at x2
      cases x2
      rw [u1, u2]
      simp only [go_sem, reduceCtorEq, Nat.reduceEqDiff, Nat.reduceAdd, Nat.reduceMul, Nat.reduceSub, Nat.reduceLeDiff, Nat.reduceLT, Int.reduceMul, Int.reduceAdd, Int.reduceSub, Int.reduceToNat, f1, f2, hgi, hgt', hsi, hst, onP_some, endR_bad, endR_ok, xR_ok, xR_bad, HR_ok, HR_bad, dd_set, dd_set1, e_ySym, e_yAdd, e_rule, hne, ne_eq, hne', hl5, Int.toNat_natCast, vOf00, isV00, i1, Int.reduceLE, eq_self, not_false_eq_true]
      refine cond_ff rfl ?_
      simp only [go_sem, reduceCtorEq, Nat.reduceEqDiff, Nat.reduceAdd, Nat.reduceMul, Nat.reduceSub, Nat.reduceLeDiff, Nat.reduceLT, Int.reduceMul, Int.reduceAdd, Int.reduceSub, Int.reduceToNat, f1, f2, hgi, hgt', hsi, hst, onP_some, endR_bad, endR_ok, xR_ok, xR_bad, HR_ok, HR_bad, dd_set, dd_set1, e_ySym, e_yAdd, e_rule, hne, ne_eq, hne', hl5, Int.toNat_natCast, vOf00, isV00, i1, Int.reduceLE, eq_self, not_false_eq_true]
      simp (disch := first | assumption | omega | (simp; done) | (simp; omega) | (simp only [bt, and_true]; first | done | omega | (simp; done))) [↓zlf, beq, ybc, ybd, ybe, endOk, wk, wk2, wk1, wkM, wkL, wkLL, ybf, hcl2]
    · rw [hs] at x2
      dsimp only at x2
      rw [u1, u2]
      obtain ⟨hlt1, so, hso⟩ := opOf_lt hs
      obtain ⟨o1, o2⟩ := opsS_op hso
      have hop : ((op : Int) != 0) = true := by simp; omega
      have hp2 : preP ((H.set id (pst m l (p' + 1) tb t')).set tb (.buf 7 t'.length)) id tb l (p' + 1) t' := preP_set hpre' hlt1 (by omega) x5
      rcases thenR_some x2 with ⟨q, h3, rfl⟩ | ⟨b, p2, t2, h3, h4⟩
      · have h3' := run_mono (show g ≤ f by omega) h3
        simp only [go_sem, reduceCtorEq, Nat.reduceEqDiff, Nat.reduceAdd, Nat.reduceMul, Nat.reduceSub, Nat.reduceLeDiff, Nat.reduceLT, Int.reduceMul, Int.reduceAdd, Int.reduceSub, Int.reduceToNat, f1, f2, hgi, hgt', hsi, hst, onP_some, endR_bad, endR_ok, xR_ok, xR_bad, HR_ok, HR_bad, dd_set, dd_set1, e_ySym, e_yAdd, e_rule, hne, ne_eq, hne', hl5, Int.toNat_natCast, vOf00, isV00, i1, Int.reduceLE, eq_self, not_false_eq_true, e_yUn, hop, hp2, h3']
        simp (disch := first | assumption | omega | (simp; done) | (simp; omega) | (simp only [bt, and_true]; first | done | omega | (simp; done))) [↓zlf, beq, ybc, ybd, ybe, endOk, wk, wk2, wk1, wkM, wkL, wkLL, ybf, dd_cl hcl, zln, dd_le, dd_le1, dd_le2]
      have h3' := run_mono (show g ≤ f by omega) h3
      obtain ⟨k1b, k2b, k3b, k4b, k5b, k6b⟩ := run_post _ h3 x5 trivial hlt1
      simp only [Rl.isL, Bool.false_eq_true, if_false] at k4b
      have ht2 : t2.length ≤ 100000 := by omega
      have hc3 := hcl2 (oph l p2) (t2 ++ [⟨op, a', b, [], [], 0⟩])
      rcases hev p2 with ⟨hs2, w1, w2⟩ | ⟨op2, hs2, w1, w2⟩
      all_goals
        simp only [go_sem, reduceCtorEq, Nat.reduceEqDiff, Nat.reduceAdd, Nat.reduceMul, Nat.reduceSub, Nat.reduceLeDiff, Nat.reduceLT, Int.reduceMul, Int.reduceAdd, Int.reduceSub, Int.reduceToNat, f1, f2, hgi, hgt', hsi, hst, onP_some, endR_bad, endR_ok, xR_ok, xR_bad, HR_ok, HR_bad, dd_set, dd_set1, e_ySym, e_yAdd, e_rule, hne, ne_eq, hne', hl5, Int.toNat_natCast, vOf00, isV00, i1, Int.reduceLE, eq_self, not_false_eq_true, e_yOper, p_yCompares, p_ySums, onOps_some, opsC_len, opsS_len, e_yUn, hop, hp2, h3', ht2, k2b, hs2, onN_none, onN_some]
        refine ⟨(g, t2.length, p2, t2 ++ [⟨op, a', b, [], [], 0⟩]), ⟨by dsimp only; omega, h4, k2b, by simp; omega, k5b.snoc ⟨(by show 1 ≤ op; omega), o2⟩ (show (0 : Nat) < 2 ^ 128 by decide) (.inr ⟨by simp only; omega, by simp only; omega⟩), by simp⟩, by dsimp only; omega, ?_⟩
        dsimp only
        rw [w1, w2]
        rw [w2] at hc3
        simp only [List.length_append, yaz, yba, Nat.zero_add] at hc3 ⊢
        (simp only [bkq, enterW, subW, ltF, ne_eq, Nat.reduceEqDiff, reduceCtorEq, hc3, hid]; try simp (disch := first | assumption | omega | (simp; done) | (simp; omega) | (simp only [bt, and_true]; first | done | omega | (simp; done))) [↓zlf, beq, ybc, ybd, ybe, endOk, wk, wk2, wk1, wkM, wkL, wkLL, ybf, byq, biq, isDs_ints, hcl, hc3, hid]; try (repeat' (first | assumption | omega | exact True.intro | refine And.intro ?_ ?_ | refine closed_buf ?_ | refine closed_set_buf ?_ | refine closed_cells ?_ ?_ | refine closed_set ?_ ?_ | refine closed_del ?_ | exact AHeap.Le.refl _ | refine AHeap.Le.push ?_ _ | refine AHeap.Le.del ?_ ?_ | (simp only [bt, and_true, true_and, hc3, hid]; first | done | omega | (simp; done)))))
set_option maxHeartbeats 2000000 in
theorem st_yAtom {f : Nat} (h_yImp : EntOk Try.prog 151 (Ent.effect (e_yImp f))) : EntOk Try.prog 237 (Ent.effect (e_yAtom (f + 1))) := by
  refine EntOk.effect fun args H K h => ?_
  unfold e_yAtom e_rule at h
  split at h
  rotate_left
  · exact h.elim
  rename_i id
  obtain ⟨m, l, p, tb, t, hg, hpre, hK⟩ := h
  cases ho : run l (f + 1) .atom p t with
  | none => rw [ho] at hK; exact hK.elim
  | some r =>
  rw [ho, endR_some] at hK
  refine ⟨_, _, hK, ?_⟩
  clear hK
  rw [run] at ho
  simp only [step] at ho
  have hpre' := hpre
  obtain ⟨hne, htb, ht, hp, hl, hgl, hgt⟩ := hpre
  have hid := AHeap.get_lt hg
  have htbl := AHeap.get_lt htb
  have f1 := far_of hid
  have f2 := far_of htbl
  have hl5 : l.length ≤ 100000 := by omega
  have i1 := @Int.natCast_nonneg
  have hne' : (id = tb) = False := eq_false hne
  refine ACalls.of_aw (Ω := [(199, Ent.effect e_ySym), (151, Ent.effect (e_yImp f)), (152, Ent.effect e_yFail), (240, Ent.effect e_yLiteral), (241, Ent.effect e_yWord), (242, Ent.pure p_yTruth), (200, Ent.effect e_yAdd)]) (T := assoc []) mixed (TblOk.cons ok_ySym (TblOk.cons h_yImp (TblOk.cons ok_yFail (TblOk.cons ok_yLiteral (TblOk.cons ok_yWord (TblOk.cons ok_yTruth (TblOk.cons ok_yAdd TblOk.nil))))))) Try.func237 (by kernel_rfl) (by rfl) (rs := [.tmp 2]) (by rfl) (by kernel_rfl) (by simp only [Try.ntmps237, yaz, yba]; decide) HR_nx fun hcl hlt => ?_
  change aw _ _ _ (KI Try.prog [(199, Ent.effect e_ySym), (151, Ent.effect (e_yImp f)), (152, Ent.effect e_yFail), (240, Ent.effect e_yLiteral), (241, Ent.effect e_yWord), (242, Ent.pure p_yTruth), (200, Ent.effect e_yAdd)] (aEnd Try.prog [.tmp 2] H.nx _ _) []) _ _
  clear hlt
  obtain ⟨hgi, hgt', hsi, hcl2, hst⟩ := pre_facts hg hpre' hcl
  have hgi1 : ∀ X, (H.set id X).get id = some X := fun X => AHeap.get_set_same _ _ hid
  have hgt1 : ∀ X, (H.set id X).get tb = some (.buf 7 t.length) := fun X => by rw [AHeap.get_set_ne _ _ (fun e => hne e.symm)]; exact htb
  have hss : ∀ X Y, (H.set id X).set id Y = H.set id Y := fun X Y => by simp only [AHeap.set]; congr 1; funext k; by_cases hk : k = id <;> simp [hk]
  have hcs := cells_some (cs := [.slice m 3 (toks l), .int .i64 (p : Int), .slice (.own tb) 7 (nds t)]) hg
  have ht5 : t.length ≤ 100000 := by omega
  cases hs0 : isS l p [40] with
  | true =>
    rw [hs0, if_pos rfl] at ho
    have hlt1 := isS_lt hs0
    have hp2 : preP (H.set id (pst m l (p + 1) tb t)) id tb l (p + 1) t := preP_set1 hpre' hlt1 (by omega)
    rcases thenR_some ho with ⟨q, h3, rfl⟩ | ⟨a, p1, t1, h3, h4⟩
    · simp only [go_sem, reduceCtorEq, Nat.reduceEqDiff, Nat.reduceAdd, Nat.reduceMul, Nat.reduceSub, Nat.reduceLeDiff, Nat.reduceLT, Int.reduceMul, Int.reduceAdd, Int.reduceSub, Int.reduceToNat, f1, f2, hgi, hgt', hsi, hst, onP_some, endR_bad, endR_ok, xR_ok, xR_bad, HR_ok, HR_bad, dd_set, dd_set1, e_ySym, e_yAdd, e_rule, hne, ne_eq, hne', hl5, Int.toNat_natCast, vOf00, isV00, i1, Int.reduceLE, eq_self, not_false_eq_true, e_yImp, hg, hp, hs0, if_true, hgi1, hss, hp2, h3]
      simp (disch := first | assumption | omega | (simp; done) | (simp; omega) | (simp only [bt, and_true]; first | done | omega | (simp; done))) [↓zlf, beq, ybc, ybd, ybe, endOk, wk, wk2, wk1, wkM, wkL, wkLL, ybf, dd_cl hcl, zln, dd_le, dd_le1, dd_le2]
    obtain ⟨k1b, k2b, k3b, k4b, k5b, k6b⟩ := run_post _ h3 hgt trivial hlt1
    simp only [Rl.isL, Bool.false_eq_true, if_false] at k4b
    cases hs2 : isS l p1 [41] with
    | true =>
      rw [hs2, if_pos rfl] at h4
      cases h4
      simp only [go_sem, reduceCtorEq, Nat.reduceEqDiff, Nat.reduceAdd, Nat.reduceMul, Nat.reduceSub, Nat.reduceLeDiff, Nat.reduceLT, Int.reduceMul, Int.reduceAdd, Int.reduceSub, Int.reduceToNat, f1, f2, hgi, hgt', hsi, hst, onP_some, endR_bad, endR_ok, xR_ok, xR_bad, HR_ok, HR_bad, dd_set, dd_set1, e_ySym, e_yAdd, e_rule, hne, ne_eq, hne', hl5, Int.toNat_natCast, vOf00, isV00, i1, Int.reduceLE, eq_self, not_false_eq_true, e_yImp, hg, hp, hs0, if_true, hgi1, hss, hp2, h3, k2b, hs2]
      simp (disch := first | assumption | omega | (simp; done) | (simp; omega) | (simp only [bt, and_true]; first | done | omega | (simp; done))) [↓zlf, beq, ybc, ybd, ybe, endOk, wk, wk2, wk1, wkM, wkL, wkLL, ybf, hcl2]
    | false =>
      rw [hs2, if_neg (by simp)] at h4
      cases h4
      simp only [go_sem, reduceCtorEq, Nat.reduceEqDiff, Nat.reduceAdd, Nat.reduceMul, Nat.reduceSub, Nat.reduceLeDiff, Nat.reduceLT, Int.reduceMul, Int.reduceAdd, Int.reduceSub, Int.reduceToNat, f1, f2, hgi, hgt', hsi, hst, onP_some, endR_bad, endR_ok, xR_ok, xR_bad, HR_ok, HR_bad, dd_set, dd_set1, e_ySym, e_yAdd, e_rule, hne, ne_eq, hne', hl5, Int.toNat_natCast, vOf00, isV00, i1, Int.reduceLE, eq_self, not_false_eq_true, e_yImp, e_yFail, hg, hp, hs0, if_true, if_false, hgi1, hss, hp2, h3, k2b, hs2]
      simp (disch := first | assumption | omega | (simp; done) | (simp; omega) | (simp only [bt, and_true]; first | done | omega | (simp; done))) [↓zlf, beq, ybc, ybd, ybe, endOk, wk, wk2, wk1, wkM, wkL, wkLL, ybf, dd_cl hcl, zln, dd_le, dd_le1, dd_le2]
  | false =>
    rw [hs0, if_neg (by simp)] at ho
    cases ho
    by_cases hlt0 : p < l.length
    · rcases htk : l[p] with ⟨k, x, z⟩
      have hgd := tok_get hlt0 htk
      have hge : l[p]? = some (k, x, z) := by rw [List.getElem?_eq_getElem hlt0, htk]
      have d0 : decide ((p : Int) < (l.length : Int)) = true := by simp; omega
      by_cases hk1 : k = 1
      · subst hk1
        have hka : kindAt l p = 1 := by unfold kindAt; rw [hge]
        have hr : atomR l p t = .ok t.length (p + 1) (t ++ [⟨1, 0, 0, [], [], litAt l p⟩]) := by unfold atomR litAt; rw [hge]; rfl
        have hd1 : (((1 : Nat) : Int) == 1) = true := rfl
        rw [hr]
        have hc3 := hcl2 (p + 1) (t ++ [⟨1, 0, 0, [], [], litAt l p⟩])
        simp only [go_sem, reduceCtorEq, Nat.reduceEqDiff, Nat.reduceAdd, Nat.reduceMul, Nat.reduceSub, Nat.reduceLeDiff, Nat.reduceLT, Int.reduceMul, Int.reduceAdd, Int.reduceSub, Int.reduceToNat, f1, f2, hgi, hgt', hsi, hst, onP_some, endR_bad, endR_ok, xR_ok, xR_bad, HR_ok, HR_bad, dd_set, dd_set1, e_ySym, e_yAdd, e_rule, hne, ne_eq, hne', hl5, Int.toNat_natCast, vOf00, isV00, i1, Int.reduceLE, eq_self, not_false_eq_true, hg, hp, hs0, if_false, hcs, toks_length, hgd, d0, e_yWord, e_yLiteral, e_yFail, p_yTruth, hp, hgi1, hgt1, hss, ht5, onW_some, onW_none, truthN, bne_self_eq_false, beq_self_eq_true, hd1, hka, hpre']
        simp only [List.length_append, yaz, yba, Nat.zero_add] at hc3 ⊢
        refine ⟨by omega, ?_⟩
        simp (disch := first | assumption | omega | (simp; done) | (simp; omega) | (simp only [bt, and_true]; first | done | omega | (simp; done))) [↓zlf, beq, ybc, ybd, ybe, endOk, wk, wk2, wk1, wkM, wkL, wkLL, ybf, hc3]
      · have d1 : ((k : Int) == 1) = false := by simp; omega
        by_cases hk2 : k = 2
        · subst hk2
          have hw : wordT l p = some x := by unfold wordT; rw [hge]; rfl
          have hd2 : (((2 : Nat) : Int) == 1) = false := rfl
          by_cases hx1 : x = sTrue
          · have hr : atomR l p t = .ok t.length (p + 1) (t ++ [⟨2, 0, 0, [], [], 1⟩]) := by unfold atomR; rw [hge]; simp [hx1]
            have htr : truthAV x = .tup [truthN 2 1, .bool true] := by unfold truthAV; rw [if_pos hx1]
            rw [hr]
            have hc3 := hcl2 (p + 1) (t ++ [⟨2, 0, 0, [], [], 1⟩])
            simp only [go_sem, reduceCtorEq, Nat.reduceEqDiff, Nat.reduceAdd, Nat.reduceMul, Nat.reduceSub, Nat.reduceLeDiff, Nat.reduceLT, Int.reduceMul, Int.reduceAdd, Int.reduceSub, Int.reduceToNat, f1, f2, hgi, hgt', hsi, hst, onP_some, endR_bad, endR_ok, xR_ok, xR_bad, HR_ok, HR_bad, dd_set, dd_set1, e_ySym, e_yAdd, e_rule, hne, ne_eq, hne', hl5, Int.toNat_natCast, vOf00, isV00, i1, Int.reduceLE, eq_self, not_false_eq_true, hg, hp, hs0, if_false, hcs, toks_length, hgd, d0, e_yWord, e_yLiteral, e_yFail, p_yTruth, hp, hgi1, hgt1, hss, ht5, onW_some, onW_none, truthN, bne_self_eq_false, beq_self_eq_true, hd2, hw, htr, vOf01, isV01]
            simp only [List.length_append, yaz, yba, Nat.zero_add] at hc3 ⊢
            refine ⟨by omega, ?_⟩
            simp (disch := first | assumption | omega | (simp; done) | (simp; omega) | (simp only [bt, and_true]; first | done | omega | (simp; done))) [↓zlf, beq, ybc, ybd, ybe, endOk, wk, wk2, wk1, wkM, wkL, wkLL, ybf, hc3]
          · by_cases hx2 : x = sFalse
            · have hr : atomR l p t = .ok t.length (p + 1) (t ++ [⟨2, 0, 0, [], [], 0⟩]) := by unfold atomR; rw [hge]; simp [hx1, hx2]; decide
              have htr : truthAV x = .tup [truthN 2 0, .bool true] := by unfold truthAV; rw [if_neg hx1, if_pos hx2]
              rw [hr]
              have hc3 := hcl2 (p + 1) (t ++ [⟨2, 0, 0, [], [], 0⟩])
              simp only [go_sem, reduceCtorEq, Nat.reduceEqDiff, Nat.reduceAdd, Nat.reduceMul, Nat.reduceSub, Nat.reduceLeDiff, Nat.reduceLT, Int.reduceMul, Int.reduceAdd, Int.reduceSub, Int.reduceToNat, f1, f2, hgi, hgt', hsi, hst, onP_some, endR_bad, endR_ok, xR_ok, xR_bad, HR_ok, HR_bad, dd_set, dd_set1, e_ySym, e_yAdd, e_rule, hne, ne_eq, hne', hl5, Int.toNat_natCast, vOf00, isV00, i1, Int.reduceLE, eq_self, not_false_eq_true, hg, hp, hs0, if_false, hcs, toks_length, hgd, d0, e_yWord, e_yLiteral, e_yFail, p_yTruth, hp, hgi1, hgt1, hss, ht5, onW_some, onW_none, truthN, bne_self_eq_false, beq_self_eq_true, hd2, hw, htr]
              simp only [List.length_append, yaz, yba, Nat.zero_add] at hc3 ⊢
              refine ⟨by omega, ?_⟩
              simp (disch := first | assumption | omega | (simp; done) | (simp; omega) | (simp only [bt, and_true]; first | done | omega | (simp; done))) [↓zlf, beq, ybc, ybd, ybe, endOk, wk, wk2, wk1, wkM, wkL, wkLL, ybf, hc3]
            · have htr : truthAV x = .tup [truthN 0 0, .bool false] := by unfold truthAV; rw [if_neg hx1, if_neg hx2]
              have hp1 : p + 1 ≤ l.length := by omega
              cases hs3 : isS l (p + 1) [58, 58] with
              | false =>
                have hr : atomR l p t = .ok t.length (p + 1) (t ++ [⟨3, 0, 0, x, [], 0⟩]) := by unfold atomR; rw [hge]; simp [hx1, hx2, hs3]
                rw [hr]
                have hc3 := hcl2 (p + 1) (t ++ [⟨3, 0, 0, x, [], 0⟩])
                simp only [go_sem, reduceCtorEq, Nat.reduceEqDiff, Nat.reduceAdd, Nat.reduceMul, Nat.reduceSub, Nat.reduceLeDiff, Nat.reduceLT, Int.reduceMul, Int.reduceAdd, Int.reduceSub, Int.reduceToNat, f1, f2, hgi, hgt', hsi, hst, onP_some, endR_bad, endR_ok, xR_ok, xR_bad, HR_ok, HR_bad, dd_set, dd_set1, e_ySym, e_yAdd, e_rule, hne, ne_eq, hne', hl5, Int.toNat_natCast, vOf00, isV00, i1, Int.reduceLE, eq_self, not_false_eq_true, hg, hp, hs0, if_false, hcs, toks_length, hgd, d0, e_yWord, e_yLiteral, e_yFail, p_yTruth, hp, hgi1, hgt1, hss, ht5, onW_some, onW_none, truthN, bne_self_eq_false, beq_self_eq_true, hd2, hw, htr, hp1, hs3]
                simp only [List.length_append, yaz, yba, Nat.zero_add] at hc3 ⊢
                refine ⟨by omega, ?_⟩
                simp (disch := first | assumption | omega | (simp; done) | (simp; omega) | (simp only [bt, and_true]; first | done | omega | (simp; done))) [↓zlf, beq, ybc, ybd, ybe, endOk, wk, wk2, wk1, wkM, wkL, wkLL, ybf, hc3]
              | true =>
                have hlt3 := isS_lt hs3
                have hp2 : p + 1 + 1 ≤ l.length := by omega
                have hp3 : p + 2 = p + 1 + 1 := rfl
                cases hw2 : wordT l (p + 1 + 1) with
                | none =>
                  have hr : atomR l p t = .bad (p + 1 + 1) := by
                    unfold atomR; rw [hge]; simp [hx1, hx2, hs3]
                    unfold wordT at hw2
                    cases hge2 : l[p + 1 + 1]? with
                    | none => rfl
                    | some v =>
                      obtain ⟨k2, y, z2⟩ := v
                      rw [hge2] at hw2
                      dsimp only at hw2 ⊢
                      split at hw2
                      · cases hw2
                      · rename_i hk; rw [if_neg hk]
                  rw [hr]
                  simp only [go_sem, reduceCtorEq, Nat.reduceEqDiff, Nat.reduceAdd, Nat.reduceMul, Nat.reduceSub, Nat.reduceLeDiff, Nat.reduceLT, Int.reduceMul, Int.reduceAdd, Int.reduceSub, Int.reduceToNat, f1, f2, hgi, hgt', hsi, hst, onP_some, endR_bad, endR_ok, xR_ok, xR_bad, HR_ok, HR_bad, dd_set, dd_set1, e_ySym, e_yAdd, e_rule, hne, ne_eq, hne', hl5, Int.toNat_natCast, vOf00, isV00, i1, Int.reduceLE, eq_self, not_false_eq_true, hg, hp, hs0, if_false, hcs, toks_length, hgd, d0, e_yWord, e_yLiteral, e_yFail, p_yTruth, hp, hgi1, hgt1, hss, ht5, onW_some, onW_none, truthN, bne_self_eq_false, beq_self_eq_true, hd2, hw, htr, hp1, hs3, if_true, hp2, hw2]
                  refine ⟨by omega, ?_⟩
                  simp (disch := first | assumption | omega | (simp; done) | (simp; omega) | (simp only [bt, and_true]; first | done | omega | (simp; done))) [↓zlf, beq, ybc, ybd, ybe, endOk, wk, wk2, wk1, wkM, wkL, wkLL, ybf, dd_cl hcl, zln, dd_le, dd_le1, dd_le2]
                  exact (dd_le1.push _).push _
                | some y =>
                  have hr : atomR l p t = .ok t.length (p + 1 + 1 + 1) (t ++ [⟨3, 0, 0, x, y, 0⟩]) := by
                    unfold atomR; rw [hge]; simp [hx1, hx2, hs3]
                    unfold wordT at hw2
                    cases hge2 : l[p + 1 + 1]? with
                    | none => rw [hge2] at hw2; cases hw2
                    | some v =>
                      obtain ⟨k2, y2, z2⟩ := v
                      rw [hge2] at hw2
                      dsimp only at hw2 ⊢
                      split at hw2
                      · rename_i hk; cases hw2; rw [if_pos hk]
                      · cases hw2
                  rw [hr]
                  have hc3 := hcl2 (p + 1 + 1 + 1) (t ++ [⟨3, 0, 0, x, y, 0⟩])
                  simp only [go_sem, reduceCtorEq, Nat.reduceEqDiff, Nat.reduceAdd, Nat.reduceMul, Nat.reduceSub, Nat.reduceLeDiff, Nat.reduceLT, Int.reduceMul, Int.reduceAdd, Int.reduceSub, Int.reduceToNat, f1, f2, hgi, hgt', hsi, hst, onP_some, endR_bad, endR_ok, xR_ok, xR_bad, HR_ok, HR_bad, dd_set, dd_set1, e_ySym, e_yAdd, e_rule, hne, ne_eq, hne', hl5, Int.toNat_natCast, vOf00, isV00, i1, Int.reduceLE, eq_self, not_false_eq_true, hg, hp, hs0, if_false, hcs, toks_length, hgd, d0, e_yWord, e_yLiteral, e_yFail, p_yTruth, hp, hgi1, hgt1, hss, ht5, onW_some, onW_none, truthN, bne_self_eq_false, beq_self_eq_true, hd2, hw, htr, hp1, hs3, if_true, hp2, hw2]
                  simp only [List.length_append, yaz, yba, Nat.zero_add] at hc3 ⊢
                  refine ⟨by omega, ?_⟩
                  simp (disch := first | assumption | omega | (simp; done) | (simp; omega) | (simp only [bt, and_true]; first | done | omega | (simp; done))) [↓zlf, beq, ybc, ybd, ybe, endOk, wk, wk2, wk1, wkM, wkL, wkLL, ybf, hc3]
        · have hw : wordT l p = none := by unfold wordT; rw [hge]; dsimp only; rw [if_neg hk2]
          have hr : atomR l p t = .bad p := by unfold atomR; rw [hge]; simp [hk1, hk2]
          rw [hr]
          simp only [go_sem, reduceCtorEq, Nat.reduceEqDiff, Nat.reduceAdd, Nat.reduceMul, Nat.reduceSub, Nat.reduceLeDiff, Nat.reduceLT, Int.reduceMul, Int.reduceAdd, Int.reduceSub, Int.reduceToNat, f1, f2, hgi, hgt', hsi, hst, onP_some, endR_bad, endR_ok, xR_ok, xR_bad, HR_ok, HR_bad, dd_set, dd_set1, e_ySym, e_yAdd, e_rule, hne, ne_eq, hne', hl5, Int.toNat_natCast, vOf00, isV00, i1, Int.reduceLE, eq_self, not_false_eq_true, hg, hp, hs0, if_false, hcs, toks_length, hgd, d0, e_yWord, e_yLiteral, e_yFail, p_yTruth, hp, hgi1, hgt1, hss, ht5, onW_some, onW_none, truthN, bne_self_eq_false, beq_self_eq_true, d1, hw]
          refine ⟨by omega, ?_⟩
          simp (disch := first | assumption | omega | (simp; done) | (simp; omega) | (simp only [bt, and_true]; first | done | omega | (simp; done))) [↓zlf, beq, ybc, ybd, ybe, endOk, wk, wk2, wk1, wkM, wkL, wkLL, ybf, dd_cl hcl, zln, dd_le, dd_le1, dd_le2]
    · have hpe : p = l.length := by omega
      subst hpe
      have hge : l[l.length]? = none := List.getElem?_eq_none (Nat.le_refl _)
      have hw : wordT l l.length = none := by unfold wordT; rw [hge]
      have hr : atomR l l.length t = .bad l.length := by unfold atomR; rw [hge]
      have d0 : decide ((l.length : Int) < (l.length : Int)) = false := by simp
      rw [hr]
      simp only [go_sem, reduceCtorEq, Nat.reduceEqDiff, Nat.reduceAdd, Nat.reduceMul, Nat.reduceSub, Nat.reduceLeDiff, Nat.reduceLT, Int.reduceMul, Int.reduceAdd, Int.reduceSub, Int.reduceToNat, f1, f2, hgi, hgt', hsi, hst, onP_some, endR_bad, endR_ok, xR_ok, xR_bad, HR_ok, HR_bad, dd_set, dd_set1, e_ySym, e_yAdd, e_rule, hne, ne_eq, hne', hl5, Int.toNat_natCast, vOf00, isV00, i1, Int.reduceLE, eq_self, not_false_eq_true, hg, hp, hs0, if_false, hcs, toks_length, d0, e_yWord, e_yLiteral, e_yFail, p_yTruth, hp, hgi1, hgt1, hss, ht5, onW_some, onW_none, truthN, bne_self_eq_false, beq_self_eq_true, hw, Nat.le_refl]
      simp (disch := first | assumption | omega | (simp; done) | (simp; omega) | (simp only [bt, and_true]; first | done | omega | (simp; done))) [↓zlf, beq, ybc, ybd, ybe, endOk, wk, wk2, wk1, wkM, wkL, wkLL, ybf, dd_cl hcl, zln, dd_le, dd_le1, dd_le2]
end Go.AL

