/- Contracts and plain laws, a part of the proof; no condition of its own. -/
import Derived.Test.YtknhoembfohbiaaS07t
open List renaming length_cons → yaz, length_nil → yba
open Go Go.AL Go.Proofs
namespace Go.AL
set_option linter.all false
set_option maxRecDepth 10000
def s_zVal (A : Prop) (f : Nat) : List AV → AHeap → (AV → AHeap → Prop) → Prop
  | [.str s], H, K => ∃ n, (A ∧ lit s = some n ∧ s.length ≤ 1000) ∧ K (vv n) H
  | _, _, _ => False
theorem preP_push {H : AHeap} {id tb p : Nat} {o : AObj} {l : List Tok} {t : List Nd} (h : preP H id tb l p t) : preP (H.push o) id tb l p t := by
  obtain ⟨h1, h2, h3, h4, h5, h6, h7⟩ := h
  refine ⟨h1, ?_, h3, h4, h5, h6, h7⟩
  rw [AHeap.get_push_lt _ _ (AHeap.get_lt h2)]; exact h2
set_option maxHeartbeats 4000000 in
theorem sr_zAtom {A : Prop} {f : Nat} (h_zVal : EntOk Try.prog 238 (Ent.some (s_zVal A f))) (h_zImp : EntOk Try.prog 80 (Ent.some (s_zImp A f))) : EntOk Try.prog 236 (Ent.some (s_zAtom A (f + 1))) := by
  refine EntOk.some fun args H K h => ?_
  unfold s_zAtom s_rule at h
  split at h
  rotate_left
  · exact h.elim
  rename_i id
  obtain ⟨m, l, p, b, tb, t, hg, ⟨rfl, hpre, hfree⟩, hK⟩ := h
  cases ho : run l (f + 1) .atom p t with
  | none => rw [ho] at hK; exact hK.elim
  | some r =>
  rw [ho] at hK
  rw [run] at ho
  simp only [step] at ho
  have hpre' := hpre
  obtain ⟨hne, htb, ht, hp, hl, hgl, hgt⟩ := hpre
  have hid := AHeap.get_lt hg
  have htbl := AHeap.get_lt htb
  have f1 := far_of hid
  have f2 := far_of htbl
  have hl5 : l.length ≤ 100000 := by omega
  have i1 := @Int.natCast_nonneg
  have hne' : (id = tb) = False := eq_false hne
  have hnx : ∀ X Y, H.nx ≤ ((H.set id X).set tb Y).nx := fun X Y => Nat.le_refl _
  refine ACallsP.of_aw (Ω := [(238, Ent.some (s_zVal A f)), (155, Ent.effect e_zTake), (156, Ent.effect e_zNode), (239, Ent.effect e_zVar), (80, Ent.some (s_zImp A f))]) (T := assoc []) mixed (TblOk.cons h_zVal (TblOk.cons ok_zTake (TblOk.cons ok_zNode (TblOk.cons ok_zVar (TblOk.cons h_zImp TblOk.nil))))) Try.func236 (by kernel_rfl) (by rfl) (rs := [.tmp 2]) (by rfl) (by kernel_rfl) (by simp only [Try.ntmps236, yaz, yba]; decide) fun hcl hlt => ?_
  change aw _ _ _ (KI Try.prog [(238, Ent.some (s_zVal A f)), (155, Ent.effect e_zTake), (156, Ent.effect e_zNode), (239, Ent.effect e_zVar), (80, Ent.some (s_zImp A f))] (aEndP Try.prog [.tmp 2] H.nx _) []) _ _
  clear hlt
  obtain ⟨hgi, hgt', hsi, hcl2, hst⟩ := pre_factsR hg hpre' hcl
  have hgi1 : ∀ X, (H.set id X).get id = some X := fun X => AHeap.get_set_same _ _ hid
  have hgt1 : ∀ X, (H.set id X).get tb = some (.buf 7 t.length) := fun X => by rw [AHeap.get_set_ne _ _ (fun e => hne e.symm)]; exact htb
  have hss : ∀ X Y, (H.set id X).set id Y = H.set id Y := fun X Y => by simp only [AHeap.set]; congr 1; funext k; by_cases hk : k = id <;> simp [hk]
  have hcs := cells_some (cs := [.slice m 3 (toks l), .int .i64 (p : Int), .bool false, .slice (.own tb) 7 (nds t)]) hg
  have ht5 : t.length ≤ 100000 := by omega
  have hx1 : (id = H.nx) = False := eq_false (by omega)
  have e1 : IntKind.i64.wrap ((p : Int) + 1) = ((p + 1 : Nat) : Int) := by rw [wrap_i64] <;> omega
  rcases Nat.lt_or_ge p l.length with hlt0 | hlt0
  rotate_left
  · have hpe : p = l.length := by omega
    subst hpe
    have hge : l[l.length]? = none := List.getElem?_eq_none (Nat.le_refl _)
    have hs0 : isS l l.length [40] = false := isS_end (Nat.le_refl _)
    have hr : atomR l l.length t = .bad l.length := by unfold atomR; rw [hge]
    have d0 : ((l.length : Int) == (l.length : Int)) = true := by simp
    rw [hs0, if_neg (by simp), hr] at ho
    cases ho
    rw [endS_bad] at hK
    simp only [go_sem, reduceCtorEq, Nat.reduceEqDiff, Nat.reduceAdd, Nat.reduceMul, Nat.reduceSub, Nat.reduceLeDiff, Nat.reduceLT, Int.reduceMul, Int.reduceAdd, Int.reduceSub, Int.reduceToNat, hfree, f1, f2, hgi, hgt', hsi, hst, onQ_some, endS_bad, endS_ok, e_zTake, p_zSee, e_zNode, s_rule, hne, ne_eq, hne', hl5, Int.toNat_natCast, vOf00, isV00, i1, Int.reduceLE, eq_self, not_false_eq_true, Bool.not_true, Bool.not_false, Bool.true_and, Bool.false_and, List.length_append, yaz, yba, Nat.zero_add, hg, hp, hcs, toks_length, onQ_some', hgi1, hgt1, hss, ht5, if_true, if_false, d0]
    have hK' := hK 0 t (Nat.le_refl _)
    have hc3 := hcl2 l.length true t
    rw [← buf_same htb hne] at hK' hc3
    exact endP_of (H1 := H.set id (rst m l l.length true tb t)) hK' (Nat.le_refl _) (AHeap.Le.refl _) hc3
  rcases htk : l[p] with ⟨k, x, z⟩
  have hgd := tok_get hlt0 htk
  have hge : l[p]? = some (k, x, z) := by rw [List.getElem?_eq_getElem hlt0, htk]
  have d0 : ((p : Int) == (l.length : Int)) = false := by simp; omega
  have hp1 : p + 1 ≤ l.length := hlt0
  obtain ⟨hxl, hxs⟩ := hgl l[p] (List.getElem_mem hlt0)
  rw [htk] at hxl hxs
  dsimp only at hxl hxs
  have hat := isS_at hlt0 htk (s := [40])
  by_cases hk1 : k = 1
  · subst hk1
    have hA : A := hfree p (by unfold kindAt; rw [hge])
    obtain ⟨n, hn⟩ := Option.isSome_iff_exists.1 (hxs rfl)
    have hn128 := lit_lt hn
    have hvo : vOf (n / 2 ^ 64) (n % 2 ^ 64) = n := vOf_back n
    have hv1 : isV (n / 2 ^ 64 : Nat) (n % 2 ^ 64 : Nat) = True := eq_true (by refine ⟨?_, ?_, ?_, ?_⟩ <;> omega)
    have hr : atomR l p t = .ok t.length (p + 1) (t ++ [⟨1, 0, 0, [], [], n⟩]) := by unfold atomR; rw [hge]; simp [hn]
    have hd1 : (((1 : Nat) : Int) == 1) = true := rfl
    have hs0 : isS l p [40] = false := by rw [hat]; rfl
    rw [hs0, if_neg (by simp), hr] at ho
    cases ho
    simp only [go_sem, reduceCtorEq, Nat.reduceEqDiff, Nat.reduceAdd, Nat.reduceMul, Nat.reduceSub, Nat.reduceLeDiff, Nat.reduceLT, Int.reduceMul, Int.reduceAdd, Int.reduceSub, Int.reduceToNat, hfree, f1, f2, hgi, hgt', hsi, hst, onQ_some, endS_bad, endS_ok, e_zTake, p_zSee, e_zNode, s_rule, hne, ne_eq, hne', hl5, Int.toNat_natCast, vOf00, isV00, i1, Int.reduceLE, eq_self, not_false_eq_true, Bool.not_true, Bool.not_false, Bool.true_and, Bool.false_and, List.length_append, yaz, yba, Nat.zero_add, hg, hp, hcs, toks_length, hgd, onQ_some', hgi1, hgt1, hss, ht5, if_true, if_false, d0, hd1, e1]
    refine ⟨by omega, ?_⟩
    simp only [s_zVal]
    refine ⟨n, ⟨hA, hn, hxl⟩, ?_⟩
    simp only [vv, blkS, go_sem, reduceCtorEq, Nat.reduceEqDiff, Nat.reduceAdd, Nat.reduceMul, Nat.reduceSub, Nat.reduceLeDiff, Nat.reduceLT, Int.reduceMul, Int.reduceAdd, Int.reduceSub, Int.reduceToNat, hfree, f1, f2, hgi, hgt', hsi, hst, onQ_some, endS_bad, endS_ok, e_zTake, p_zSee, e_zNode, s_rule, hne, ne_eq, hne', hl5, Int.toNat_natCast, vOf00, isV00, i1, Int.reduceLE, eq_self, not_false_eq_true, Bool.not_true, Bool.not_false, Bool.true_and, Bool.false_and, List.length_append, yaz, yba, Nat.zero_add, hg, hp, hcs, toks_length, hgd, onQ_some', hgi1, hgt1, hss, ht5, if_true, if_false, d0, hd1, e1, hvo, hv1]
    have hc3 := hcl2 (p + 1) false (t ++ [⟨1, 0, 0, [], [], n⟩])
    simp only [List.length_append, yaz, yba, Nat.zero_add, endS_ok] at hK hc3
    exact endP_of hK (Nat.le_refl _) ((AHeap.Le.refl _).push _) hc3
  have d1 : ((k : Int) == 1) = false := by simp; omega
  by_cases hk2 : k = 2
  · subst hk2
    have hs0 : isS l p [40] = false := by rw [hat]; rfl
    have hd2 : (((2 : Nat) : Int) == 1) = false := rfl
    have hd3 : (((2 : Nat) : Int) == 2) = true := rfl
    rw [hs0, if_neg (by simp)] at ho
    by_cases hx1' : x = sTrue
    · have hr : atomR l p t = .ok t.length (p + 1) (t ++ [⟨2, 0, 0, [], [], 1⟩]) := by unfold atomR; rw [hge]; simp [hx1']
      have hb1 : (x == [116, 114, 117, 101]) = true := by rw [hx1']; rfl
      rw [hr] at ho
      cases ho
      simp only [go_sem, reduceCtorEq, Nat.reduceEqDiff, Nat.reduceAdd, Nat.reduceMul, Nat.reduceSub, Nat.reduceLeDiff, Nat.reduceLT, Int.reduceMul, Int.reduceAdd, Int.reduceSub, Int.reduceToNat, hfree, f1, f2, hgi, hgt', hsi, hst, onQ_some, endS_bad, endS_ok, e_zTake, p_zSee, e_zNode, s_rule, hne, ne_eq, hne', hl5, Int.toNat_natCast, vOf00, isV00, i1, Int.reduceLE, eq_self, not_false_eq_true, Bool.not_true, Bool.not_false, Bool.true_and, Bool.false_and, List.length_append, yaz, yba, Nat.zero_add, hg, hp, hcs, toks_length, hgd, onQ_some', hgi1, hgt1, hss, ht5, if_true, if_false, d0, hd2, hd3, e1, hb1, vOf01, isV01]
      refine ⟨by omega, ?_⟩
      have hc3 := hcl2 (p + 1) false (t ++ [⟨2, 0, 0, [], [], 1⟩])
      simp only [List.length_append, yaz, yba, Nat.zero_add, endS_ok] at hK hc3
      exact endP_of hK (Nat.le_refl _) ((AHeap.Le.refl _).push _) hc3
    have hb1 : (x == [116, 114, 117, 101]) = false := by simpa [sTrue] using hx1'
    by_cases hx2 : x = sFalse
    · have hr : atomR l p t = .ok t.length (p + 1) (t ++ [⟨2, 0, 0, [], [], 0⟩]) := by unfold atomR; rw [hge]; simp [hx1', hx2]; decide
      have hb2 : (x == [102, 97, 108, 115, 101]) = true := by rw [hx2]; rfl
      rw [hr] at ho
      cases ho
      simp only [go_sem, reduceCtorEq, Nat.reduceEqDiff, Nat.reduceAdd, Nat.reduceMul, Nat.reduceSub, Nat.reduceLeDiff, Nat.reduceLT, Int.reduceMul, Int.reduceAdd, Int.reduceSub, Int.reduceToNat, hfree, f1, f2, hgi, hgt', hsi, hst, onQ_some, endS_bad, endS_ok, e_zTake, p_zSee, e_zNode, s_rule, hne, ne_eq, hne', hl5, Int.toNat_natCast, vOf00, isV00, i1, Int.reduceLE, eq_self, not_false_eq_true, Bool.not_true, Bool.not_false, Bool.true_and, Bool.false_and, List.length_append, yaz, yba, Nat.zero_add, hg, hp, hcs, toks_length, hgd, onQ_some', hgi1, hgt1, hss, ht5, if_true, if_false, d0, hd2, hd3, e1, hb1, hb2]
      refine ⟨by omega, ?_⟩
      have hc3 := hcl2 (p + 1) false (t ++ [⟨2, 0, 0, [], [], 0⟩])
      simp only [List.length_append, yaz, yba, Nat.zero_add, endS_ok] at hK hc3
      exact endP_of hK (Nat.le_refl _) ((AHeap.Le.refl _).push _) hc3
    have hb2 : (x == [102, 97, 108, 115, 101]) = false := by simpa [sFalse] using hx2
    cases hs3 : isS l (p + 1) [58, 58] with
    | false =>
      have hr : atomR l p t = .ok t.length (p + 1) (t ++ [⟨3, 0, 0, x, [], 0⟩]) := by unfold atomR; rw [hge]; simp [hx1', hx2, hs3]
      rw [hr] at ho
      cases ho
      simp only [go_sem, reduceCtorEq, Nat.reduceEqDiff, Nat.reduceAdd, Nat.reduceMul, Nat.reduceSub, Nat.reduceLeDiff, Nat.reduceLT, Int.reduceMul, Int.reduceAdd, Int.reduceSub, Int.reduceToNat, hfree, f1, f2, hgi, hgt', hsi, hst, onQ_some, endS_bad, endS_ok, e_zTake, p_zSee, e_zNode, s_rule, hne, ne_eq, hne', hl5, Int.toNat_natCast, vOf00, isV00, i1, Int.reduceLE, eq_self, not_false_eq_true, Bool.not_true, Bool.not_false, Bool.true_and, Bool.false_and, List.length_append, yaz, yba, Nat.zero_add, hg, hp, hcs, toks_length, hgd, onQ_some', hgi1, hgt1, hss, ht5, if_true, if_false, e_zVar, d0, hd2, hd3, e1, hb1, hb2, hp1, hs3, Bool.false_eq_true]
      refine ⟨by omega, ?_⟩
      have hc3 := hcl2 (p + 1) false (t ++ [⟨3, 0, 0, x, [], 0⟩])
      simp only [List.length_append, yaz, yba, Nat.zero_add, endS_ok] at hK hc3
      exact endP_of hK (Nat.le_refl _) ((AHeap.Le.refl _).push _) hc3
    | true =>
      have hlt3 := isS_lt hs3
      cases hw2 : wordT l (p + 1 + 1) with
      | none =>
        have hr : atomR l p t = .bad (p + 1 + 1) := by
          unfold atomR; rw [hge]; simp [hx1', hx2, hs3]
          unfold wordT at hw2
          cases hge2 : l[p + 1 + 1]? with
          | none => rfl
          | some v =>
            obtain ⟨k2, y, z2⟩ := v
            rw [hge2] at hw2
            dsimp only at hw2 ⊢
            split at hw2
            · cases hw2
            · rename_i hk; rw [if_neg hk]
        rw [hr] at ho
        cases ho
        rw [endS_bad] at hK
        simp only [go_sem, reduceCtorEq, Nat.reduceEqDiff, Nat.reduceAdd, Nat.reduceMul, Nat.reduceSub, Nat.reduceLeDiff, Nat.reduceLT, Int.reduceMul, Int.reduceAdd, Int.reduceSub, Int.reduceToNat, hfree, f1, f2, hgi, hgt', hsi, hst, onQ_some, endS_bad, endS_ok, e_zTake, p_zSee, e_zNode, s_rule, hne, ne_eq, hne', hl5, Int.toNat_natCast, vOf00, isV00, i1, Int.reduceLE, eq_self, not_false_eq_true, Bool.not_true, Bool.not_false, Bool.true_and, Bool.false_and, List.length_append, yaz, yba, Nat.zero_add, hg, hp, hcs, toks_length, hgd, onQ_some', hgi1, hgt1, hss, ht5, if_true, if_false, e_zVar, d0, hd2, hd3, e1, hb1, hb2, hp1, hs3, hw2, onW_none]
        refine ⟨by omega, ?_⟩
        have hK' := hK 0 t (by omega)
        have hc3 := hcl2 (p + 1 + 1) true t
        rw [← buf_same htb hne] at hK' hc3
        exact endP_of hK' (Nat.le_refl _) ((AHeap.Le.refl _).push _) hc3
      | some y =>
        have hr : atomR l p t = .ok t.length (p + 1 + 1 + 1) (t ++ [⟨3, 0, 0, x, y, 0⟩]) := by
          unfold atomR; rw [hge]; simp [hx1', hx2, hs3]
          unfold wordT at hw2
          cases hge2 : l[p + 1 + 1]? with
          | none => rw [hge2] at hw2; cases hw2
          | some v =>
            obtain ⟨k2, y2, z2⟩ := v
            rw [hge2] at hw2
            dsimp only at hw2 ⊢
            split at hw2
            · rename_i hk; cases hw2; rw [if_pos hk]
            · cases hw2
        rw [hr] at ho
        cases ho
        simp only [go_sem, reduceCtorEq, Nat.reduceEqDiff, Nat.reduceAdd, Nat.reduceMul, Nat.reduceSub, Nat.reduceLeDiff, Nat.reduceLT, Int.reduceMul, Int.reduceAdd, Int.reduceSub, Int.reduceToNat, hfree, f1, f2, hgi, hgt', hsi, hst, onQ_some, endS_bad, endS_ok, e_zTake, p_zSee, e_zNode, s_rule, hne, ne_eq, hne', hl5, Int.toNat_natCast, vOf00, isV00, i1, Int.reduceLE, eq_self, not_false_eq_true, Bool.not_true, Bool.not_false, Bool.true_and, Bool.false_and, List.length_append, yaz, yba, Nat.zero_add, hg, hp, hcs, toks_length, hgd, onQ_some', hgi1, hgt1, hss, ht5, if_true, if_false, e_zVar, d0, hd2, hd3, e1, hb1, hb2, hp1, hs3, hw2, onW_some]
        refine ⟨by omega, ?_⟩
        have hc3 := hcl2 (p + 1 + 1 + 1) false (t ++ [⟨3, 0, 0, x, y, 0⟩])
        simp only [List.length_append, yaz, yba, Nat.zero_add, endS_ok] at hK hc3
        exact endP_of hK (Nat.le_refl _) ((AHeap.Le.refl _).push _) hc3
  have d2 : ((k : Int) == 2) = false := by simp; omega
  cases hs0 : isS l p [40] with
  | false =>
    have hr : atomR l p t = .bad p := by unfold atomR; rw [hge]; simp [hk1, hk2]
    rw [hs0, if_neg (by simp), hr] at ho
    cases ho
    rw [endS_bad] at hK
    simp only [go_sem, reduceCtorEq, Nat.reduceEqDiff, Nat.reduceAdd, Nat.reduceMul, Nat.reduceSub, Nat.reduceLeDiff, Nat.reduceLT, Int.reduceMul, Int.reduceAdd, Int.reduceSub, Int.reduceToNat, hfree, f1, f2, hgi, hgt', hsi, hst, onQ_some, endS_bad, endS_ok, e_zTake, p_zSee, e_zNode, s_rule, hne, ne_eq, hne', hl5, Int.toNat_natCast, vOf00, isV00, i1, Int.reduceLE, eq_self, not_false_eq_true, Bool.not_true, Bool.not_false, Bool.true_and, Bool.false_and, List.length_append, yaz, yba, Nat.zero_add, hg, hp, hcs, toks_length, hgd, onQ_some', hgi1, hgt1, hss, ht5, if_true, if_false, d0, d1, d2, hs0, Bool.false_eq_true]
    refine ⟨by omega, ?_⟩
    have hK' := hK 0 t (Nat.le_refl _)
    have hc3 := hcl2 p true t
    rw [← buf_same htb hne] at hK' hc3
    exact endP_of (H1 := H.set id (rst m l p true tb t)) hK' (Nat.le_refl _) ((AHeap.Le.refl _).push _) hc3
  | true =>
    rw [hs0, if_pos rfl] at ho
    have hp2 : ∀ o, preP ((H.set id (rst m l (p + 1) false tb t)).push o) id tb l (p + 1) t := fun o => preP_push (preP_set1 hpre' hp1 (by omega))
    rcases thenR_some ho with ⟨q, h3, rfl⟩ | ⟨a, p1, t1, h3, h4⟩
    · obtain ⟨hq1, hq2⟩ := run_post _ h3 hgt trivial hp1
      rw [endS_bad] at hK
      simp only [go_sem, reduceCtorEq, Nat.reduceEqDiff, Nat.reduceAdd, Nat.reduceMul, Nat.reduceSub, Nat.reduceLeDiff, Nat.reduceLT, Int.reduceMul, Int.reduceAdd, Int.reduceSub, Int.reduceToNat, hfree, f1, f2, hgi, hgt', hsi, hst, onQ_some, endS_bad, endS_ok, e_zTake, p_zSee, e_zNode, s_rule, hne, ne_eq, hne', hl5, Int.toNat_natCast, vOf00, isV00, i1, Int.reduceLE, eq_self, not_false_eq_true, Bool.not_true, Bool.not_false, Bool.true_and, Bool.false_and, List.length_append, yaz, yba, Nat.zero_add, hg, hp, hcs, toks_length, hgd, onQ_some', hgi1, hgt1, hss, ht5, if_true, if_false, s_zImp, d0, d1, d2, hs0, hp2, h3]
      refine ⟨by omega, fun a t' hb => ?_⟩
      simp only [blkS, go_sem, reduceCtorEq, Nat.reduceEqDiff, Nat.reduceAdd, Nat.reduceMul, Nat.reduceSub, Nat.reduceLeDiff, Nat.reduceLT, Int.reduceMul, Int.reduceAdd, Int.reduceSub, Int.reduceToNat, hfree, f1, f2, hgi, hgt', hsi, hst, onQ_some, endS_bad, endS_ok, e_zTake, p_zSee, e_zNode, s_rule, hne, ne_eq, hne', hl5, Int.toNat_natCast, vOf00, isV00, i1, Int.reduceLE, eq_self, not_false_eq_true, Bool.not_true, Bool.not_false, Bool.true_and, Bool.false_and, List.length_append, yaz, yba, Nat.zero_add, hq1, hp, rst, onQ_some']
      have hcc : ∀ X Y, cellsOf? ((H.set id (.cells X)).set tb Y) id = some X := fun X Y => by rw [cells_set_far hne, cells_set hid, if_pos rfl]
      simp only [blkS, go_sem, reduceCtorEq, Nat.reduceEqDiff, Nat.reduceAdd, Nat.reduceMul, Nat.reduceSub, Nat.reduceLeDiff, Nat.reduceLT, Int.reduceMul, Int.reduceAdd, Int.reduceSub, Int.reduceToNat, hfree, f1, f2, hgi, hgt', hsi, hst, onQ_some, endS_bad, endS_ok, e_zTake, p_zSee, e_zNode, s_rule, hne, ne_eq, hne', hl5, Int.toNat_natCast, vOf00, isV00, i1, Int.reduceLE, eq_self, not_false_eq_true, Bool.not_true, Bool.not_false, Bool.true_and, Bool.false_and, List.length_append, yaz, yba, Nat.zero_add, hq1, hp, hcc]
      have hK' := hK a t' (by omega)
      have hc3 := hcl2 q true t'
      exact endP_of hK' (Nat.le_refl _) ((AHeap.Le.refl _).push _) hc3
    · obtain ⟨k1b, k2b, k3b, k4b, k5b, k6b⟩ := run_post _ h3 hgt trivial hp1
      simp only [Rl.isL, Bool.false_eq_true, if_false] at k4b
      cases hs2 : isS l p1 [41] with
      | true =>
        rw [hs2, if_pos rfl] at h4
        cases h4
        simp only [go_sem, reduceCtorEq, Nat.reduceEqDiff, Nat.reduceAdd, Nat.reduceMul, Nat.reduceSub, Nat.reduceLeDiff, Nat.reduceLT, Int.reduceMul, Int.reduceAdd, Int.reduceSub, Int.reduceToNat, hfree, f1, f2, hgi, hgt', hsi, hst, onQ_some, endS_bad, endS_ok, e_zTake, p_zSee, e_zNode, s_rule, hne, ne_eq, hne', hl5, Int.toNat_natCast, vOf00, isV00, i1, Int.reduceLE, eq_self, not_false_eq_true, Bool.not_true, Bool.not_false, Bool.true_and, Bool.false_and, List.length_append, yaz, yba, Nat.zero_add, hg, hp, hcs, toks_length, hgd, onQ_some', hgi1, hgt1, hss, ht5, if_true, if_false, s_zImp, d0, d1, d2, hs0, hp2, h3, k2b, hs2]
        refine ⟨by omega, ?_⟩
        rw [endS_ok] at hK
        exact endP_of hK (Nat.le_refl _) ((AHeap.Le.refl _).push _) (hcl2 _ _ _)
      | false =>
        rw [hs2, if_neg (by simp)] at h4
        cases h4
        rw [endS_bad] at hK
        have hcc : ∀ X Y, cellsOf? ((H.set id (.cells X)).set tb Y) id = some X := fun X Y => by rw [cells_set_far hne, cells_set hid, if_pos rfl]
        simp only [go_sem, reduceCtorEq, Nat.reduceEqDiff, Nat.reduceAdd, Nat.reduceMul, Nat.reduceSub, Nat.reduceLeDiff, Nat.reduceLT, Int.reduceMul, Int.reduceAdd, Int.reduceSub, Int.reduceToNat, hfree, f1, f2, hgi, hgt', hsi, hst, onQ_some, endS_bad, endS_ok, e_zTake, p_zSee, e_zNode, s_rule, hne, ne_eq, hne', hl5, Int.toNat_natCast, vOf00, isV00, i1, Int.reduceLE, eq_self, not_false_eq_true, Bool.not_true, Bool.not_false, Bool.true_and, Bool.false_and, List.length_append, yaz, yba, Nat.zero_add, hg, hp, hcs, toks_length, hgd, onQ_some', hgi1, hgt1, hss, ht5, if_true, if_false, s_zImp, d0, d1, d2, hs0, hp2, h3, k2b, hs2, Bool.false_eq_true]
        simp only [rst, go_sem, reduceCtorEq, Nat.reduceEqDiff, Nat.reduceAdd, Nat.reduceMul, Nat.reduceSub, Nat.reduceLeDiff, Nat.reduceLT, Int.reduceMul, Int.reduceAdd, Int.reduceSub, Int.reduceToNat, hfree, f1, f2, hgi, hgt', hsi, hst, onQ_some, endS_bad, endS_ok, e_zTake, p_zSee, e_zNode, s_rule, hne, ne_eq, hne', hl5, Int.toNat_natCast, vOf00, isV00, i1, Int.reduceLE, eq_self, not_false_eq_true, Bool.not_true, Bool.not_false, Bool.true_and, Bool.false_and, List.length_append, yaz, yba, Nat.zero_add, hcc]
        refine ⟨by omega, ?_⟩
        exact endP_of (hK a t1 (by omega)) (Nat.le_refl _) ((AHeap.Le.refl _).push _) (hcl2 _ _ _)
end Go.AL

