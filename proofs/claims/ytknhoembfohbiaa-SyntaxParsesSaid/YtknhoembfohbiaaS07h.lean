/- Contracts and plain laws, a part of the proof; no condition of its own. -/
import Derived.Test.YtknhoembfohbiaaS07g
open List renaming length_cons → yaz, length_nil → yba
open Go Go.AL Go.Proofs
namespace Go.AL
set_option linter.all false
set_option maxRecDepth 10000
def s_CNumA (A : Prop) (_g : Nat) (args : List AV) (H : AHeap) (K : AV → AHeap → Prop) : Prop := ∃ d, s_CNum A d args H K
theorem s_ok_CNumA {A : Prop} {g : Nat} : EntOk Try.prog 73 (Ent.some (s_CNumA A g)) := EntOk.some fun args H K ⟨d, h⟩ => (s_ok_CNum d).2.2 _ rfl args H K h
def bS : Nat → Nat
  | 0 => 2 * bN 1 + bN 0 + 20
  | d + 1 => 2 * bS d + 2 * bN 1 + bN (d + 1) + 20
def s_CSent (_A : Prop) (d : Nat) : List AV → AHeap → (AV → AHeap → Prop) → Prop
  | [.ptr id 0, .int .i64 n, .bool _], H, K => ∃ b a, (H.get id = some (cod b a) ∧ (0 ≤ a ∧ a ≤ (b.length : Int)) ∧ b.length ≤ 140737488355328 ∧ n = (d : Int) ∧ bS d ≤ 1000000) ∧
      ∀ s a', s.length ≤ bS d → 0 ≤ a' → a' ≤ (b.length : Int) → K (.str s) (H.set id (cod b a'))
  | _, _, _ => False
def cOpsL : List (List UInt8) := [[32, 61, 61, 32], [32, 33, 61, 32], [32, 60, 32], [60, 61], [32, 62, 32], [62, 61]]
theorem cOpsAV : [AV.str [32, 61, 61, 32], AV.str [32, 33, 61, 32], AV.str [32, 60, 32], AV.str [60, 61], AV.str [32, 62, 32], AV.str [62, 61]] = sAV cOpsL := rfl
theorem cOpsL_len : cOpsL.length = 6 := rfl
theorem cOpsL_le : ∀ x ∈ cOpsL, x.length ≤ 4 := by decide
def boolsL : List (List UInt8) := [[116, 114, 117, 101], [102, 97, 108, 115, 101]]
theorem boolsAV : [AV.str [116, 114, 117, 101], AV.str [102, 97, 108, 115, 101]] = sAV boolsL := rfl
theorem boolsL_len : boolsL.length = 2 := rfl
theorem boolsL_le : ∀ x ∈ boolsL, x.length ≤ 5 := by decide
theorem cOps_pick {j : Nat} (hj : j < 6) : (sAV cOpsL).getD j .junk = .str (cOpsL.getD j []) ∧ (cOpsL.getD j []).length ≤ 4 := by
  refine ⟨sAV_get (by rw [cOpsL_len]; exact hj), ?_⟩
  rw [List.getD_eq_getElem?_getD, List.getElem?_eq_getElem (show j < cOpsL.length by rw [cOpsL_len]; exact hj)]
  exact cOpsL_le _ (List.getElem_mem _)
theorem bools_pick {j : Nat} (hj : j < 2) : (sAV boolsL).getD j .junk = .str (boolsL.getD j []) ∧ (boolsL.getD j []).length ≤ 5 := by
  refine ⟨sAV_get (by rw [boolsL_len]; exact hj), ?_⟩
  rw [List.getD_eq_getElem?_getD, List.getElem?_eq_getElem (show j < boolsL.length by rw [boolsL_len]; exact hj)]
  exact boolsL_le _ (List.getElem_mem _)
theorem bS_ge (d : Nat) : 2 * bN 1 + bN d + 20 ≤ bS d := by
  cases d with
  | zero => exact Nat.le_refl _
  | succ d => unfold bS; omega
theorem bS_id (d : Nat) : d ≤ bS d := by
  induction d with
  | zero => exact Nat.zero_le _
  | succ d ih => unfold bS; omega
set_option maxHeartbeats 4000000 in
theorem s_ok_CSent0 {A : Prop} : EntOk Try.prog 18 (Ent.some (s_CSent A 0)) := by
  refine EntOk.some fun args H K h => ?_
  unfold s_CSent at h
  split at h
  rotate_left
  · exact h.elim
  rename_i id n w
  obtain ⟨b, a, ⟨hg, ⟨ha1, ha2⟩, hb, rfl, hbd⟩, hK⟩ := h
  have hid := AHeap.get_lt hg
  have hne : (id = H.nx) = False := eq_false (by omega)
  have hgi : ∀ x, (H.set id (cod b x)).get id = some (cod b x) := fun x => AHeap.get_set_same _ _ hid
  have hss : ∀ x y, (H.set id (cod b x)).set id (cod b y) = H.set id (cod b y) := fun x y => cod_set
  have hms : maxStr = 9223372036854775807 := rfl
  have i1 := @Int.natCast_nonneg
  have f1 := far_of hid
  have hb0 := bS_ge (0)
  have hb1 := bN_ge 1
  have hb2 := bN_ge (0)
  have hid2 := bS_id (0)
  have h_CNumA := s_ok_CNumA (A := A) (g := 0)
  refine ACallsP.of_aw (Ω := [(66, Ent.some s_CNext), (73, Ent.some (s_CNumA A 0))]) (T := assoc []) mixed (TblOk.cons ok_CNext (TblOk.cons h_CNumA TblOk.nil)) Try.func18 (by kernel_rfl) (by rfl) (rs := [.tmp 6]) (by rfl) (by kernel_rfl) (by simp only [Try.ntmps18, yaz, yba]; decide) fun hcl hlt => ?_
  change aw _ _ _ (KI Try.prog [(66, Ent.some s_CNext), (73, Ent.some (s_CNumA A 0))] (aEndP Try.prog [.tmp 6] H.nx _) []) _ _
  clear hlt
  have d0 : (((0 : Nat) : Int) == 0) = true := rfl
  cases w with
  | true =>
    try simp only [blkS, go_sem, reduceCtorEq, Nat.reduceEqDiff, Nat.reduceAdd, Nat.reduceMul, Nat.reduceSub, Nat.reduceLeDiff, Nat.reduceLT, Int.reduceMul, Int.reduceAdd, Int.reduceSub, Int.reduceToNat, hne, hgi, hss, hg, sAV_length, cOpsAV, boolsAV, cOpsL_len, boolsL_len, Int.toNat_natCast, i1, f1, List.length_append, yaz, yba, d0]
    try simp only [blkS, go_sem, reduceCtorEq, Nat.reduceEqDiff, Nat.reduceAdd, Nat.reduceMul, Nat.reduceSub, Nat.reduceLeDiff, Nat.reduceLT, Int.reduceMul, Int.reduceAdd, Int.reduceSub, Int.reduceToNat, hne, hgi, hss, hg, sAV_length, cOpsAV, boolsAV, cOpsL_len, boolsL_len, Int.toNat_natCast, i1, f1, List.length_append, yaz, yba, s_CNext]
    refine ⟨b, a, ⟨rfl, ⟨ha1, ha2⟩, hb, by omega, by omega⟩, fun r5 a5 hr51 hr52 h51 h52 => ?_⟩
    obtain ⟨j, rfl⟩ := Int.eq_ofNat_of_zero_le hr51
    obtain ⟨hgj, hpl⟩ := cOps_pick (j := j) (by omega)
    generalize cOpsL.getD j [] = op at hgj hpl
    try simp only [blkS, go_sem, reduceCtorEq, Nat.reduceEqDiff, Nat.reduceAdd, Nat.reduceMul, Nat.reduceSub, Nat.reduceLeDiff, Nat.reduceLT, Int.reduceMul, Int.reduceAdd, Int.reduceSub, Int.reduceToNat, hne, hgi, hss, hg, sAV_length, cOpsAV, boolsAV, cOpsL_len, boolsL_len, Int.toNat_natCast, i1, f1, List.length_append, yaz, yba, hgj, s_CNext]
    refine ⟨by omega, b, a5, ⟨rfl, ⟨h51, h52⟩, hb, by omega, by omega⟩, fun r6 a6 hr61 hr62 h61 h62 => ?_⟩
    try simp only [blkS, go_sem, reduceCtorEq, Nat.reduceEqDiff, Nat.reduceAdd, Nat.reduceMul, Nat.reduceSub, Nat.reduceLeDiff, Nat.reduceLT, Int.reduceMul, Int.reduceAdd, Int.reduceSub, Int.reduceToNat, hne, hgi, hss, hg, sAV_length, cOpsAV, boolsAV, cOpsL_len, boolsL_len, Int.toNat_natCast, i1, f1, List.length_append, yaz, yba]
    refine cond_split (fun hcb => ?_) (fun hcb => ?_)
    · skip
      try simp only [blkS, go_sem, reduceCtorEq, Nat.reduceEqDiff, Nat.reduceAdd, Nat.reduceMul, Nat.reduceSub, Nat.reduceLeDiff, Nat.reduceLT, Int.reduceMul, Int.reduceAdd, Int.reduceSub, Int.reduceToNat, hne, hgi, hss, hg, sAV_length, cOpsAV, boolsAV, cOpsL_len, boolsL_len, Int.toNat_natCast, i1, f1, List.length_append, yaz, yba, s_CNext]
      refine ⟨b, a6, ⟨rfl, ⟨h61, h62⟩, hb, by omega, by omega⟩, fun r7 a7 hr71 hr72 h71 h72 => ?_⟩
      obtain ⟨j2, rfl⟩ := Int.eq_ofNat_of_zero_le hr71
      obtain ⟨hgj2, hpl2⟩ := bools_pick (j := j2) (by omega)
      generalize boolsL.getD j2 [] = bo at hgj2 hpl2
      try simp only [blkS, go_sem, reduceCtorEq, Nat.reduceEqDiff, Nat.reduceAdd, Nat.reduceMul, Nat.reduceSub, Nat.reduceLeDiff, Nat.reduceLT, Int.reduceMul, Int.reduceAdd, Int.reduceSub, Int.reduceToNat, hne, hgi, hss, hg, sAV_length, cOpsAV, boolsAV, cOpsL_len, boolsL_len, Int.toNat_natCast, i1, f1, List.length_append, yaz, yba, hgj2]
      refine ⟨by omega, ?_⟩
      exact gen_end (hK _ a7 (by first | omega | (simp only [List.length_append, yaz, yba]; omega)) h71 h72) hid hcl (((AHeap.Le.refl _).push _).push _)
    try simp only [blkS, go_sem, reduceCtorEq, Nat.reduceEqDiff, Nat.reduceAdd, Nat.reduceMul, Nat.reduceSub, Nat.reduceLeDiff, Nat.reduceLT, Int.reduceMul, Int.reduceAdd, Int.reduceSub, Int.reduceToNat, hne, hgi, hss, hg, sAV_length, cOpsAV, boolsAV, cOpsL_len, boolsL_len, Int.toNat_natCast, i1, f1, List.length_append, yaz, yba, s_CNumA, s_CNum]
    refine ⟨1, b, a6, ⟨rfl, ⟨h61, h62⟩, hb, rfl, by omega⟩, fun s1 a7 hs1 h71 h72 => ?_⟩
    try simp only [blkS, go_sem, reduceCtorEq, Nat.reduceEqDiff, Nat.reduceAdd, Nat.reduceMul, Nat.reduceSub, Nat.reduceLeDiff, Nat.reduceLT, Int.reduceMul, Int.reduceAdd, Int.reduceSub, Int.reduceToNat, hne, hgi, hss, hg, sAV_length, cOpsAV, boolsAV, cOpsL_len, boolsL_len, Int.toNat_natCast, i1, f1, List.length_append, yaz, yba, s_CNumA, s_CNum]
    refine ⟨by rw [hms]; omega, 1, b, a7, ⟨rfl, ⟨h71, h72⟩, hb, rfl, by omega⟩, fun s2 a8 hs2 h81 h82 => ?_⟩
    try simp only [blkS, go_sem, reduceCtorEq, Nat.reduceEqDiff, Nat.reduceAdd, Nat.reduceMul, Nat.reduceSub, Nat.reduceLeDiff, Nat.reduceLT, Int.reduceMul, Int.reduceAdd, Int.reduceSub, Int.reduceToNat, hne, hgi, hss, hg, sAV_length, cOpsAV, boolsAV, cOpsL_len, boolsL_len, Int.toNat_natCast, i1, f1, List.length_append, yaz, yba]
    refine ⟨by rw [hms]; omega, ?_⟩
    exact gen_end (hK _ a8 (by first | omega | (simp only [List.length_append, yaz, yba]; omega)) h81 h82) hid hcl ((AHeap.Le.refl _).push _)
  | false =>
    try simp only [blkS, go_sem, reduceCtorEq, Nat.reduceEqDiff, Nat.reduceAdd, Nat.reduceMul, Nat.reduceSub, Nat.reduceLeDiff, Nat.reduceLT, Int.reduceMul, Int.reduceAdd, Int.reduceSub, Int.reduceToNat, hne, hgi, hss, hg, sAV_length, cOpsAV, boolsAV, cOpsL_len, boolsL_len, Int.toNat_natCast, i1, f1, List.length_append, yaz, yba, d0, s_CNext]
    refine ⟨b, a, ⟨rfl, ⟨ha1, ha2⟩, hb, by omega, by omega⟩, fun r0 a1 hr1 hr2 h11 h12 => ?_⟩
    try simp only [blkS, go_sem, reduceCtorEq, Nat.reduceEqDiff, Nat.reduceAdd, Nat.reduceMul, Nat.reduceSub, Nat.reduceLeDiff, Nat.reduceLT, Int.reduceMul, Int.reduceAdd, Int.reduceSub, Int.reduceToNat, hne, hgi, hss, hg, sAV_length, cOpsAV, boolsAV, cOpsL_len, boolsL_len, Int.toNat_natCast, i1, f1, List.length_append, yaz, yba, d0]
    refine cond_split (fun hc => ?_) (fun hc => ?_)
    · skip
      try simp only [blkS, go_sem, reduceCtorEq, Nat.reduceEqDiff, Nat.reduceAdd, Nat.reduceMul, Nat.reduceSub, Nat.reduceLeDiff, Nat.reduceLT, Int.reduceMul, Int.reduceAdd, Int.reduceSub, Int.reduceToNat, hne, hgi, hss, hg, sAV_length, cOpsAV, boolsAV, cOpsL_len, boolsL_len, Int.toNat_natCast, i1, f1, List.length_append, yaz, yba, s_CNumA, s_CNum]
      refine ⟨0, b, a1, ⟨rfl, ⟨h11, h12⟩, hb, rfl, by omega⟩, fun s1 a7 hs1 h71 h72 => ?_⟩
      try simp only [blkS, go_sem, reduceCtorEq, Nat.reduceEqDiff, Nat.reduceAdd, Nat.reduceMul, Nat.reduceSub, Nat.reduceLeDiff, Nat.reduceLT, Int.reduceMul, Int.reduceAdd, Int.reduceSub, Int.reduceToNat, hne, hgi, hss, hg, sAV_length, cOpsAV, boolsAV, cOpsL_len, boolsL_len, Int.toNat_natCast, i1, f1, List.length_append, yaz, yba]
      exact gen_end (hK _ a7 (by first | omega | (simp only [List.length_append, yaz, yba]; omega)) h71 h72) hid hcl (AHeap.Le.refl _)
    try simp only [blkS, go_sem, reduceCtorEq, Nat.reduceEqDiff, Nat.reduceAdd, Nat.reduceMul, Nat.reduceSub, Nat.reduceLeDiff, Nat.reduceLT, Int.reduceMul, Int.reduceAdd, Int.reduceSub, Int.reduceToNat, hne, hgi, hss, hg, sAV_length, cOpsAV, boolsAV, cOpsL_len, boolsL_len, Int.toNat_natCast, i1, f1, List.length_append, yaz, yba, d0]
    try simp only [blkS, go_sem, reduceCtorEq, Nat.reduceEqDiff, Nat.reduceAdd, Nat.reduceMul, Nat.reduceSub, Nat.reduceLeDiff, Nat.reduceLT, Int.reduceMul, Int.reduceAdd, Int.reduceSub, Int.reduceToNat, hne, hgi, hss, hg, sAV_length, cOpsAV, boolsAV, cOpsL_len, boolsL_len, Int.toNat_natCast, i1, f1, List.length_append, yaz, yba, s_CNext]
    refine ⟨b, a1, ⟨rfl, ⟨h11, h12⟩, hb, by omega, by omega⟩, fun r5 a5 hr51 hr52 h51 h52 => ?_⟩
    obtain ⟨j, rfl⟩ := Int.eq_ofNat_of_zero_le hr51
    obtain ⟨hgj, hpl⟩ := cOps_pick (j := j) (by omega)
    generalize cOpsL.getD j [] = op at hgj hpl
    try simp only [blkS, go_sem, reduceCtorEq, Nat.reduceEqDiff, Nat.reduceAdd, Nat.reduceMul, Nat.reduceSub, Nat.reduceLeDiff, Nat.reduceLT, Int.reduceMul, Int.reduceAdd, Int.reduceSub, Int.reduceToNat, hne, hgi, hss, hg, sAV_length, cOpsAV, boolsAV, cOpsL_len, boolsL_len, Int.toNat_natCast, i1, f1, List.length_append, yaz, yba, hgj, s_CNext]
    refine ⟨by omega, b, a5, ⟨rfl, ⟨h51, h52⟩, hb, by omega, by omega⟩, fun r6 a6 hr61 hr62 h61 h62 => ?_⟩
    try simp only [blkS, go_sem, reduceCtorEq, Nat.reduceEqDiff, Nat.reduceAdd, Nat.reduceMul, Nat.reduceSub, Nat.reduceLeDiff, Nat.reduceLT, Int.reduceMul, Int.reduceAdd, Int.reduceSub, Int.reduceToNat, hne, hgi, hss, hg, sAV_length, cOpsAV, boolsAV, cOpsL_len, boolsL_len, Int.toNat_natCast, i1, f1, List.length_append, yaz, yba]
    refine cond_split (fun hcb => ?_) (fun hcb => ?_)
    · skip
      try simp only [blkS, go_sem, reduceCtorEq, Nat.reduceEqDiff, Nat.reduceAdd, Nat.reduceMul, Nat.reduceSub, Nat.reduceLeDiff, Nat.reduceLT, Int.reduceMul, Int.reduceAdd, Int.reduceSub, Int.reduceToNat, hne, hgi, hss, hg, sAV_length, cOpsAV, boolsAV, cOpsL_len, boolsL_len, Int.toNat_natCast, i1, f1, List.length_append, yaz, yba, s_CNext]
      refine ⟨b, a6, ⟨rfl, ⟨h61, h62⟩, hb, by omega, by omega⟩, fun r7 a7 hr71 hr72 h71 h72 => ?_⟩
      obtain ⟨j2, rfl⟩ := Int.eq_ofNat_of_zero_le hr71
      obtain ⟨hgj2, hpl2⟩ := bools_pick (j := j2) (by omega)
      generalize boolsL.getD j2 [] = bo at hgj2 hpl2
      try simp only [blkS, go_sem, reduceCtorEq, Nat.reduceEqDiff, Nat.reduceAdd, Nat.reduceMul, Nat.reduceSub, Nat.reduceLeDiff, Nat.reduceLT, Int.reduceMul, Int.reduceAdd, Int.reduceSub, Int.reduceToNat, hne, hgi, hss, hg, sAV_length, cOpsAV, boolsAV, cOpsL_len, boolsL_len, Int.toNat_natCast, i1, f1, List.length_append, yaz, yba, hgj2]
      refine ⟨by omega, ?_⟩
      exact gen_end (hK _ a7 (by first | omega | (simp only [List.length_append, yaz, yba]; omega)) h71 h72) hid hcl (((AHeap.Le.refl _).push _).push _)
    try simp only [blkS, go_sem, reduceCtorEq, Nat.reduceEqDiff, Nat.reduceAdd, Nat.reduceMul, Nat.reduceSub, Nat.reduceLeDiff, Nat.reduceLT, Int.reduceMul, Int.reduceAdd, Int.reduceSub, Int.reduceToNat, hne, hgi, hss, hg, sAV_length, cOpsAV, boolsAV, cOpsL_len, boolsL_len, Int.toNat_natCast, i1, f1, List.length_append, yaz, yba, s_CNumA, s_CNum]
    refine ⟨1, b, a6, ⟨rfl, ⟨h61, h62⟩, hb, rfl, by omega⟩, fun s1 a7 hs1 h71 h72 => ?_⟩
    try simp only [blkS, go_sem, reduceCtorEq, Nat.reduceEqDiff, Nat.reduceAdd, Nat.reduceMul, Nat.reduceSub, Nat.reduceLeDiff, Nat.reduceLT, Int.reduceMul, Int.reduceAdd, Int.reduceSub, Int.reduceToNat, hne, hgi, hss, hg, sAV_length, cOpsAV, boolsAV, cOpsL_len, boolsL_len, Int.toNat_natCast, i1, f1, List.length_append, yaz, yba, s_CNumA, s_CNum]
    refine ⟨by rw [hms]; omega, 1, b, a7, ⟨rfl, ⟨h71, h72⟩, hb, rfl, by omega⟩, fun s2 a8 hs2 h81 h82 => ?_⟩
    try simp only [blkS, go_sem, reduceCtorEq, Nat.reduceEqDiff, Nat.reduceAdd, Nat.reduceMul, Nat.reduceSub, Nat.reduceLeDiff, Nat.reduceLT, Int.reduceMul, Int.reduceAdd, Int.reduceSub, Int.reduceToNat, hne, hgi, hss, hg, sAV_length, cOpsAV, boolsAV, cOpsL_len, boolsL_len, Int.toNat_natCast, i1, f1, List.length_append, yaz, yba]
    refine ⟨by rw [hms]; omega, ?_⟩
    exact gen_end (hK _ a8 (by first | omega | (simp only [List.length_append, yaz, yba]; omega)) h81 h82) hid hcl ((AHeap.Le.refl _).push _)
set_option maxHeartbeats 8000000 in
theorem s_ok_CSentS {A : Prop} {d : Nat} (h_CSent : EntOk Try.prog 18 (Ent.some (s_CSent A d))) : EntOk Try.prog 18 (Ent.some (s_CSent A (d + 1))) := by
  refine EntOk.some fun args H K h => ?_
  unfold s_CSent at h
  split at h
  rotate_left
  · exact h.elim
  rename_i id n w
  obtain ⟨b, a, ⟨hg, ⟨ha1, ha2⟩, hb, rfl, hbd⟩, hK⟩ := h
  have hid := AHeap.get_lt hg
  have hne : (id = H.nx) = False := eq_false (by omega)
  have hgi : ∀ x, (H.set id (cod b x)).get id = some (cod b x) := fun x => AHeap.get_set_same _ _ hid
  have hss : ∀ x y, (H.set id (cod b x)).set id (cod b y) = H.set id (cod b y) := fun x y => cod_set
  have hms : maxStr = 9223372036854775807 := rfl
  have i1 := @Int.natCast_nonneg
  have f1 := far_of hid
  have hb0 := bS_ge (d + 1)
  have hb1 := bN_ge 1
  have hb2 := bN_ge (d + 1)
  have hid2 := bS_id (d + 1)
  have h_CNumA := s_ok_CNumA (A := A) (g := 0)
  have hbs : bS (d + 1) = 2 * bS d + 2 * bN 1 + bN (d + 1) + 20 := rfl
  refine ACallsP.of_aw (Ω := [(66, Ent.some s_CNext), (73, Ent.some (s_CNumA A 0)), (18, Ent.some (s_CSent A d))]) (T := assoc []) mixed (TblOk.cons ok_CNext (TblOk.cons h_CNumA (TblOk.cons h_CSent TblOk.nil))) Try.func18 (by kernel_rfl) (by rfl) (rs := [.tmp 6]) (by rfl) (by kernel_rfl) (by simp only [Try.ntmps18, yaz, yba]; decide) fun hcl hlt => ?_
  change aw _ _ _ (KI Try.prog [(66, Ent.some s_CNext), (73, Ent.some (s_CNumA A 0)), (18, Ent.some (s_CSent A d))] (aEndP Try.prog [.tmp 6] H.nx _) []) _ _
  clear hlt
  have d0 : (((d + 1 : Nat) : Int) == 0) = false := by simp; omega
  have e1 : IntKind.i64.wrap (((d + 1 : Nat) : Int) - 1) = (d : Int) := by rw [wrap_i64] <;> omega
  cases w with
  | true =>
    try simp only [blkS, go_sem, reduceCtorEq, Nat.reduceEqDiff, Nat.reduceAdd, Nat.reduceMul, Nat.reduceSub, Nat.reduceLeDiff, Nat.reduceLT, Int.reduceMul, Int.reduceAdd, Int.reduceSub, Int.reduceToNat, hne, hgi, hss, hg, sAV_length, cOpsAV, boolsAV, cOpsL_len, boolsL_len, Int.toNat_natCast, i1, f1, List.length_append, yaz, yba, d0, s_CNext]
    refine ⟨b, a, ⟨rfl, ⟨ha1, ha2⟩, hb, by omega, by omega⟩, fun r1 a2 hr3 hr4 h21 h22 => ?_⟩
    try simp only [blkS, go_sem, reduceCtorEq, Nat.reduceEqDiff, Nat.reduceAdd, Nat.reduceMul, Nat.reduceSub, Nat.reduceLeDiff, Nat.reduceLT, Int.reduceMul, Int.reduceAdd, Int.reduceSub, Int.reduceToNat, hne, hgi, hss, hg, sAV_length, cOpsAV, boolsAV, cOpsL_len, boolsL_len, Int.toNat_natCast, i1, f1, List.length_append, yaz, yba, d0]
    refine cond_split (fun hc2 => ?_) (fun hc2 => ?_)
    · skip
      try simp only [blkS, go_sem, reduceCtorEq, Nat.reduceEqDiff, Nat.reduceAdd, Nat.reduceMul, Nat.reduceSub, Nat.reduceLeDiff, Nat.reduceLT, Int.reduceMul, Int.reduceAdd, Int.reduceSub, Int.reduceToNat, hne, hgi, hss, hg, sAV_length, cOpsAV, boolsAV, cOpsL_len, boolsL_len, Int.toNat_natCast, i1, f1, List.length_append, yaz, yba, s_CNext]
      refine ⟨b, a2, ⟨rfl, ⟨h21, h22⟩, hb, by omega, by omega⟩, fun r5 a5 hr51 hr52 h51 h52 => ?_⟩
      obtain ⟨j, rfl⟩ := Int.eq_ofNat_of_zero_le hr51
      obtain ⟨hgj, hpl⟩ := cOps_pick (j := j) (by omega)
      generalize cOpsL.getD j [] = op at hgj hpl
      try simp only [blkS, go_sem, reduceCtorEq, Nat.reduceEqDiff, Nat.reduceAdd, Nat.reduceMul, Nat.reduceSub, Nat.reduceLeDiff, Nat.reduceLT, Int.reduceMul, Int.reduceAdd, Int.reduceSub, Int.reduceToNat, hne, hgi, hss, hg, sAV_length, cOpsAV, boolsAV, cOpsL_len, boolsL_len, Int.toNat_natCast, i1, f1, List.length_append, yaz, yba, hgj, s_CNext]
      refine ⟨by omega, b, a5, ⟨rfl, ⟨h51, h52⟩, hb, by omega, by omega⟩, fun r6 a6 hr61 hr62 h61 h62 => ?_⟩
      try simp only [blkS, go_sem, reduceCtorEq, Nat.reduceEqDiff, Nat.reduceAdd, Nat.reduceMul, Nat.reduceSub, Nat.reduceLeDiff, Nat.reduceLT, Int.reduceMul, Int.reduceAdd, Int.reduceSub, Int.reduceToNat, hne, hgi, hss, hg, sAV_length, cOpsAV, boolsAV, cOpsL_len, boolsL_len, Int.toNat_natCast, i1, f1, List.length_append, yaz, yba]
      refine cond_split (fun hcb => ?_) (fun hcb => ?_)
      · skip
        try simp only [blkS, go_sem, reduceCtorEq, Nat.reduceEqDiff, Nat.reduceAdd, Nat.reduceMul, Nat.reduceSub, Nat.reduceLeDiff, Nat.reduceLT, Int.reduceMul, Int.reduceAdd, Int.reduceSub, Int.reduceToNat, hne, hgi, hss, hg, sAV_length, cOpsAV, boolsAV, cOpsL_len, boolsL_len, Int.toNat_natCast, i1, f1, List.length_append, yaz, yba, s_CNext]
        refine ⟨b, a6, ⟨rfl, ⟨h61, h62⟩, hb, by omega, by omega⟩, fun r7 a7 hr71 hr72 h71 h72 => ?_⟩
        obtain ⟨j2, rfl⟩ := Int.eq_ofNat_of_zero_le hr71
        obtain ⟨hgj2, hpl2⟩ := bools_pick (j := j2) (by omega)
        generalize boolsL.getD j2 [] = bo at hgj2 hpl2
        try simp only [blkS, go_sem, reduceCtorEq, Nat.reduceEqDiff, Nat.reduceAdd, Nat.reduceMul, Nat.reduceSub, Nat.reduceLeDiff, Nat.reduceLT, Int.reduceMul, Int.reduceAdd, Int.reduceSub, Int.reduceToNat, hne, hgi, hss, hg, sAV_length, cOpsAV, boolsAV, cOpsL_len, boolsL_len, Int.toNat_natCast, i1, f1, List.length_append, yaz, yba, hgj2]
        refine ⟨by omega, ?_⟩
        exact gen_end (hK _ a7 (by first | omega | (simp only [List.length_append, yaz, yba]; omega)) h71 h72) hid hcl (((AHeap.Le.refl _).push _).push _)
      try simp only [blkS, go_sem, reduceCtorEq, Nat.reduceEqDiff, Nat.reduceAdd, Nat.reduceMul, Nat.reduceSub, Nat.reduceLeDiff, Nat.reduceLT, Int.reduceMul, Int.reduceAdd, Int.reduceSub, Int.reduceToNat, hne, hgi, hss, hg, sAV_length, cOpsAV, boolsAV, cOpsL_len, boolsL_len, Int.toNat_natCast, i1, f1, List.length_append, yaz, yba, s_CNumA, s_CNum]
      refine ⟨1, b, a6, ⟨rfl, ⟨h61, h62⟩, hb, rfl, by omega⟩, fun s1 a7 hs1 h71 h72 => ?_⟩
      try simp only [blkS, go_sem, reduceCtorEq, Nat.reduceEqDiff, Nat.reduceAdd, Nat.reduceMul, Nat.reduceSub, Nat.reduceLeDiff, Nat.reduceLT, Int.reduceMul, Int.reduceAdd, Int.reduceSub, Int.reduceToNat, hne, hgi, hss, hg, sAV_length, cOpsAV, boolsAV, cOpsL_len, boolsL_len, Int.toNat_natCast, i1, f1, List.length_append, yaz, yba, s_CNumA, s_CNum]
      refine ⟨by rw [hms]; omega, 1, b, a7, ⟨rfl, ⟨h71, h72⟩, hb, rfl, by omega⟩, fun s2 a8 hs2 h81 h82 => ?_⟩
      try simp only [blkS, go_sem, reduceCtorEq, Nat.reduceEqDiff, Nat.reduceAdd, Nat.reduceMul, Nat.reduceSub, Nat.reduceLeDiff, Nat.reduceLT, Int.reduceMul, Int.reduceAdd, Int.reduceSub, Int.reduceToNat, hne, hgi, hss, hg, sAV_length, cOpsAV, boolsAV, cOpsL_len, boolsL_len, Int.toNat_natCast, i1, f1, List.length_append, yaz, yba]
      refine ⟨by rw [hms]; omega, ?_⟩
      exact gen_end (hK _ a8 (by first | omega | (simp only [List.length_append, yaz, yba]; omega)) h81 h82) hid hcl ((AHeap.Le.refl _).push _)
    try simp only [blkS, go_sem, reduceCtorEq, Nat.reduceEqDiff, Nat.reduceAdd, Nat.reduceMul, Nat.reduceSub, Nat.reduceLeDiff, Nat.reduceLT, Int.reduceMul, Int.reduceAdd, Int.reduceSub, Int.reduceToNat, hne, hgi, hss, hg, sAV_length, cOpsAV, boolsAV, cOpsL_len, boolsL_len, Int.toNat_natCast, i1, f1, List.length_append, yaz, yba, s_CNext]
    refine ⟨b, a2, ⟨rfl, ⟨h21, h22⟩, hb, by omega, by omega⟩, fun r3 A0 hr5 hr6 h01 h02 => ?_⟩
    try simp only [blkS, go_sem, reduceCtorEq, Nat.reduceEqDiff, Nat.reduceAdd, Nat.reduceMul, Nat.reduceSub, Nat.reduceLeDiff, Nat.reduceLT, Int.reduceMul, Int.reduceAdd, Int.reduceSub, Int.reduceToNat, hne, hgi, hss, hg, sAV_length, cOpsAV, boolsAV, cOpsL_len, boolsL_len, Int.toNat_natCast, i1, f1, List.length_append, yaz, yba]
    refine cond_split (fun hk0 => ?_) (fun hk0 => ?_)
    · skip
      try simp only [blkS, go_sem, reduceCtorEq, Nat.reduceEqDiff, Nat.reduceAdd, Nat.reduceMul, Nat.reduceSub, Nat.reduceLeDiff, Nat.reduceLT, Int.reduceMul, Int.reduceAdd, Int.reduceSub, Int.reduceToNat, hne, hgi, hss, hg, sAV_length, cOpsAV, boolsAV, cOpsL_len, boolsL_len, Int.toNat_natCast, i1, f1, List.length_append, yaz, yba, s_CSent, e1]
      refine ⟨b, A0, ⟨rfl, ⟨h01, h02⟩, hb, by omega⟩, fun s1 a8 hs1 h81 h82 => ?_⟩
      try simp only [blkS, go_sem, reduceCtorEq, Nat.reduceEqDiff, Nat.reduceAdd, Nat.reduceMul, Nat.reduceSub, Nat.reduceLeDiff, Nat.reduceLT, Int.reduceMul, Int.reduceAdd, Int.reduceSub, Int.reduceToNat, hne, hgi, hss, hg, sAV_length, cOpsAV, boolsAV, cOpsL_len, boolsL_len, Int.toNat_natCast, i1, f1, List.length_append, yaz, yba]
      refine ⟨by rw [hms]; omega, by rw [hms]; omega, ?_⟩
      exact gen_end (hK _ a8 (by first | omega | (simp only [List.length_append, yaz, yba]; omega)) h81 h82) hid hcl (AHeap.Le.refl _)
    try simp only [blkS, go_sem, reduceCtorEq, Nat.reduceEqDiff, Nat.reduceAdd, Nat.reduceMul, Nat.reduceSub, Nat.reduceLeDiff, Nat.reduceLT, Int.reduceMul, Int.reduceAdd, Int.reduceSub, Int.reduceToNat, hne, hgi, hss, hg, sAV_length, cOpsAV, boolsAV, cOpsL_len, boolsL_len, Int.toNat_natCast, i1, f1, List.length_append, yaz, yba]
    refine cond_split (fun hk1 => ?_) (fun hk1 => ?_)
    · skip
      try simp only [blkS, go_sem, reduceCtorEq, Nat.reduceEqDiff, Nat.reduceAdd, Nat.reduceMul, Nat.reduceSub, Nat.reduceLeDiff, Nat.reduceLT, Int.reduceMul, Int.reduceAdd, Int.reduceSub, Int.reduceToNat, hne, hgi, hss, hg, sAV_length, cOpsAV, boolsAV, cOpsL_len, boolsL_len, Int.toNat_natCast, i1, f1, List.length_append, yaz, yba, s_CSent, e1]
      refine ⟨b, A0, ⟨rfl, ⟨h01, h02⟩, hb, by omega⟩, fun s1 a8 hs1 h81 h82 => ?_⟩
      try simp only [blkS, go_sem, reduceCtorEq, Nat.reduceEqDiff, Nat.reduceAdd, Nat.reduceMul, Nat.reduceSub, Nat.reduceLeDiff, Nat.reduceLT, Int.reduceMul, Int.reduceAdd, Int.reduceSub, Int.reduceToNat, hne, hgi, hss, hg, sAV_length, cOpsAV, boolsAV, cOpsL_len, boolsL_len, Int.toNat_natCast, i1, f1, List.length_append, yaz, yba, s_CSent, e1]
      refine ⟨by rw [hms]; omega, by rw [hms]; omega, by rw [hms]; omega, b, a8, ⟨rfl, ⟨h81, h82⟩, hb, by omega⟩, fun s2 a9 hs2 h91 h92 => ?_⟩
      try simp only [blkS, go_sem, reduceCtorEq, Nat.reduceEqDiff, Nat.reduceAdd, Nat.reduceMul, Nat.reduceSub, Nat.reduceLeDiff, Nat.reduceLT, Int.reduceMul, Int.reduceAdd, Int.reduceSub, Int.reduceToNat, hne, hgi, hss, hg, sAV_length, cOpsAV, boolsAV, cOpsL_len, boolsL_len, Int.toNat_natCast, i1, f1, List.length_append, yaz, yba]
      refine ⟨by rw [hms]; omega, by rw [hms]; omega, ?_⟩
      exact gen_end (hK _ a9 (by first | omega | (simp only [List.length_append, yaz, yba]; omega)) h91 h92) hid hcl (AHeap.Le.refl _)
    try simp only [blkS, go_sem, reduceCtorEq, Nat.reduceEqDiff, Nat.reduceAdd, Nat.reduceMul, Nat.reduceSub, Nat.reduceLeDiff, Nat.reduceLT, Int.reduceMul, Int.reduceAdd, Int.reduceSub, Int.reduceToNat, hne, hgi, hss, hg, sAV_length, cOpsAV, boolsAV, cOpsL_len, boolsL_len, Int.toNat_natCast, i1, f1, List.length_append, yaz, yba]
    refine cond_split (fun hk2 => ?_) (fun hk2 => ?_)
    · skip
      try simp only [blkS, go_sem, reduceCtorEq, Nat.reduceEqDiff, Nat.reduceAdd, Nat.reduceMul, Nat.reduceSub, Nat.reduceLeDiff, Nat.reduceLT, Int.reduceMul, Int.reduceAdd, Int.reduceSub, Int.reduceToNat, hne, hgi, hss, hg, sAV_length, cOpsAV, boolsAV, cOpsL_len, boolsL_len, Int.toNat_natCast, i1, f1, List.length_append, yaz, yba, s_CSent, e1]
      refine ⟨b, A0, ⟨rfl, ⟨h01, h02⟩, hb, by omega⟩, fun s1 a8 hs1 h81 h82 => ?_⟩
      try simp only [blkS, go_sem, reduceCtorEq, Nat.reduceEqDiff, Nat.reduceAdd, Nat.reduceMul, Nat.reduceSub, Nat.reduceLeDiff, Nat.reduceLT, Int.reduceMul, Int.reduceAdd, Int.reduceSub, Int.reduceToNat, hne, hgi, hss, hg, sAV_length, cOpsAV, boolsAV, cOpsL_len, boolsL_len, Int.toNat_natCast, i1, f1, List.length_append, yaz, yba, s_CSent, e1]
      refine ⟨by rw [hms]; omega, by rw [hms]; omega, by rw [hms]; omega, b, a8, ⟨rfl, ⟨h81, h82⟩, hb, by omega⟩, fun s2 a9 hs2 h91 h92 => ?_⟩
      try simp only [blkS, go_sem, reduceCtorEq, Nat.reduceEqDiff, Nat.reduceAdd, Nat.reduceMul, Nat.reduceSub, Nat.reduceLeDiff, Nat.reduceLT, Int.reduceMul, Int.reduceAdd, Int.reduceSub, Int.reduceToNat, hne, hgi, hss, hg, sAV_length, cOpsAV, boolsAV, cOpsL_len, boolsL_len, Int.toNat_natCast, i1, f1, List.length_append, yaz, yba]
      refine ⟨by rw [hms]; omega, by rw [hms]; omega, ?_⟩
      exact gen_end (hK _ a9 (by first | omega | (simp only [List.length_append, yaz, yba]; omega)) h91 h92) hid hcl (AHeap.Le.refl _)
    try simp only [blkS, go_sem, reduceCtorEq, Nat.reduceEqDiff, Nat.reduceAdd, Nat.reduceMul, Nat.reduceSub, Nat.reduceLeDiff, Nat.reduceLT, Int.reduceMul, Int.reduceAdd, Int.reduceSub, Int.reduceToNat, hne, hgi, hss, hg, sAV_length, cOpsAV, boolsAV, cOpsL_len, boolsL_len, Int.toNat_natCast, i1, f1, List.length_append, yaz, yba]
    refine cond_split (fun hk3 => ?_) (fun hk3 => ?_)
    · skip
      try simp only [blkS, go_sem, reduceCtorEq, Nat.reduceEqDiff, Nat.reduceAdd, Nat.reduceMul, Nat.reduceSub, Nat.reduceLeDiff, Nat.reduceLT, Int.reduceMul, Int.reduceAdd, Int.reduceSub, Int.reduceToNat, hne, hgi, hss, hg, sAV_length, cOpsAV, boolsAV, cOpsL_len, boolsL_len, Int.toNat_natCast, i1, f1, List.length_append, yaz, yba, s_CSent, e1]
      refine ⟨b, A0, ⟨rfl, ⟨h01, h02⟩, hb, by omega⟩, fun s1 a8 hs1 h81 h82 => ?_⟩
      try simp only [blkS, go_sem, reduceCtorEq, Nat.reduceEqDiff, Nat.reduceAdd, Nat.reduceMul, Nat.reduceSub, Nat.reduceLeDiff, Nat.reduceLT, Int.reduceMul, Int.reduceAdd, Int.reduceSub, Int.reduceToNat, hne, hgi, hss, hg, sAV_length, cOpsAV, boolsAV, cOpsL_len, boolsL_len, Int.toNat_natCast, i1, f1, List.length_append, yaz, yba, s_CSent, e1]
      refine ⟨by rw [hms]; omega, by rw [hms]; omega, by rw [hms]; omega, b, a8, ⟨rfl, ⟨h81, h82⟩, hb, by omega⟩, fun s2 a9 hs2 h91 h92 => ?_⟩
      try simp only [blkS, go_sem, reduceCtorEq, Nat.reduceEqDiff, Nat.reduceAdd, Nat.reduceMul, Nat.reduceSub, Nat.reduceLeDiff, Nat.reduceLT, Int.reduceMul, Int.reduceAdd, Int.reduceSub, Int.reduceToNat, hne, hgi, hss, hg, sAV_length, cOpsAV, boolsAV, cOpsL_len, boolsL_len, Int.toNat_natCast, i1, f1, List.length_append, yaz, yba]
      refine ⟨by rw [hms]; omega, by rw [hms]; omega, ?_⟩
      exact gen_end (hK _ a9 (by first | omega | (simp only [List.length_append, yaz, yba]; omega)) h91 h92) hid hcl (AHeap.Le.refl _)
    try simp only [blkS, go_sem, reduceCtorEq, Nat.reduceEqDiff, Nat.reduceAdd, Nat.reduceMul, Nat.reduceSub, Nat.reduceLeDiff, Nat.reduceLT, Int.reduceMul, Int.reduceAdd, Int.reduceSub, Int.reduceToNat, hne, hgi, hss, hg, sAV_length, cOpsAV, boolsAV, cOpsL_len, boolsL_len, Int.toNat_natCast, i1, f1, List.length_append, yaz, yba]
    refine cond_split (fun hk4 => ?_) (fun hk4 => ?_)
    · skip
      try simp only [blkS, go_sem, reduceCtorEq, Nat.reduceEqDiff, Nat.reduceAdd, Nat.reduceMul, Nat.reduceSub, Nat.reduceLeDiff, Nat.reduceLT, Int.reduceMul, Int.reduceAdd, Int.reduceSub, Int.reduceToNat, hne, hgi, hss, hg, sAV_length, cOpsAV, boolsAV, cOpsL_len, boolsL_len, Int.toNat_natCast, i1, f1, List.length_append, yaz, yba, s_CSent, e1]
      refine ⟨b, A0, ⟨rfl, ⟨h01, h02⟩, hb, by omega⟩, fun s1 a8 hs1 h81 h82 => ?_⟩
      try simp only [blkS, go_sem, reduceCtorEq, Nat.reduceEqDiff, Nat.reduceAdd, Nat.reduceMul, Nat.reduceSub, Nat.reduceLeDiff, Nat.reduceLT, Int.reduceMul, Int.reduceAdd, Int.reduceSub, Int.reduceToNat, hne, hgi, hss, hg, sAV_length, cOpsAV, boolsAV, cOpsL_len, boolsL_len, Int.toNat_natCast, i1, f1, List.length_append, yaz, yba, s_CSent, e1]
      refine ⟨by rw [hms]; omega, by rw [hms]; omega, by rw [hms]; omega, b, a8, ⟨rfl, ⟨h81, h82⟩, hb, by omega⟩, fun s2 a9 hs2 h91 h92 => ?_⟩
      try simp only [blkS, go_sem, reduceCtorEq, Nat.reduceEqDiff, Nat.reduceAdd, Nat.reduceMul, Nat.reduceSub, Nat.reduceLeDiff, Nat.reduceLT, Int.reduceMul, Int.reduceAdd, Int.reduceSub, Int.reduceToNat, hne, hgi, hss, hg, sAV_length, cOpsAV, boolsAV, cOpsL_len, boolsL_len, Int.toNat_natCast, i1, f1, List.length_append, yaz, yba]
      refine ⟨by rw [hms]; omega, by rw [hms]; omega, ?_⟩
      exact gen_end (hK _ a9 (by first | omega | (simp only [List.length_append, yaz, yba]; omega)) h91 h92) hid hcl (AHeap.Le.refl _)
    try simp only [blkS, go_sem, reduceCtorEq, Nat.reduceEqDiff, Nat.reduceAdd, Nat.reduceMul, Nat.reduceSub, Nat.reduceLeDiff, Nat.reduceLT, Int.reduceMul, Int.reduceAdd, Int.reduceSub, Int.reduceToNat, hne, hgi, hss, hg, sAV_length, cOpsAV, boolsAV, cOpsL_len, boolsL_len, Int.toNat_natCast, i1, f1, List.length_append, yaz, yba]
    try simp only [blkS, go_sem, reduceCtorEq, Nat.reduceEqDiff, Nat.reduceAdd, Nat.reduceMul, Nat.reduceSub, Nat.reduceLeDiff, Nat.reduceLT, Int.reduceMul, Int.reduceAdd, Int.reduceSub, Int.reduceToNat, hne, hgi, hss, hg, sAV_length, cOpsAV, boolsAV, cOpsL_len, boolsL_len, Int.toNat_natCast, i1, f1, List.length_append, yaz, yba, s_CSent, e1]
    refine ⟨b, A0, ⟨rfl, ⟨h01, h02⟩, hb, by omega⟩, fun s1 a8 hs1 h81 h82 => ?_⟩
    try simp only [blkS, go_sem, reduceCtorEq, Nat.reduceEqDiff, Nat.reduceAdd, Nat.reduceMul, Nat.reduceSub, Nat.reduceLeDiff, Nat.reduceLT, Int.reduceMul, Int.reduceAdd, Int.reduceSub, Int.reduceToNat, hne, hgi, hss, hg, sAV_length, cOpsAV, boolsAV, cOpsL_len, boolsL_len, Int.toNat_natCast, i1, f1, List.length_append, yaz, yba]
    refine ⟨by rw [hms]; omega, by rw [hms]; omega, ?_⟩
    exact gen_end (hK _ a8 (by first | omega | (simp only [List.length_append, yaz, yba]; omega)) h81 h82) hid hcl (AHeap.Le.refl _)
  | false =>
    try simp only [blkS, go_sem, reduceCtorEq, Nat.reduceEqDiff, Nat.reduceAdd, Nat.reduceMul, Nat.reduceSub, Nat.reduceLeDiff, Nat.reduceLT, Int.reduceMul, Int.reduceAdd, Int.reduceSub, Int.reduceToNat, hne, hgi, hss, hg, sAV_length, cOpsAV, boolsAV, cOpsL_len, boolsL_len, Int.toNat_natCast, i1, f1, List.length_append, yaz, yba, d0, s_CNext]
    refine ⟨b, a, ⟨rfl, ⟨ha1, ha2⟩, hb, by omega, by omega⟩, fun r0 a1 hr1 hr2 h11 h12 => ?_⟩
    try simp only [blkS, go_sem, reduceCtorEq, Nat.reduceEqDiff, Nat.reduceAdd, Nat.reduceMul, Nat.reduceSub, Nat.reduceLeDiff, Nat.reduceLT, Int.reduceMul, Int.reduceAdd, Int.reduceSub, Int.reduceToNat, hne, hgi, hss, hg, sAV_length, cOpsAV, boolsAV, cOpsL_len, boolsL_len, Int.toNat_natCast, i1, f1, List.length_append, yaz, yba, d0]
    refine cond_split (fun hc => ?_) (fun hc => ?_)
    · skip
      try simp only [blkS, go_sem, reduceCtorEq, Nat.reduceEqDiff, Nat.reduceAdd, Nat.reduceMul, Nat.reduceSub, Nat.reduceLeDiff, Nat.reduceLT, Int.reduceMul, Int.reduceAdd, Int.reduceSub, Int.reduceToNat, hne, hgi, hss, hg, sAV_length, cOpsAV, boolsAV, cOpsL_len, boolsL_len, Int.toNat_natCast, i1, f1, List.length_append, yaz, yba, s_CNumA, s_CNum]
      refine ⟨(d + 1), b, a1, ⟨rfl, ⟨h11, h12⟩, hb, rfl, by omega⟩, fun s1 a7 hs1 h71 h72 => ?_⟩
      try simp only [blkS, go_sem, reduceCtorEq, Nat.reduceEqDiff, Nat.reduceAdd, Nat.reduceMul, Nat.reduceSub, Nat.reduceLeDiff, Nat.reduceLT, Int.reduceMul, Int.reduceAdd, Int.reduceSub, Int.reduceToNat, hne, hgi, hss, hg, sAV_length, cOpsAV, boolsAV, cOpsL_len, boolsL_len, Int.toNat_natCast, i1, f1, List.length_append, yaz, yba]
      exact gen_end (hK _ a7 (by first | omega | (simp only [List.length_append, yaz, yba]; omega)) h71 h72) hid hcl (AHeap.Le.refl _)
    try simp only [blkS, go_sem, reduceCtorEq, Nat.reduceEqDiff, Nat.reduceAdd, Nat.reduceMul, Nat.reduceSub, Nat.reduceLeDiff, Nat.reduceLT, Int.reduceMul, Int.reduceAdd, Int.reduceSub, Int.reduceToNat, hne, hgi, hss, hg, sAV_length, cOpsAV, boolsAV, cOpsL_len, boolsL_len, Int.toNat_natCast, i1, f1, List.length_append, yaz, yba, d0, s_CNext]
    refine ⟨b, a1, ⟨rfl, ⟨h11, h12⟩, hb, by omega, by omega⟩, fun r1 a2 hr3 hr4 h21 h22 => ?_⟩
    try simp only [blkS, go_sem, reduceCtorEq, Nat.reduceEqDiff, Nat.reduceAdd, Nat.reduceMul, Nat.reduceSub, Nat.reduceLeDiff, Nat.reduceLT, Int.reduceMul, Int.reduceAdd, Int.reduceSub, Int.reduceToNat, hne, hgi, hss, hg, sAV_length, cOpsAV, boolsAV, cOpsL_len, boolsL_len, Int.toNat_natCast, i1, f1, List.length_append, yaz, yba, d0]
    refine cond_split (fun hc2 => ?_) (fun hc2 => ?_)
    · skip
      try simp only [blkS, go_sem, reduceCtorEq, Nat.reduceEqDiff, Nat.reduceAdd, Nat.reduceMul, Nat.reduceSub, Nat.reduceLeDiff, Nat.reduceLT, Int.reduceMul, Int.reduceAdd, Int.reduceSub, Int.reduceToNat, hne, hgi, hss, hg, sAV_length, cOpsAV, boolsAV, cOpsL_len, boolsL_len, Int.toNat_natCast, i1, f1, List.length_append, yaz, yba, s_CNext]
      refine ⟨b, a2, ⟨rfl, ⟨h21, h22⟩, hb, by omega, by omega⟩, fun r5 a5 hr51 hr52 h51 h52 => ?_⟩
      obtain ⟨j, rfl⟩ := Int.eq_ofNat_of_zero_le hr51
      obtain ⟨hgj, hpl⟩ := cOps_pick (j := j) (by omega)
      generalize cOpsL.getD j [] = op at hgj hpl
      try simp only [blkS, go_sem, reduceCtorEq, Nat.reduceEqDiff, Nat.reduceAdd, Nat.reduceMul, Nat.reduceSub, Nat.reduceLeDiff, Nat.reduceLT, Int.reduceMul, Int.reduceAdd, Int.reduceSub, Int.reduceToNat, hne, hgi, hss, hg, sAV_length, cOpsAV, boolsAV, cOpsL_len, boolsL_len, Int.toNat_natCast, i1, f1, List.length_append, yaz, yba, hgj, s_CNext]
      refine ⟨by omega, b, a5, ⟨rfl, ⟨h51, h52⟩, hb, by omega, by omega⟩, fun r6 a6 hr61 hr62 h61 h62 => ?_⟩
      try simp only [blkS, go_sem, reduceCtorEq, Nat.reduceEqDiff, Nat.reduceAdd, Nat.reduceMul, Nat.reduceSub, Nat.reduceLeDiff, Nat.reduceLT, Int.reduceMul, Int.reduceAdd, Int.reduceSub, Int.reduceToNat, hne, hgi, hss, hg, sAV_length, cOpsAV, boolsAV, cOpsL_len, boolsL_len, Int.toNat_natCast, i1, f1, List.length_append, yaz, yba]
      refine cond_split (fun hcb => ?_) (fun hcb => ?_)
      · skip
        try simp only [blkS, go_sem, reduceCtorEq, Nat.reduceEqDiff, Nat.reduceAdd, Nat.reduceMul, Nat.reduceSub, Nat.reduceLeDiff, Nat.reduceLT, Int.reduceMul, Int.reduceAdd, Int.reduceSub, Int.reduceToNat, hne, hgi, hss, hg, sAV_length, cOpsAV, boolsAV, cOpsL_len, boolsL_len, Int.toNat_natCast, i1, f1, List.length_append, yaz, yba, s_CNext]
        refine ⟨b, a6, ⟨rfl, ⟨h61, h62⟩, hb, by omega, by omega⟩, fun r7 a7 hr71 hr72 h71 h72 => ?_⟩
        obtain ⟨j2, rfl⟩ := Int.eq_ofNat_of_zero_le hr71
        obtain ⟨hgj2, hpl2⟩ := bools_pick (j := j2) (by omega)
        generalize boolsL.getD j2 [] = bo at hgj2 hpl2
        try simp only [blkS, go_sem, reduceCtorEq, Nat.reduceEqDiff, Nat.reduceAdd, Nat.reduceMul, Nat.reduceSub, Nat.reduceLeDiff, Nat.reduceLT, Int.reduceMul, Int.reduceAdd, Int.reduceSub, Int.reduceToNat, hne, hgi, hss, hg, sAV_length, cOpsAV, boolsAV, cOpsL_len, boolsL_len, Int.toNat_natCast, i1, f1, List.length_append, yaz, yba, hgj2]
        refine ⟨by omega, ?_⟩
        exact gen_end (hK _ a7 (by first | omega | (simp only [List.length_append, yaz, yba]; omega)) h71 h72) hid hcl (((AHeap.Le.refl _).push _).push _)
      try simp only [blkS, go_sem, reduceCtorEq, Nat.reduceEqDiff, Nat.reduceAdd, Nat.reduceMul, Nat.reduceSub, Nat.reduceLeDiff, Nat.reduceLT, Int.reduceMul, Int.reduceAdd, Int.reduceSub, Int.reduceToNat, hne, hgi, hss, hg, sAV_length, cOpsAV, boolsAV, cOpsL_len, boolsL_len, Int.toNat_natCast, i1, f1, List.length_append, yaz, yba, s_CNumA, s_CNum]
      refine ⟨1, b, a6, ⟨rfl, ⟨h61, h62⟩, hb, rfl, by omega⟩, fun s1 a7 hs1 h71 h72 => ?_⟩
      try simp only [blkS, go_sem, reduceCtorEq, Nat.reduceEqDiff, Nat.reduceAdd, Nat.reduceMul, Nat.reduceSub, Nat.reduceLeDiff, Nat.reduceLT, Int.reduceMul, Int.reduceAdd, Int.reduceSub, Int.reduceToNat, hne, hgi, hss, hg, sAV_length, cOpsAV, boolsAV, cOpsL_len, boolsL_len, Int.toNat_natCast, i1, f1, List.length_append, yaz, yba, s_CNumA, s_CNum]
      refine ⟨by rw [hms]; omega, 1, b, a7, ⟨rfl, ⟨h71, h72⟩, hb, rfl, by omega⟩, fun s2 a8 hs2 h81 h82 => ?_⟩
      try simp only [blkS, go_sem, reduceCtorEq, Nat.reduceEqDiff, Nat.reduceAdd, Nat.reduceMul, Nat.reduceSub, Nat.reduceLeDiff, Nat.reduceLT, Int.reduceMul, Int.reduceAdd, Int.reduceSub, Int.reduceToNat, hne, hgi, hss, hg, sAV_length, cOpsAV, boolsAV, cOpsL_len, boolsL_len, Int.toNat_natCast, i1, f1, List.length_append, yaz, yba]
      refine ⟨by rw [hms]; omega, ?_⟩
      exact gen_end (hK _ a8 (by first | omega | (simp only [List.length_append, yaz, yba]; omega)) h81 h82) hid hcl ((AHeap.Le.refl _).push _)
    try simp only [blkS, go_sem, reduceCtorEq, Nat.reduceEqDiff, Nat.reduceAdd, Nat.reduceMul, Nat.reduceSub, Nat.reduceLeDiff, Nat.reduceLT, Int.reduceMul, Int.reduceAdd, Int.reduceSub, Int.reduceToNat, hne, hgi, hss, hg, sAV_length, cOpsAV, boolsAV, cOpsL_len, boolsL_len, Int.toNat_natCast, i1, f1, List.length_append, yaz, yba, s_CNext]
    refine ⟨b, a2, ⟨rfl, ⟨h21, h22⟩, hb, by omega, by omega⟩, fun r3 A0 hr5 hr6 h01 h02 => ?_⟩
    try simp only [blkS, go_sem, reduceCtorEq, Nat.reduceEqDiff, Nat.reduceAdd, Nat.reduceMul, Nat.reduceSub, Nat.reduceLeDiff, Nat.reduceLT, Int.reduceMul, Int.reduceAdd, Int.reduceSub, Int.reduceToNat, hne, hgi, hss, hg, sAV_length, cOpsAV, boolsAV, cOpsL_len, boolsL_len, Int.toNat_natCast, i1, f1, List.length_append, yaz, yba]
    refine cond_split (fun hk0 => ?_) (fun hk0 => ?_)
    · skip
      try simp only [blkS, go_sem, reduceCtorEq, Nat.reduceEqDiff, Nat.reduceAdd, Nat.reduceMul, Nat.reduceSub, Nat.reduceLeDiff, Nat.reduceLT, Int.reduceMul, Int.reduceAdd, Int.reduceSub, Int.reduceToNat, hne, hgi, hss, hg, sAV_length, cOpsAV, boolsAV, cOpsL_len, boolsL_len, Int.toNat_natCast, i1, f1, List.length_append, yaz, yba, s_CSent, e1]
      refine ⟨b, A0, ⟨rfl, ⟨h01, h02⟩, hb, by omega⟩, fun s1 a8 hs1 h81 h82 => ?_⟩
      try simp only [blkS, go_sem, reduceCtorEq, Nat.reduceEqDiff, Nat.reduceAdd, Nat.reduceMul, Nat.reduceSub, Nat.reduceLeDiff, Nat.reduceLT, Int.reduceMul, Int.reduceAdd, Int.reduceSub, Int.reduceToNat, hne, hgi, hss, hg, sAV_length, cOpsAV, boolsAV, cOpsL_len, boolsL_len, Int.toNat_natCast, i1, f1, List.length_append, yaz, yba]
      refine ⟨by rw [hms]; omega, by rw [hms]; omega, ?_⟩
      exact gen_end (hK _ a8 (by first | omega | (simp only [List.length_append, yaz, yba]; omega)) h81 h82) hid hcl (AHeap.Le.refl _)
    try simp only [blkS, go_sem, reduceCtorEq, Nat.reduceEqDiff, Nat.reduceAdd, Nat.reduceMul, Nat.reduceSub, Nat.reduceLeDiff, Nat.reduceLT, Int.reduceMul, Int.reduceAdd, Int.reduceSub, Int.reduceToNat, hne, hgi, hss, hg, sAV_length, cOpsAV, boolsAV, cOpsL_len, boolsL_len, Int.toNat_natCast, i1, f1, List.length_append, yaz, yba]
    refine cond_split (fun hk1 => ?_) (fun hk1 => ?_)
    · skip
      try simp only [blkS, go_sem, reduceCtorEq, Nat.reduceEqDiff, Nat.reduceAdd, Nat.reduceMul, Nat.reduceSub, Nat.reduceLeDiff, Nat.reduceLT, Int.reduceMul, Int.reduceAdd, Int.reduceSub, Int.reduceToNat, hne, hgi, hss, hg, sAV_length, cOpsAV, boolsAV, cOpsL_len, boolsL_len, Int.toNat_natCast, i1, f1, List.length_append, yaz, yba, s_CSent, e1]
      refine ⟨b, A0, ⟨rfl, ⟨h01, h02⟩, hb, by omega⟩, fun s1 a8 hs1 h81 h82 => ?_⟩
      try simp only [blkS, go_sem, reduceCtorEq, Nat.reduceEqDiff, Nat.reduceAdd, Nat.reduceMul, Nat.reduceSub, Nat.reduceLeDiff, Nat.reduceLT, Int.reduceMul, Int.reduceAdd, Int.reduceSub, Int.reduceToNat, hne, hgi, hss, hg, sAV_length, cOpsAV, boolsAV, cOpsL_len, boolsL_len, Int.toNat_natCast, i1, f1, List.length_append, yaz, yba, s_CSent, e1]
      refine ⟨by rw [hms]; omega, by rw [hms]; omega, by rw [hms]; omega, b, a8, ⟨rfl, ⟨h81, h82⟩, hb, by omega⟩, fun s2 a9 hs2 h91 h92 => ?_⟩
      try simp only [blkS, go_sem, reduceCtorEq, Nat.reduceEqDiff, Nat.reduceAdd, Nat.reduceMul, Nat.reduceSub, Nat.reduceLeDiff, Nat.reduceLT, Int.reduceMul, Int.reduceAdd, Int.reduceSub, Int.reduceToNat, hne, hgi, hss, hg, sAV_length, cOpsAV, boolsAV, cOpsL_len, boolsL_len, Int.toNat_natCast, i1, f1, List.length_append, yaz, yba]
      refine ⟨by rw [hms]; omega, by rw [hms]; omega, ?_⟩
      exact gen_end (hK _ a9 (by first | omega | (simp only [List.length_append, yaz, yba]; omega)) h91 h92) hid hcl (AHeap.Le.refl _)
    try simp only [blkS, go_sem, reduceCtorEq, Nat.reduceEqDiff, Nat.reduceAdd, Nat.reduceMul, Nat.reduceSub, Nat.reduceLeDiff, Nat.reduceLT, Int.reduceMul, Int.reduceAdd, Int.reduceSub, Int.reduceToNat, hne, hgi, hss, hg, sAV_length, cOpsAV, boolsAV, cOpsL_len, boolsL_len, Int.toNat_natCast, i1, f1, List.length_append, yaz, yba]
    refine cond_split (fun hk2 => ?_) (fun hk2 => ?_)
    · skip
      try simp only [blkS, go_sem, reduceCtorEq, Nat.reduceEqDiff, Nat.reduceAdd, Nat.reduceMul, Nat.reduceSub, Nat.reduceLeDiff, Nat.reduceLT, Int.reduceMul, Int.reduceAdd, Int.reduceSub, Int.reduceToNat, hne, hgi, hss, hg, sAV_length, cOpsAV, boolsAV, cOpsL_len, boolsL_len, Int.toNat_natCast, i1, f1, List.length_append, yaz, yba, s_CSent, e1]
      refine ⟨b, A0, ⟨rfl, ⟨h01, h02⟩, hb, by omega⟩, fun s1 a8 hs1 h81 h82 => ?_⟩
      try simp only [blkS, go_sem, reduceCtorEq, Nat.reduceEqDiff, Nat.reduceAdd, Nat.reduceMul, Nat.reduceSub, Nat.reduceLeDiff, Nat.reduceLT, Int.reduceMul, Int.reduceAdd, Int.reduceSub, Int.reduceToNat, hne, hgi, hss, hg, sAV_length, cOpsAV, boolsAV, cOpsL_len, boolsL_len, Int.toNat_natCast, i1, f1, List.length_append, yaz, yba, s_CSent, e1]
      refine ⟨by rw [hms]; omega, by rw [hms]; omega, by rw [hms]; omega, b, a8, ⟨rfl, ⟨h81, h82⟩, hb, by omega⟩, fun s2 a9 hs2 h91 h92 => ?_⟩
      try simp only [blkS, go_sem, reduceCtorEq, Nat.reduceEqDiff, Nat.reduceAdd, Nat.reduceMul, Nat.reduceSub, Nat.reduceLeDiff, Nat.reduceLT, Int.reduceMul, Int.reduceAdd, Int.reduceSub, Int.reduceToNat, hne, hgi, hss, hg, sAV_length, cOpsAV, boolsAV, cOpsL_len, boolsL_len, Int.toNat_natCast, i1, f1, List.length_append, yaz, yba]
      refine ⟨by rw [hms]; omega, by rw [hms]; omega, ?_⟩
      exact gen_end (hK _ a9 (by first | omega | (simp only [List.length_append, yaz, yba]; omega)) h91 h92) hid hcl (AHeap.Le.refl _)
    try simp only [blkS, go_sem, reduceCtorEq, Nat.reduceEqDiff, Nat.reduceAdd, Nat.reduceMul, Nat.reduceSub, Nat.reduceLeDiff, Nat.reduceLT, Int.reduceMul, Int.reduceAdd, Int.reduceSub, Int.reduceToNat, hne, hgi, hss, hg, sAV_length, cOpsAV, boolsAV, cOpsL_len, boolsL_len, Int.toNat_natCast, i1, f1, List.length_append, yaz, yba]
    refine cond_split (fun hk3 => ?_) (fun hk3 => ?_)
    · skip
      try simp only [blkS, go_sem, reduceCtorEq, Nat.reduceEqDiff, Nat.reduceAdd, Nat.reduceMul, Nat.reduceSub, Nat.reduceLeDiff, Nat.reduceLT, Int.reduceMul, Int.reduceAdd, Int.reduceSub, Int.reduceToNat, hne, hgi, hss, hg, sAV_length, cOpsAV, boolsAV, cOpsL_len, boolsL_len, Int.toNat_natCast, i1, f1, List.length_append, yaz, yba, s_CSent, e1]
      refine ⟨b, A0, ⟨rfl, ⟨h01, h02⟩, hb, by omega⟩, fun s1 a8 hs1 h81 h82 => ?_⟩
      try simp only [blkS, go_sem, reduceCtorEq, Nat.reduceEqDiff, Nat.reduceAdd, Nat.reduceMul, Nat.reduceSub, Nat.reduceLeDiff, Nat.reduceLT, Int.reduceMul, Int.reduceAdd, Int.reduceSub, Int.reduceToNat, hne, hgi, hss, hg, sAV_length, cOpsAV, boolsAV, cOpsL_len, boolsL_len, Int.toNat_natCast, i1, f1, List.length_append, yaz, yba, s_CSent, e1]
      refine ⟨by rw [hms]; omega, by rw [hms]; omega, by rw [hms]; omega, b, a8, ⟨rfl, ⟨h81, h82⟩, hb, by omega⟩, fun s2 a9 hs2 h91 h92 => ?_⟩
      try simp only [blkS, go_sem, reduceCtorEq, Nat.reduceEqDiff, Nat.reduceAdd, Nat.reduceMul, Nat.reduceSub, Nat.reduceLeDiff, Nat.reduceLT, Int.reduceMul, Int.reduceAdd, Int.reduceSub, Int.reduceToNat, hne, hgi, hss, hg, sAV_length, cOpsAV, boolsAV, cOpsL_len, boolsL_len, Int.toNat_natCast, i1, f1, List.length_append, yaz, yba]
      refine ⟨by rw [hms]; omega, by rw [hms]; omega, ?_⟩
      exact gen_end (hK _ a9 (by first | omega | (simp only [List.length_append, yaz, yba]; omega)) h91 h92) hid hcl (AHeap.Le.refl _)
    try simp only [blkS, go_sem, reduceCtorEq, Nat.reduceEqDiff, Nat.reduceAdd, Nat.reduceMul, Nat.reduceSub, Nat.reduceLeDiff, Nat.reduceLT, Int.reduceMul, Int.reduceAdd, Int.reduceSub, Int.reduceToNat, hne, hgi, hss, hg, sAV_length, cOpsAV, boolsAV, cOpsL_len, boolsL_len, Int.toNat_natCast, i1, f1, List.length_append, yaz, yba]
    refine cond_split (fun hk4 => ?_) (fun hk4 => ?_)
    · skip
      try simp only [blkS, go_sem, reduceCtorEq, Nat.reduceEqDiff, Nat.reduceAdd, Nat.reduceMul, Nat.reduceSub, Nat.reduceLeDiff, Nat.reduceLT, Int.reduceMul, Int.reduceAdd, Int.reduceSub, Int.reduceToNat, hne, hgi, hss, hg, sAV_length, cOpsAV, boolsAV, cOpsL_len, boolsL_len, Int.toNat_natCast, i1, f1, List.length_append, yaz, yba, s_CSent, e1]
      refine ⟨b, A0, ⟨rfl, ⟨h01, h02⟩, hb, by omega⟩, fun s1 a8 hs1 h81 h82 => ?_⟩
      try simp only [blkS, go_sem, reduceCtorEq, Nat.reduceEqDiff, Nat.reduceAdd, Nat.reduceMul, Nat.reduceSub, Nat.reduceLeDiff, Nat.reduceLT, Int.reduceMul, Int.reduceAdd, Int.reduceSub, Int.reduceToNat, hne, hgi, hss, hg, sAV_length, cOpsAV, boolsAV, cOpsL_len, boolsL_len, Int.toNat_natCast, i1, f1, List.length_append, yaz, yba, s_CSent, e1]
      refine ⟨by rw [hms]; omega, by rw [hms]; omega, by rw [hms]; omega, b, a8, ⟨rfl, ⟨h81, h82⟩, hb, by omega⟩, fun s2 a9 hs2 h91 h92 => ?_⟩
      try simp only [blkS, go_sem, reduceCtorEq, Nat.reduceEqDiff, Nat.reduceAdd, Nat.reduceMul, Nat.reduceSub, Nat.reduceLeDiff, Nat.reduceLT, Int.reduceMul, Int.reduceAdd, Int.reduceSub, Int.reduceToNat, hne, hgi, hss, hg, sAV_length, cOpsAV, boolsAV, cOpsL_len, boolsL_len, Int.toNat_natCast, i1, f1, List.length_append, yaz, yba]
      refine ⟨by rw [hms]; omega, by rw [hms]; omega, ?_⟩
      exact gen_end (hK _ a9 (by first | omega | (simp only [List.length_append, yaz, yba]; omega)) h91 h92) hid hcl (AHeap.Le.refl _)
    try simp only [blkS, go_sem, reduceCtorEq, Nat.reduceEqDiff, Nat.reduceAdd, Nat.reduceMul, Nat.reduceSub, Nat.reduceLeDiff, Nat.reduceLT, Int.reduceMul, Int.reduceAdd, Int.reduceSub, Int.reduceToNat, hne, hgi, hss, hg, sAV_length, cOpsAV, boolsAV, cOpsL_len, boolsL_len, Int.toNat_natCast, i1, f1, List.length_append, yaz, yba]
    try simp only [blkS, go_sem, reduceCtorEq, Nat.reduceEqDiff, Nat.reduceAdd, Nat.reduceMul, Nat.reduceSub, Nat.reduceLeDiff, Nat.reduceLT, Int.reduceMul, Int.reduceAdd, Int.reduceSub, Int.reduceToNat, hne, hgi, hss, hg, sAV_length, cOpsAV, boolsAV, cOpsL_len, boolsL_len, Int.toNat_natCast, i1, f1, List.length_append, yaz, yba, s_CSent, e1]
    refine ⟨b, A0, ⟨rfl, ⟨h01, h02⟩, hb, by omega⟩, fun s1 a8 hs1 h81 h82 => ?_⟩
    try simp only [blkS, go_sem, reduceCtorEq, Nat.reduceEqDiff, Nat.reduceAdd, Nat.reduceMul, Nat.reduceSub, Nat.reduceLeDiff, Nat.reduceLT, Int.reduceMul, Int.reduceAdd, Int.reduceSub, Int.reduceToNat, hne, hgi, hss, hg, sAV_length, cOpsAV, boolsAV, cOpsL_len, boolsL_len, Int.toNat_natCast, i1, f1, List.length_append, yaz, yba]
    refine ⟨by rw [hms]; omega, by rw [hms]; omega, ?_⟩
    exact gen_end (hK _ a8 (by first | omega | (simp only [List.length_append, yaz, yba]; omega)) h81 h82) hid hcl (AHeap.Le.refl _)
theorem s_ok_CSent {A : Prop} : ∀ d, EntOk Try.prog 18 (Ent.some (s_CSent A d))
  | 0 => s_ok_CSent0
  | d + 1 => s_ok_CSentS (s_ok_CSent d)
end Go.AL

