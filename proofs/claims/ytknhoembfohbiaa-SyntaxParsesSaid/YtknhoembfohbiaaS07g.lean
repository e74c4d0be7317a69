/- Contracts and plain laws, a part of the proof; no condition of its own. -/
import Derived.Test.YtknhoembfohbiaaE06
open Go Go.AL Go.Proofs
namespace Go.AL
set_option linter.all false
set_option maxRecDepth 10000

def bN : Nat → Nat
  | 0 => 40
  | d + 1 => 2 * bN d + 5
def s_CNum (_A : Prop) (d : Nat) : List AV → AHeap → (AV → AHeap → Prop) → Prop
  | [.ptr id 0, .int .i64 n, .bool _], H, K => ∃ b a, (H.get id = some (cod b a) ∧ (0 ≤ a ∧ a ≤ (b.length : Int)) ∧ b.length ≤ 140737488355328 ∧ n = (d : Int) ∧ bN d ≤ 1000000) ∧
      ∀ s a', s.length ≤ bN d → 0 ≤ a' → a' ≤ (b.length : Int) → K (.str s) (H.set id (cod b a'))
  | _, _, _ => False
def nms : List (List UInt8) := [[97], [98], [100, 58, 58, 112, 114, 101, 102, 105, 120, 95, 108, 101, 110, 103, 116, 104], [101, 58, 58, 109, 97, 115, 107], [102, 58, 58, 104, 105, 103, 104], [112, 114, 105, 111, 114, 105, 116, 121], [48], [49], [49, 53], [48, 120, 102, 102], [51, 52, 48, 50, 56, 50, 51, 54, 54, 57, 50, 48, 57, 51, 56, 52, 54, 51, 52, 54, 51, 51, 55, 52, 54, 48, 55, 52, 51, 49, 55, 54, 56, 50, 49, 49, 52, 53, 53], [120]]
theorem nms_len : nms.length = 12 := rfl
theorem nms_le : ∀ x ∈ nms, x.length ≤ 40 := by decide
theorem nmsAV : [AV.str [97], AV.str [98], AV.str [100, 58, 58, 112, 114, 101, 102, 105, 120, 95, 108, 101, 110, 103, 116, 104], AV.str [101, 58, 58, 109, 97, 115, 107], AV.str [102, 58, 58, 104, 105, 103, 104], AV.str [112, 114, 105, 111, 114, 105, 116, 121], AV.str [48], AV.str [49], AV.str [49, 53], AV.str [48, 120, 102, 102], AV.str [51, 52, 48, 50, 56, 50, 51, 54, 54, 57, 50, 48, 57, 51, 56, 52, 54, 51, 52, 54, 51, 51, 55, 52, 54, 48, 55, 52, 51, 49, 55, 54, 56, 50, 49, 49, 52, 53, 53], AV.str [120]] = sAV nms := rfl
theorem cod_set {H : AHeap} {id : Nat} {b : List UInt8} {a a' : Int} : (H.set id (cod b a)).set id (cod b a') = H.set id (cod b a') := by
  simp only [AHeap.set]; congr 1; funext j; split <;> rfl
theorem num_pick {j : Nat} (hj : j < 12) : (sAV nms).getD j .junk = .str (nms.getD j []) ∧ (nms.getD j []).length ≤ 40 := by
  refine ⟨sAV_get (by rw [nms_len]; exact hj), ?_⟩
  rw [List.getD_eq_getElem?_getD, List.getElem?_eq_getElem (show j < nms.length by rw [nms_len]; exact hj)]
  exact nms_le _ (List.getElem_mem _)
theorem bN_ge (d : Nat) : 40 ≤ bN d := by
  induction d with
  | zero => exact Nat.le_refl _
  | succ d ih => unfold bN; omega
theorem gen_end {H X : AHeap} {K : AV → AHeap → Prop} {id : Nat} {b : List UInt8} {a' : Int} {s : List UInt8} (hK : K (.str s) (H.set id (cod b a'))) (hid : id < H.nx) (hcl : H.Closed) (hle : (H.set id (cod b a')).Le X) : endP H.nx K (.str s) X :=
  ⟨_, _, hK, Nat.le_refl _, by simp [zlf], hle, closed_set hcl (by simp [zml, zmm, zlw, zlj]), by simp [zly]⟩
set_option maxHeartbeats 4000000 in
theorem s_ok_CNum0 {A : Prop} : EntOk Try.prog 73 (Ent.some (s_CNum A 0)) := by
  refine EntOk.some fun args H K h => ?_
  unfold s_CNum at h
  split at h
  rotate_left
  · exact h.elim
  rename_i id n w
  obtain ⟨b, a, ⟨hg, ⟨ha1, ha2⟩, hb, rfl, hbd⟩, hK⟩ := h
  have hid := AHeap.get_lt hg
  have hne : (id = H.nx) = False := eq_false (by omega)
  have hgi : ∀ x, (H.set id (cod b x)).get id = some (cod b x) := fun x => AHeap.get_set_same _ _ hid
  have hss : ∀ x y, (H.set id (cod b x)).set id (cod b y) = H.set id (cod b y) := fun x y => cod_set
  have hms : maxStr = 9223372036854775807 := rfl
  have hb0 := bN_ge 0
  refine ACallsP.of_aw (Ω := [(66, Ent.some s_CNext)]) (T := assoc []) mixed (TblOk.cons ok_CNext TblOk.nil) Try.func73 (by kernel_rfl) (by rfl) (rs := [.tmp 6]) (by rfl) (by kernel_rfl) (by simp only [Try.ntmps73, List.length_cons, List.length_nil]; decide) fun hcl hlt => ?_
  change aw _ _ _ (KI Try.prog [(66, Ent.some s_CNext)] (aEndP Try.prog [.tmp 6] H.nx _) []) _ _
  clear hlt
  have d0 : (((0 : Nat) : Int) == 0) = true := rfl
  try simp only [go_sem, reduceCtorEq, Nat.reduceEqDiff, Nat.reduceAdd, Nat.reduceMul, Nat.reduceSub, Nat.reduceLeDiff, Nat.reduceLT, Int.reduceMul, Int.reduceAdd, Int.reduceSub, Int.reduceToNat, hne, hgi, hss, hg, sAV_length, nms_len, nmsAV, Int.toNat_natCast, d0, s_CNext]
  refine ⟨b, a, ⟨rfl, ⟨ha1, ha2⟩, hb, by omega, by omega⟩, fun r a9 hr1 hr2 ha1' ha2' => ?_⟩
  obtain ⟨j, rfl⟩ := Int.eq_ofNat_of_zero_le hr1
  obtain ⟨hgj, hpl⟩ := num_pick (j := j) (by omega)
  try simp only [blkS, go_sem, reduceCtorEq, Nat.reduceEqDiff, Nat.reduceAdd, Nat.reduceMul, Nat.reduceSub, Nat.reduceLeDiff, Nat.reduceLT, Int.reduceMul, Int.reduceAdd, Int.reduceSub, Int.reduceToNat, hne, hgi, hss, hg, sAV_length, nms_len, nmsAV, Int.toNat_natCast, hgj]
  refine ⟨by omega, ?_⟩
  exact gen_end (hK _ a9 (by omega) ha1' ha2') hid hcl ((AHeap.Le.refl _).push _)
set_option maxHeartbeats 4000000 in
theorem s_ok_CNumS {A : Prop} {d : Nat} (h_CNum : EntOk Try.prog 73 (Ent.some (s_CNum A d))) : EntOk Try.prog 73 (Ent.some (s_CNum A (d + 1))) := by
  refine EntOk.some fun args H K h => ?_
  unfold s_CNum at h
  split at h
  rotate_left
  · exact h.elim
  rename_i id n w
  obtain ⟨b, a, ⟨hg, ⟨ha1, ha2⟩, hb, rfl, hbd⟩, hK⟩ := h
  have hid := AHeap.get_lt hg
  have hne : (id = H.nx) = False := eq_false (by omega)
  have hgi : ∀ x, (H.set id (cod b x)).get id = some (cod b x) := fun x => AHeap.get_set_same _ _ hid
  have hss : ∀ x y, (H.set id (cod b x)).set id (cod b y) = H.set id (cod b y) := fun x y => cod_set
  have hms : maxStr = 9223372036854775807 := rfl
  have hb0 := bN_ge d
  have hbs : bN (d + 1) = 2 * bN d + 5 := rfl
  rw [hbs] at hbd
  have hdd : d ≤ 1000000 := by
    have : ∀ k, k ≤ bN k := fun k => by
      induction k with
      | zero => exact Nat.zero_le _
      | succ k ih => unfold bN; omega
    have := this d
    omega
  refine ACallsP.of_aw (Ω := [(66, Ent.some s_CNext), (73, Ent.some (s_CNum A d))]) (T := assoc []) mixed (TblOk.cons ok_CNext (TblOk.cons h_CNum TblOk.nil)) Try.func73 (by kernel_rfl) (by rfl) (rs := [.tmp 6]) (by rfl) (by kernel_rfl) (by simp only [Try.ntmps73, List.length_cons, List.length_nil]; decide) fun hcl hlt => ?_
  change aw _ _ _ (KI Try.prog [(66, Ent.some s_CNext), (73, Ent.some (s_CNum A d))] (aEndP Try.prog [.tmp 6] H.nx _) []) _ _
  clear hlt
  have d0 : (((d + 1 : Nat) : Int) == 0) = false := by simp; omega
  have e1 : IntKind.i64.wrap (((d + 1 : Nat) : Int) - 1) = (d : Int) := by rw [wrap_i64] <;> omega
  try simp only [go_sem, reduceCtorEq, Nat.reduceEqDiff, Nat.reduceAdd, Nat.reduceMul, Nat.reduceSub, Nat.reduceLeDiff, Nat.reduceLT, Int.reduceMul, Int.reduceAdd, Int.reduceSub, Int.reduceToNat, hne, hgi, hss, hg, sAV_length, nms_len, nmsAV, Int.toNat_natCast, d0, s_CNext]
  refine ⟨b, a, ⟨rfl, ⟨ha1, ha2⟩, hb, by omega, by omega⟩, fun r0 a1 hr1 hr2 h11 h12 => ?_⟩
  try simp only [blkS, go_sem, reduceCtorEq, Nat.reduceEqDiff, Nat.reduceAdd, Nat.reduceMul, Nat.reduceSub, Nat.reduceLeDiff, Nat.reduceLT, Int.reduceMul, Int.reduceAdd, Int.reduceSub, Int.reduceToNat, hne, hgi, hss, hg, sAV_length, nms_len, nmsAV, Int.toNat_natCast]
  refine cond_split (fun hc => ?_) (fun hc => ?_)
  · simp only [go_sem, reduceCtorEq, Nat.reduceEqDiff, Nat.reduceAdd, Nat.reduceMul, Nat.reduceSub, Nat.reduceLeDiff, Nat.reduceLT, Int.reduceMul, Int.reduceAdd, Int.reduceSub, Int.reduceToNat, hne, hgi, hss, hg, sAV_length, nms_len, nmsAV, Int.toNat_natCast, s_CNext]
    refine ⟨b, a1, ⟨rfl, ⟨h11, h12⟩, hb, by omega, by omega⟩, fun r a9 hr1 hr2 ha1' ha2' => ?_⟩
    obtain ⟨j, rfl⟩ := Int.eq_ofNat_of_zero_le hr1
    obtain ⟨hgj, hpl⟩ := num_pick (j := j) (by omega)
    try simp only [blkS, go_sem, reduceCtorEq, Nat.reduceEqDiff, Nat.reduceAdd, Nat.reduceMul, Nat.reduceSub, Nat.reduceLeDiff, Nat.reduceLT, Int.reduceMul, Int.reduceAdd, Int.reduceSub, Int.reduceToNat, hne, hgi, hss, hg, sAV_length, nms_len, nmsAV, Int.toNat_natCast, hgj]
    refine ⟨by omega, ?_⟩
    exact gen_end (hK _ a9 (by omega) ha1' ha2') hid hcl ((AHeap.Le.refl _).push _)
  try simp only [go_sem, reduceCtorEq, Nat.reduceEqDiff, Nat.reduceAdd, Nat.reduceMul, Nat.reduceSub, Nat.reduceLeDiff, Nat.reduceLT, Int.reduceMul, Int.reduceAdd, Int.reduceSub, Int.reduceToNat, hne, hgi, hss, hg, sAV_length, nms_len, nmsAV, Int.toNat_natCast, s_CNext]
  refine ⟨b, a1, ⟨rfl, ⟨h11, h12⟩, hb, by omega, by omega⟩, fun r1 a2 hr3 hr4 h21 h22 => ?_⟩
  try simp only [blkS, go_sem, reduceCtorEq, Nat.reduceEqDiff, Nat.reduceAdd, Nat.reduceMul, Nat.reduceSub, Nat.reduceLeDiff, Nat.reduceLT, Int.reduceMul, Int.reduceAdd, Int.reduceSub, Int.reduceToNat, hne, hgi, hss, hg, sAV_length, nms_len, nmsAV, Int.toNat_natCast]
  refine cond_split (fun h0 => ?_) (fun h0 => ?_)
  · simp only [go_sem, reduceCtorEq, Nat.reduceEqDiff, Nat.reduceAdd, Nat.reduceMul, Nat.reduceSub, Nat.reduceLeDiff, Nat.reduceLT, Int.reduceMul, Int.reduceAdd, Int.reduceSub, Int.reduceToNat, hne, hgi, hss, hg, sAV_length, nms_len, nmsAV, Int.toNat_natCast, s_CNum, e1]
    refine ⟨b, a2, ⟨rfl, ⟨h21, h22⟩, hb, by omega⟩, fun s a3 hs h31 h32 => ?_⟩
    try simp only [blkS, go_sem, reduceCtorEq, Nat.reduceEqDiff, Nat.reduceAdd, Nat.reduceMul, Nat.reduceSub, Nat.reduceLeDiff, Nat.reduceLT, Int.reduceMul, Int.reduceAdd, Int.reduceSub, Int.reduceToNat, hne, hgi, hss, hg, sAV_length, nms_len, nmsAV, Int.toNat_natCast]
    refine ⟨by rw [hms]; omega, ?_⟩
    exact gen_end (hK _ a3 (by rw [hbs]; simp; omega) h31 h32) hid hcl (AHeap.Le.refl _)
  try simp only [go_sem, reduceCtorEq, Nat.reduceEqDiff, Nat.reduceAdd, Nat.reduceMul, Nat.reduceSub, Nat.reduceLeDiff, Nat.reduceLT, Int.reduceMul, Int.reduceAdd, Int.reduceSub, Int.reduceToNat, hne, hgi, hss, hg, sAV_length, nms_len, nmsAV, Int.toNat_natCast]
  refine cond_split (fun h0 => ?_) (fun h0 => ?_)
  · simp only [go_sem, reduceCtorEq, Nat.reduceEqDiff, Nat.reduceAdd, Nat.reduceMul, Nat.reduceSub, Nat.reduceLeDiff, Nat.reduceLT, Int.reduceMul, Int.reduceAdd, Int.reduceSub, Int.reduceToNat, hne, hgi, hss, hg, sAV_length, nms_len, nmsAV, Int.toNat_natCast, s_CNum, e1]
    refine ⟨b, a2, ⟨rfl, ⟨h21, h22⟩, hb, by omega⟩, fun s a3 hs h31 h32 => ?_⟩
    try simp only [blkS, go_sem, reduceCtorEq, Nat.reduceEqDiff, Nat.reduceAdd, Nat.reduceMul, Nat.reduceSub, Nat.reduceLeDiff, Nat.reduceLT, Int.reduceMul, Int.reduceAdd, Int.reduceSub, Int.reduceToNat, hne, hgi, hss, hg, sAV_length, nms_len, nmsAV, Int.toNat_natCast, List.length_append, List.length_cons, List.length_nil]
    refine ⟨by rw [hms]; omega, by rw [hms]; omega, ?_⟩
    exact gen_end (hK _ a3 (by rw [hbs]; simp; omega) h31 h32) hid hcl (AHeap.Le.refl _)
  try simp only [go_sem, reduceCtorEq, Nat.reduceEqDiff, Nat.reduceAdd, Nat.reduceMul, Nat.reduceSub, Nat.reduceLeDiff, Nat.reduceLT, Int.reduceMul, Int.reduceAdd, Int.reduceSub, Int.reduceToNat, hne, hgi, hss, hg, sAV_length, nms_len, nmsAV, Int.toNat_natCast]
  refine cond_split (fun h0 => ?_) (fun h0 => ?_)
  · simp only [go_sem, reduceCtorEq, Nat.reduceEqDiff, Nat.reduceAdd, Nat.reduceMul, Nat.reduceSub, Nat.reduceLeDiff, Nat.reduceLT, Int.reduceMul, Int.reduceAdd, Int.reduceSub, Int.reduceToNat, hne, hgi, hss, hg, sAV_length, nms_len, nmsAV, Int.toNat_natCast, s_CNum, e1]
    refine ⟨b, a2, ⟨rfl, ⟨h21, h22⟩, hb, by omega⟩, fun s a3 hs h31 h32 => ?_⟩
    try simp only [blkS, go_sem, reduceCtorEq, Nat.reduceEqDiff, Nat.reduceAdd, Nat.reduceMul, Nat.reduceSub, Nat.reduceLeDiff, Nat.reduceLT, Int.reduceMul, Int.reduceAdd, Int.reduceSub, Int.reduceToNat, hne, hgi, hss, hg, sAV_length, nms_len, nmsAV, Int.toNat_natCast, s_CNum, e1, List.length_append, List.length_cons, List.length_nil]
    refine ⟨by rw [hms]; omega, b, a3, ⟨rfl, ⟨h31, h32⟩, hb, by omega⟩, fun s2 a4 hs2 h41 h42 => ?_⟩
    try simp only [blkS, go_sem, reduceCtorEq, Nat.reduceEqDiff, Nat.reduceAdd, Nat.reduceMul, Nat.reduceSub, Nat.reduceLeDiff, Nat.reduceLT, Int.reduceMul, Int.reduceAdd, Int.reduceSub, Int.reduceToNat, hne, hgi, hss, hg, sAV_length, nms_len, nmsAV, Int.toNat_natCast]
    refine ⟨by rw [hms]; try simp
               omega, ?_⟩
    exact gen_end (hK _ a4 (by rw [hbs]; simp; omega) h41 h42) hid hcl (AHeap.Le.refl _)
  try simp only [go_sem, reduceCtorEq, Nat.reduceEqDiff, Nat.reduceAdd, Nat.reduceMul, Nat.reduceSub, Nat.reduceLeDiff, Nat.reduceLT, Int.reduceMul, Int.reduceAdd, Int.reduceSub, Int.reduceToNat, hne, hgi, hss, hg, sAV_length, nms_len, nmsAV, Int.toNat_natCast, s_CNum, e1]
  refine ⟨b, a2, ⟨rfl, ⟨h21, h22⟩, hb, by omega⟩, fun s a3 hs h31 h32 => ?_⟩
  try simp only [blkS, go_sem, reduceCtorEq, Nat.reduceEqDiff, Nat.reduceAdd, Nat.reduceMul, Nat.reduceSub, Nat.reduceLeDiff, Nat.reduceLT, Int.reduceMul, Int.reduceAdd, Int.reduceSub, Int.reduceToNat, hne, hgi, hss, hg, sAV_length, nms_len, nmsAV, Int.toNat_natCast, s_CNum, e1, List.length_append, List.length_cons, List.length_nil]
  refine ⟨by rw [hms]; omega, by rw [hms]; omega, b, a3, ⟨rfl, ⟨h31, h32⟩, hb, by omega⟩, fun s2 a4 hs2 h41 h42 => ?_⟩
  try simp only [blkS, go_sem, reduceCtorEq, Nat.reduceEqDiff, Nat.reduceAdd, Nat.reduceMul, Nat.reduceSub, Nat.reduceLeDiff, Nat.reduceLT, Int.reduceMul, Int.reduceAdd, Int.reduceSub, Int.reduceToNat, hne, hgi, hss, hg, sAV_length, nms_len, nmsAV, Int.toNat_natCast, List.length_append, List.length_cons, List.length_nil]
  refine ⟨by rw [hms]; omega, by rw [hms]; omega, ?_⟩
  exact gen_end (hK _ a4 (by rw [hbs]; simp; omega) h41 h42) hid hcl (AHeap.Le.refl _)
theorem s_ok_CNum {A : Prop} : ∀ d, EntOk Try.prog 73 (Ent.some (s_CNum A d))
  | 0 => s_ok_CNum0
  | d + 1 => s_ok_CNumS (s_ok_CNum d)
end Go.AL

