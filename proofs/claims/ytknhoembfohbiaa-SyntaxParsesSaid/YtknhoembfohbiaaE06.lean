/- Contracts and plain laws, a part of the proof; no condition of its own. -/
import Derived.Test.YtknhoembfohbiaaD06
open Go Go.AL Go.Proofs
namespace Go.AL
set_option linter.all false
set_option maxRecDepth 10000
theorem ti_codes : ti Try.prog 131 = some ⟨.struct [(0, 22, false), (1, 3, false)], 2, 32, .agg [.slice .nil 1 [], .int .i64 0]⟩ := by kernel_rfl
attribute [go_sem] ti_codes
theorem le_set_same {H : AHeap} {i : Nat} {o : AObj} (h : H.get i = some o) : (H.set i o).Le H := ⟨Nat.le_refl _, fun j x hj => by
  rcases AHeap.get_set_inv _ _ hj with ⟨rfl, rfl, _⟩ | ⟨_, h2⟩
  · exact h
  · exact h2⟩
def p_CLeft : List AV → AHeap → (AV → Prop) → Prop
  | [.ptr id 0], H, K => ∃ b a, (H.get id = some (.cells [.slice .any 1 (bys b), .int .i64 a])) ∧ K (.bool (decide (a < (b.length : Int))))
  | _, _, _ => False
theorem ok_CLeft : EntOk Try.prog 65 (Ent.pure p_CLeft) := by
  refine EntOk.pure fun args H K h => ?_
  unfold p_CLeft at h
  split at h
  rotate_left
  · exact h.elim
  rename_i id
  obtain ⟨b, a, hg, hK⟩ := h
  refine ⟨_, hK, ?_⟩
  clear hK
  refine ACalls.of_aw (Ω := []) (T := assoc []) mixed TblOk.nil Try.func65 (by kernel_rfl) (by rfl) (rs := [.tmp 2]) (by rfl) (by kernel_rfl) (by simp only [Try.ntmps65, List.length_cons, List.length_nil]; decide) (Nat.le_refl _) fun hcl hlt => ?_
  change aw _ _ _ (KI Try.prog [] (aEnd Try.prog [.tmp 2] H.nx _ _ (assoc [])) []) _ _
  clear hlt
  have hcs := cells_some hg
  simp only [go_sem, reduceCtorEq, Nat.reduceEqDiff, Nat.reduceAdd, Nat.reduceMul, Nat.reduceSub, Nat.reduceLeDiff, Nat.reduceLT, Int.reduceMul, Int.reduceAdd, Int.reduceSub, Int.reduceToNat, hcs, zkb]
  simp (disch := first | assumption | omega | (simp; done) | (simp; omega) | (simp only [bt, and_true]; first | done | omega | (simp; done))) [↓zlf, beq, List.take_of_length_le, List.drop_append, List.take_append, endOk, wk, wk2, wk1, wkM, wkL, wkLL, List.drop_eq_nil_of_le, hcl]
def cod (b : List UInt8) (a : Int) : AObj := .cells [.slice .any 1 (bys b), .int .i64 a]
def s_CNext : List AV → AHeap → (AV → AHeap → Prop) → Prop
  | [.ptr id 0, .int .i64 n], H, K => ∃ b a, (H.get id = some (cod b a) ∧ (0 ≤ a ∧ a ≤ (b.length : Int)) ∧ b.length ≤ 140737488355328 ∧ 1 ≤ n ∧ n ≤ 1000000) ∧
      ∀ r a', 0 ≤ r → r < n → 0 ≤ a' → a' ≤ (b.length : Int) → K (.int .i64 r) (H.set id (cod b a'))
  | _, _, _ => False
theorem ok_CNext : EntOk Try.prog 66 (Ent.some s_CNext) := by
  refine EntOk.some fun args H K h => ?_
  unfold s_CNext at h
  split at h
  rotate_left
  · exact h.elim
  rename_i id n
  obtain ⟨b, a, ⟨hg, ⟨ha1, ha2⟩, hb, hn1, hn2⟩, hK⟩ := h
  refine ACallsP.of_aw (Ω := [(65, Ent.pure p_CLeft)]) (T := assoc [(4, [[], [], [], [], [], [], [], [], [], [], [], [3, 7, 10]])]) mixed (TblOk.cons ok_CLeft TblOk.nil) Try.func66 (by kernel_rfl) (by rfl) (rs := [.tmp 4]) (by rfl) (by kernel_rfl) (by simp only [Try.ntmps66, List.length_cons, List.length_nil]; decide) fun hcl hlt => ?_
  change aw _ _ _ (KI Try.prog [(65, Ent.pure p_CLeft)] (aEndP Try.prog [.tmp 4] H.nx _ (assoc [(4, [[], [], [], [], [], [], [], [], [], [], [], [3, 7, 10]])])) []) _ _
  clear hlt
  have hcs := cells_some hg
  have hid := AHeap.get_lt hg
  simp only [go_sem, reduceCtorEq, Nat.reduceEqDiff, Nat.reduceAdd, Nat.reduceMul, Nat.reduceSub, Nat.reduceLeDiff, Nat.reduceLT, Int.reduceMul, Int.reduceAdd, Int.reduceSub, Int.reduceToNat, p_CLeft]
  refine ⟨b, a, hg, ?_⟩
  have hcl2 : ∀ a', (H.set id (cod b a')).Closed := fun a' => closed_set hcl (by simp [zml, zmm, zlw, zlj])
  refine both_split (fun h1 => ?_) (fun h1 => cond_split (fun h2 => by simp at h2; omega) (fun h2 => ?_))
  · refine ⟨_, _, hK 0 a (by omega) (by omega) ha1 ha2, Nat.le_refl _, ?_⟩
    simp (disch := first | assumption | omega | (simp; done) | (simp; omega) | (simp only [bt, and_true]; first | done | omega | (simp; done))) [↓zlf, beq, List.take_of_length_le, List.drop_append, List.take_append, endOk, wk, wk2, wk1, wkM, wkL, wkLL, List.drop_eq_nil_of_le, hcl2]
    exact le_set_same hg
  have h1' : a < (b.length : Int) := by simp at h1; omega
  obtain ⟨k, rfl⟩ := Int.eq_ofNat_of_zero_le ha1
  have hk : k < b.length := by omega
  have e1 : IntKind.i64.wrap ((k : Int) + 1) = ((k + 1 : Nat) : Int) := by rw [wrap_i64] <;> omega
  have e2 : IntKind.i64.wrap (((k + 1 : Nat) : Int) - 1) = (k : Int) := by rw [wrap_i64] <;> omega
  have hgd : (bys b).getD k .junk = ofByte b[k] := by rw [bys_get hk]; simp [List.getD_eq_getElem?_getD, hk]
  have h8 := UInt8.toNat_lt b[k]
  have e3 : IntKind.i64.wrap ((b[k].toNat : Nat) : Int) = ((b[k].toNat : Nat) : Int) := by rw [wrap_i64] <;> omega
  simp only [go_sem, reduceCtorEq, Nat.reduceEqDiff, Nat.reduceAdd, Nat.reduceMul, Nat.reduceSub, Nat.reduceLeDiff, Nat.reduceLT, Int.reduceMul, Int.reduceAdd, Int.reduceSub, Int.reduceToNat, hcs, e1, cells_set hid, e2, Int.toNat_natCast, hgd, zkb, ofByte, e3]
  have ht : (((b[k].toNat : Nat) : Int)).tmod n = ((b[k].toNat : Nat) : Int) % n := Int.tmod_eq_emod_of_nonneg (by omega)
  have ht1 := Int.emod_nonneg ((b[k].toNat : Nat) : Int) (show n ≠ 0 by omega)
  have ht2 := Int.emod_lt_of_pos ((b[k].toNat : Nat) : Int) (show 0 < n by omega)
  rw [ht]
  refine ⟨by omega, by omega, _, _, hK _ ((k + 1 : Nat) : Int) ht1 ht2 (by omega) (by omega), Nat.le_refl _, ?_⟩
  simp (disch := first | assumption | omega | (simp; done) | (simp; omega) | (simp only [bt, and_true]; first | done | omega | (simp; done))) [↓zlf, beq, List.take_of_length_le, List.drop_append, List.take_append, endOk, wk, wk2, wk1, wkM, wkL, wkLL, List.drop_eq_nil_of_le, hcl2, cod]
def e_CNew : List AV → AHeap → (AEnd → AHeap → Prop) → Prop
  | [.slice m 1 l, .int .i64 n], H, K => ∃ b, (l = bys b ∧ 0 ≤ n) ∧ K (.ret (.ptr H.nx 0)) (H.push (cod (b.take (min (b.length : Int) n).toNat) 0))
  | _, _, _ => False
theorem ok_CNew : EntOk Try.prog 13 (Ent.effect e_CNew) := by
  refine EntOk.effect fun args H K h => ?_
  unfold e_CNew at h
  split at h
  rotate_left
  · exact h.elim
  rename_i m l n
  obtain ⟨b, ⟨rfl, hn⟩, hK⟩ := h
  refine ⟨_, _, hK, ?_⟩
  clear hK
  refine ACalls.of_aw (Ω := []) (T := assoc []) mixed TblOk.nil Try.func13 (by kernel_rfl) (by rfl) (rs := [.tmp 4]) (by rfl) (by kernel_rfl) (by simp only [Try.ntmps13, List.length_cons, List.length_nil]; decide) (Nat.le_succ _) fun hcl hlt => ?_
  change aw _ _ _ (KI Try.prog [] (aEnd Try.prog [.tmp 4] H.nx _ _) []) _ _
  clear hlt
  simp only [go_sem, reduceCtorEq, Nat.reduceEqDiff, Nat.reduceAdd, Nat.reduceMul, Nat.reduceSub, Nat.reduceLeDiff, Nat.reduceLT, Int.reduceMul, Int.reduceAdd, Int.reduceSub, Int.reduceToNat, zkb, List.drop_zero, zkd]
  refine ⟨by omega, ?_⟩
  simp (disch := first | assumption | omega | (simp; done) | (simp; omega) | (simp only [bt, and_true]; first | done | omega | (simp; done))) [↓zlf, beq, List.take_of_length_le, List.drop_append, List.take_append, endOk, wk, wk2, wk1, wkM, wkL, wkLL, List.drop_eq_nil_of_le, hcl, cod]
  (repeat' (first | assumption | omega | exact True.intro | refine And.intro ?_ ?_ | refine closed_buf ?_ | refine closed_set_buf ?_ | refine closed_cells ?_ ?_ | refine closed_set ?_ ?_ | refine closed_del ?_ | exact AHeap.Le.refl _ | refine AHeap.Le.push ?_ _ | refine AHeap.Le.del ?_ ?_ | (simp only [bt, and_true, true_and, zlj]; first | done | omega | (simp; done))))
def pcs : List (List UInt8) := [[97], [98], [100], [101, 58, 58, 109, 97, 115, 107], [112, 114, 105, 111, 114, 105, 116, 121], [116, 114, 117, 101], [48], [49, 55], [48, 120, 49, 102], [48, 120, 103], [57, 97], [95, 97], [38], [40], [41], [33], [38, 38], [124, 124], [45, 62], [61, 61], [33, 61], [60], [60, 61], [62], [62, 61], [43], [45], [58, 58], [32], [32, 32], [120, 49, 95, 121], [58]]
theorem pcsAV : [AV.str [97], AV.str [98], AV.str [100], AV.str [101, 58, 58, 109, 97, 115, 107], AV.str [112, 114, 105, 111, 114, 105, 116, 121], AV.str [116, 114, 117, 101], AV.str [48], AV.str [49, 55], AV.str [48, 120, 49, 102], AV.str [48, 120, 103], AV.str [57, 97], AV.str [95, 97], AV.str [38], AV.str [40], AV.str [41], AV.str [33], AV.str [38, 38], AV.str [124, 124], AV.str [45, 62], AV.str [61, 61], AV.str [33, 61], AV.str [60], AV.str [60, 61], AV.str [62], AV.str [62, 61], AV.str [43], AV.str [45], AV.str [58, 58], AV.str [32], AV.str [32, 32], AV.str [120, 49, 95, 121], AV.str [58]] = sAV pcs := rfl
theorem pcs_len : pcs.length = 32 := rfl
theorem pcs_le : ∀ x ∈ pcs, 1 ≤ x.length ∧ x.length ≤ 8 := by decide
theorem mod_lt {x n : Int} (hn : 1 ≤ n) : 0 ≤ (x.tmod n + n).tmod n ∧ (x.tmod n + n).tmod n < n := by
  have h1 := Int.lt_tmod_of_pos x (show 0 < n by omega)
  rw [Int.tmod_eq_emod_of_nonneg (by omega)]
  exact ⟨Int.emod_nonneg _ (by omega), Int.emod_lt_of_pos _ (by omega)⟩
def p_Mod : List AV → AHeap → (AV → Prop) → Prop
  | [.int .i64 x, .int .i64 n], _, K => (-9223372036854775808 ≤ x ∧ x ≤ 9223372036854775807 ∧ 1 ≤ n ∧ n ≤ 1000000000) ∧ K (.int .i64 ((x.tmod n + n).tmod n))
  | _, _, _ => False
theorem ok_Mod : EntOk Try.prog 19 (Ent.pure p_Mod) := by
  refine EntOk.pure fun args H K h => ?_
  unfold p_Mod at h
  split at h
  rotate_left
  · exact h.elim
  rename_i x n
  obtain ⟨⟨hx1, hx2, hn1, hn2⟩, hK⟩ := h
  refine ⟨_, hK, ?_⟩
  clear hK
  refine ACalls.of_aw (Ω := []) (T := assoc []) mixed TblOk.nil Try.func19 (by kernel_rfl) (by rfl) (rs := [.tmp 4]) (by rfl) (by kernel_rfl) (by simp only [Try.ntmps19, List.length_cons, List.length_nil]; decide) (Nat.le_refl _) fun hcl hlt => ?_
  change aw _ _ _ (KI Try.prog [] (aEnd Try.prog [.tmp 4] H.nx _ _) []) _ _
  clear hlt
  simp only [go_sem, reduceCtorEq, Nat.reduceEqDiff, Nat.reduceAdd, Nat.reduceMul, Nat.reduceSub, Nat.reduceLeDiff, Nat.reduceLT, Int.reduceMul, Int.reduceAdd, Int.reduceSub, Int.reduceToNat]
  refine cond_split (fun h => by simp at h; omega) (fun _ => ?_)
  have b1 : -n < x.tmod n ∧ x.tmod n < n := by
    have h1 := Int.lt_tmod_of_pos x (show 0 < n by omega)
    have h2 := Int.tmod_lt_of_pos x (show 0 < n by omega)
    exact ⟨h1, h2⟩
  have e1 : IntKind.i64.wrap (x.tmod n + n) = x.tmod n + n := by rw [wrap_i64] <;> omega
  simp only [go_sem, reduceCtorEq, Nat.reduceEqDiff, Nat.reduceAdd, Nat.reduceMul, Nat.reduceSub, Nat.reduceLeDiff, Nat.reduceLT, Int.reduceMul, Int.reduceAdd, Int.reduceSub, Int.reduceToNat, e1]
  refine ⟨by omega, by omega, ?_⟩
  simp (disch := first | assumption | omega | (simp; done) | (simp; omega) | (simp only [bt, and_true]; first | done | omega | (simp; done))) [↓zlf, beq, List.take_of_length_le, List.drop_append, List.take_append, endOk, wk, wk2, wk1, wkM, wkL, wkLL, List.drop_eq_nil_of_le, hcl]
theorem toks_get {l : List Tok} {k : Nat} (h : k < l.length) : (toks l).getD k .junk = tkAV l[k] := by simp [toks, List.getD_eq_getElem?_getD, h]
end Go.AL

