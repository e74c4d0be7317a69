/- Contracts and plain laws, a part of the proof; no condition of its own. -/
import Derived.Test.YtknhoembfohbiaaE06
import Derived.Test.YtknhoembfohbiaaLGen
open Go Go.AL Go.Proofs
namespace Go.AL
set_option linter.all false
set_option maxRecDepth 10000

theorem codV_cod {b : List UInt8} {v : Nat} : codV b v = cod b ((min v b.length : Nat) : Int) := rfl
/-- the next choice, as a function of the choices -/
def e_CNextD : List AV → AHeap → (AEnd → AHeap → Prop) → Prop
  | [.ptr id 0, .int .i64 n], H, K => onC (H.get id) fun b v => (1 ≤ n ∧ n ≤ 1000000) ∧ K (.ret (.int .i64 ((cv b v n.toNat : Nat) : Int))) (H.set id (codV b (v + 1)))
  | _, _, _ => False
theorem ok_CNextD : EntOk Try.prog 66 (Ent.effect e_CNextD) := by
  refine EntOk.effect fun args H K h => ?_
  unfold e_CNextD at h
  split at h
  rotate_left
  · exact h.elim
  rename_i id n
  obtain ⟨b, v, hg, hb, hv, ⟨hn1, hn2⟩, hK⟩ := onC_out h
  refine ⟨_, _, hK, ?_⟩
  clear hK
  obtain ⟨n, rfl⟩ := Int.eq_ofNat_of_zero_le (show 0 ≤ n by omega)
  simp only [Int.toNat_natCast]
  refine ACalls.of_aw (Ω := [(65, Ent.pure p_CLeft)]) (T := assoc [(4, [[], [], [], [], [], [], [], [], [], [], [], [3, 7, 10]])]) mixed (TblOk.cons ok_CLeft TblOk.nil) Try.func66 (by kernel_rfl) (by rfl) (rs := [.tmp 4]) (by rfl) (by kernel_rfl) (by simp only [Try.ntmps66, List.length_cons, List.length_nil]; decide) (Nat.le_refl _) fun hcl hlt => ?_
  change aw _ _ _ (KI Try.prog [(65, Ent.pure p_CLeft)] (aEnd Try.prog [.tmp 4] H.nx _ _ (assoc [(4, [[], [], [], [], [], [], [], [], [], [], [], [3, 7, 10]])])) []) _ _
  clear hlt
  have hg' : H.get id = some (cod b (v : Int)) := by rw [hg, codV_cod]; unfold cp; rw [show min (v + 0) b.length = v by omega]
  have hcs := cells_some (cs := [.slice .any 1 (bys b), .int .i64 (v : Int)]) hg'
  have hid := AHeap.get_lt hg
  have hcl2 : ∀ a', (H.set id (cod b a')).Closed := fun a' => closed_set hcl (by simp [zml, zmm, zlw, zlj])
  simp only [go_sem, reduceCtorEq, Nat.reduceEqDiff, Nat.reduceAdd, Nat.reduceMul, Nat.reduceSub, Nat.reduceLeDiff, Nat.reduceLT, Int.reduceMul, Int.reduceAdd, Int.reduceSub, Int.reduceToNat, p_CLeft]
  refine ⟨b, v, hg', both_split (fun h1 => ?_) (fun h1 => cond_split (fun h2 => by simp at h2; omega) (fun h2 => ?_))⟩
  · have hv2 : b.length ≤ v := by simp at h1; omega
    have e : H.set id (codV b (v + 1)) = H.set id (cod b (v : Int)) := by
      rw [codV_cod, show min (v + 1) b.length = v by omega]
    rw [cv_past hv2, e]
    simp (disch := first | assumption | omega | (simp; done) | (simp; omega) | (simp only [bt, and_true]; first | done | omega | (simp; done))) [↓zlf, beq, List.take_of_length_le, List.drop_append, List.take_append, endOk, wk, wk2, wk1, wkM, wkL, wkLL, List.drop_eq_nil_of_le, hcl2]
    exact le_set_same hg'
  have hk : v < b.length := by simp at h1; omega
  have e : codV b (v + 1) = cod b ((v + 1 : Nat) : Int) := by rw [codV_cod, show min (v + 1) b.length = v + 1 by omega]
  have e1 : IntKind.i64.wrap ((v : Int) + 1) = ((v + 1 : Nat) : Int) := by rw [wrap_i64] <;> omega
  have e2 : IntKind.i64.wrap (((v + 1 : Nat) : Int) - 1) = (v : Int) := by rw [wrap_i64] <;> omega
  have hgd : (bys b).getD v .junk = ofByte b[v] := by rw [bys_get hk]; simp [List.getD_eq_getElem?_getD, hk]
  have h8 := UInt8.toNat_lt b[v]
  have e3 : IntKind.i64.wrap ((b[v].toNat : Nat) : Int) = ((b[v].toNat : Nat) : Int) := by rw [wrap_i64] <;> omega
  have hc : cv b v n = b[v].toNat % n := by unfold cv; simp [List.getD_eq_getElem?_getD, hk]
  have ht : (((b[v].toNat : Nat) : Int)).tmod (n : Int) = ((b[v].toNat % n : Nat) : Int) := by
    rw [Int.tmod_eq_emod_of_nonneg (by omega), Int.natCast_emod]
  rw [hc, e]
  simp only [go_sem, reduceCtorEq, Nat.reduceEqDiff, Nat.reduceAdd, Nat.reduceMul, Nat.reduceSub, Nat.reduceLeDiff, Nat.reduceLT, Int.reduceMul, Int.reduceAdd, Int.reduceSub, Int.reduceToNat, hcs, e1, cells_set hid, e2, Int.toNat_natCast, hgd, zkb, ofByte, e3, ht]
  refine ⟨by omega, by omega, ?_⟩
  have hc2 := hcl2 ((v + 1 : Nat) : Int)
  simp (disch := first | assumption | omega | (simp; done) | (simp; omega) | (simp only [bt, and_true]; first | done | omega | (simp; done))) [↓zlf, beq, List.take_of_length_le, List.drop_append, List.take_append, endOk, wk, wk2, wk1, wkM, wkL, wkLL, List.drop_eq_nil_of_le, hc2, cod]
def pieceOf (b : List UInt8) (v : Nat) : List UInt8 := pcs.getD (cv b v 32) [] ++ (if cv b (v + 1) 3 = 0 then [32] else [])
def piecesR : Nat → List UInt8 → Nat → List UInt8 → List UInt8 × Nat
  | 0, _, v, s => (s, v)
  | f + 1, b, v, s => if v < b.length ∧ s.length < 300 then piecesR f b (v + 2) (s ++ pieceOf b v) else (s, v)
theorem pcs_cv {b : List UInt8} {v : Nat} : (sAV pcs).getD (cv b v 32) .junk = .str (pcs.getD (cv b v 32) []) ∧ (pcs.getD (cv b v 32) []).length ≤ 8 := by
  have hj : cv b v 32 < pcs.length := by rw [pcs_len]; exact cv_lt (by decide)
  refine ⟨sAV_get hj, ?_⟩
  rw [List.getD_eq_getElem?_getD, List.getElem?_eq_getElem hj]
  exact (pcs_le _ (List.getElem_mem hj)).2
def e_CPiecesD : List AV → AHeap → (AEnd → AHeap → Prop) → Prop
  | [.ptr id 0], H, K => onC (H.get id) fun b v => K (.ret (.str (piecesR b.length b v []).1)) (H.set id (codV b (piecesR b.length b v []).2))
  | _, _, _ => False
theorem codV_set {H : AHeap} {id : Nat} {b : List UInt8} {v w : Nat} : (H.set id (codV b v)).set id (codV b w) = H.set id (codV b w) := by
  simp only [AHeap.set]; congr 1; funext j; split <;> rfl
set_option maxHeartbeats 2000000 in
theorem ok_CPiecesD : EntOk Try.prog 14 (Ent.effect e_CPiecesD) := by
  refine EntOk.effect fun args H K h => ?_
  unfold e_CPiecesD at h
  split at h
  rotate_left
  · exact h.elim
  rename_i id
  obtain ⟨b, v, hg, hb, hv, hK⟩ := onC_out h
  refine ⟨_, _, hK, ?_⟩
  clear hK
  have hid := AHeap.get_lt hg
  generalize hR : piecesR b.length b v [] = R
  obtain ⟨sR, vR⟩ := R
  dsimp only
  refine ACalls.of_aw (Ω := [(65, Ent.pure p_CLeft), (66, Ent.effect e_CNextD)]) (T := assoc []) mixed (TblOk.cons ok_CLeft (TblOk.cons ok_CNextD TblOk.nil)) Try.func14 (by kernel_rfl) (by rfl) (rs := [.tmp 2]) (by rfl) (by kernel_rfl) (by simp only [Try.ntmps14, List.length_cons, List.length_nil]; decide) (Nat.le_refl _) fun hcl hlt => ?_
  change aw _ _ _ (KI Try.prog [(65, Ent.pure p_CLeft), (66, Ent.effect e_CNextD)] (aEnd Try.prog [.tmp 2] H.nx _ _) []) _ _
  clear hlt
  have hcl2 : ∀ w, (H.set id (codV b w)).Closed := fun w => closed_set hcl codV_lt
  have hms : maxStr = 9223372036854775807 := rfl
  have hne : (id = H.nx) = False := eq_false (by omega)
  have hg0 : H.get id = some (codV b v) := hg
  simp only [go_sem, reduceCtorEq, Nat.reduceEqDiff, Nat.reduceAdd, Nat.reduceMul, Nat.reduceSub, Nat.reduceLeDiff, Nat.reduceLT, Int.reduceMul, Int.reduceAdd, Int.reduceSub, Int.reduceToNat]
  refine loop_introW (A := Nat × Nat × List UInt8) (fun x => [(0, .ptr id 0), (3, .str x.2.2)]) (fun x => H.set id (codV b x.2.1)) (fun x => piecesR x.1 b x.2.1 x.2.2 = (sR, vR) ∧ b.length ≤ x.1 + x.2.1 ∧ x.2.2.length ≤ 310) (fun x => x.1) (b.length, v, []) ⟨hR, by dsimp only; omega, by simp⟩ ?_ fun x hx => ?_
  · simp only [zjm]
    refine ⟨Nat.le_refl _, le_set_same hg0, hcl2 _, ?_, ?_⟩
    · simp [ltF, zme, zly, AHeap.set, hid]
    · simp [subW, wk2, wk1, Fr.get]
  obtain ⟨f, w, s⟩ := x
  obtain ⟨h1, h2, h3⟩ := hx
  dsimp only at h1 h2 h3 ⊢
  have hgi : ∀ w, (H.set id (codV b w)).get id = some (codV b w) := fun w => AHeap.get_set_same _ _ hid
  have hss : ∀ w u, (H.set id (codV b w)).set id (codV b u) = H.set id (codV b u) := fun w u => codV_set
  simp only [go_sem, reduceCtorEq, Nat.reduceEqDiff, Nat.reduceAdd, Nat.reduceMul, Nat.reduceSub, Nat.reduceLeDiff, Nat.reduceLT, Int.reduceMul, Int.reduceAdd, Int.reduceSub, Int.reduceToNat, p_CLeft]
  refine ⟨b, _, by rw [hgi]; rfl, ?_⟩
  have hgp : ∀ (w : Nat) (o : AObj), ((H.set id (codV b w)).push o).get id = some (codV b w) := fun w o => by
    rw [AHeap.get_push_lt _ _ (show id < (H.set id (codV b w)).nx from hid)]; exact hgi w
  refine both_split (fun h4 => cond_split (fun h5 => ?_) (fun h5 => ?_)) (fun h4 => ?_)
  · have hw : w < b.length := by simp at h4; omega
    have hs3 : s.length < 300 := by simp at h5; omega
    cases f with
    | zero => omega
    | succ f =>
    unfold piecesR at h1
    rw [if_pos ⟨hw, hs3⟩] at h1
    obtain ⟨q1, q2⟩ := pcs_cv (b := b) (v := w)
    have hcv1 : cv b (min w b.length) 32 = cv b w 32 := cv_min
    have hcv2 : cv b (min (w + 1) b.length) 3 = cv b (w + 1) 3 := cv_min
    have hco : ∀ u, codV b (min u b.length + 1) = codV b (u + 1) := fun u => codV_min
    have i32 : Int.toNat 32 = 32 := rfl
    have i3 : Int.toNat 3 = 3 := rfl
    have c32 := cv_lt (b := b) (v := w) (n := 32) (by decide)
    simp only [go_sem, reduceCtorEq, Nat.reduceEqDiff, Nat.reduceAdd, Nat.reduceMul, Nat.reduceSub, Nat.reduceLeDiff, Nat.reduceLT, Int.reduceMul, Int.reduceAdd, Int.reduceSub, Int.reduceToNat, pcsAV, e_CNextD, hne, hgi, hgp, hss, onC_cod hb, hcv1, hco, i32, i3, sAV_length, pcs_len, Int.toNat_natCast, q1, hcv2]
    refine ⟨by omega, ⟨by omega, by omega⟩, by rw [hms]; omega, by omega, ?_⟩
    have ent : ∀ (q : List UInt8) (fr : Fr), Fr.get fr 0 = .ptr id 0 → Fr.get fr 3 = .str q → q = s ++ pieceOf b w → q.length ≤ 310 → ∃ a' : Nat × Nat × List UInt8, (piecesR a'.1 b a'.2.1 a'.2.2 = (sR, vR) ∧ b.length ≤ a'.1 + a'.2.1 ∧ a'.2.2.length ≤ 310) ∧ a'.1 < f + 1 ∧
        enterW H.nx fr ((H.set id (codV b (w + 1 + 1))).push (.buf 1 32)) [(0, .ptr id 0), (3, .str a'.2.2)] (H.set id (codV b a'.2.1)) := fun q fr f0 f3 q1 q2 => by
      refine ⟨(f, w + 2, q), ⟨by rw [q1]; exact h1, by dsimp only; omega, q2⟩, by dsimp only; omega, Nat.le_refl _, (AHeap.Le.refl _).push _, hcl2 _, ?_, ?_⟩
      · simp [ltF, zme, zly, AHeap.set, hid]
      · simp [subW, wk2, wk1, f0, f3]
    refine cond_split (fun h6 => ?_) (fun h6 => ?_)
    · have hz : cv b (w + 1) 3 = 0 := by simp at h6; omega
      simp only [go_sem, reduceCtorEq, Nat.reduceEqDiff, Nat.reduceAdd, Nat.reduceMul, Nat.reduceSub, Nat.reduceLeDiff, Nat.reduceLT, Int.reduceMul, Int.reduceAdd, Int.reduceSub, Int.reduceToNat]
      refine ⟨by rw [hms]; simp only [List.length_append, List.length_cons, List.length_nil]; omega, ent _ _ rfl rfl (by unfold pieceOf; rw [if_pos hz, List.append_assoc]) (by simp only [List.length_append, List.length_cons, List.length_nil]; omega)⟩
    · have hz : ¬ cv b (w + 1) 3 = 0 := by simp at h6; omega
      try simp only [go_sem, reduceCtorEq, Nat.reduceEqDiff, Nat.reduceAdd, Nat.reduceMul, Nat.reduceSub, Nat.reduceLeDiff, Nat.reduceLT, Int.reduceMul, Int.reduceAdd, Int.reduceSub, Int.reduceToNat]
      exact ent _ _ rfl rfl (by unfold pieceOf; rw [if_neg hz, List.append_nil]) (by simp only [List.length_append, List.length_cons, List.length_nil]; omega)
  all_goals
    have hend : (s, w) = (sR, vR) := by
      cases f with
      | zero => exact h1
      | succ f =>
        unfold piecesR at h1
        rw [if_neg (by simp at h4; first | omega | (simp at h5; omega))] at h1
        exact h1
    cases hend
    try simp only [go_sem, reduceCtorEq, Nat.reduceEqDiff, Nat.reduceAdd, Nat.reduceMul, Nat.reduceSub, Nat.reduceLeDiff, Nat.reduceLT, Int.reduceMul, Int.reduceAdd, Int.reduceSub, Int.reduceToNat]
    simp (disch := first | assumption | omega | (simp; done) | (simp; omega) | (simp only [bt, and_true]; first | done | omega | (simp; done))) [↓zlf, beq, List.take_of_length_le, List.drop_append, List.take_append, endOk, wk, wk2, wk1, wkM, wkL, wkLL, List.drop_eq_nil_of_le, hcl2]
end Go.AL

