/- Contracts and plain laws, a part of the proof; no condition of its own. -/
import Derived.Test.YtepgdamgklfnmaaGreatM19j
open Go Go.AL Go.Proofs
namespace Go.AL
set_option linter.all false
set_option maxRecDepth 10000

end Go.AL


open Go Go.AL Go.Proofs
namespace Go.AL
set_option linter.all false
set_option maxRecDepth 10000

def p_CStep : List AV → AHeap → (AV → Prop) → Prop
  | [.ptr id 0], H, K => onC (H.get id) fun b v => K (.int .i64 ((2 * v + 1 : Nat) : Int))
  | _, _, _ => False
theorem ok_CStep : EntOk Tryz.prog 112 (Ent.pure p_CStep) := by
  refine EntOk.pure fun args H K h => ?_
  unfold p_CStep at h
  split at h
  rotate_left
  · exact h.elim
  rename_i id
  obtain ⟨b, v, hg, hb, hv, hK⟩ := onC_out h
  refine ⟨_, hK, ?_⟩
  clear hK
  refine ACalls.of_aw (Ω := []) (T := assoc []) mixed TblOk.nil Tryz.func112 (by kernel_rfl) (by rfl) (rs := [.tmp 2]) (by rfl) (by kernel_rfl) (by simp only [Tryz.ntmps112, List.length_cons, List.length_nil]; decide) (Nat.le_refl _) fun hcl hlt => ?_
  change aw _ _ _ (KI Tryz.prog [] (aEnd Tryz.prog [.tmp 2] H.nx _ _ (assoc [])) []) _ _
  clear hlt
  have hcs := cells_some hg
  have e0 : ((min (cp v 0) b.length : Nat) : Int) = v := by unfold cp; omega
  have e1 : IntKind.i64.wrap (2 * (v : Int)) = 2 * v := by rw [wrap_i64] <;> omega
  have e2 : IntKind.i64.wrap (2 * (v : Int) + 1) = 2 * v + 1 := by rw [wrap_i64] <;> omega
  simp only [go_sem, reduceCtorEq, Nat.reduceEqDiff, Nat.reduceAdd, Nat.reduceMul, Nat.reduceSub, Nat.reduceLeDiff, Nat.reduceLT, Int.reduceMul, Int.reduceAdd, Int.reduceSub, Int.reduceToNat, hcs, e0, e1, e2]
  simp (disch := first | assumption | omega | (simp; done) | (simp; omega) | (simp only [bt, and_true]; first | done | omega | (simp; done))) [↓zlw, beq, List.take_of_length_le, List.drop_append, List.take_append, endOk, wk, wk2, wk1, wkM, wkL, wkLL, List.drop_eq_nil_of_le, hcl]
/-- the bytes that are made of one choice -/
def gB (b : List UInt8) (n v : Nat) : List UInt8 := (List.range n).map fun i => UInt8.ofNat (cv b v 256 + i * (2 * min (v + 1) b.length + 1))
def e_CBytes : List AV → AHeap → (AEnd → AHeap → Prop) → Prop
  | [.ptr id 0, .int .i64 n], H, K => onC (H.get id) fun b v => (0 ≤ n ∧ n ≤ 1000) ∧ K (.ret (.ms (H.nx + 1) 0 1 n.toNat)) (((H.set id (codV b (v + 1))).push (.buf 1 0)).push (.cells (bys (gB b n.toNat v))))
  | _, _, _ => False
theorem ofByte_u8 (z : Nat) : AV.int .u8 (IntKind.u8.wrap (z : Int)) = ofByte (UInt8.ofNat z) := by
  unfold ofByte
  congr 1
set_option maxHeartbeats 4000000 in
theorem ok_CBytes : EntOk Tryz.prog 50 (Ent.effect e_CBytes) := by
  refine EntOk.effect fun args H K h => ?_
  unfold e_CBytes at h
  split at h
  rotate_left
  · exact h.elim
  rename_i id n
  obtain ⟨b, v, hg, hb, hv, ⟨hn1, hn2⟩, hK⟩ := onC_out h
  refine ⟨_, _, hK, ?_⟩
  clear hK
  obtain ⟨n, rfl⟩ := Int.eq_ofNat_of_zero_le (show 0 ≤ n by omega)
  simp only [Int.toNat_natCast]
  generalize hG : gB b n v = G
  refine ACalls.of_aw (Ω := [(29, Ent.effect e_ZNext), (112, Ent.pure p_CStep)]) (T := assoc []) mixed (TblOk.cons ok_ZNext (TblOk.cons ok_CStep TblOk.nil)) Tryz.func50 (by kernel_rfl) (by rfl) (rs := [.tmp 4]) (by rfl) (by kernel_rfl) (by simp only [Tryz.ntmps50, List.length_cons, List.length_nil]; decide) (by simp only [zkm, zkn]; omega) fun hcl hlt => ?_
  change aw _ _ _ (KI Tryz.prog [(29, Ent.effect e_ZNext), (112, Ent.pure p_CStep)] (aEnd Tryz.prog [.tmp 4] H.nx _ _ (assoc [])) []) _ _
  clear hlt
  have hid := AHeap.get_lt hg
  have hne := ne_nx hid
  have hgc := get_codV (b := b) hid
  have hcl2 : ∀ w, (H.set id (codV b w)).Closed := fun w => closed_set hcl codV_lt
  simp only [go_sem, reduceCtorEq, Nat.reduceEqDiff, Nat.reduceAdd, Nat.reduceMul, Nat.reduceSub, Nat.reduceLeDiff, Nat.reduceLT, Int.reduceMul, Int.reduceAdd, Int.reduceSub, Int.reduceToNat, byq, e_ZNext, p_CStep, hg, hgc, hne, onC_cod hb, cv_min, codV_min, cp_add]
  refine ⟨⟨by omega, by omega, by omega⟩, ⟨by decide, by decide⟩, ?_⟩
  have hx : cv b (cp v 0) 256 ≤ 255 := cv_256
  have hlG : G.length = n := by rw [← hG]; simp [gB]
  have hgG : ∀ j, j < n → G[j]? = some (UInt8.ofNat (cv b (cp v 0) 256 + j * (2 * min (v + 1) b.length + 1))) := fun j hj => by
    rw [← hG]; unfold gB; rw [List.getElem?_map, List.getElem?_range hj]; rfl
  refine loop_introW (A := Nat × List UInt8) (fun x => [(0, .ptr id 0), (5, .ms (H.nx + 1) 0 1 n), (6, .int .i64 ((cv b (cp v 0) 256 : Nat) : Int)), (13, .int .i64 (n : Int)), (14, .int .i64 (x.1 : Int))]) (fun x => ((H.set id (codV b (cp v 1))).push (.buf 1 0)).push (.cells (bys x.2))) (fun x => x.1 ≤ n ∧ x.2.length = n ∧ ∀ j, j < x.1 → x.2[j]? = G[j]?) (fun x => n - x.1) (0, List.replicate n 0) ⟨by omega, by simp, by intro j hj; exact absurd hj (Nat.not_lt_zero _)⟩ ?_ fun x hx => ?_
  · refine ⟨by simp only [zjy, zkd, zkm, zkn]; omega, AHeap.Le.refl _, closed_cells (closed_buf (hcl2 _)) (by rw [zlx]; trivial), ?_, ?_⟩
    · simp [ltF, zmn, zmv, zmx, zkm, zkn]
      try omega
    · simp [subW, wk2, wk1, wkM, Fr.get]
  obtain ⟨k, z⟩ := x
  obtain ⟨hk, hz, hzj⟩ := hx
  dsimp only at hk hz hzj ⊢
  simp only [go_sem, reduceCtorEq, Nat.reduceEqDiff, Nat.reduceAdd, Nat.reduceMul, Nat.reduceSub, Nat.reduceLeDiff, Nat.reduceLT, Int.reduceMul, Int.reduceAdd, Int.reduceSub, Int.reduceToNat]
  refine cond_split (fun hc => ?_) (fun hc => ?_)
  · have hk' : k < n := by simp at hc; omega
    have e5 : IntKind.i64.wrap ((k : Int) + 1) = ((k + 1 : Nat) : Int) := by rw [wrap_i64] <;> omega
    obtain ⟨st, hst⟩ : ∃ st, 2 * min (cp v 1) b.length + 1 = st := ⟨_, rfl⟩
    have hst2 : st ≤ 2000001 := by omega
    have hm1 : k * st ≤ 1000 * 2000001 := Nat.mul_le_mul (by omega) hst2
    have e6 : IntKind.i64.wrap ((k : Int) * (st : Int)) = ((k * st : Nat) : Int) := by rw [← Int.natCast_mul, wrap_i64] <;> omega
    have e7 : IntKind.i64.wrap (((cv b (cp v 0) 256 : Nat) : Int) + ((k * st : Nat) : Int)) = ((cv b (cp v 0) 256 + k * st : Nat) : Int) := by rw [wrap_i64] <;> omega
    simp only [go_sem, reduceCtorEq, Nat.reduceEqDiff, Nat.reduceAdd, Nat.reduceMul, Nat.reduceSub, Nat.reduceLeDiff, Nat.reduceLT, Int.reduceMul, Int.reduceAdd, Int.reduceSub, Int.reduceToNat, byq, p_CStep, hg, hgc, hne, onC_cod hb, cv_min, codV_min, cp_add, Int.toNat_natCast, hst, e6, e7, ofByte_u8]
    obtain ⟨y, hy⟩ : ∃ y, UInt8.ofNat (cv b (cp v 0) 256 + k * st) = y := ⟨_, rfl⟩
    have hgk := hgG k hk'
    rw [show 2 * min (v + 1) b.length + 1 = st from hst, hy] at hgk
    have hsp : splice (bys z) k (bys [y]) = bys (z.set k y) := by
      rw [zly (by simp; omega), List.set_eq_take_append_cons_drop, if_pos (by omega)]
      simp
    rw [hy, hsp]
    refine ⟨⟨by omega, by omega⟩, by omega, (k + 1, z.set k y), ⟨by dsimp only; omega, by simp [hz], fun j hj => ?_⟩, by dsimp only; omega, ?_⟩
    · dsimp only at hj ⊢
      by_cases hjk : j = k
      · subst hjk
        rw [List.getElem?_set_self (by omega), hgk]
      · rw [List.getElem?_set_ne (by omega)]; exact hzj j (by omega)
    refine ⟨by simp only [zkm, zkn]; omega, AHeap.Le.refl _, closed_cells (closed_buf (hcl2 _)) (by rw [zlx]; trivial), ?_, ?_⟩
    · simp [ltF, zmn, zmv, zmx, zkm, zkn]
      try omega
    · simp [subW, wk2, wk1, wkM, Fr.get, e5]
  · have hk' : k = n := by simp at hc; omega
    subst hk'
    have hzG : z = G := by
      refine List.ext_getElem? fun j => ?_
      by_cases hj : j < k
      · exact hzj j hj
      · rw [List.getElem?_eq_none (by omega), List.getElem?_eq_none (by omega)]
    subst hzG
    simp only [go_sem, reduceCtorEq, Nat.reduceEqDiff, Nat.reduceAdd, Nat.reduceMul, Nat.reduceSub, Nat.reduceLeDiff, Nat.reduceLT, Int.reduceMul, Int.reduceAdd, Int.reduceSub, Int.reduceToNat]
    refine ⟨rfl, AHeap.Le.refl _, closed_cells (closed_buf (hcl2 _)) (by rw [zlx]; trivial), ?_⟩
    simp [zmx, zkm, zkn]
end Go.AL


open Go Go.AL Go.Proofs
namespace Go.AL
set_option linter.all false
set_option maxRecDepth 10000

theorem gB_min {b : List UInt8} {n v : Nat} : gB b n (min v b.length) = gB b n v := by
  unfold gB
  rw [cv_min, show min (min v b.length + 1) b.length = min (v + 1) b.length by omega]
theorem gB_len {b : List UInt8} {n v : Nat} : (gB b n v).length = n := by simp [gB]
/-- the first byte of a packet -/
def fb (x : UInt8) (k : Nat) : UInt8 := UInt8.ofNat (ior .u8 (iand .u8 (x.toNat : Int) 15) (IntKind.u8.wrap (([16, 32, 96, 160] : List Int).getD k 0))).toNat
def gFrame (b : List UInt8) (v : Nat) : List UInt8 × Nat :=
  if cv b (cp v 0) 14 = 0 then (gB b 0 (cp v 1), cp v 2) else if cv b (cp v 2) 2 = 1 then ((gB b (cv b (cp v 0) 14) (cp v 1)).set 0 (fb ((gB b (cv b (cp v 0) 14) (cp v 1)).getD 0 0) (cv b (cp v 3) 4)), cp v 4) else (gB b (cv b (cp v 0) 14) (cp v 1), cp v 3)
theorem gFrame_len {b : List UInt8} {v : Nat} : (gFrame b v).1.length ≤ 13 := by
  have h := cv_lt (b := b) (v := cp v 0) (n := 14) (by decide)
  unfold gFrame
  repeat' split
  all_goals simp [gB_len]; try omega
def e_CFrame : List AV → AHeap → (AEnd → AHeap → Prop) → Prop
  | [.ptr id 0], H, K => onC (H.get id) fun b v => K (.ret (.slice .any 1 (bys (gFrame b v).1))) (H.set id (codV b (gFrame b v).2))
  | _, _, _ => False
theorem ms_bys {H' H1 : AHeap} {i n : Nat} {l : List UInt8} (h1 : cellsOf? H' i = some (bys l)) (h2 : l.length = n) (h3 : H1.nx ≤ i) : wk H' H1 (.ms i 0 1 n) (.slice .any 1 (bys l)) := by
  simp only [wk, wk2, wk1, h1, true_or, true_and, List.drop_zero]
  refine ⟨?_, zmd h3⟩
  rw [zlz (by omega), ← h2, List.take_length]
theorem u8fix {w : Int} (h : ∃ z, w = IntKind.u8.wrap z) : AV.int .u8 w = ofByte (UInt8.ofNat w.toNat) := by
  obtain ⟨z, rfl⟩ := h
  have h1 : IntKind.u8.wrap z = z % 256 := rfl
  have h2 : 0 ≤ z % 256 ∧ z % 256 < 256 := by omega
  unfold ofByte
  congr 1
  rw [UInt8.toNat_ofNat', h1]
  omega
theorem getD4 {α : Type} (f : Int → α) (d : α) (a b c e : Int) {k : Nat} (h : k < 4) : [f a, f b, f c, f e].getD k d = f ([a, b, c, e].getD k 0) := by
  match k, h with
  | 0, _ | 1, _ | 2, _ | 3, _ => rfl
set_option maxHeartbeats 4000000 in
theorem ok_CFrame : EntOk Tryz.prog 36 (Ent.effect e_CFrame) := by
  refine EntOk.effect fun args H K h => ?_
  unfold e_CFrame at h
  split at h
  rotate_left
  · exact h.elim
  rename_i id
  obtain ⟨b, v, hg, hb, hv, hK⟩ := onC_out h
  refine ⟨_, _, hK, ?_⟩
  clear hK
  obtain ⟨R, hR⟩ : ∃ R, gFrame b v = R := ⟨_, rfl⟩
  rw [hR]
  unfold gFrame at hR
  refine ACalls.of_aw (Ω := [(29, Ent.effect e_ZNext), (50, Ent.effect e_CBytes), (34, Ent.effect e_CBoolD)]) (T := assoc [(3, [[], [], [], [], [], [], [], [], [], [7], [7, 9], [], [], [3, 7, 9]]), (803, [[100005]])]) mixed (TblOk.cons ok_ZNext (TblOk.cons ok_CBytes (TblOk.cons ok_CBoolD TblOk.nil))) Tryz.func36 (by kernel_rfl) (by rfl) (rs := [.tmp 2]) (by rfl) (by kernel_rfl) (by simp only [Tryz.ntmps36, List.length_cons, List.length_nil]; decide) (by simp only [zkn]; omega) fun hcl hlt => ?_
  change aw _ _ _ (KI Tryz.prog [(29, Ent.effect e_ZNext), (50, Ent.effect e_CBytes), (34, Ent.effect e_CBoolD)] (aEnd Tryz.prog [.tmp 2] H.nx _ _ (assoc [(3, [[], [], [], [], [], [], [], [], [], [7], [7, 9], [], [], [3, 7, 9]]), (803, [[100005]])])) []) _ _
  clear hlt
  have hid := AHeap.get_lt hg
  have hne := ne_nx hid
  have hgc := get_codV (b := b) hid
  have hcl2 : ∀ w, (H.set id (codV b w)).Closed := fun w => closed_set hcl codV_lt
  have hn := cv_lt (b := b) (v := cp v 0) (n := 14) (by decide)
  simp only [go_sem, reduceCtorEq, Nat.reduceEqDiff, Nat.reduceAdd, Nat.reduceMul, Nat.reduceSub, Nat.reduceLeDiff, Nat.reduceLT, Int.reduceMul, Int.reduceAdd, Int.reduceSub, Int.reduceToNat, byq, e_ZNext, e_CBytes, hg, hgc, hne, onC_cod hb, cv_min, codV_min, cp_add, gB_min]
  refine ⟨⟨by decide, by decide⟩, ⟨by omega, by omega⟩, both_split (fun h1 => ?_) (fun h1 => ?_)⟩
  · have hz : ¬ cv b (cp v 0) 14 = 0 := by simp at h1; omega
    rw [if_neg hz] at hR
    simp only [go_sem, reduceCtorEq, Nat.reduceEqDiff, Nat.reduceAdd, Nat.reduceMul, Nat.reduceSub, Nat.reduceLeDiff, Nat.reduceLT, Int.reduceMul, Int.reduceAdd, Int.reduceSub, Int.reduceToNat, byq, e_CBoolD, hg, hgc, hne, onC_cod hb, cv_min, codV_min, cp_add, gB_min]
    refine cond_split (fun h2 => ?_) (fun h2 => ?_)
    · have h2' : cv b (cp v 2) 2 = 1 := of_decide_eq_true h2
      rw [if_pos h2'] at hR
      subst hR
      simp only [go_sem, reduceCtorEq, Nat.reduceEqDiff, Nat.reduceAdd, Nat.reduceMul, Nat.reduceSub, Nat.reduceLeDiff, Nat.reduceLT, Int.reduceMul, Int.reduceAdd, Int.reduceSub, Int.reduceToNat, byq, e_ZNext, hg, hgc, hne, onC_cod hb, cv_min, codV_min, cp_add, gB_min]
      have hGl := gB_len (b := b) (n := cv b (cp v 0) 14) (v := cp v 1)
      generalize gB b (cv b (cp v 0) 14) (cp v 1) = G at *
      obtain ⟨x, G, rfl⟩ : ∃ x G', G = x :: G' := by
        cases G with
        | nil => simp at hGl; omega
        | cons x G' => exact ⟨x, G', rfl⟩
      have hgd : (bys (x :: G)).getD 0 .junk = .int .u8 (x.toNat : Int) := rfl
      have h4 := cv_lt (b := b) (v := cp v 3) (n := 4) (by decide)
      have hL := getD4 (AV.int .i64) .junk 16 32 96 160 h4
      simp only [go_sem, reduceCtorEq, Nat.reduceEqDiff, Nat.reduceAdd, Nat.reduceMul, Nat.reduceSub, Nat.reduceLeDiff, Nat.reduceLT, Int.reduceMul, Int.reduceAdd, Int.reduceSub, Int.reduceToNat, byq, e_ZNext, hg, hgc, hne, onC_cod hb, cv_min, codV_min, cp_add, gB_min, hgd, hL, Int.toNat_natCast]
      refine ⟨⟨by decide, by omega⟩, ⟨by decide, by decide⟩, ⟨by omega, by omega⟩, ⟨by decide, by omega⟩, ?_⟩
      have hf : AV.int .u8 (ior .u8 (iand .u8 (x.toNat : Int) 15) (IntKind.u8.wrap (([16, 32, 96, 160] : List Int).getD (cv b (cp v 3) 4) 0))) = ofByte (fb x (cv b (cp v 3) 4)) := u8fix ⟨_, rfl⟩
      rw [hf]
      exact ⟨ms_bys (by simp only [go_sem]; rw [show ∀ y : UInt8, [ofByte y] = bys [y] from fun _ => rfl, zly (by simp)]; simp) (by simpa using hGl) (by simp only [zkn]; omega), by repeat (first | exact AHeap.Le.refl _ | refine AHeap.Le.push ?_ _), hcl2 _, by rw [zma]; intro i e; cases e⟩
    · have h2' : ¬ cv b (cp v 2) 2 = 1 := of_decide_eq_false h2
      rw [if_neg h2'] at hR
      subst hR
      simp only [go_sem, reduceCtorEq, Nat.reduceEqDiff, Nat.reduceAdd, Nat.reduceMul, Nat.reduceSub, Nat.reduceLeDiff, Nat.reduceLT, Int.reduceMul, Int.reduceAdd, Int.reduceSub, Int.reduceToNat, byq]
      exact ⟨ms_bys (by simp only [go_sem]) gB_len (by simp only [zkn]; omega), by repeat (first | exact AHeap.Le.refl _ | refine AHeap.Le.push ?_ _), hcl2 _, by rw [zma]; intro i e; cases e⟩
  · have hz : cv b (cp v 0) 14 = 0 := by simp at h1; omega
    rw [if_pos hz] at hR
    subst hR
    rw [hz]
    simp only [go_sem, reduceCtorEq, Nat.reduceEqDiff, Nat.reduceAdd, Nat.reduceMul, Nat.reduceSub, Nat.reduceLeDiff, Nat.reduceLT, Int.reduceMul, Int.reduceAdd, Int.reduceSub, Int.reduceToNat, byq]
    exact ⟨ms_bys (by simp only [go_sem]) gB_len (by simp only [zkn]; omega), by repeat (first | exact AHeap.Le.refl _ | refine AHeap.Le.push ?_ _), hcl2 _, by rw [zma]; intro i e; cases e⟩
end Go.AL

