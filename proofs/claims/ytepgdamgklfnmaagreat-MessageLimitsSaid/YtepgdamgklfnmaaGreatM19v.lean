/- Contracts and plain laws, a part of the proof; no condition of its own. -/
import Derived.Test.YtepgdamgklfnmaaGreatM19j
import Derived.Test.YtepgdamgklfnmaaGreatAlDefer
import Derived.Test.YtepgdamgklfnmaaGreatM19p
open List renaming length_cons → yaz, length_nil → yba, take_of_length_le → ybc, drop_append → ybd, take_append → ybe, drop_eq_nil_of_le → ybf, getD_cons_zero → yau, drop_zero → yap, take_succ_cons → yaq, take_zero → yar, drop_succ_cons → yao, length_map → ybb, map_cons → yae, map_nil → yaf, cons_append → yal, nil_append → yak
open Option renaming map_some → yag
open Go Go.AL Go.Proofs
namespace Go.AL
set_option linter.all false
set_option maxRecDepth 10000
theorem ti_unex : ti Tryz.prog 189 = some ⟨.struct [], 0, 0, .agg []⟩ := by kernel_rfl
theorem ti_any : ti Tryz.prog 20 = some ⟨.iface 0, 1, 16, .nili⟩ := by kernel_rfl
attribute [go_sem] ti_unex ti_any
def panicK (v : AV) (Kp : AV → AHeap → Prop) (H : AHeap) : Prop := match v with
  | .iface t v => Kp (.iface t v) H
  | _ => False
@[congr] theorem panicK_congr {v v' : AV} {Kp : AV → AHeap → Prop} {H : AHeap} (h : v = v') : panicK v Kp H = panicK v' Kp H := by rw [h]
theorem panicK_iface {t : TypeId} {v : AV} {Kp : AV → AHeap → Prop} {H : AHeap} : panicK (.iface t v) Kp H = Kp (.iface t v) H := rfl
theorem ao_panic {P : Program} {Ω : Tbl} {ops : Array Oper} {rest : List Oper} {K : Fr → AHeap → Prop} {Kp : Fr → AV → AHeap → Prop} {fr : Fr} {H : AHeap} {d : Option Tmp} {x : Operand} {t : TypeId} {pos : String} {aft : Array Edge} :
    awOps P Ω ops (Oper.mk d (.panic x) t pos aft none :: rest) K Kp fr H = panicK (ev fr x) (Kp fr) H := (rfl)
theorem dEnd_n {n0 : Nat} {H2 H : AHeap} {T : Nat → List (List Nat)} {fr : Fr} : (dEnd n0 H2 T).n fr H = (H2.Le H ∧ H2.Closed ∧ n0 ≤ H2.nx) := rfl
theorem dEnd_r {n0 : Nat} {H2 H : AHeap} {T : Nat → List (List Nat)} {fr : Fr} : (dEnd n0 H2 T).r fr H = (H2.Le H ∧ H2.Closed ∧ n0 ≤ H2.nx) := rfl
theorem dEnd_T {n0 : Nat} {H2 : AHeap} {T : Nat → List (List Nat)} : (dEnd n0 H2 T).T = T := rfl
section
variable {P : Program} {Ω : Tbl} {C : Code} {rs : List ResultVar} {H1 H : AHeap} {x v : AV} {g : FuncId} {d n0 : Nat} {caps : List AV} {cs : List Nat} {T : Nat → List (List Nat)} {fr : Fr}
theorem contD_p : (contD P rs H1 x g caps n0 T).p fr v H = finD P rs H1 x g caps (some v) fr H := rfl
theorem contD_T : (contD P rs H1 x g caps n0 T).T = T := rfl
theorem contA_T : (contA P Ω C rs H1 x g d cs n0 T).T = T := rfl
theorem contA_n : (contA P Ω C rs H1 x g d cs n0 T).n fr H = aw P Ω C (KI P Ω (contD P rs H1 x g (cs.map (Fr.get fr)) H.nx T) []) ((d, .func (.func g) [] (cs.map (Fr.get fr))) :: fr) H := rfl
end
/-- a kind that is not permitted -/
def badKd (q : Int × RS) (most : Int) : Bool := decide (q.2.2.2 = 0) && (decide (q.1 < 1) || decide (q.1 > most))
def e_mKind : List AV → AHeap → (AEnd → AHeap → Prop) → Prop
  | [.ptr id 0, .int .i64 most], H, K => onR H id fun m l e => True ∧ K (if badKd (uintR (m, l, e) 1) most then .panic (.iface 189 (.agg [])) else .ret (.int .i64 (uintR (m, l, e) 1).1)) (H.set id (.cells (cellR (uintR (m, l, e) 1).2)))
  | _, _, _ => False
set_option maxHeartbeats 4000000 in
theorem ok_mKind : EntOk Tryz.prog 117 (Ent.effect e_mKind) := by
  refine EntOk.effect fun args H K h => ?_
  unfold e_mKind at h
  split at h
  rotate_left
  · exact h.elim
  rename_i id most
  obtain ⟨m, l, e, hid, hle, h⟩ := onR_out h
  obtain ⟨hpre, hK⟩ := h
  refine ⟨_, _, hK, ?_⟩
  clear hK
  have hl0 := AHeap.get_lt hid
  have hne := far_of hl0
  have hss := set_same hid
  have hcs := cells_some hid
  have hcm := fun cs => @cells_set_same H id cs hl0
  have hgm := fun o => @get_set_same' H id o hl0
  obtain ⟨Q, hQ⟩ : ∃ Q, uintR (m, l, e) 1 = Q := ⟨_, rfl⟩
  have hQl := uintR_l m l e 1
  have hQm := uintR_m m l e 1
  rw [hQ] at hQl hQm ⊢
  obtain ⟨n, m1, l1, e1⟩ := Q
  refine ACalls.of_aw (Ω := [(76, Ent.effect e_Uint), (118, Ent.pure p_RErr)]) (T := assoc []) mixed (TblOk.cons ok_Uint (TblOk.cons ok_RErr TblOk.nil)) Tryz.func117 (by kernel_rfl) (by rfl) (rs := [.tmp 4]) (by rfl) (by kernel_rfl) (by simp only [Tryz.ntmps117, yaz, yba]; decide) (by simp only [zkn]; omega) fun hcl hlt => ?_
  change aw _ _ _ (KI Tryz.prog [(76, Ent.effect e_Uint), (118, Ent.pure p_RErr)] (aEnd Tryz.prog [.tmp 4] H.nx _ _ (assoc [])) []) _ _
  clear hlt
  have hcl1 := fun l' e' => closedR hid hcl m (.inl rfl) l' e'
  have hcl2 := fun l' e' => closedR hid hcl .any (.inr rfl) l' e'
  dsimp only at hQl hQm
  simp only [go_sem, reduceCtorEq, Nat.reduceEqDiff, Nat.reduceAdd, Nat.reduceMul, Nat.reduceSub, Nat.reduceLeDiff, Nat.reduceLT, Int.reduceMul, Int.reduceAdd, Int.reduceSub, Int.reduceToNat, byq, hne, hid, hcs, hgm, hcm, e_Uint, p_RErr, onR, onRo_some, hQ, cellR]
  have hcl3 : (H.set id (.cells [.slice m1 1 (bys l1), .int .i64 e1])).Closed := by
    rcases hQm with rfl | rfl
    · exact hcl1 _ _
    · exact hcl2 _ _
  refine ⟨by omega, by omega, both_split (fun h1 => both_split (fun h2 => ?_) (fun h2 => cond_split (fun h3 => ?_) (fun h3 => ?_))) (fun h1 => ?_)⟩
  · have hb : badKd (n, m1, l1, e1) most = true := by
      have a1 : e1 = 0 := by simpa using h1
      have a2 : n < 1 := by simpa using h2
      simp [badKd, a1, a2]
    rw [hb, if_pos rfl]
    simp only [go_sem, reduceCtorEq, Nat.reduceEqDiff, Nat.reduceAdd, Nat.reduceMul, Nat.reduceSub, Nat.reduceLeDiff, Nat.reduceLT, Int.reduceMul, Int.reduceAdd, Int.reduceSub, Int.reduceToNat, byq, ↓ao_panic, panicK_iface]
    simp (disch := first | assumption | omega | (simp; done) | (simp; omega) | (simp only [bt, and_true]; first | done | omega | (simp; done))) [↓zlw, beq, ybc, ybd, ybe, endOk, wk, wk2, wk1, wkM, wkL, wkLL, ybf, hcl3]
  · have hb : badKd (n, m1, l1, e1) most = true := by
      have a1 : e1 = 0 := by simpa using h1
      have a2 : n > most := by simpa using h3
      simp [badKd, a1, a2]
    rw [hb, if_pos rfl]
    simp only [go_sem, reduceCtorEq, Nat.reduceEqDiff, Nat.reduceAdd, Nat.reduceMul, Nat.reduceSub, Nat.reduceLeDiff, Nat.reduceLT, Int.reduceMul, Int.reduceAdd, Int.reduceSub, Int.reduceToNat, byq, ↓ao_panic, panicK_iface]
    simp (disch := first | assumption | omega | (simp; done) | (simp; omega) | (simp only [bt, and_true]; first | done | omega | (simp; done))) [↓zlw, beq, ybc, ybd, ybe, endOk, wk, wk2, wk1, wkM, wkL, wkLL, ybf, hcl3]
  · have hb : badKd (n, m1, l1, e1) most = false := by
      have a2 : ¬ n < 1 := of_decide_eq_false h2
      have a3 : ¬ n > most := of_decide_eq_false h3
      simp [badKd, a2, a3]
    rw [hb, if_neg (by decide)]
    simp only [go_sem, reduceCtorEq, Nat.reduceEqDiff, Nat.reduceAdd, Nat.reduceMul, Nat.reduceSub, Nat.reduceLeDiff, Nat.reduceLT, Int.reduceMul, Int.reduceAdd, Int.reduceSub, Int.reduceToNat, byq]
    simp (disch := first | assumption | omega | (simp; done) | (simp; omega) | (simp only [bt, and_true]; first | done | omega | (simp; done))) [↓zlw, beq, ybc, ybd, ybe, endOk, wk, wk2, wk1, wkM, wkL, wkLL, ybf, hcl3]
  · have hb : badKd (n, m1, l1, e1) most = false := by
      have a1 : ¬ e1 = 0 := by simpa using h1
      simp [badKd, a1]
    rw [hb, if_neg (by decide)]
    simp only [go_sem, reduceCtorEq, Nat.reduceEqDiff, Nat.reduceAdd, Nat.reduceMul, Nat.reduceSub, Nat.reduceLeDiff, Nat.reduceLT, Int.reduceMul, Int.reduceAdd, Int.reduceSub, Int.reduceToNat, byq]
    simp (disch := first | assumption | omega | (simp; done) | (simp; omega) | (simp only [bt, and_true]; first | done | omega | (simp; done))) [↓zlw, beq, ybc, ybd, ybe, endOk, wk, wk2, wk1, wkM, wkL, wkLL, ybf, hcl3]
end Go.AL


open Go Go.AL Go.Proofs
namespace Go.AL
set_option linter.all false
set_option maxRecDepth 10000

def zq : List AV := [.int .i64 0, .int .i64 0, .int .u64 0, .int .u64 0, .slice .nil 1 [], .int .i64 0, .int .i64 0, .int .i64 0, .int .i64 0, .slice .nil 1 []]
theorem cells_set_farQ {H : AHeap} {i j : Nat} (h : j ≠ i) (o : AObj) : cellsOf? (H.set i o) j = cellsOf? H j := by
  unfold cellsOf?
  rw [AHeap.get_set_ne _ _ h]
theorem le_set_geQ {H X : AHeap} {i : Nat} {o : AObj} (h : H.Le X) (hi : H.nx ≤ i) : H.Le (X.set i o) := ⟨h.nx, fun j x hj => by
  have := AHeap.get_lt hj
  rw [AHeap.get_set_ne _ _ (by omega)]
  exact h.get _ _ hj⟩
theorem readReqC_some {H : AHeap} {a b : Nat} {y : AV} (ha : H.get a = some (.cells zq)) (hb : H.get b = some (.cells [y])) (hab : a ≠ b) :
    ADefer Tryz.prog 116 [.ptr a 0, .ptr b 0] H (some (.iface 189 (.agg []))) ((H.set a (.cells zq)).set b (.cells [.int .i64 2])) := by
  refine ADefer.of_aw mixed (Ω := []) TblOk.nil (a := 5) (b := 2) Tryz.func116 (by rfl) (by rfl) (T := assoc []) (by kernel_rfl) (by decide) (by decide) (by simp only [Tryz.ntmps116, yaz, yba]; decide) fun hcl _ => ?_
  have la := AHeap.get_lt ha
  have lb := AHeap.get_lt hb
  have h1 := cells_some ha
  unfold zq at h1
  have h2 : ∀ o, cellsOf? (H.set a o) b = some [y] := fun o => (cells_set_farQ (fun e => hab e.symm) o).trans (cells_some hb)
  have n1 := ne_nx la
  have n2 := ne_nx lb
  change aw _ _ _ (KI Tryz.prog [] (dEnd H.nx _) []) _ _
  simp only [Option.getD_some, go_sem, reduceCtorEq, Nat.reduceEqDiff, Nat.reduceAdd, Nat.reduceMul, Nat.reduceSub, Nat.reduceLeDiff, Nat.reduceLT, Int.reduceMul, Int.reduceAdd, Int.reduceSub, Int.reduceToNat, dEnd_n, dEnd_r, dEnd_T, rAssert, h1, h2, n1, n2, zq]
  exact ⟨(AHeap.Le.refl _).push _, closed_set (closed_set hcl (by simp [znc, znd, zmn, lt_sliceL])) (by simp [znc, znd, zmn]), Nat.le_refl _⟩
theorem readReq_panic {H H1 X : AHeap} {y : AV} {fr : Fr} (hcl : H1.Closed) (hle : H1.Le X) (hn : H1.nx ≤ H.nx) (h0 : X.get H.nx = some (.cells zq)) (h1 : X.get (H.nx + 1) = some (.cells [y]))
    (f2 : Fr.get fr 2 = .ptr H.nx 0) (f3 : Fr.get fr 3 = .ptr (H.nx + 1) 0) :
    finD Tryz.prog [.cell 2 28, .cell 3 47] H1 (.tup [reqAV zReq, .int .i64 2]) 116 [.ptr H.nx 0, .ptr (H.nx + 1) 0] (some (.iface 189 (.agg []))) fr X := by
  refine ⟨_, readReqC_some (y := y) h0 h1 (by omega), ?_⟩
  have l0 := AHeap.get_lt h0
  have l1 := AHeap.get_lt h1
  have c2 : cellsOf? ((X.set H.nx (.cells zq)).set (H.nx + 1) (.cells [.int .i64 2])) (H.nx + 1) = some [.int .i64 2] := by
    rw [cells_set (show H.nx + 1 < (X.set H.nx (.cells zq)).nx from l1), if_pos rfl]
  have c1 : cellsOf? ((X.set H.nx (.cells zq)).set (H.nx + 1) (.cells [.int .i64 2])) H.nx = some zq := by
    rw [cells_set_farQ (by omega), cells_set l0, if_pos rfl]
  have hl3 := le_set_geQ (le_set_geQ hle hn (o := .cells zq)) (show H1.nx ≤ H.nx + 1 by omega) (o := .cells [.int .i64 2])
  have z1 : (10 ≤ zq.length) = True := eq_true (by decide)
  have z2 : zq.take 10 = zq := rfl
  simp only [resL, resA, f2, f3, zio, go_sem, c1, c2, zip, TD.agg, yag, yau, one, z1, z2, yap]
  refine ⟨?_, hl3, hcl, ?_⟩
  · simp [wk, wkLL, wk2, wkL, wk1, wkM, reqAV, reqC, zReq, zkt, zq]
  · rw [zna]
    exact ⟨lt_req _, by rw [zmn]; trivial, trivial⟩
end Go.AL


open Go Go.AL Go.Proofs
namespace Go.AL
set_option linter.all false
set_option maxRecDepth 10000

/-- a request whose kind is not permitted -/
def e_mReadReqZ : List AV → AHeap → (AEnd → AHeap → Prop) → Prop
  | [.ptr id 0], H, K => onR H id fun m l e => badKd (uintR (m, l, e) 1) 6 = true ∧ K (.ret (.tup [reqAV zReq, .int .i64 2])) (H.set id (.cells (cellR (uintR (m, l, e) 1).2)))
  | _, _, _ => False
set_option maxHeartbeats 4000000 in
theorem ok_mReadReqZ : EntOk Tryz.prog 61 (Ent.effect e_mReadReqZ) := by
  refine EntOk.effect fun args H K h => ?_
  unfold e_mReadReqZ at h
  split at h
  rotate_left
  · exact h.elim
  rename_i id
  obtain ⟨m, l, e, hid, hle, h⟩ := onR_out h
  obtain ⟨hpre, hK⟩ := h
  refine ⟨_, _, hK, ?_⟩
  clear hK
  have hl0 := AHeap.get_lt hid
  have hne := far_of hl0
  have hss := set_same hid
  have hcs := cells_some hid
  have hcm := fun cs => @cells_set_same H id cs hl0
  have hgm := fun o => @get_set_same' H id o hl0
  obtain ⟨Q, hQ⟩ : ∃ Q, uintR (m, l, e) 1 = Q := ⟨_, rfl⟩
  have hQl := uintR_l m l e 1
  have hQm := uintR_m m l e 1
  rw [hQ] at hQl hQm hpre ⊢
  obtain ⟨n, m1, l1, e1⟩ := Q
  dsimp only at hQl hQm
  refine ACalls.of_defer mixed (Ω := [(117, Ent.effect e_mKind)]) (TblOk.cons ok_mKind TblOk.nil) (T := assoc [(8, [[], [], [], [0, 2], [0, 2]])]) (d := 6) (caps := [2, 3]) Tryz.func61 (by kernel_rfl) Tryz.func116 (by kernel_rfl) (by rfl) (by rfl) (rs := [.cell 2 28, .cell 3 47]) (by rfl) (by kernel_rfl) (by kernel_rfl) (by decide) (by simp only [Tryz.ntmps61, yaz, yba]; decide) (by simp only [zkn]; omega) fun hcl hlt => ?_
  have hcl1 := fun l' e' => closedR hid hcl m (.inl rfl) l' e'
  have hcl2 := fun l' e' => closedR hid hcl .any (.inr rfl) l' e'
  have hcl3 : (H.set id (.cells [.slice m1 1 (bys l1), .int .i64 e1])).Closed := by
    rcases hQm with rfl | rfl
    · exact hcl1 _ _
    · exact hcl2 _ _
  show aw _ _ _ (KI Tryz.prog [(117, Ent.effect e_mKind)] (contA _ _ _ _ _ _ _ _ _ _ _) []) _ _
  simp only [go_sem, reduceCtorEq, Nat.reduceEqDiff, Nat.reduceAdd, Nat.reduceMul, Nat.reduceSub, Nat.reduceLeDiff, Nat.reduceLT, Int.reduceMul, Int.reduceAdd, Int.reduceSub, Int.reduceToNat, contA_n, contA_T, contD_T, bhq, Nat.reduceMod, Nat.reduceDiv, stepH, stepM, toMs1, toMs, toMs0, strK, pubK, pubF, pubV, yaq, yar, yao, yap, hne, hid, hcs, hgm, hcm, e_mKind, onR, onRo_some, hQ, cellR, hpre, if_true, contD_p]
  refine ⟨hle, ?_⟩
  refine readReq_panic (H := H) (y := .int .i64 0) hcl3 (((AHeap.Le.refl _).push _).push _) (by simp only [zkn]; omega) ?_ ?_ rfl rfl
  · rw [AHeap.get_push_lt _ _ (by simp only [zkm, zkn]; omega)]
    exact AHeap.get_push_new _ _
  · exact AHeap.get_push_new _ _
def p_mDecZ : List AV → AHeap → (AV → Prop) → Prop
  | [.slice _ 1 l], _, K => ∃ b : List UInt8, (l = bys b ∧ b.length ≤ 10000 ∧ badKd (uintR (.any, b, 0) 1) 6 = true) ∧ K (.tup [reqAV zReq, .int .i64 (if 8000 < b.length then 3 else 2)])
  | _, _, _ => False
set_option maxHeartbeats 4000000 in
theorem ok_mDecZ : EntOk Tryz.prog 23 (Ent.pure p_mDecZ) := by
  refine EntOk.pure fun args H K h => ?_
  unfold p_mDecZ at h
  split at h
  rotate_left
  · exact h.elim
  rename_i m l
  obtain ⟨b, ⟨rfl, hb, hk⟩, hK⟩ := h
  refine ⟨_, hK, ?_⟩
  clear hK
  refine ACalls.of_aw (Ω := [(62, Ent.effect e_New), (61, Ent.effect e_mReadReqZ)]) (T := assoc []) mixed (TblOk.cons ok_New (TblOk.cons ok_mReadReqZ TblOk.nil)) Tryz.func23 (by kernel_rfl) (by rfl) (rs := [.cell 2 28,.tmp 3]) (by rfl) (by kernel_rfl) (by simp only [Tryz.ntmps23, yaz, yba]; decide) (Nat.le_refl _) fun hcl hlt => ?_
  change aw _ _ _ (KI Tryz.prog [(62, Ent.effect e_New), (61, Ent.effect e_mReadReqZ)] (aEnd Tryz.prog [.cell 2 28,.tmp 3] H.nx _ _ (assoc [])) []) _ _
  clear hlt
  simp only [go_sem, reduceCtorEq, Nat.reduceEqDiff, Nat.reduceAdd, Nat.reduceMul, Nat.reduceSub, Nat.reduceLeDiff, Nat.reduceLT, Int.reduceMul, Int.reduceAdd, Int.reduceSub, Int.reduceToNat, byq]
  refine cond_split (fun h1 => ?_) (fun h1 => ?_)
  · have h1' : 8000 < b.length := by simp at h1; omega
    simp only [go_sem, reduceCtorEq, Nat.reduceEqDiff, Nat.reduceAdd, Nat.reduceMul, Nat.reduceSub, Nat.reduceLeDiff, Nat.reduceLT, Int.reduceMul, Int.reduceAdd, Int.reduceSub, Int.reduceToNat, byq, h1', if_true]
    refine ⟨?_, by repeat (first | exact AHeap.Le.refl _ | refine AHeap.Le.push ?_ _), hcl, ?_⟩
    · simp [wk, wkLL, wk2, wkL, wk1, wkM, reqAV, reqC, zReq, zkt]
    · rw [zna]
      exact ⟨lt_req _, by rw [zmn]; trivial, trivial⟩
  · have h1' : ¬ 8000 < b.length := by simp at h1; omega
    simp only [go_sem, reduceCtorEq, Nat.reduceEqDiff, Nat.reduceAdd, Nat.reduceMul, Nat.reduceSub, Nat.reduceLeDiff, Nat.reduceLT, Int.reduceMul, Int.reduceAdd, Int.reduceSub, Int.reduceToNat, byq, if_neg h1', e_New, e_mReadReqZ, onR, onRo_some, hk, reqAV, reqC]
    refine ⟨by omega, by omega, ?_⟩
    have e2 : ((2 : Int) != 0) = true := rfl
    simp only [go_sem, reduceCtorEq, Nat.reduceEqDiff, Nat.reduceAdd, Nat.reduceMul, Nat.reduceSub, Nat.reduceLeDiff, Nat.reduceLT, Int.reduceMul, Int.reduceAdd, Int.reduceSub, Int.reduceToNat, byq, e2]
    refine ⟨?_, by repeat (first | exact AHeap.Le.refl _ | refine AHeap.Le.push ?_ _), hcl, ?_⟩
    · simp [wk, wkLL, wk2, wkL, wk1, wkM, reqAV, reqC, zReq, zkt]
    · rw [zna]
      exact ⟨lt_req _, by rw [zmn]; trivial, trivial⟩
end Go.AL


open Go Go.AL Go.Proofs
namespace Go.AL
set_option linter.all false
set_option maxRecDepth 10000

def limM (v : Nat) : SMatch := ⟨true, v, v, 7, v⟩
def limE (v : Nat) : SEntry := ⟨1, [limM v, limM v, limM v, limM v], 1, 1, [v, v, v, v]⟩
def limR (v k : Nat) : SReq := { zReq with kind := 3, role := 1, el := v, ups := List.replicate k (1, limE v) }
theorem limE_ok {v : Nat} (h : v < 2 ^ 128) : COk (limE v) := by
  refine ⟨⟨by show 4 ≤ 140737488355328; decide, by show 4 ≤ 140737488355328; decide, fun m hm => ?_⟩, fun x hx => ?_⟩
  · simp only [limE, List.mem_cons, List.not_mem_nil, or_false, or_self] at hm
    subst hm
    exact ⟨h, h, h⟩
  · simp only [limE, List.mem_cons, List.not_mem_nil, or_false, or_self] at hx
    subst hx; exact h
theorem limR_ok {v k : Nat} (h : v < 2 ^ 128) (hk : k ≤ 1000) : ROk (limR v k) :=
  ⟨h, by simp [limR]; omega, Nat.zero_le _, fun u hu => by
    have := List.eq_of_mem_replicate hu
    subst this; exact limE_ok h⟩
theorem limR_enc {v k : Nat} (h : v < 2 ^ 128) (hk : k ≤ 32) : (encR (limR v k)).2 = 0 ∨ (encR (limR v k)).2 = 3 := by
  have hp : permR (limR v k) = true := by
    rw [permR_split, Bool.and_eq_true]
    refine ⟨?_, (eqR_iff _ _).2 ?_⟩
    · unfold okR valid6
      rw [Bool.and_eq_true]
      refine ⟨by show decide ((1 : Int) ≤ 3 ∧ (3 : Int) ≤ 6) = true; decide, ?_⟩
      rw [List.all_eq_true]
      intro u hu
      have := List.eq_of_mem_replicate hu
      subst this; rfl
    · rfl
  have hn : numsR (limR v k) = true := by
    unfold numsR
    rw [Bool.and_eq_true]
    refine ⟨by rfl, ?_⟩
    rw [List.all_eq_true]
    intro u hu
    have := List.eq_of_mem_replicate hu
    subst this
    rfl
  have hl : (limR v k).ups.length ≤ 32 := by simp [limR]; omega
  have hb := nums_eq hp hl
  rw [hn] at hb
  unfold encR
  rw [if_neg (by rw [hp]; decide), if_neg (by rw [not_or]; exact ⟨by omega, by show ¬ 320 < 0; decide⟩), if_neg (by rw [hb]; decide)]
  split
  · exact .inr rfl
  · exact .inl rfl
theorem zeros_bad {n : Nat} (h : 0 < n) : badKd (uintR (.any, List.replicate n 0, 0) 1) 6 = true := by
  obtain ⟨m, rfl⟩ : ∃ m, n = m + 1 := ⟨n - 1, by omega⟩
  unfold uintR
  rw [if_neg (by show ¬ ((0 : Int) ≠ 0); decide), if_neg (by decide), if_neg (by dsimp only; rw [List.length_replicate]; omega)]
  rfl
def p_MessageLimits : List AV → AHeap → (AV → Prop) → Prop
  | [.int .i64 n, .agg [.int .u64 hi, .int .u64 lo]], _, K => (-9223372036854775808 ≤ n ∧ n < 9223372036854775808 ∧ isV hi lo) ∧ K (.bool true)
  | _, _, _ => False
set_option maxHeartbeats 8000000 in
theorem ok_MessageLimits : EntOk Tryz.prog 6 (Ent.pure p_MessageLimits) := by
  refine EntOk.pure fun args H K h => ?_
  unfold p_MessageLimits at h
  split at h
  rotate_left
  · exact h.elim
  rename_i n hi lo
  obtain ⟨⟨hn1, hn2, hab⟩, hK⟩ := h
  refine ⟨_, hK, ?_⟩
  clear hK
  obtain ⟨h', hh'⟩ : ∃ z, ior .u64 hi 9223372036854775808 = z := ⟨_, rfl⟩
  have hb' : isV h' lo := by
    have h1 : ∃ y, ior .u64 hi 9223372036854775808 = IntKind.u64.wrap y := ⟨_, rfl⟩
    obtain ⟨y, hy⟩ := h1
    have h2 : IntKind.u64.wrap y = y % 18446744073709551616 := rfl
    rw [hh', h2] at hy
    exact ⟨by omega, by omega, hab.2.2.1, hab.2.2.2⟩
  obtain ⟨v, hv, rfl, rfl, -⟩ := isV_out hb'
  refine ACalls.of_aw (Ω := [(22, Ent.pure p_ZMod), (15, Ent.pure p_mEncR), (16, Ent.pure p_xEncR), (23, Ent.pure p_mDecZ), (10, Ent.pure p_begun19)]) (T := assoc [(3, [[34]]), (5, [[1]]), (9, [[4]]), (10, [[4]]), (12, [[1]])]) mixed (TblOk.cons ok_ZMod (TblOk.cons ok_mEncR (TblOk.cons ok_xEncR (TblOk.cons ok_mDecZ (TblOk.cons ok_begun19 TblOk.nil))))) Tryz.func6 (by kernel_rfl) (by rfl) (rs := [.tmp 4]) (by rfl) (by kernel_rfl) (by simp only [Tryz.ntmps6, yaz, yba]; decide) (Nat.le_refl _) fun hcl hlt => ?_
  change aw _ _ _ (KI Tryz.prog [(22, Ent.pure p_ZMod), (15, Ent.pure p_mEncR), (16, Ent.pure p_xEncR), (23, Ent.pure p_mDecZ), (10, Ent.pure p_begun19)] (aEnd Tryz.prog [.tmp 4] H.nx _ _ (assoc [(3, [[34]]), (5, [[1]]), (9, [[4]]), (10, [[4]]), (12, [[1]])])) []) _ _
  clear hlt
  simp only [blkE, blkP, bhq, Nat.reduceMod, Nat.reduceDiv, stepH, stepM, toMs1, toMs, toMs0, strK, pubK, pubF, pubV, yaq, yar, yao, yap, go_sem, reduceCtorEq, Nat.reduceEqDiff, Nat.reduceAdd, Nat.reduceMul, Nat.reduceSub, Nat.reduceLeDiff, Nat.reduceLT, Int.reduceMul, Int.reduceAdd, Int.reduceSub, Int.reduceToNat, byq, hh']
  refine weak_slot 34 (entryAV (limE v)) ?_ ?_
  · simp [Fr.get, entryAV, entryC, limE, limM, matchAV, matchC, vc, vv, wkD_agg, wkD_slice, wkDL_cons, wkDL_nil, wkDR_cons, wkDR_nil, wkD_int, wkD_bool, wkM, wkDR_same]
  simp only [blkE, blkP, bhq, Nat.reduceMod, Nat.reduceDiv, stepH, stepM, toMs1, toMs, toMs0, strK, pubK, pubF, pubV, yaq, yar, yao, yap, go_sem, reduceCtorEq, Nat.reduceEqDiff, Nat.reduceAdd, Nat.reduceMul, Nat.reduceSub, Nat.reduceLeDiff, Nat.reduceLT, Int.reduceMul, Int.reduceAdd, Int.reduceSub, Int.reduceToNat, byq, hh', entryAV, entryC]
  refine weak_cell 7 4 6 (cs := [.int .i64 3, .int .i64 1, .int .u64 ((v / 2 ^ 64 : Nat) : Int), .int .u64 ((v % 2 ^ 64 : Nat) : Int), .slice .nil 1 [], .int .i64 0, .int .i64 0, .int .i64 0, .int .i64 0, .slice .nil 1 []]) rfl (by simp only [go_sem]) rfl ?_
  simp only [blkE, blkP, bhq, Nat.reduceMod, Nat.reduceDiv, stepH, stepM, toMs1, toMs, toMs0, strK, pubK, pubF, pubV, yaq, yar, yao, yap, go_sem, reduceCtorEq, Nat.reduceEqDiff, Nat.reduceAdd, Nat.reduceMul, Nat.reduceSub, Nat.reduceLeDiff, Nat.reduceLT, Int.reduceMul, Int.reduceAdd, Int.reduceSub, Int.reduceToNat, byq, hh', entryAV, entryC, List.set_cons_succ, List.set_cons_zero]
  obtain ⟨KK, hKK⟩ : ∃ KK : Nat, 25 + n % 6 = (KK : Int) := ⟨(25 + n % 6).toNat, by have := Int.emod_nonneg n (show (6 : Int) ≠ 0 by decide); omega⟩
  have hKb : KK ≤ 30 := by omega
  have hwK : IntKind.i64.wrap (25 + n % 6) = KK := by rw [hKK, wrap_i64] <;> omega
  have hcR : ∀ k : Nat, (((((((H.push (.cells [.int .u64 ((v / 2 ^ 64 : Nat) : Int), .int .u64 ((v % 2 ^ 64 : Nat) : Int)])).push (.cells [.bool true, (.int .u64 ((v / 2 ^ 64 : Nat) : Int)), (.int .u64 ((v % 2 ^ 64 : Nat) : Int)), (.int .u64 ((v / 2 ^ 64 : Nat) : Int)), (.int .u64 ((v % 2 ^ 64 : Nat) : Int)), .int .i64 7, (.int .u64 ((v / 2 ^ 64 : Nat) : Int)), (.int .u64 ((v % 2 ^ 64 : Nat) : Int))])).push (.buf 8 4)).push (.buf 2 4)).push (.cells [.int .i64 (limE v).table, .slice .any 8 ((limE v).ms.map matchAV), .int .i64 (limE v).prio, .int .i64 (limE v).act, .slice .any 2 ((limE v).args.map vv)])).push (.cells [.int .i64 3, .int .i64 1, (.int .u64 ((v / 2 ^ 64 : Nat) : Int)), (.int .u64 ((v % 2 ^ 64 : Nat) : Int)), .slice (.own (H.nx + 1 + 1 + 1 + 1 + 1 + 1)) 6 ((List.replicate k (1, limE v)).map updAV), .int .i64 0, .int .i64 0, .int .i64 0, .int .i64 0, .slice .nil 1 []])).push (.buf 6 k)).Closed := fun k => by
    have h0 : (((((((H.push (.cells [.int .u64 ((v / 2 ^ 64 : Nat) : Int), .int .u64 ((v % 2 ^ 64 : Nat) : Int)])).push (.cells [.bool true, (.int .u64 ((v / 2 ^ 64 : Nat) : Int)), (.int .u64 ((v % 2 ^ 64 : Nat) : Int)), (.int .u64 ((v / 2 ^ 64 : Nat) : Int)), (.int .u64 ((v % 2 ^ 64 : Nat) : Int)), .int .i64 7, (.int .u64 ((v / 2 ^ 64 : Nat) : Int)), (.int .u64 ((v % 2 ^ 64 : Nat) : Int))])).push (.buf 8 4)).push (.buf 2 4)).push (.cells [.int .i64 (limE v).table, .slice .any 8 ((limE v).ms.map matchAV), .int .i64 (limE v).prio, .int .i64 (limE v).act, .slice .any 2 ((limE v).args.map vv)])).push (.cells [])).push (.buf 6 k)).Closed := by
      repeat' (first | exact hcl | refine closed_buf ?_ | refine closed_cells ?_ ?_)
      · simp [znc, znd, zmn]
      · simp [znc, znd, zmn, zmo]
      · exact ltL_iff.2 fun j hj => AV.lt_cells (lt_entry (limE v)) j hj
      · trivial
    have h1 := closed_set (i := H.nx + 1 + 1 + 1 + 1 + 1) (cs := [.int .i64 3, .int .i64 1, (.int .u64 ((v / 2 ^ 64 : Nat) : Int)), (.int .u64 ((v % 2 ^ 64 : Nat) : Int)), .slice (.own (H.nx + 1 + 1 + 1 + 1 + 1 + 1)) 6 ((List.replicate k (1, limE v)).map updAV), .int .i64 0, .int .i64 0, .int .i64 0, .int .i64 0, .slice .nil 1 []]) h0 (by
      simp only [znc, znd, zmn, zkm, zkn, lt_sliceL, and_true, true_and]
      refine ⟨⟨fun id e => by cases e; omega, ltL_iff.2 fun j hj => by rw [List.getElem_map]; exact lt_upd _⟩, fun id e => by cases e⟩)
    simp only [go_sem] at h1
    exact h1
  refine loop_introW (A := Nat) (fun k => [(0, .int .i64 n), (6, .ptr (H.nx + 1 + 1 + 1 + 1) 0), (7, .ptr (H.nx + 1 + 1 + 1 + 1 + 1) 0), (8, .int .i64 (k : Int))]) (fun k => (((((((H.push (.cells [.int .u64 ((v / 2 ^ 64 : Nat) : Int), .int .u64 ((v % 2 ^ 64 : Nat) : Int)])).push (.cells [.bool true, (.int .u64 ((v / 2 ^ 64 : Nat) : Int)), (.int .u64 ((v % 2 ^ 64 : Nat) : Int)), (.int .u64 ((v / 2 ^ 64 : Nat) : Int)), (.int .u64 ((v % 2 ^ 64 : Nat) : Int)), .int .i64 7, (.int .u64 ((v / 2 ^ 64 : Nat) : Int)), (.int .u64 ((v % 2 ^ 64 : Nat) : Int))])).push (.buf 8 4)).push (.buf 2 4)).push (.cells [.int .i64 (limE v).table, .slice .any 8 ((limE v).ms.map matchAV), .int .i64 (limE v).prio, .int .i64 (limE v).act, .slice .any 2 ((limE v).args.map vv)])).push (.cells [.int .i64 3, .int .i64 1, (.int .u64 ((v / 2 ^ 64 : Nat) : Int)), (.int .u64 ((v % 2 ^ 64 : Nat) : Int)), .slice (.own (H.nx + 1 + 1 + 1 + 1 + 1 + 1)) 6 ((List.replicate k (1, limE v)).map updAV), .int .i64 0, .int .i64 0, .int .i64 0, .int .i64 0, .slice .nil 1 []])).push (.buf 6 k))) (fun k => k ≤ KK) (fun k => KK - k) 0 (by omega) ?_ fun k hk => ?_
  · refine ⟨by simp only [zjy, zkd, zkm, zkn]; omega, AHeap.Le.refl _, hcR 0, ?_, ?_⟩
    · simp [ltF, zmn, zmv, zkm, zkn]
      try omega
    · simp [subW, wk2, wk1, wkM, Fr.get]
  have e5 : IntKind.i64.wrap ((k : Int) + 1) = ((k + 1 : Nat) : Int) := by rw [wrap_i64] <;> omega
  simp only [go_sem, reduceCtorEq, Nat.reduceEqDiff, Nat.reduceAdd, Nat.reduceMul, Nat.reduceSub, Nat.reduceLeDiff, Nat.reduceLT, Int.reduceMul, Int.reduceAdd, Int.reduceSub, Int.reduceToNat, p_ZMod, hwK]
  refine ⟨⟨by omega, by omega, by decide, by decide⟩, ?_⟩
  refine cond_split (fun hc => ?_) (fun hc => ?_)
  · have hc' : k < KK := by simp at hc; omega
    simp only [go_sem, reduceCtorEq, Nat.reduceEqDiff, Nat.reduceAdd, Nat.reduceMul, Nat.reduceSub, Nat.reduceLeDiff, Nat.reduceLT, Int.reduceMul, Int.reduceAdd, Int.reduceSub, Int.reduceToNat, byq, ybb, List.length_replicate, updAV, updC, entryC, e5]
    refine ⟨⟨by omega, by omega, fun z hz => by rw [List.mem_singleton] at hz; subst hz; rfl⟩, k + 1, by omega, by omega, ?_⟩
    refine ⟨by simp only [zkm, zkn]; omega, ?_, hcR _, ?_, ?_⟩
    · simp only [List.replicate_succ', List.map_append, yae, yaf, updAV, updC, entryC, List.length_append, yaz, yba, yal, yak]
      repeat (first | exact AHeap.Le.refl _ | refine AHeap.Le.push ?_ _)
    · simp [ltF, zmn, zmv, zkm, zkn]
      try omega
    · simp [subW, wk2, wk1, wkM, Fr.get]
  · have hc' : k = KK := by simp at hc; omega
    subst hc'
    have hrk := limR_ok (v := v) (k := k) hv (by omega)
    have hre := limR_enc (v := v) (k := k) hv (by omega)
    have hwk : ∀ j : Nat, wkD (.agg [.int .i64 3, .int .i64 1, .int .u64 ((v / 2 ^ 64 : Nat) : Int), .int .u64 ((v % 2 ^ 64 : Nat) : Int), .slice (.own j) 6 ((List.replicate k (1, limE v)).map updAV), .int .i64 0, .int .i64 0, .int .i64 0, .int .i64 0, .slice .nil 1 []]) (reqAV (limR v k)) := fun j => by
      simp [reqAV, reqC, limR, zReq, wkD_agg, wkD_slice, wkDL_cons, wkDL_nil, wkDR_cons, wkDR_nil, wkD_int, wkD_bool, wkM, wkDR_same, zkt]
    generalize limR v k = rr at *
    simp only [blkE, blkP, bhq, Nat.reduceMod, Nat.reduceDiv, stepH, stepM, toMs1, toMs, toMs0, strK, pubK, pubF, pubV, yaq, yar, yao, yap, go_sem, reduceCtorEq, Nat.reduceEqDiff, Nat.reduceAdd, Nat.reduceMul, Nat.reduceSub, Nat.reduceLeDiff, Nat.reduceLT, Int.reduceMul, Int.reduceAdd, Int.reduceSub, Int.reduceToNat, byq]
    refine weak_slot 52 (reqAV rr) (hwk _) ?_
    simp only [blkE, blkP, bhq, Nat.reduceMod, Nat.reduceDiv, stepH, stepM, toMs1, toMs, toMs0, strK, pubK, pubF, pubV, yaq, yar, yao, yap, go_sem, reduceCtorEq, Nat.reduceEqDiff, Nat.reduceAdd, Nat.reduceMul, Nat.reduceSub, Nat.reduceLeDiff, Nat.reduceLT, Int.reduceMul, Int.reduceAdd, Int.reduceSub, Int.reduceToNat, byq, reqAV, reqC, p_mEncR]
    refine ⟨rr, ⟨rfl, hrk⟩, ?_⟩
    obtain ⟨⟨bb, ee⟩, hE⟩ : ∃ R, encR rr = R := ⟨_, rfl⟩
    rw [hE] at hre ⊢
    dsimp only at hre
    simp only [blkE, blkP, bhq, Nat.reduceMod, Nat.reduceDiv, stepH, stepM, toMs1, toMs, toMs0, strK, pubK, pubF, pubV, yaq, yar, yao, yap, go_sem, reduceCtorEq, Nat.reduceEqDiff, Nat.reduceAdd, Nat.reduceMul, Nat.reduceSub, Nat.reduceLeDiff, Nat.reduceLT, Int.reduceMul, Int.reduceAdd, Int.reduceSub, Int.reduceToNat, byq, reqAV, reqC, p_mEncR]
    refine weak_slot 57 (reqAV rr) (hwk _) ?_
    simp only [blkE, blkP, bhq, Nat.reduceMod, Nat.reduceDiv, stepH, stepM, toMs1, toMs, toMs0, strK, pubK, pubF, pubV, yaq, yar, yao, yap, go_sem, reduceCtorEq, Nat.reduceEqDiff, Nat.reduceAdd, Nat.reduceMul, Nat.reduceSub, Nat.reduceLeDiff, Nat.reduceLT, Int.reduceMul, Int.reduceAdd, Int.reduceSub, Int.reduceToNat, byq, reqAV, reqC, p_xEncR]
    refine ⟨rr, ⟨rfl, hrk⟩, ?_⟩
    obtain ⟨NN, hNN⟩ : ∃ NN : Nat, 7998 + n % 5 = (NN : Int) := ⟨(7998 + n % 5).toNat, by have := Int.emod_nonneg n (show (5 : Int) ≠ 0 by decide); omega⟩
    have hNb : 0 < NN ∧ NN ≤ 8002 := by omega
    have hwN : IntKind.i64.wrap (7998 + n % 5) = NN := by rw [hNN, wrap_i64] <;> omega
    rw [hE]
    simp only [blkE, blkP, bhq, Nat.reduceMod, Nat.reduceDiv, stepH, stepM, toMs1, toMs, toMs0, strK, pubK, pubF, pubV, yaq, yar, yao, yap, go_sem, reduceCtorEq, Nat.reduceEqDiff, Nat.reduceAdd, Nat.reduceMul, Nat.reduceSub, Nat.reduceLeDiff, Nat.reduceLT, Int.reduceMul, Int.reduceAdd, Int.reduceSub, Int.reduceToNat, byq, p_ZMod, hwN, Int.toNat_natCast]
    refine ⟨⟨by omega, by omega, by decide, by decide⟩, ⟨by omega, by omega, by omega⟩, ?_⟩
    refine weak_here [(9, .slice .any 1 (bys bb)), (10, .int .i64 ee), (11, .slice .any 1 (bys bb)), (12, .int .i64 ee), (13, .slice .any 1 (bys (List.replicate NN 0)))] H ?_ ?_
    · refine ⟨Nat.le_refl _, by repeat (first | exact AHeap.Le.refl _ | refine AHeap.Le.push ?_ _), hcl, ?_, ?_⟩
      · simp [ltF, zmn, zma]
      · simp [subW, wk2, wk1, wkM, Fr.get]
        simp only [go_sem]
        refine ⟨?_, zmd (by omega)⟩
        rw [zlz (by rw [List.length_replicate]; exact Nat.le_refl _), ybc (by rw [List.length_replicate]; exact Nat.le_refl _)]
    simp only [blkE, blkP, bhq, Nat.reduceMod, Nat.reduceDiv, stepH, stepM, toMs1, toMs, toMs0, strK, pubK, pubF, pubV, yaq, yar, yao, yap, go_sem, reduceCtorEq, Nat.reduceEqDiff, Nat.reduceAdd, Nat.reduceMul, Nat.reduceSub, Nat.reduceLeDiff, Nat.reduceLT, Int.reduceMul, Int.reduceAdd, Int.reduceSub, Int.reduceToNat, byq, p_mDecZ]
    refine ⟨List.replicate NN 0, ⟨rfl, by simp; omega, zeros_bad hNb.1⟩, ?_⟩
    simp only [blkE, blkP, bhq, Nat.reduceMod, Nat.reduceDiv, stepH, stepM, toMs1, toMs, toMs0, strK, pubK, pubF, pubV, yaq, yar, yao, yap, go_sem, reduceCtorEq, Nat.reduceEqDiff, Nat.reduceAdd, Nat.reduceMul, Nat.reduceSub, Nat.reduceLeDiff, Nat.reduceLT, Int.reduceMul, Int.reduceAdd, Int.reduceSub, Int.reduceToNat, byq, reqAV, reqC, List.length_replicate, p_begun19]
    have hfin : (((if 8000 < NN then (3 : Int) else 2) == 3) == decide ((NN : Int) > 8000)) = true := by
      by_cases h8 : 8000 < NN
      · have d8 : decide ((NN : Int) > 8000) = true := decide_eq_true (by omega)
        rw [if_pos h8, d8]; rfl
      · have d8 : decide ((NN : Int) > 8000) = false := decide_eq_false (by omega)
        rw [if_neg h8, d8]; rfl
    rw [hfin]
    have hok : ∀ o : AObj, endOk (H.push o) (.bool true) H (.bool true) := fun o => ⟨rfl, (AHeap.Le.refl _).push _, hcl, by rw [zmo]; trivial⟩
    refine both_split (fun _ => both_split (fun _ => both_split (fun h0 => both_split (fun _ => hok _) (fun h => by cases h)) (fun h0 => both_split (fun h3 => both_split (fun _ => hok _) (fun h => by cases h)) (fun h3 => ?_))) (fun h => by simp at h)) (fun h => by simp at h)
    rcases hre with hre | hre
    · rw [hre] at h0; cases h0
    · rw [hre] at h3; cases h3
end Go.AL

