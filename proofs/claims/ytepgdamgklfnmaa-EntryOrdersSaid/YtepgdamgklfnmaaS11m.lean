/- Contracts and plain laws, a part of the proof; no condition of its own. -/
import Derived.Test.YtepgdamgklfnmaaS11j
open List renaming length_cons → yaz, cons_append → yal, nil_append → yak, length_nil → yba, take_succ_cons → yaq, take_zero → yar, drop_succ_cons → yao, drop_zero → yap, append_nil → yaj, length_map → ybb, map_nil → yaf, map_cons → yae
open Go Go.AL Go.Proofs
namespace Go.AL
set_option linter.all false
set_option maxRecDepth 10000
theorem ti_fsmatch : ti Try.prog 23 = some ⟨.slice 88, 1, 24, .slice .nil 1 []⟩ := by kernel_rfl
theorem ti_fsval : ti Try.prog 24 = some ⟨.slice 29, 1, 24, .slice .nil 1 []⟩ := by kernel_rfl
attribute [go_sem] ti_fsmatch ti_fsval
def updM (w n : Int) (v : Nat) (m : SMatch) : SMatch :=
  if w = 5 then { m with present := !m.present } else if w = 6 then { m with value := v } else if w = 7 then { m with mask := v } else if w = 8 then { m with pfx := n }
  else if w = 9 then { m with high := v } else if w = 10 then noMatch else if w = 11 then ⟨true, 0, 0, 0, onesN (iand .i64 n 31)⟩ else { m with value := low v (iand .i64 n 31) }
theorem splice_at0 : ∀ (X Y : List AV) (f : Nat) (v : List AV), splice (X ++ Y) (X.length + f) v = X ++ splice Y f v
  | [], Y, f, v => by simp
  | x :: X, Y, f, v => by
    have := splice_at0 X Y f v
    rw [yaz, show X.length + 1 + f = X.length + f + 1 by omega]
    show x :: splice (X ++ Y) (X.length + f) v = _
    rw [this]; rfl
theorem flat_match (l : List SMatch) : (l.map matchAV).flatMap AV.cells = l.flatMap matchC := by
  rw [List.flatMap_map]; rfl
theorem flat_match_len : ∀ (l : List SMatch), (l.flatMap matchC).length = l.length * 8
  | [] => rfl
  | m :: l => by
    rw [List.flatMap_cons, List.length_append, flat_match_len l, yaz]
    show 8 + _ = _
    omega
theorem lt_flat_match (l : List SMatch) : ∀ x ∈ (l.map matchAV).flatMap AV.cells, AV.lt 0 x := fun x hx => by
  obtain ⟨y, hy, hx⟩ := List.mem_flatMap.1 hx
  obtain ⟨m, _, rfl⟩ := List.mem_map.1 hy
  obtain ⟨j, hj, rfl⟩ := List.getElem_of_mem hx
  exact AV.lt_cells (lt_match m) j hj
theorem rows_match (l : List SMatch) (k : Nat) : rowsOf 8 l.length (l.flatMap matchC ++ List.replicate k .junk) = l.map matchAV := by
  induction l with
  | nil => rfl
  | cons m l ih =>
    rw [List.flatMap_cons, List.append_assoc]
    show AV.agg _ :: rowsOf 8 l.length (List.drop 8 (matchC m ++ (l.flatMap matchC ++ List.replicate k .junk))) = _
    rw [show List.drop 8 (matchC m ++ (l.flatMap matchC ++ List.replicate k .junk)) = l.flatMap matchC ++ List.replicate k .junk from rfl, ih]
    rfl
theorem iand31 (a : Int) : 0 ≤ iand .i64 a 31 ∧ iand .i64 a 31 ≤ 31 := by
  have h : (BitVec.ofInt 64 a &&& BitVec.ofInt 64 31).toNat ≤ 31 := by
    rw [BitVec.toNat_and]
    exact Nat.and_le_right
  change 0 ≤ IntKind.i64.wrap ((BitVec.ofInt 64 a &&& BitVec.ofInt 64 31).toNat : Int) ∧ IntKind.i64.wrap ((BitVec.ofInt 64 a &&& BitVec.ofInt 64 31).toNat : Int) ≤ 31
  generalize (BitVec.ofInt 64 a &&& BitVec.ofInt 64 31).toNat = z at *
  rw [wrap_i64] <;> omega
theorem wk_ms {H' H1 : AHeap} {id sz n : Nat} {cs L : List AV} (h1 : cellsOf? H' id = some cs) (h2 : rowsOf sz n cs = L) (h3 : H1.get id = none) : wk1 H' H1 (.ms id 0 sz n) (.slice .any sz L) := by
  simp only [wk1, h1]; exact ⟨.inl trivial, trivial, h2.symm, h3⟩
theorem get_ge {H : AHeap} {i : Nat} (h : H.nx ≤ i) : H.get i = none := by unfold AHeap.get; rw [if_neg (by omega)]
theorem splice_at00 (X Y : List AV) (v : List AV) : splice (X ++ Y) X.length v = X ++ splice Y 0 v := splice_at0 X Y 0 v
theorem getD_at0 (X Y : List AV) (f : Nat) (d : AV) : (X ++ Y).getD (X.length + f) d = Y.getD f d := by
  rw [List.getD_eq_getElem?_getD, List.getD_eq_getElem?_getD, List.getElem?_append_right (by omega)]
  congr 2; omega
theorem getD_at00 (X Y : List AV) (d : AV) : (X ++ Y).getD X.length d = Y.getD 0 d := getD_at0 X Y 0 d
theorem tdiv_le {a : Int} (h1 : -9223372036854775808 ≤ a) (h2 : a ≤ 9223372036854775807) : -9223372036854775808 ≤ a.tdiv 16 ∧ a.tdiv 16 ≤ 9223372036854775807 := by
  rcases Int.le_total 0 a with h | h
  · rw [Int.tdiv_eq_ediv_of_nonneg h]; omega
  · obtain ⟨n, rfl⟩ : ∃ n, a = -n := ⟨-a, by omega⟩
    rw [Int.neg_tdiv, Int.tdiv_eq_ediv_of_nonneg (by omega)]; omega
theorem tdiv_wrap {a : Int} (h1 : -9223372036854775808 ≤ a) (h2 : a ≤ 9223372036854775807) : IntKind.i64.wrap (a.tdiv 16) = a.tdiv 16 := by
  rcases Int.le_total 0 a with h | h
  · rw [Int.tdiv_eq_ediv_of_nonneg h, wrap_i64] <;> omega
  · obtain ⟨n, rfl⟩ : ∃ n, a = -n := ⟨-a, by omega⟩
    rw [Int.neg_tdiv, Int.tdiv_eq_ediv_of_nonneg (by omega), wrap_i64] <;> omega
/-- the arms that write no match -/
def bentE (w n : Int) (v : Nat) (e : SEntry) : SEntry :=
  if w = 0 then { e with table := n } else if w = 1 then { e with prio := n } else if w = 2 then { e with act := n } else if w = 3 then { e with args := e.args ++ [v] }
  else if w = 4 then { e with ms := e.ms ++ [⟨iand .i64 n 1 == 1, v, 0, 0, 0⟩] } else e
theorem lt_flat_vv (l : List Nat) : ∀ x ∈ (l.map vv).flatMap AV.cells, AV.lt 0 x := fun x hx => by
  obtain ⟨y, hy, hx⟩ := List.mem_flatMap.1 hx
  obtain ⟨m, _, rfl⟩ := List.mem_map.1 hy
  obtain ⟨j, hj, rfl⟩ := List.getElem_of_mem hx
  exact AV.lt_cells (by simp [vv, zmx, zna, znb, zml]) j hj
theorem ltL_vcs {m : Nat} : ∀ l : List Nat, ltL m (l.flatMap vc)
  | [] => trivial
  | x :: l => by
    rw [List.flatMap_cons]
    simp only [vc, yal, yak, zna, zml, true_and]
    exact ltL_vcs l
theorem ltL_app {m : Nat} {x y : List AV} (h : ltL m x) (k : ltL m y) : ltL m (x ++ y) := by
  induction x with
  | nil => exact k
  | cons a x ih => exact ⟨h.1, ih h.2⟩
theorem ltL_junk {m : Nat} : ∀ k, ltL m (List.replicate k AV.junk)
  | 0 => trivial
  | k + 1 => ⟨by rw [AV.lt] <;> simp, ltL_junk k⟩
theorem flat_vv (l : List Nat) : (l.map vv).flatMap AV.cells = l.flatMap vc := by
  rw [List.flatMap_map]; rfl
theorem rows_vv (J : List AV) : ∀ (l : List Nat), rowsOf 2 l.length (l.flatMap vc ++ J) = l.map vv
  | [] => rfl
  | x :: l => by
    rw [List.flatMap_cons, List.append_assoc]
    show AV.agg _ :: rowsOf 2 l.length (List.drop 2 (vc x ++ (l.flatMap vc ++ J))) = _
    rw [show List.drop 2 (vc x ++ (l.flatMap vc ++ J)) = l.flatMap vc ++ J from rfl, rows_vv J l]
    rfl
theorem flat_vc_len : ∀ (l : List Nat), (l.flatMap vc).length = l.length * 2
  | [] => rfl
  | m :: l => by
    rw [List.flatMap_cons, List.length_append, flat_vc_len l, yaz]
    show 2 + _ = _
    omega
set_option maxHeartbeats 8000000 in
theorem ok_bent10 : EntOk Try.prog 9 (Ent.pure p_bent10) := by
  refine EntOk.pure fun args H K h => ?_
  unfold p_bent10 at h
  split at h
  rotate_left
  · exact h.elim
  rename_i le a b hi lo
  obtain ⟨e, ⟨rfl, he, ha1, ha2, hab⟩, hK⟩ := h
  obtain ⟨v, hv, rfl, rfl, -⟩ := isV_out hab
  have iv := isV_of hv
  clear hab
  obtain ⟨w, hw⟩ : ∃ w, a % 14 = w := ⟨_, rfl⟩
  by_cases h1 : e.ms ≠ [] ∧ (5 ≤ w ∧ w ≤ 11 ∨ w = 13)
  · obtain ⟨hne, hw1⟩ := h1
    have hb := he.m
    have hb2 := he.a
    have hpos : 0 < e.ms.length := List.length_pos_iff.2 hne
    obtain ⟨i, hi⟩ : ∃ i : Nat, a.tdiv 16 % (e.ms.length : Int) = (i : Int) := ⟨(a.tdiv 16 % (e.ms.length : Int)).toNat, by have := Int.emod_nonneg (a.tdiv 16) (show ((e.ms.length : Nat) : Int) ≠ 0 by omega); omega⟩
    have hil : i < e.ms.length := by have := Int.emod_lt_of_pos (a.tdiv 16) (show (0 : Int) < ((e.ms.length : Nat) : Int) by omega); omega
    obtain ⟨A, m, B, hABl, hAB⟩ : ∃ A m B, A.length = i ∧ e.ms = A ++ m :: B := ⟨e.ms.take i, e.ms[i], e.ms.drop (i + 1), by simp; omega, by rw [← List.drop_eq_getElem_cons hil, List.take_append_drop]⟩
    have hmo := he.c.ok.mo
    have hml := he.c.ok.ml
    have hal := he.c.ok.al
    obtain ⟨e', he'⟩ : ∃ e' : SEntry, e' = { e with ms := A ++ updM w b v m :: B } := ⟨_, rfl⟩
    have hupd : MOk (updM w b v m) := by
      have hm := hmo m (by rw [hAB]; simp)
      have h1 := low_ltO (w := iand .i64 b 31) hv
      have h2 := onesN_lt (iand .i64 b 31)
      unfold updM
      (repeat' split) <;> (refine ⟨?_, ?_, ?_⟩ <;> first | exact hv | exact hm.v | exact hm.k | exact hm.h | exact h1 | exact h2 | exact Nat.two_pow_pos 128 | (unfold noMatch; decide))
    have hce : COk e' := by
      subst he'
      refine ⟨⟨by rw [hAB] at hml; simpa using hml, hal, fun x hx => ?_⟩, he.c.ar⟩
      dsimp only at hx
      rw [List.mem_append, List.mem_cons] at hx
      rcases hx with hx | rfl | hx
      · exact hmo x (by rw [hAB]; simp [hx])
      · exact hupd
      · exact hmo x (by rw [hAB]; simp [hx])
    refine ⟨_, hK e' hce, ?_⟩
    clear hK
    refine ACalls.of_aw (Ω := [(19, Ent.pure p_ZMod), (36, Ent.pure p_rOnes), (10, Ent.pure p_cLow)]) (T := assoc [(1, [[], [], [], [2], [], [], [], [2, 6], [], [2, 6], [], [2, 6]]), (5, [[], [], [], [], [], [], [], [5]]), (801, [[100000], [100004]]), (1201, [[300000, 300004, 200003]]), (4, [[1]])]) mixed (TblOk.cons ok_ZMod (TblOk.cons ok_rOnes (TblOk.cons ok_cLow TblOk.nil))) Try.func9 (by kernel_rfl) (by rfl) (rs := [.cell 8 26]) (by rfl) (by kernel_rfl) (by simp only [Try.ntmps9, yaz, yba]; decide) (Nat.le_refl _) fun hcl hlt => ?_
    change aw _ _ _ (KI Try.prog [(19, Ent.pure p_ZMod), (36, Ent.pure p_rOnes), (10, Ent.pure p_cLow)] (aEnd Try.prog [.cell 8 26] H.nx _ _ (assoc [(1, [[], [], [], [2], [], [], [], [2, 6], [], [2, 6], [], [2, 6]]), (5, [[], [], [], [], [], [], [], [5]]), (801, [[100000], [100004]]), (1201, [[300000, 300004, 200003]]), (4, [[1]])])) []) _ _
    clear hlt
    have hie : (List.map matchAV e.ms).isEmpty = false := by
      cases hm : e.ms with
      | nil => exact absurd hm hne
      | cons x y => rfl
    have hone : ∀ z ∈ List.map matchAV e.ms, allOne z.cells = true := fun z hz => by
      obtain ⟨x, _, rfl⟩ := List.mem_map.1 hz; rfl
    have hone2 : ∀ z ∈ List.map vv e.args, allOne z.cells = true := fun z hz => by
      obtain ⟨x, _, rfl⟩ := List.mem_map.1 hz; rfl
    simp only [blkE, blkP, bhq, Nat.reduceMod, Nat.reduceDiv, stepH, stepM, toMs1, toMs, toMs0, strK, pubK, pubF, pubV, yaq, yar, yao, yap, go_sem, reduceCtorEq, Nat.reduceEqDiff, Nat.reduceAdd, Nat.reduceMul, Nat.reduceSub, Nat.reduceLeDiff, Nat.reduceLT, Int.reduceMul, Int.reduceAdd, Int.reduceSub, Int.reduceToNat, entryC, hie]
    refine ⟨⟨by omega, by omega, hone⟩, by simpa using hne, lt_flat_match e.ms, ⟨by omega, by omega, hone2⟩, ?_⟩
    refine weak_room (H.nx + 1 + 1 + 1) (cs := (e.ms.map matchAV).flatMap AV.cells) (by simp [zkn, heap_get_set, zkk, zkl]) fun k => ?_
    have d1 : decide ((e.ms.length : Int) > 0) = true := by simpa using hpos
    have htd := tdiv_wrap ha1 ha2
    have hil' : (i : Int) < (e.ms.length : Int) := by omega
    obtain ⟨C0, hC0⟩ : ∃ C0, C0 = A.flatMap matchC := ⟨_, rfl⟩
    obtain ⟨Z, hZ⟩ : ∃ Z, Z = B.flatMap matchC ++ List.replicate k .junk := ⟨_, rfl⟩
    have hC : i * 8 = C0.length := by rw [hC0, flat_match_len, hABl]
    have hfl : List.flatMap AV.cells (List.map matchAV e.ms) ++ List.replicate k .junk = C0 ++ (matchC m ++ Z) := by
      rw [flat_match, hAB, List.flatMap_append, List.flatMap_cons, hC0, hZ]; simp [List.append_assoc]
    have hlen : e.ms.length = (A ++ m :: B).length := by rw [hAB]
    have hrow : ∀ m' : SMatch, rowsOf 8 e.ms.length (C0 ++ (matchC m' ++ Z)) = (A ++ m' :: B).map matchAV := fun m' => by
      have := rows_match (A ++ m' :: B) k
      rw [List.flatMap_append, List.flatMap_cons, List.append_assoc, List.append_assoc] at this
      rw [hlen, hC0, hZ, ← this]
      simp
    have hrw := hrow (updM w b v m)
    clear hrow
    have hlC : C0.length + 8 ≤ (C0 ++ (matchC m ++ Z)).length := by simp only [List.length_append, matchC, vc, yaz, yba]; omega
    clear hC0 hZ
    have iw : a % 14 = w → w = 5 ∨ w = 6 ∨ w = 7 ∨ w = 8 ∨ w = 9 ∨ w = 10 ∨ w = 11 ∨ w = 13 := fun _ => by omega
    have iw := iw hw
    clear hw1
    rw [he']
    clear he' hce hupd
    have il := isV_of (low_ltO (w := iand .i64 b 31) hv)
    have ivz : isVz ((v / 2 ^ 64 : Nat) : Int) ((v % 2 ^ 64 : Nat) : Int) = True := iv
    have h31 : -9223372036854775808 ≤ iand .i64 b 31 ∧ iand .i64 b 31 < 9223372036854775808 := by
      have := iand31 b; omega
    have htb := tdiv_le ha1 ha2
    rcases iw with rfl | rfl | rfl | rfl | rfl | rfl | rfl | rfl
    all_goals
      simp only [updM, Int.reduceEq, noMatch, if_true, if_false, matchC, vc, yal, yak, Nat.zero_div, Nat.zero_mod, Int.natCast_zero] at hrw
      simp only [blkE, blkP, bhq, Nat.reduceMod, Nat.reduceDiv, stepH, stepM, toMs1, toMs, toMs0, strK, pubK, pubF, pubV, yaq, yar, yao, yap, go_sem, reduceCtorEq, Nat.reduceEqDiff, Nat.reduceAdd, Nat.reduceMul, Nat.reduceSub, Nat.reduceLeDiff, Nat.reduceLT, Int.reduceMul, Int.reduceAdd, Int.reduceSub, Int.reduceToNat, entryC, hie, d1, p_ZMod, p_rOnes, p_cLow, htd, hi, hw, Int.reduceBEq, hfl, Int.toNat_natCast, hC, splice_at0, splice_at00, getD_at0, getD_at00, matchC, vc, vv, yal, yak, hrw, ivz, vOf_back]
      (repeat with_reducible refine And.intro (by first | decide | omega | (simp only [List.length_append, yaz]; omega) | (simp [zib, zge, zgf, zgg, zgh]; done)) ?_)
      refine ⟨⟨rfl, wk_ms ?_ hrw (get_ge (by omega)), rfl, rfl, .inl ⟨.inl rfl, rfl, rfl⟩, trivial⟩, by repeat (first | exact AHeap.Le.refl _ | refine AHeap.Le.push ?_ _), hcl, lt_entry _⟩
      simp only [go_sem, splice_nil]
  by_cases h2 : e.args ≠ [] ∧ w = 12
  · obtain ⟨hane, rfl⟩ := h2
    have hb := he.m
    have hb2 := he.a
    have hpos : 0 < e.args.length := List.length_pos_iff.2 hane
    have hmo := he.c.ok.mo
    have hml := he.c.ok.ml
    have hal := he.c.ok.al
    have hone : ∀ z ∈ List.map matchAV e.ms, allOne z.cells = true := fun z hz => by
      obtain ⟨x, _, rfl⟩ := List.mem_map.1 hz; rfl
    have hone2 : ∀ z ∈ List.map vv e.args, allOne z.cells = true := fun z hz => by
      obtain ⟨x, _, rfl⟩ := List.mem_map.1 hz; rfl
    obtain ⟨e', he'⟩ : ∃ e' : SEntry, e' = { e with args := List.replicate e.args.length v } := ⟨_, rfl⟩
    have hce : COk e' := by
      subst he'
      exact ⟨⟨hml, by simpa using hal, hmo⟩, fun x hx => by rw [List.eq_of_mem_replicate hx]; exact hv⟩
    refine ⟨_, hK e' hce, ?_⟩
    clear hK
    have htd := tdiv_wrap ha1 ha2
    have htb := tdiv_le ha1 ha2
    have hidx : e.ms ≠ [] → (0 : Int) ≤ a.tdiv 16 % (e.ms.length : Int) ∧ a.tdiv 16 % (e.ms.length : Int) < (e.ms.length : Int) := fun h => by
      have : 0 < e.ms.length := List.length_pos_iff.2 h
      exact ⟨Int.emod_nonneg _ (by omega), Int.emod_lt_of_pos _ (by omega)⟩
    have hia : (List.map vv e.args).isEmpty = false := by
      cases hm : e.args with
      | nil => exact absurd hm hane
      | cons x y => rfl
    refine ACalls.of_aw (Ω := [(19, Ent.pure p_ZMod), (36, Ent.pure p_rOnes), (10, Ent.pure p_cLow)]) (T := assoc [(1, [[], [], [], [2], [], [], [], [2, 6], [], [2, 6], [], [2, 6]]), (5, [[], [], [], [], [], [], [], [5]]), (801, [[100000], [100004]]), (1201, [[300000, 300004, 200007]]), (4, [[1]])]) mixed (TblOk.cons ok_ZMod (TblOk.cons ok_rOnes (TblOk.cons ok_cLow TblOk.nil))) Try.func9 (by kernel_rfl) (by rfl) (rs := [.cell 8 26]) (by rfl) (by kernel_rfl) (by simp only [Try.ntmps9, yaz, yba]; decide) (Nat.le_refl _) fun hcl hlt => ?_
    change aw _ _ _ (KI Try.prog [(19, Ent.pure p_ZMod), (36, Ent.pure p_rOnes), (10, Ent.pure p_cLow)] (aEnd Try.prog [.cell 8 26] H.nx _ _ (assoc [(1, [[], [], [], [2], [], [], [], [2, 6], [], [2, 6], [], [2, 6]]), (5, [[], [], [], [], [], [], [], [5]]), (801, [[100000], [100004]]), (1201, [[300000, 300004, 200007]]), (4, [[1]])])) []) _ _
    clear hlt
    rw [he']
    clear he' hce
    obtain ⟨M, hM⟩ : ∃ M, (if (List.map matchAV e.ms).isEmpty = true then Mark.full else Mark.own (H.nx + 1 + 1 + 1)) = M := ⟨_, rfl⟩
    have hMl : ∀ id, M = .own id → id < H.nx + 1 + 1 + 1 + 1 := fun id h => by
      rw [← hM] at h; split at h <;> cases h; omega
    simp only [blkE, blkP, bhq, Nat.reduceMod, Nat.reduceDiv, stepH, stepM, toMs1, toMs, toMs0, strK, pubK, pubF, pubV, yaq, yar, yao, yap, go_sem, reduceCtorEq, Nat.reduceEqDiff, Nat.reduceAdd, Nat.reduceMul, Nat.reduceSub, Nat.reduceLeDiff, Nat.reduceLT, Int.reduceMul, Int.reduceAdd, Int.reduceSub, Int.reduceToNat, entryC, hia, hM]
    refine ⟨⟨by omega, by omega, hone⟩, ⟨by omega, by omega, hone2⟩, by simpa using hane, lt_flat_vv e.args, ?_⟩
    refine weak_room (H.nx + 1 + 1 + 1 + 1) (cs := (e.args.map vv).flatMap AV.cells) (by simp [zkn, heap_get_set, zkk, zkl]) fun k => ?_
    have hJl : ∀ m, ltL m (List.replicate k AV.junk) := fun m => ltL_junk k
    generalize List.replicate k AV.junk = J at *
    rw [flat_vv]
    obtain ⟨HL, hHL⟩ : ∃ HL : List AV → AHeap, HL = fun cs => (((((H.push (AObj.cells [AV.int IntKind.i64 e.table, AV.slice M 8 (List.map matchAV e.ms), AV.int IntKind.i64 e.prio, AV.int IntKind.i64 e.act, AV.ms (H.nx + 1 + 1 + 1 + 1) 0 2 e.args.length])).push (AObj.cells [AV.int IntKind.u64 ((v / 2 ^ 64 : Nat) : Int), AV.int IntKind.u64 ((v % 2 ^ 64 : Nat) : Int)])).push (AObj.cells [AV.int IntKind.i64 0, AV.slice Mark.nil 1 [], AV.int IntKind.i64 0, AV.int IntKind.i64 0, AV.slice Mark.nil 1 []])).push (AObj.buf 8 e.ms.length)).push (AObj.cells cs)).push (AObj.cells [AV.bool false, AV.int IntKind.u64 0, AV.int IntKind.u64 0, AV.int IntKind.u64 0, AV.int IntKind.u64 0, AV.int IntKind.i64 0, AV.int IntKind.u64 0, AV.int IntKind.u64 0]) := ⟨_, rfl⟩
    have hclL : ∀ k, k ≤ e.args.length → (HL ((List.replicate k v).flatMap vc ++ ((e.args.drop k).flatMap vc ++ J))).Closed := fun k hk => by
      rw [hHL]
      have h0 := closed_cells (cs := [AV.bool false, AV.int IntKind.u64 0, AV.int IntKind.u64 0, AV.int IntKind.u64 0, AV.int IntKind.u64 0, AV.int IntKind.i64 0, AV.int IntKind.u64 0, AV.int IntKind.u64 0]) (closed_cells (cs := (List.replicate k v).flatMap vc ++ ((e.args.drop k).flatMap vc ++ J)) (closed_buf (a := 8) (b := e.ms.length) (closed_cells (cs := [AV.int IntKind.i64 0, AV.slice Mark.nil 1 [], AV.int IntKind.i64 0, AV.int IntKind.i64 0, AV.slice Mark.nil 1 []]) (closed_cells (cs := [AV.int IntKind.u64 ((v / 2 ^ 64 : Nat) : Int), AV.int IntKind.u64 ((v % 2 ^ 64 : Nat) : Int)]) (closed_cells (cs := []) hcl trivial) (by simp [zna, znb, zml])) (by simp [zna, znb, zml, lt_sliceL]))) (ltL_app (ltL_vcs _) (ltL_app (ltL_vcs _) (hJl _)))) (by simp [zna, znb, zml, zmm])
      have h1 := closed_set (i := H.nx) (cs := [AV.int IntKind.i64 e.table, AV.slice M 8 (List.map matchAV e.ms), AV.int IntKind.i64 e.prio, AV.int IntKind.i64 e.act, AV.ms (H.nx + 1 + 1 + 1 + 1) 0 2 e.args.length]) h0 (by
        simp only [zna, znb, zml, zmv, and_true, true_and, zkk]
        refine ⟨?_, by omega⟩
        rw [lt_sliceL]
        refine ⟨fun id h => by have := hMl id h; omega, ltL_iff.2 fun j hj => ?_⟩
        obtain ⟨x, _, e⟩ := List.mem_map.1 (List.getElem_mem hj)
        rw [← e]; exact lt_match x)
      simp only [go_sem] at h1
      exact h1
    rcases Classical.em (e.ms = []) with hm0 | hm0
    · have d1 : decide ((e.ms.length : Int) > 0) = false := by rw [hm0]; rfl
      simp only [blkE, blkP, bhq, Nat.reduceMod, Nat.reduceDiv, stepH, stepM, toMs1, toMs, toMs0, strK, pubK, pubF, pubV, yaq, yar, yao, yap, go_sem, reduceCtorEq, Nat.reduceEqDiff, Nat.reduceAdd, Nat.reduceMul, Nat.reduceSub, Nat.reduceLeDiff, Nat.reduceLT, Int.reduceMul, Int.reduceAdd, Int.reduceSub, Int.reduceToNat, entryC, hia, d1, p_ZMod, hw, Int.reduceBEq]
      refine ⟨by omega, ?_⟩
      refine loop_introW (A := Nat) (fun k => [(4, .ptr H.nx 0), (7, .ptr (H.nx + 1) 0), (8, .ptr (H.nx + 1 + 1) 0), (127, .int .i64 (e.args.length : Int)), (128, .int .i64 (k : Int))]) (fun k => HL ((List.replicate k v).flatMap vc ++ ((e.args.drop k).flatMap vc ++ J))) (fun k => k ≤ e.args.length) (fun k => e.args.length - k) 0 (by omega) ?_ fun k hk => ?_
      · rw [hHL]
        refine ⟨by simp only [zkk, zjw, zkb]; omega, AHeap.Le.refl _, by have := hclL 0 (Nat.zero_le _); rw [hHL] at this; exact this, ?_, ?_⟩
        · simp [ltF, zkk, zmt, zml]
          try omega
        · simp [subW, wk2, wk1, wkM, Fr.get]
      simp only [go_sem, reduceCtorEq, Nat.reduceEqDiff, Nat.reduceAdd, Nat.reduceMul, Nat.reduceSub, Nat.reduceLeDiff, Nat.reduceLT, Int.reduceMul, Int.reduceAdd, Int.reduceSub, Int.reduceToNat]
      refine cond_split (fun hc => ?_) (fun hc => ?_)
      · have hk' : k < e.args.length := by simp at hc; omega
        have e5 : IntKind.i64.wrap ((k : Int) + 1) = ((k + 1 : Nat) : Int) := by rw [wrap_i64] <;> omega
        obtain ⟨x, hx⟩ : ∃ x, x = e.args[k] := ⟨_, rfl⟩
        have hd : e.args.drop k = x :: e.args.drop (k + 1) := by rw [hx]; exact List.drop_eq_getElem_cons hk'
        have hC : k * 2 = ((List.replicate k v).flatMap vc).length := by rw [flat_vc_len, List.length_replicate]
        have hcl1 := hclL (k + 1) (by omega)
        have hrep : (List.replicate (k + 1) v).flatMap vc = (List.replicate k v).flatMap vc ++ vc v := by
          rw [List.replicate_succ', List.flatMap_append, List.flatMap_cons, List.flatMap_nil, yaj]
        rw [hHL]
        rw [hHL] at hcl1
        dsimp only at hcl1 ⊢
        rw [hrep] at hcl1
        rw [hd, List.flatMap_cons]
        have hlen : ((List.replicate k v).flatMap vc).length + 2 ≤ ((List.replicate k v).flatMap vc ++ (vc x ++ (e.args.drop (k + 1)).flatMap vc ++ J)).length := by simp only [List.length_append, vc, yaz, yba]; omega
        generalize (List.replicate k v).flatMap vc = C0 at *
        generalize hD0 : (e.args.drop (k + 1)).flatMap vc = D0 at *
        simp only [go_sem, reduceCtorEq, Nat.reduceEqDiff, Nat.reduceAdd, Nat.reduceMul, Nat.reduceSub, Nat.reduceLeDiff, Nat.reduceLT, Int.reduceMul, Int.reduceAdd, Int.reduceSub, Int.reduceToNat, Int.toNat_natCast, hC, splice_at0, splice_at00, vc, yal, yak, splice_nil, e5]
        (repeat with_reducible refine And.intro (by first | assumption | decide | omega | (simp only [List.length_append, yaz]; omega)) ?_)
        simp only [List.append_assoc, vc, yal, yak] at hcl1
        refine ⟨k + 1, by omega, by omega, by simp only [zkk]; omega, ?_, ?_, ?_, ?_⟩
        · rw [hrep, hD0]; simp only [List.append_assoc, vc, yal, yak]; exact AHeap.Le.refl _
        · rw [hrep, hD0]; simp only [List.append_assoc, vc, yal, yak]; exact hcl1
        · simp [ltF, zkk, zmt, zml]
          try omega
        · simp [subW, wk2, wk1, wkM, Fr.get]
      · have hk' : k = e.args.length := by simp at hc; omega
        subst hk'
        rw [hHL]
        simp only [go_sem, reduceCtorEq, Nat.reduceEqDiff, Nat.reduceAdd, Nat.reduceMul, Nat.reduceSub, Nat.reduceLeDiff, Nat.reduceLT, Int.reduceMul, Int.reduceAdd, Int.reduceSub, Int.reduceToNat, List.drop_length, List.flatMap_nil, yak]
        have hrw := rows_vv J (List.replicate e.args.length v)
        rw [List.length_replicate] at hrw
        refine ⟨⟨rfl, .inl ⟨.inl rfl, rfl, rfl⟩, rfl, rfl, wk_ms ?_ hrw (get_ge (by omega)), trivial⟩, by repeat (first | exact AHeap.Le.refl _ | refine AHeap.Le.push ?_ _), hcl, lt_entry _⟩
        simp only [go_sem]
    · have hi := hidx hm0
      have hm1 : 0 < e.ms.length := List.length_pos_iff.2 hm0
      have d1 : decide ((e.ms.length : Int) > 0) = true := decide_eq_true (by omega)
      simp only [blkE, blkP, bhq, Nat.reduceMod, Nat.reduceDiv, stepH, stepM, toMs1, toMs, toMs0, strK, pubK, pubF, pubV, yaq, yar, yao, yap, go_sem, reduceCtorEq, Nat.reduceEqDiff, Nat.reduceAdd, Nat.reduceMul, Nat.reduceSub, Nat.reduceLeDiff, Nat.reduceLT, Int.reduceMul, Int.reduceAdd, Int.reduceSub, Int.reduceToNat, entryC, hia, d1, p_ZMod, hw, htd, Int.reduceBEq]
      (repeat with_reducible refine And.intro (by first | decide | omega | (simp only [ybb]; omega)) ?_)
      refine loop_introW (A := Nat) (fun k => [(4, .ptr H.nx 0), (7, .ptr (H.nx + 1) 0), (8, .ptr (H.nx + 1 + 1) 0), (127, .int .i64 (e.args.length : Int)), (128, .int .i64 (k : Int))]) (fun k => HL ((List.replicate k v).flatMap vc ++ ((e.args.drop k).flatMap vc ++ J))) (fun k => k ≤ e.args.length) (fun k => e.args.length - k) 0 (by omega) ?_ fun k hk => ?_
      · rw [hHL]
        refine ⟨by simp only [zkk, zjw, zkb]; omega, AHeap.Le.refl _, by have := hclL 0 (Nat.zero_le _); rw [hHL] at this; exact this, ?_, ?_⟩
        · simp [ltF, zkk, zmt, zml]
          try omega
        · simp [subW, wk2, wk1, wkM, Fr.get]
      simp only [go_sem, reduceCtorEq, Nat.reduceEqDiff, Nat.reduceAdd, Nat.reduceMul, Nat.reduceSub, Nat.reduceLeDiff, Nat.reduceLT, Int.reduceMul, Int.reduceAdd, Int.reduceSub, Int.reduceToNat]
      refine cond_split (fun hc => ?_) (fun hc => ?_)
      · have hk' : k < e.args.length := by simp at hc; omega
        have e5 : IntKind.i64.wrap ((k : Int) + 1) = ((k + 1 : Nat) : Int) := by rw [wrap_i64] <;> omega
        obtain ⟨x, hx⟩ : ∃ x, x = e.args[k] := ⟨_, rfl⟩
        have hd : e.args.drop k = x :: e.args.drop (k + 1) := by rw [hx]; exact List.drop_eq_getElem_cons hk'
        have hC : k * 2 = ((List.replicate k v).flatMap vc).length := by rw [flat_vc_len, List.length_replicate]
        have hcl1 := hclL (k + 1) (by omega)
        have hrep : (List.replicate (k + 1) v).flatMap vc = (List.replicate k v).flatMap vc ++ vc v := by
          rw [List.replicate_succ', List.flatMap_append, List.flatMap_cons, List.flatMap_nil, yaj]
        rw [hHL]
        rw [hHL] at hcl1
        dsimp only at hcl1 ⊢
        rw [hrep] at hcl1
        rw [hd, List.flatMap_cons]
        have hlen : ((List.replicate k v).flatMap vc).length + 2 ≤ ((List.replicate k v).flatMap vc ++ (vc x ++ (e.args.drop (k + 1)).flatMap vc ++ J)).length := by simp only [List.length_append, vc, yaz, yba]; omega
        generalize (List.replicate k v).flatMap vc = C0 at *
        generalize hD0 : (e.args.drop (k + 1)).flatMap vc = D0 at *
        simp only [go_sem, reduceCtorEq, Nat.reduceEqDiff, Nat.reduceAdd, Nat.reduceMul, Nat.reduceSub, Nat.reduceLeDiff, Nat.reduceLT, Int.reduceMul, Int.reduceAdd, Int.reduceSub, Int.reduceToNat, Int.toNat_natCast, hC, splice_at0, splice_at00, vc, yal, yak, splice_nil, e5]
        (repeat with_reducible refine And.intro (by first | assumption | decide | omega | (simp only [List.length_append, yaz]; omega)) ?_)
        simp only [List.append_assoc, vc, yal, yak] at hcl1
        refine ⟨k + 1, by omega, by omega, by simp only [zkk]; omega, ?_, ?_, ?_, ?_⟩
        · rw [hrep, hD0]; simp only [List.append_assoc, vc, yal, yak]; exact AHeap.Le.refl _
        · rw [hrep, hD0]; simp only [List.append_assoc, vc, yal, yak]; exact hcl1
        · simp [ltF, zkk, zmt, zml]
          try omega
        · simp [subW, wk2, wk1, wkM, Fr.get]
      · have hk' : k = e.args.length := by simp at hc; omega
        subst hk'
        rw [hHL]
        simp only [go_sem, reduceCtorEq, Nat.reduceEqDiff, Nat.reduceAdd, Nat.reduceMul, Nat.reduceSub, Nat.reduceLeDiff, Nat.reduceLT, Int.reduceMul, Int.reduceAdd, Int.reduceSub, Int.reduceToNat, List.drop_length, List.flatMap_nil, yak]
        have hrw := rows_vv J (List.replicate e.args.length v)
        rw [List.length_replicate] at hrw
        refine ⟨⟨rfl, .inl ⟨.inl rfl, rfl, rfl⟩, rfl, rfl, wk_ms ?_ hrw (get_ge (by omega)), trivial⟩, by repeat (first | exact AHeap.Le.refl _ | refine AHeap.Le.push ?_ _), hcl, lt_entry _⟩
        simp only [go_sem]
  have hb := he.m
  have hb2 := he.a
  have hmo := he.c.ok.mo
  have hml := he.c.ok.ml
  have hal := he.c.ok.al
  have hone : ∀ z ∈ List.map matchAV e.ms, allOne z.cells = true := fun z hz => by
    obtain ⟨x, _, rfl⟩ := List.mem_map.1 hz; rfl
  have hone2 : ∀ z ∈ List.map vv e.args, allOne z.cells = true := fun z hz => by
    obtain ⟨x, _, rfl⟩ := List.mem_map.1 hz; rfl
  obtain ⟨e', he'⟩ : ∃ e' : SEntry, e' = bentE w b v e := ⟨_, rfl⟩
  have hce : COk e' := by
    subst he'
    unfold bentE
    repeat' split
    · exact ⟨⟨hml, hal, hmo⟩, he.c.ar⟩
    · exact ⟨⟨hml, hal, hmo⟩, he.c.ar⟩
    · exact ⟨⟨hml, hal, hmo⟩, he.c.ar⟩
    · refine ⟨⟨hml, by simp; omega, hmo⟩, fun x hx => ?_⟩
      rw [List.mem_append, List.mem_singleton] at hx
      rcases hx with hx | rfl
      · exact he.c.ar x hx
      · exact hv
    · refine ⟨⟨by simp; omega, hal, fun x hx => ?_⟩, he.c.ar⟩
      rw [List.mem_append, List.mem_singleton] at hx
      rcases hx with hx | rfl
      · exact hmo x hx
      · exact ⟨hv, Nat.two_pow_pos 128, Nat.two_pow_pos 128⟩
    · exact he.c
  refine ⟨_, hK e' hce, ?_⟩
  clear hK
  have htd := tdiv_wrap ha1 ha2
  have htb := tdiv_le ha1 ha2
  have il := isV_of (low_ltO (w := iand .i64 b 31) hv)
  have ivz : isVz ((v / 2 ^ 64 : Nat) : Int) ((v % 2 ^ 64 : Nat) : Int) = True := iv
  have h31 : -9223372036854775808 ≤ iand .i64 b 31 ∧ iand .i64 b 31 < 9223372036854775808 := by
    have := iand31 b; omega
  have iw : w = 0 ∨ w = 1 ∨ w = 2 ∨ w = 3 ∨ w = 4 ∨ w = 5 ∨ w = 6 ∨ w = 7 ∨ w = 8 ∨ w = 9 ∨ w = 10 ∨ w = 11 ∨ w = 12 ∨ w = 13 := by omega
  have hmi : List.map matchAV e.ms = [] ∨ ∃ x y, e.ms = x :: y := by cases e.ms with | nil => exact .inl rfl | cons x y => exact .inr ⟨x, y, rfl⟩
  refine ACalls.of_aw (Ω := [(19, Ent.pure p_ZMod), (36, Ent.pure p_rOnes), (10, Ent.pure p_cLow)]) (T := assoc [(1, [[], [], [], [2], [], [], [], [2, 6], [], [2, 6], [], [2, 6]]), (5, [[], [], [], [], [], [], [], [5]]), (801, [[100000], [100004]]), (1201, [[300000, 300004]])]) mixed (TblOk.cons ok_ZMod (TblOk.cons ok_rOnes (TblOk.cons ok_cLow TblOk.nil))) Try.func9 (by kernel_rfl) (by rfl) (rs := [.cell 8 26]) (by rfl) (by kernel_rfl) (by simp only [Try.ntmps9, yaz, yba]; decide) (Nat.le_refl _) fun hcl hlt => ?_
  change aw _ _ _ (KI Try.prog [(19, Ent.pure p_ZMod), (36, Ent.pure p_rOnes), (10, Ent.pure p_cLow)] (aEnd Try.prog [.cell 8 26] H.nx _ _ (assoc [(1, [[], [], [], [2], [], [], [], [2, 6], [], [2, 6], [], [2, 6]]), (5, [[], [], [], [], [], [], [], [5]]), (801, [[100000], [100004]]), (1201, [[300000, 300004]])])) []) _ _
  clear hlt
  rw [he']
  clear he' hce
  simp only [blkE, blkP, bhq, Nat.reduceMod, Nat.reduceDiv, stepH, stepM, toMs1, toMs, toMs0, strK, pubK, pubF, pubV, yaq, yar, yao, yap, go_sem, reduceCtorEq, Nat.reduceEqDiff, Nat.reduceAdd, Nat.reduceMul, Nat.reduceSub, Nat.reduceLeDiff, Nat.reduceLT, Int.reduceMul, Int.reduceAdd, Int.reduceSub, Int.reduceToNat, entryC]
  refine ⟨⟨by omega, by omega, hone⟩, ⟨by omega, by omega, hone2⟩, ?_⟩
  have hidx : e.ms ≠ [] → (0 : Int) ≤ a.tdiv 16 % (e.ms.length : Int) ∧ a.tdiv 16 % (e.ms.length : Int) < (e.ms.length : Int) := fun h => by
    have : 0 < e.ms.length := List.length_pos_iff.2 h
    exact ⟨Int.emod_nonneg _ (by omega), Int.emod_lt_of_pos _ (by omega)⟩
  have hms : e.ms = [] ∨ (List.map matchAV e.ms).isEmpty = false := by cases e.ms with | nil => exact .inl rfl | cons x y => exact .inr rfl
  have has : e.args = [] ∨ (List.map vv e.args).isEmpty = false := by cases e.args with | nil => exact .inl rfl | cons x y => exact .inr rfl
  have hz1 : ∀ z ∈ [AV.agg [AV.int .u64 ((v / 2 ^ 64 : Nat) : Int), AV.int .u64 ((v % 2 ^ 64 : Nat) : Int)]], allOne z.cells = true := fun z hz => by rw [List.mem_singleton.1 hz]; rfl
  have hz2 : ∀ z ∈ [AV.agg [AV.bool (iand .i64 b 1 == 1), AV.int .u64 ((v / 2 ^ 64 : Nat) : Int), AV.int .u64 ((v % 2 ^ 64 : Nat) : Int), AV.int .u64 0, AV.int .u64 0, AV.int .i64 0, AV.int .u64 0, AV.int .u64 0]], allOne z.cells = true := fun z hz => by rw [List.mem_singleton.1 hz]; rfl
  have hs3 := And.intro (show (e.args.length + 1) * 16 ≤ 140737488355328 by omega) (And.intro (show e.args.length ≤ 140737488355327 by omega) hz1)
  have hs4 := And.intro (show (e.ms.length + 1) * 64 ≤ 140737488355328 by omega) (And.intro (show e.ms.length ≤ 140737488355327 by omega) hz2)
  rcases hms with hm0 | hie
  · have d1 : decide ((e.ms.length : Int) > 0) = false := by rw [hm0]; rfl
    simp only [blkE, blkP, bhq, Nat.reduceMod, Nat.reduceDiv, stepH, stepM, toMs1, toMs, toMs0, strK, pubK, pubF, pubV, yaq, yar, yao, yap, go_sem, reduceCtorEq, Nat.reduceEqDiff, Nat.reduceAdd, Nat.reduceMul, Nat.reduceSub, Nat.reduceLeDiff, Nat.reduceLT, Int.reduceMul, Int.reduceAdd, Int.reduceSub, Int.reduceToNat, entryC, d1, p_ZMod, hw]
    refine ⟨⟨by omega, by omega, by omega, by omega⟩, ?_⟩
    have hie : (List.map matchAV e.ms).isEmpty = true := by rw [hm0]; rfl
    rcases has with ha0 | hia
    · have hia : (List.map vv e.args).isEmpty = true := by rw [ha0]; rfl
      rcases iw with rfl | rfl | rfl | rfl | rfl | rfl | rfl | rfl | rfl | rfl | rfl | rfl | rfl | rfl
      all_goals
        simp only [bentE, Int.reduceEq, if_true, if_false]
        simp only [blkE, blkP, bhq, Nat.reduceMod, Nat.reduceDiv, stepH, stepM, toMs1, toMs, toMs0, strK, pubK, pubF, pubV, yaq, yar, yao, yap, go_sem, reduceCtorEq, Nat.reduceEqDiff, Nat.reduceAdd, Nat.reduceMul, Nat.reduceSub, Nat.reduceLeDiff, Nat.reduceLT, Int.reduceMul, Int.reduceAdd, Int.reduceSub, Int.reduceToNat, entryC, p_rOnes, p_cLow, htd, Int.reduceBEq, Int.toNat_natCast, vc, vv, yal, yak, ivz, vOf_back, hie, hia, List.isEmpty_nil, List.isEmpty_cons, yaf]
        try refine loop_skip ?_
        try simp only [blkE, blkP, bhq, Nat.reduceMod, Nat.reduceDiv, stepH, stepM, toMs1, toMs, toMs0, strK, pubK, pubF, pubV, yaq, yar, yao, yap, go_sem, reduceCtorEq, Nat.reduceEqDiff, Nat.reduceAdd, Nat.reduceMul, Nat.reduceSub, Nat.reduceLeDiff, Nat.reduceLT, Int.reduceMul, Int.reduceAdd, Int.reduceSub, Int.reduceToNat, ha0, yba, Int.natCast_zero, Int.lt_irrefl, decide_false]
        (repeat with_reducible refine And.intro (by first | assumption | decide | omega) ?_)
        refine ⟨⟨rfl, .inl ⟨.inl rfl, rfl, ?_⟩, rfl, rfl, .inl ⟨.inl rfl, rfl, ?_⟩, trivial⟩, by repeat (first | exact AHeap.Le.refl _ | refine AHeap.Le.push ?_ _), hcl, lt_entry _⟩ <;> first | rfl | (rw [ha0]; rfl) | (simp only [List.map_append, yae, yaf, matchAV, matchC, vv, vc, yal, yak, Nat.zero_div, Nat.zero_mod, Int.natCast_zero]; done) | (simp only [ha0, List.map_append, yae, yaf, matchAV, matchC, vv, vc, yal, yak, Nat.zero_div, Nat.zero_mod, Int.natCast_zero]; done)
    · have h12 : w ≠ 12 := fun h => h2 ⟨fun h => by rw [h] at hia; simp at hia, h⟩
      have iw : w = 0 ∨ w = 1 ∨ w = 2 ∨ w = 3 ∨ w = 4 ∨ w = 5 ∨ w = 6 ∨ w = 7 ∨ w = 8 ∨ w = 9 ∨ w = 10 ∨ w = 11 ∨ w = 13 := by omega
      rcases iw with rfl | rfl | rfl | rfl | rfl | rfl | rfl | rfl | rfl | rfl | rfl | rfl | rfl
      all_goals
        simp only [bentE, Int.reduceEq, if_true, if_false]
        simp only [blkE, blkP, bhq, Nat.reduceMod, Nat.reduceDiv, stepH, stepM, toMs1, toMs, toMs0, strK, pubK, pubF, pubV, yaq, yar, yao, yap, go_sem, reduceCtorEq, Nat.reduceEqDiff, Nat.reduceAdd, Nat.reduceMul, Nat.reduceSub, Nat.reduceLeDiff, Nat.reduceLT, Int.reduceMul, Int.reduceAdd, Int.reduceSub, Int.reduceToNat, entryC, p_rOnes, p_cLow, htd, Int.reduceBEq, Int.toNat_natCast, vc, vv, yal, yak, ivz, vOf_back, hie, hia, List.isEmpty_nil, List.isEmpty_cons, yaf]
        (repeat with_reducible refine And.intro (by first | assumption | decide | omega) ?_)
        refine ⟨⟨rfl, .inl ⟨.inl rfl, rfl, ?_⟩, rfl, rfl, .inl ⟨.inl rfl, rfl, ?_⟩, trivial⟩, by repeat (first | exact AHeap.Le.refl _ | refine AHeap.Le.push ?_ _), hcl, lt_entry _⟩ <;> first | rfl | (rw [ha0]; rfl) | (simp only [List.map_append, yae, yaf, matchAV, matchC, vv, vc, yal, yak, Nat.zero_div, Nat.zero_mod, Int.natCast_zero]; done) | (simp only [ha0, List.map_append, yae, yaf, matchAV, matchC, vv, vc, yal, yak, Nat.zero_div, Nat.zero_mod, Int.natCast_zero]; done)
  · have hne : e.ms ≠ [] := fun h => by rw [h] at hie; simp at hie
    have hx1 : ¬ (5 ≤ w ∧ w ≤ 11 ∨ w = 13) := fun h => h1 ⟨hne, h⟩
    have hi := hidx hne
    have d1 : decide ((e.ms.length : Int) > 0) = true := decide_eq_true (by omega)
    simp only [blkE, blkP, bhq, Nat.reduceMod, Nat.reduceDiv, stepH, stepM, toMs1, toMs, toMs0, strK, pubK, pubF, pubV, yaq, yar, yao, yap, go_sem, reduceCtorEq, Nat.reduceEqDiff, Nat.reduceAdd, Nat.reduceMul, Nat.reduceSub, Nat.reduceLeDiff, Nat.reduceLT, Int.reduceMul, Int.reduceAdd, Int.reduceSub, Int.reduceToNat, entryC, d1, p_ZMod, hw, htd]
    (repeat with_reducible refine And.intro (by first | decide | omega | exact ⟨by omega, by omega, by omega, by omega⟩ | (simp only [ybb]; omega)) ?_)
    rcases has with ha0 | hia
    · have hia : (List.map vv e.args).isEmpty = true := by rw [ha0]; rfl
      have iw : w = 0 ∨ w = 1 ∨ w = 2 ∨ w = 3 ∨ w = 4 ∨ w = 12 := by omega
      rcases iw with rfl | rfl | rfl | rfl | rfl | rfl
      all_goals
        simp only [bentE, Int.reduceEq, if_true, if_false]
        simp only [blkE, blkP, bhq, Nat.reduceMod, Nat.reduceDiv, stepH, stepM, toMs1, toMs, toMs0, strK, pubK, pubF, pubV, yaq, yar, yao, yap, go_sem, reduceCtorEq, Nat.reduceEqDiff, Nat.reduceAdd, Nat.reduceMul, Nat.reduceSub, Nat.reduceLeDiff, Nat.reduceLT, Int.reduceMul, Int.reduceAdd, Int.reduceSub, Int.reduceToNat, entryC, p_rOnes, p_cLow, htd, Int.reduceBEq, Int.toNat_natCast, vc, vv, yal, yak, ivz, vOf_back, hie, hia, List.isEmpty_nil, List.isEmpty_cons, yaf]
        try refine loop_skip ?_
        try simp only [blkE, blkP, bhq, Nat.reduceMod, Nat.reduceDiv, stepH, stepM, toMs1, toMs, toMs0, strK, pubK, pubF, pubV, yaq, yar, yao, yap, go_sem, reduceCtorEq, Nat.reduceEqDiff, Nat.reduceAdd, Nat.reduceMul, Nat.reduceSub, Nat.reduceLeDiff, Nat.reduceLT, Int.reduceMul, Int.reduceAdd, Int.reduceSub, Int.reduceToNat, ha0, yba, Int.natCast_zero, Int.lt_irrefl, decide_false]
        (repeat with_reducible refine And.intro (by first | assumption | decide | omega) ?_)
        refine ⟨⟨rfl, .inl ⟨.inl rfl, rfl, ?_⟩, rfl, rfl, .inl ⟨.inl rfl, rfl, ?_⟩, trivial⟩, by repeat (first | exact AHeap.Le.refl _ | refine AHeap.Le.push ?_ _), hcl, lt_entry _⟩ <;> first | rfl | (rw [ha0]; rfl) | (simp only [List.map_append, yae, yaf, matchAV, matchC, vv, vc, yal, yak, Nat.zero_div, Nat.zero_mod, Int.natCast_zero]; done) | (simp only [ha0, List.map_append, yae, yaf, matchAV, matchC, vv, vc, yal, yak, Nat.zero_div, Nat.zero_mod, Int.natCast_zero]; done)
    · have h12 : w ≠ 12 := fun h => h2 ⟨fun h => by rw [h] at hia; simp at hia, h⟩
      have iw : w = 0 ∨ w = 1 ∨ w = 2 ∨ w = 3 ∨ w = 4 := by omega
      rcases iw with rfl | rfl | rfl | rfl | rfl
      all_goals
        simp only [bentE, Int.reduceEq, if_true, if_false]
        simp only [blkE, blkP, bhq, Nat.reduceMod, Nat.reduceDiv, stepH, stepM, toMs1, toMs, toMs0, strK, pubK, pubF, pubV, yaq, yar, yao, yap, go_sem, reduceCtorEq, Nat.reduceEqDiff, Nat.reduceAdd, Nat.reduceMul, Nat.reduceSub, Nat.reduceLeDiff, Nat.reduceLT, Int.reduceMul, Int.reduceAdd, Int.reduceSub, Int.reduceToNat, entryC, p_rOnes, p_cLow, htd, Int.reduceBEq, Int.toNat_natCast, vc, vv, yal, yak, ivz, vOf_back, hie, hia, List.isEmpty_nil, List.isEmpty_cons, yaf]
        (repeat with_reducible refine And.intro (by first | assumption | decide | omega) ?_)
        refine ⟨⟨rfl, .inl ⟨.inl rfl, rfl, ?_⟩, rfl, rfl, .inl ⟨.inl rfl, rfl, ?_⟩, trivial⟩, by repeat (first | exact AHeap.Le.refl _ | refine AHeap.Le.push ?_ _), hcl, lt_entry _⟩ <;> first | rfl | (rw [ha0]; rfl) | (simp only [List.map_append, yae, yaf, matchAV, matchC, vv, vc, yal, yak, Nat.zero_div, Nat.zero_mod, Int.natCast_zero]; done) | (simp only [ha0, List.map_append, yae, yaf, matchAV, matchC, vv, vc, yal, yak, Nat.zero_div, Nat.zero_mod, Int.natCast_zero]; done)
end Go.AL

