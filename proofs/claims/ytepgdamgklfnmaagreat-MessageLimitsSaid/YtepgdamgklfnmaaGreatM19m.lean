/- Contracts and plain laws, a part of the proof; no condition of its own. -/
import Derived.Test.YtepgdamgklfnmaaGreatM19j
open Go Go.AL Go.Proofs
namespace Go.AL
set_option linter.all false
set_option maxRecDepth 10000

def kOK (u : Int × SEntry) : Bool := decide (1 ≤ u.1 ∧ u.1 ≤ 3)
theorem kOK_all (l : List (Int × SEntry)) : (!l.any badK) = l.all kOK := by
  rw [← any_not]
  congr 2
  funext u
  unfold badK kOK
  rw [Bool.eq_iff_iff]; simp <;> omega
def numsR (r : SReq) : Bool := ([r.role, r.table, r.count, r.port].all fun n => rg n 2) && rg r.frm 4 && r.ups.all fun u => rgE u.2
def okR (r : SReq) : Bool := valid6 r && r.ups.all kOK
theorem permR_split (r : SReq) : permR r = (okR r && eqR (usedR r) r) := by
  unfold permR okR valid6
  rw [kOK_all, eqR_comm, Bool.and_assoc]
theorem rg0 (w : Int) : rg 0 w = true := by
  unfold rg
  refine decide_eq_true ⟨by omega, ?_⟩
  exact Int.pow_pos (by decide)
theorem any_badU {l : List (Int × SEntry)} (h : l.all kOK = true) : l.any badU = !l.all fun u => rgE u.2 := by
  induction l with
  | nil => rfl
  | cons u l ih =>
    rw [List.all_cons, Bool.and_eq_true] at h
    have hu : rg u.1 1 = true := by
      have := h.1
      unfold kOK at this
      have := of_decide_eq_true this
      exact decide_eq_true ⟨by omega, by show u.1 < 256; omega⟩
    rw [List.any_cons, List.all_cons, ih h.2]
    unfold badU
    rw [hu]
    simp
theorem nums_eq {r : SReq} (hp : permR r = true) (hu : r.ups.length ≤ 32) : (!rg r.kind 1 || badR r.kind r) = !numsR r := by
  rw [permR_split, Bool.and_eq_true] at hp
  obtain ⟨h1, h2⟩ := hp
  unfold okR at h1
  rw [Bool.and_eq_true] at h1
  obtain ⟨h1, h3⟩ := h1
  have hv := of_decide_eq_true h1
  have hk := kind_cases hv.1 hv.2
  have e := (eqR_iff _ _).1 h2
  have hb := any_badU h3
  have hul : rg (r.ups.length : Int) 2 = true := decide_eq_true ⟨by omega, by show (r.ups.length : Int) < 65536; omega⟩
  obtain ⟨k, ro, el, us, ta, fr, co, po, da⟩ := r
  dsimp only at hk hul hb hu
  have r1 : ∀ k, k = 1 ∨ k = 2 ∨ k = 3 ∨ k = 4 ∨ k = 5 ∨ k = 6 → rg k 1 = true := fun k h => decide_eq_true ⟨by omega, by show k < 256; omega⟩
  have hr1 := r1 k hk
  unfold usedR useR at e
  dsimp only at e
  rcases hk with rfl | rfl | rfl | rfl | rfl | rfl
  all_goals
    simp only [Int.reduceEq, if_true, if_false, zReq, SReq.mk.injEq, true_and, and_true] at e
    simp only [hr1, Bool.not_true, Bool.false_or, badR, Int.reduceEq, if_true, if_false, numsR]
  · obtain ⟨e1, e2, e3, e4, e5, e6⟩ := e
    subst e1 e2 e3 e4 e5 e6
    simp [rg0]
  · obtain ⟨e1, e2, e3, e4, e5, e6, e7, e8⟩ := e
    subst e1 e3 e4 e5 e6 e7
    simp [rg0]
  · obtain ⟨e1, e2, e3, e4, e5⟩ := e
    subst e1 e2 e3 e4 e5
    rw [hb, hul]
    simp [rg0]
  · obtain ⟨e1, e2, e3, e4, e5, e6⟩ := e
    subst e2 e3 e4 e5
    simp [rg0]
  · obtain ⟨e1, e2, e3, e4, e5⟩ := e
    subst e2 e3 e4
    simp [rg0]
    cases rg ro 2 <;> cases rg fr 4 <;> cases rg co 2 <;> rfl
  · obtain ⟨e1, e2, e3, e4, e5, e6⟩ := e
    subst e1 e3 e4 e5 e6
    simp [rg0]
theorem lit1 {k : Int} (h : k = 1 ∨ k = 2 ∨ k = 3 ∨ k = 4 ∨ k = 5 ∨ k = 6) : ∃ x : UInt8, AV.int .u8 (IntKind.u8.wrap k) = ofByte x ∧ wUint k 1 = [x] := by
  rcases h with rfl | rfl | rfl | rfl | rfl | rfl
  · exact ⟨1, rfl, rfl⟩
  · exact ⟨2, rfl, rfl⟩
  · exact ⟨3, rfl, rfl⟩
  · exact ⟨4, rfl, rfl⟩
  · exact ⟨5, rfl, rfl⟩
  · exact ⟨6, rfl, rfl⟩
def p_xEncR : List AV → AHeap → (AV → Prop) → Prop
  | [.agg l], _, K => ∃ r : SReq, (l = reqC r ∧ ROk r) ∧ K (.tup [.slice .any 1 (bys (encR r).1), .int .i64 (encR r).2])
  | _, _, _ => False
theorem xu_rc {r : SReq} (h : RC r) : RC (if valid6 r then usedR r else { zReq with kind := r.kind }) := by
  split
  · exact ⟨(useR_rc r.kind h).el, (useR_rc r.kind h).ul, (useR_rc r.kind h).uo⟩
  · exact ⟨Nat.two_pow_pos 128, Nat.zero_le _, fun u hu => by cases hu⟩
set_option maxHeartbeats 8000000 in
theorem ok_xEncR : EntOk Tryz.prog 16 (Ent.pure p_xEncR) := by
  refine EntOk.pure fun args H K h => ?_
  unfold p_xEncR at h
  split at h
  rotate_left
  · exact h.elim
  rename_i l
  obtain ⟨r, ⟨rfl, hr⟩, hK⟩ := h
  refine ⟨_, hK, ?_⟩
  clear hK
  have hul := hr.ul
  obtain ⟨RE, hRE⟩ : ∃ RE, encR r = RE := ⟨_, rfl⟩
  rw [hRE]
  have hru := xu_rc hr.rc
  obtain ⟨u, hu⟩ : ∃ u, (if valid6 r then usedR r else { zReq with kind := r.kind }) = u := ⟨_, rfl⟩
  rw [hu] at hru
  obtain ⟨V, hV⟩ : ∃ V, valid6 r = V := ⟨_, rfl⟩
  obtain ⟨N0, hN0⟩ : ∃ N0, (([r.role, r.table, r.count, r.port].all fun n => rg n 2) && rg r.frm 4) = N0 := ⟨_, rfl⟩
  obtain ⟨W4, hW4⟩ : ∃ W4, ([r.role, r.table, r.count, r.port].all fun n => rg n 2) = W4 := ⟨_, rfl⟩
  have hlr := fun n => lt_req (n := n) r
  have hlu := fun n => lt_req (n := n) u
  simp only [reqAV, zmz] at hlr hlu
  obtain ⟨HL, hHL⟩ : ∃ HL, HL = ((H.push (.cells (reqC r))).push (.buf 1 0)).push (.cells (reqC u)) := ⟨_, rfl⟩
  have hnL : HL.nx = H.nx + 1 + 1 + 1 := by rw [hHL]; rfl
  have hcrL : cellsOf? HL H.nx = some (reqC r) := by rw [hHL]; simp only [go_sem]
  have hcuL : cellsOf? HL (H.nx + 1 + 1) = some (reqC u) := by rw [hHL]; simp only [go_sem]
  have hleL : H.Le HL := by rw [hHL]; repeat (first | exact AHeap.Le.refl _ | refine AHeap.Le.push ?_ _)
  refine ACalls.of_aw (Ω := [(40, Ent.pure p_xUsed), (41, Ent.pure p_xWord), (42, Ent.pure p_xWithin), (43, Ent.pure p_xRanged), (19, Ent.pure p_rSameR), (45, Ent.effect e_rUint), (44, Ent.effect e_rValue), (47, Ent.effect e_rBytes), (46, Ent.effect e_rAppend10)]) (T := assoc [(18, [[], [], [], [2], [], [], [2, 3, 5]]), (20, [[], [], [], [2], [], [], [2, 3, 5]]), (25, [[], [], [], [2], [2], [2], [], [], [2, 3, 4, 5, 7]]), (28, [[], [], [], [2], [], [], [2, 3, 5]]), (30, [[], [], [], [2], [], [], [2, 3, 5], [], [], [2, 3, 5, 6, 8]]), (32, [[], [], [], [2], [], [], [2, 3, 5]])]) mixed (TblOk.cons ok_xUsed (TblOk.cons ok_xWord (TblOk.cons ok_xWithin (TblOk.cons ok_xRanged (TblOk.cons ok_rSameR (TblOk.cons ok_rUint (TblOk.cons ok_rValue (TblOk.cons ok_rBytes (TblOk.cons ok_rAppend10 TblOk.nil))))))))) Tryz.func16 (by kernel_rfl) (by rfl) (rs := [.tmp 2,.tmp 3]) (by rfl) (by kernel_rfl) (by simp only [Tryz.ntmps16, List.length_cons, List.length_nil]; decide) (Nat.le_refl _) fun hcl hlt => ?_
  change aw _ _ _ (KI Tryz.prog [(40, Ent.pure p_xUsed), (41, Ent.pure p_xWord), (42, Ent.pure p_xWithin), (43, Ent.pure p_xRanged), (19, Ent.pure p_rSameR), (45, Ent.effect e_rUint), (44, Ent.effect e_rValue), (47, Ent.effect e_rBytes), (46, Ent.effect e_rAppend10)] (aEnd Tryz.prog [.tmp 2,.tmp 3] H.nx _ _ (assoc [(18, [[], [], [], [2], [], [], [2, 3, 5]]), (20, [[], [], [], [2], [], [], [2, 3, 5]]), (25, [[], [], [], [2], [2], [2], [], [], [2, 3, 4, 5, 7]]), (28, [[], [], [], [2], [], [], [2, 3, 5]]), (30, [[], [], [], [2], [], [], [2, 3, 5], [], [], [2, 3, 5, 6, 8]]), (32, [[], [], [], [2], [], [], [2, 3, 5]])])) []) _ _
  clear hlt
  have hclL : HL.Closed := by rw [hHL]; exact closed_cells (closed_buf (closed_cells hcl (hlr _))) (hlu _)
  simp only [go_sem, reduceCtorEq, Nat.reduceEqDiff, Nat.reduceAdd, Nat.reduceMul, Nat.reduceSub, Nat.reduceLeDiff, Nat.reduceLT, Int.reduceMul, Int.reduceAdd, Int.reduceSub, Int.reduceToNat, reqC, p_xUsed]
  refine ⟨r, rfl, ?_⟩
  rw [hu, hV]
  simp only [go_sem, reduceCtorEq, Nat.reduceEqDiff, Nat.reduceAdd, Nat.reduceMul, Nat.reduceSub, Nat.reduceLeDiff, Nat.reduceLT, Int.reduceMul, Int.reduceAdd, Int.reduceSub, Int.reduceToNat, reqAV, reqC, p_xWord]
  refine ⟨[r.role, r.table, r.count, r.port], ⟨rfl, by simp⟩, ?_⟩
  rw [hW4]
  have hN0' : N0 = (W4 && rg r.frm 4) := by rw [← hN0, hW4]
  obtain ⟨OF, hOF⟩ : ∃ OF, (V && r.ups.all kOK) = OF := ⟨_, rfl⟩
  obtain ⟨NF, hNF⟩ : ∃ NF, (N0 && r.ups.all fun u => rgE u.2) = NF := ⟨_, rfl⟩
  have hok : okR r = OF := by rw [← hOF, ← hV]; rfl
  have hnu : numsR r = NF := by rw [← hNF, ← hN0]; rfl
  cases W4
  case' false =>
    rw [Bool.false_and] at hN0'
    simp only [go_sem, reduceCtorEq, Nat.reduceEqDiff, Nat.reduceAdd, Nat.reduceMul, Nat.reduceSub, Nat.reduceLeDiff, Nat.reduceLT, Int.reduceMul, Int.reduceAdd, Int.reduceSub, Int.reduceToNat, List.length_map]
  case' true =>
    rw [Bool.true_and] at hN0'
    simp only [go_sem, reduceCtorEq, Nat.reduceEqDiff, Nat.reduceAdd, Nat.reduceMul, Nat.reduceSub, Nat.reduceLeDiff, Nat.reduceLT, Int.reduceMul, Int.reduceAdd, Int.reduceSub, Int.reduceToNat, List.length_map, p_xWithin, rg4]
  all_goals
    refine loop_introW (A := Nat) (fun k => [(1, .ptr H.nx 0), (4, .ptr (H.nx + 1 + 1) 0), (5, .bool (V && (r.ups.take k).all kOK)), (6, .bool (N0 && (r.ups.take k).all fun u => rgE u.2)), (33, .slice .any 6 (r.ups.map updAV)), (34, .int .i64 (r.ups.length : Int)), (35, .int .i64 (k : Int))]) (fun _ => HL) (fun k => k ≤ r.ups.length) (fun k => r.ups.length - k) 0 (by omega) ?_ fun k hk => ?_
    · rw [hHL]
      refine ⟨by simp only [zjy, zkd, zkm]; omega, by simp only [reqC]; repeat (first | exact AHeap.Le.refl _ | refine AHeap.Le.push ?_ _), by rw [← hHL]; exact hclL, ?_, ?_⟩
      · simp [ltF, zmn, zmv, zmo, zkm, lt_map lt_upd]
        omega
      · simp [subW, wk2, wk1, wkM, Fr.get, hN0']
    simp only [go_sem, reduceCtorEq, Nat.reduceEqDiff, Nat.reduceAdd, Nat.reduceMul, Nat.reduceSub, Nat.reduceLeDiff, Nat.reduceLT, Int.reduceMul, Int.reduceAdd, Int.reduceSub, Int.reduceToNat]
    refine cond_split (fun hc => ?_) (fun hc => ?_)
    · have hk' : k < r.ups.length := by simp at hc; omega
      obtain ⟨x, hx⟩ : ∃ x, x = r.ups[k] := ⟨_, rfl⟩
      have hg := getD_map (f := updAV) (l := r.ups) (k := k) (x := x) (by rw [List.getElem?_eq_getElem hk', hx])
      have e5 : IntKind.i64.wrap ((k : Int) + 1) = ((k + 1 : Nat) : Int) := by rw [wrap_i64] <;> omega
      have hxo := hr.uo x (by rw [hx]; exact List.getElem_mem hk')
      have et : r.ups.take (k + 1) = r.ups.take k ++ [x] := by rw [hx, List.take_succ_eq_append_getElem hk']
      have eO : (V && (r.ups.take (k + 1)).all kOK) = ((V && (r.ups.take k).all kOK) && kOK x) := by rw [et, List.all_append, List.all_cons, List.all_nil, Bool.and_true, Bool.and_assoc]
      have eN : (N0 && (r.ups.take (k + 1)).all fun u => rgE u.2) = ((N0 && (r.ups.take k).all fun u => rgE u.2) && rgE x.2) := by rw [et, List.all_append, List.all_cons, List.all_nil, Bool.and_true, Bool.and_assoc]
      obtain ⟨xk, xe⟩ := x
      obtain ⟨O1, hO1⟩ : ∃ O1, (V && (r.ups.take (k + 1)).all kOK) = O1 := ⟨_, rfl⟩
      obtain ⟨N1, hN1⟩ : ∃ N1, (N0 && (r.ups.take (k + 1)).all fun u => rgE u.2) = N1 := ⟨_, rfl⟩
      rw [hO1] at eO
      rw [hN1] at eN
      have ekk : kOK (xk, xe) = decide (1 ≤ xk ∧ xk ≤ 3) := rfl
      rw [ekk] at eO
      dsimp only at eN hxo
      generalize (V && (r.ups.take k).all kOK) = Ok at *
      generalize (N0 && (r.ups.take k).all fun u => rgE u.2) = Nk at *
      cases Ok <;> cases Nk
      all_goals
        simp only [Bool.false_and, Bool.true_and] at eO eN
        simp only [go_sem, reduceCtorEq, Nat.reduceEqDiff, Nat.reduceAdd, Nat.reduceMul, Nat.reduceSub, Nat.reduceLeDiff, Nat.reduceLT, Int.reduceMul, Int.reduceAdd, Int.reduceSub, Int.reduceToNat, Int.toNat_natCast, List.length_map, hg, updAV, updC, entryC, p_xWithin, p_xRanged, e5]
        (repeat with_reducible refine And.intro (by first | assumption | decide | omega) ?_)
        try refine ⟨xe, ⟨rfl, hxo⟩, ?_⟩
        try simp only [go_sem, reduceCtorEq, Nat.reduceEqDiff, Nat.reduceAdd, Nat.reduceMul, Nat.reduceSub, Nat.reduceLeDiff, Nat.reduceLT, Int.reduceMul, Int.reduceAdd, Int.reduceSub, Int.reduceToNat, Int.toNat_natCast, List.length_map, e5]
        refine ⟨k + 1, by omega, by omega, by (try simp only [zkm]); omega, by repeat (first | exact AHeap.Le.refl _ | refine AHeap.Le.push ?_ _), hclL, ?_, ?_⟩
        · simp [ltF, zmn, zmv, zmo, hnL, lt_map lt_upd]
          omega
        · simp [subW, wk2, wk1, wkM, Fr.get, hO1, hN1, eO, eN]
    · have hk' : k = r.ups.length := by simp at hc; omega
      subst hk'
      rw [List.take_length, hOF, hNF]
      have hcr := hcrL
      have hcu := hcuL
      rw [reqC] at hcr hcu
      cases OF
      · have hp : permR r = false := by rw [permR_split, hok, Bool.false_and]
        have hE : RE = ([], 2) := by rw [← hRE]; unfold encR; rw [if_pos hp]
        subst hE
        simp only [go_sem, reduceCtorEq, Nat.reduceEqDiff, Nat.reduceAdd, Nat.reduceMul, Nat.reduceSub, Nat.reduceLeDiff, Nat.reduceLT, Int.reduceMul, Int.reduceAdd, Int.reduceSub, Int.reduceToNat, hcr, hcu]
        refine ⟨⟨.inl ⟨.inl rfl, rfl, rfl⟩, rfl, trivial⟩, by repeat (first | exact hleL | refine AHeap.Le.push ?_ _), hcl, ?_⟩
        first | exact lt_resB | exact lt_resB (l := [])
      · have hVt : V = true := by rw [Bool.and_eq_true] at hOF; exact hOF.1
        rw [hV, hVt, if_pos rfl] at hu
        have hp : permR r = eqR u r := by rw [permR_split, hok, Bool.true_and, hu]
        simp only [go_sem, reduceCtorEq, Nat.reduceEqDiff, Nat.reduceAdd, Nat.reduceMul, Nat.reduceSub, Nat.reduceLeDiff, Nat.reduceLT, Int.reduceMul, Int.reduceAdd, Int.reduceSub, Int.reduceToNat, hcr, hcu, p_rSameR]
        refine ⟨u, r, ⟨rfl, rfl, hru, hr.rc⟩, ?_⟩
        rw [← hp]
        cases hpp : permR r
        · have hE : RE = ([], 2) := by rw [← hRE]; unfold encR; rw [if_pos hpp]
          subst hE
          simp only [go_sem, reduceCtorEq, Nat.reduceEqDiff, Nat.reduceAdd, Nat.reduceMul, Nat.reduceSub, Nat.reduceLeDiff, Nat.reduceLT, Int.reduceMul, Int.reduceAdd, Int.reduceSub, Int.reduceToNat, hcr, hcu]
          refine ⟨⟨.inl ⟨.inl rfl, rfl, rfl⟩, rfl, trivial⟩, by repeat (first | exact hleL | refine AHeap.Le.push ?_ _), hcl, ?_⟩
          first | exact lt_resB | exact lt_resB (l := [])
        · skip
          have hE0 : RE = if 32 < r.ups.length ∨ 320 < r.data.length then ([], 3) else if (!rg r.kind 1 || badR r.kind r) = true then ([], 4) else if 8000 < (wireR r).length then ([], 3) else (wireR r, 0) := by
            rw [← hRE]; unfold encR; rw [if_neg (by rw [hpp]; decide)]
          simp only [go_sem, reduceCtorEq, Nat.reduceEqDiff, Nat.reduceAdd, Nat.reduceMul, Nat.reduceSub, Nat.reduceLeDiff, Nat.reduceLT, Int.reduceMul, Int.reduceAdd, Int.reduceSub, Int.reduceToNat, hcr, hcu, Bool.not_true]
          by_cases h1 : 32 < r.ups.length
          · have d1 : decide ((r.ups.length : Int) > 32) = true := decide_eq_true (by omega)
            rw [if_pos (.inl h1)] at hE0
            subst hE0
            simp only [List.length_map, d1]
            simp only [go_sem, reduceCtorEq, Nat.reduceEqDiff, Nat.reduceAdd, Nat.reduceMul, Nat.reduceSub, Nat.reduceLeDiff, Nat.reduceLT, Int.reduceMul, Int.reduceAdd, Int.reduceSub, Int.reduceToNat, byq, hcr, hcu, hnL]
            refine ⟨⟨.inl ⟨.inl rfl, rfl, rfl⟩, rfl, trivial⟩, by repeat (first | exact hleL | refine AHeap.Le.push ?_ _), hcl, ?_⟩
            first | exact lt_resB | exact lt_resB (l := [])
          have d1 : decide ((r.ups.length : Int) > 32) = false := decide_eq_false (by omega)
          by_cases h2 : 320 < r.data.length
          · have d2 : decide ((r.data.length : Int) > 320) = true := decide_eq_true (by omega)
            rw [if_pos (.inr h2)] at hE0
            subst hE0
            simp only [go_sem, reduceCtorEq, Nat.reduceEqDiff, Nat.reduceAdd, Nat.reduceMul, Nat.reduceSub, Nat.reduceLeDiff, Nat.reduceLT, Int.reduceMul, Int.reduceAdd, Int.reduceSub, Int.reduceToNat, byq, List.length_map, d1, d2]
            simp only [go_sem, reduceCtorEq, Nat.reduceEqDiff, Nat.reduceAdd, Nat.reduceMul, Nat.reduceSub, Nat.reduceLeDiff, Nat.reduceLT, Int.reduceMul, Int.reduceAdd, Int.reduceSub, Int.reduceToNat, byq, hcr, hcu, hnL]
            refine ⟨⟨.inl ⟨.inl rfl, rfl, rfl⟩, rfl, trivial⟩, by repeat (first | exact hleL | refine AHeap.Le.push ?_ _), hcl, ?_⟩
            first | exact lt_resB | exact lt_resB (l := [])
          have d2 : decide ((r.data.length : Int) > 320) = false := decide_eq_false (by omega)
          rw [if_neg (by omega), nums_eq hpp (by omega), hnu] at hE0
          simp only [go_sem, reduceCtorEq, Nat.reduceEqDiff, Nat.reduceAdd, Nat.reduceMul, Nat.reduceSub, Nat.reduceLeDiff, Nat.reduceLT, Int.reduceMul, Int.reduceAdd, Int.reduceSub, Int.reduceToNat, byq, List.length_map, d1, d2]
          cases NF
          · rw [if_pos (by decide)] at hE0
            subst hE0
            simp only [go_sem, reduceCtorEq, Nat.reduceEqDiff, Nat.reduceAdd, Nat.reduceMul, Nat.reduceSub, Nat.reduceLeDiff, Nat.reduceLT, Int.reduceMul, Int.reduceAdd, Int.reduceSub, Int.reduceToNat, byq, hcr, hcu, hnL]
            refine ⟨⟨.inl ⟨.inl rfl, rfl, rfl⟩, rfl, trivial⟩, by repeat (first | exact hleL | refine AHeap.Le.push ?_ _), hcl, ?_⟩
            first | exact lt_resB | exact lt_resB (l := [])
          rw [if_neg (by decide)] at hE0
          have hv6 : valid6 r = true := by rw [hV, hVt]
          have hv7 := of_decide_eq_true hv6
          have hk6 := kind_cases hv7.1 hv7.2
          obtain ⟨x, hx1, hx2⟩ := lit1 hk6
          have hlb := bodyR_len r.kind hr
          have hlw : (wireR r).length ≤ 600000 := by unfold wireR; rw [List.length_append, hx2]; simp; omega
          have iv := isV_of hr.el
          have lv := wValue_len hr.el
          have ln := fun n w => wUint_len n w
          have lb := wBytes_len r.data
          have a1 := ln r.role 2
          have a2 := ln r.ups.length 2
          have a3 := ln r.table 2
          have a4 := ln r.frm 4
          have a5 := ln r.count 2
          have a6 := ln r.port 2
          have hwr : wireR r = [x] ++ bodyR r.kind r := by unfold wireR; rw [hx2]
          have hkO : r.ups.all kOK = true := by rw [hVt, Bool.true_and] at hOF; exact hOF
          have hkE : (r.ups.all fun u => rgE u.2) = true := by rw [Bool.and_eq_true] at hNF; exact hNF.2
          simp only [go_sem, reduceCtorEq, Nat.reduceEqDiff, Nat.reduceAdd, Nat.reduceMul, Nat.reduceSub, Nat.reduceLeDiff, Nat.reduceLT, Int.reduceMul, Int.reduceAdd, Int.reduceSub, Int.reduceToNat, byq, hcr, hnL, hx1]
          rcases hk6 with hk | hk | hk | hk | hk | hk
          · have hwr : wireR r = [x] ++ (wUint r.role 2 ++ wValue r.el) := by rw [hwr, hk]; rfl
            simp only [go_sem, reduceCtorEq, Nat.reduceEqDiff, Nat.reduceAdd, Nat.reduceMul, Nat.reduceSub, Nat.reduceLeDiff, Nat.reduceLT, Int.reduceMul, Int.reduceAdd, Int.reduceSub, Int.reduceToNat, byq, hk, Int.reduceBEq, hcr, hnL, e_rUint, e_rValue, e_rBytes, iv, Int.toNat_natCast, vOf_back]
            (repeat with_reducible refine And.intro (by first | omega | exact ⟨by omega, by rw [Nat.add_comm]⟩ | exact ⟨by simp only [List.length_append]; omega, by simp only [List.length_append, Nat.add_comm, Nat.add_left_comm, Nat.add_assoc]⟩) ?_)
            obtain ⟨BB, hBB⟩ : ∃ BB, wireR r = BB := ⟨_, rfl⟩
            rw [hBB] at hE0 hlw hwr
            rw [List.singleton_append] at hwr
            have hBl : BB.length = _ := congrArg List.length hwr
            rw [List.length_cons] at hBl
            refine cond_split (fun hb2 => ?_) (fun hb2 => ?_)
            · have hb3 : 8000 < BB.length := by rw [hBl]; simp only [gt_iff_lt, decide_eq_true_eq] at hb2; (try simp only [List.length_nil]); (try omega)
              rw [if_pos hb3] at hE0
              subst hE0
              simp only [go_sem, reduceCtorEq, Nat.reduceEqDiff, Nat.reduceAdd, Nat.reduceMul, Nat.reduceSub, Nat.reduceLeDiff, Nat.reduceLT, Int.reduceMul, Int.reduceAdd, Int.reduceSub, Int.reduceToNat, byq, hcr, hcu, hnL]
              refine ⟨⟨.inl ⟨.inl rfl, rfl, rfl⟩, rfl, trivial⟩, by repeat (first | exact hleL | refine AHeap.Le.push ?_ _), hcl, ?_⟩
              first | exact lt_resB | exact lt_resB (l := [])
            · have hb3 : ¬ 8000 < BB.length := by rw [hBl]; simp only [gt_iff_lt, decide_eq_false_iff_not] at hb2; (try simp only [List.length_nil]); (try omega)
              rw [if_neg hb3] at hE0
              subst hE0
              simp only [go_sem, reduceCtorEq, Nat.reduceEqDiff, Nat.reduceAdd, Nat.reduceMul, Nat.reduceSub, Nat.reduceLeDiff, Nat.reduceLT, Int.reduceMul, Int.reduceAdd, Int.reduceSub, Int.reduceToNat, byq, hcr, hcu, hnL]
              refine ⟨⟨.inl ⟨.inl rfl, rfl, by rw [hwr] <;> rfl⟩, rfl, trivial⟩, by repeat (first | exact hleL | refine AHeap.Le.push ?_ _), hcl, ?_⟩
              first | exact lt_resB | exact lt_resB (l := [])
          · have hwr : wireR r = [x] ++ (([] : List UInt8)) := by rw [hwr, hk]; rfl
            simp only [go_sem, reduceCtorEq, Nat.reduceEqDiff, Nat.reduceAdd, Nat.reduceMul, Nat.reduceSub, Nat.reduceLeDiff, Nat.reduceLT, Int.reduceMul, Int.reduceAdd, Int.reduceSub, Int.reduceToNat, byq, hk, Int.reduceBEq, hcr, hnL, e_rUint, e_rValue, e_rBytes, iv, Int.toNat_natCast, vOf_back]
            (repeat with_reducible refine And.intro (by first | omega | exact ⟨by omega, by rw [Nat.add_comm]⟩ | exact ⟨by simp only [List.length_append]; omega, by simp only [List.length_append, Nat.add_comm, Nat.add_left_comm, Nat.add_assoc]⟩) ?_)
            obtain ⟨BB, hBB⟩ : ∃ BB, wireR r = BB := ⟨_, rfl⟩
            rw [hBB] at hE0 hlw hwr
            rw [List.singleton_append] at hwr
            have hBl : BB.length = _ := congrArg List.length hwr
            rw [List.length_cons] at hBl
            refine cond_split (fun hb2 => ?_) (fun hb2 => ?_)
            · have hb3 : 8000 < BB.length := by rw [hBl]; simp only [gt_iff_lt, decide_eq_true_eq] at hb2; (try simp only [List.length_nil]); (try omega)
              rw [if_pos hb3] at hE0
              subst hE0
              simp only [go_sem, reduceCtorEq, Nat.reduceEqDiff, Nat.reduceAdd, Nat.reduceMul, Nat.reduceSub, Nat.reduceLeDiff, Nat.reduceLT, Int.reduceMul, Int.reduceAdd, Int.reduceSub, Int.reduceToNat, byq, hcr, hcu, hnL]
              refine ⟨⟨.inl ⟨.inl rfl, rfl, rfl⟩, rfl, trivial⟩, by repeat (first | exact hleL | refine AHeap.Le.push ?_ _), hcl, ?_⟩
              first | exact lt_resB | exact lt_resB (l := [])
            · have hb3 : ¬ 8000 < BB.length := by rw [hBl]; simp only [gt_iff_lt, decide_eq_false_iff_not] at hb2; (try simp only [List.length_nil]); (try omega)
              rw [if_neg hb3] at hE0
              subst hE0
              simp only [go_sem, reduceCtorEq, Nat.reduceEqDiff, Nat.reduceAdd, Nat.reduceMul, Nat.reduceSub, Nat.reduceLeDiff, Nat.reduceLT, Int.reduceMul, Int.reduceAdd, Int.reduceSub, Int.reduceToNat, byq, hcr, hcu, hnL]
              refine ⟨⟨.inl ⟨.inl rfl, rfl, by rw [hwr] <;> rfl⟩, rfl, trivial⟩, by repeat (first | exact hleL | refine AHeap.Le.push ?_ _), hcl, ?_⟩
              first | exact lt_resB | exact lt_resB (l := [])
          · have hwr : wireR r = [x] ++ (wUint r.role 2 ++ wValue r.el ++ wUint r.ups.length 2 ++ r.ups.flatMap bodyU) := by rw [hwr, hk]; rfl
            simp only [go_sem, reduceCtorEq, Nat.reduceEqDiff, Nat.reduceAdd, Nat.reduceMul, Nat.reduceSub, Nat.reduceLeDiff, Nat.reduceLT, Int.reduceMul, Int.reduceAdd, Int.reduceSub, Int.reduceToNat, byq, hk, Int.reduceBEq, hcr, hnL, e_rUint, e_rValue, e_rBytes, iv, Int.toNat_natCast, vOf_back, List.length_map]
            (repeat with_reducible refine And.intro (by first | omega | exact ⟨by omega, by rw [Nat.add_comm]⟩ | exact ⟨by simp only [List.length_append]; omega, by simp only [List.length_append, Nat.add_comm, Nat.add_left_comm, Nat.add_assoc]⟩) ?_)
            obtain ⟨BB, hBB⟩ : ∃ BB, wireR r = BB := ⟨_, rfl⟩
            rw [hBB] at hE0 hlw hwr
            rw [List.singleton_append] at hwr
            refine loop_introW (A := Nat × List UInt8) (fun z => [(9, .slice (.own (H.nx + 1 + 1 + 1)) 1 (bys z.2)), (105, .slice .any 6 (r.ups.map updAV)), (106, .int .i64 (r.ups.length : Int)), (107, .int .i64 (z.1 : Int))]) (fun z => HL.push (.buf 1 z.2.length)) (fun z => z.1 ≤ r.ups.length ∧ z.2 ++ (r.ups.drop z.1).flatMap bodyU = BB ∧ z.2.length ≤ 100 + 405 * z.1) (fun z => r.ups.length - z.1) (0, x :: (wUint r.role 2 ++ wValue r.el ++ wUint r.ups.length 2)) ⟨by omega, by rw [hwr]; simp, by simp only [List.length_cons, List.length_append]; omega⟩ ?_ fun z hz => ?_
            · refine ⟨by simp only [zjy, zkd, zkm, hnL]; omega, by first | (simp only [List.length_cons, List.length_append, Nat.add_comm, Nat.add_left_comm, Nat.add_assoc]; exact AHeap.Le.refl _), closed_buf hclL, ?_, ?_⟩
              · simp [ltF, zmn, zmv, zmo, zkm, hnL, lt_sliceL, zlx, lt_map lt_upd]
                try omega
              · simp [subW, wk2, wk1, wkM, Fr.get]
            obtain ⟨k, z⟩ := z
            obtain ⟨hk1, hz, hzl⟩ := hz
            dsimp only at hk1 hz hzl ⊢
            simp only [go_sem, reduceCtorEq, Nat.reduceEqDiff, Nat.reduceAdd, Nat.reduceMul, Nat.reduceSub, Nat.reduceLeDiff, Nat.reduceLT, Int.reduceMul, Int.reduceAdd, Int.reduceSub, Int.reduceToNat]
            refine cond_split (fun hc => ?_) (fun hc => ?_)
            · have hk' : k < r.ups.length := by simp at hc; omega
              obtain ⟨y, hy⟩ : ∃ y, y = r.ups[k] := ⟨_, rfl⟩
              have hg := getD_map (f := updAV) (l := r.ups) (k := k) (x := y) (by rw [List.getElem?_eq_getElem hk', hy])
              have e5 : IntKind.i64.wrap ((k : Int) + 1) = ((k + 1 : Nat) : Int) := by rw [wrap_i64] <;> omega
              have hym : y ∈ r.ups := by rw [hy]; exact List.getElem_mem hk'
              have hyo := hr.uo y hym
              have hyk := List.all_eq_true.1 hkO y hym
              have hye := List.all_eq_true.1 hkE y hym
              have hd : r.ups.drop k = y :: r.ups.drop (k + 1) := by rw [hy]; exact List.drop_eq_getElem_cons hk'
              obtain ⟨yk, ye⟩ := y
              have hyk3 : 1 ≤ yk ∧ yk ≤ 3 := of_decide_eq_true hyk
              obtain ⟨c, hc1, hc2⟩ := lit1 (k := yk) (by omega)
              have hbu : bodyU (yk, ye) = [c] ++ wEntry ye := by
                show wUint yk 1 ++ (if rgE ye then wEntry ye else []) = _
                rw [if_pos hye, hc2]
              obtain ⟨r1, r2⟩ := rgE_len (show rgE ye = true from hye)
              have hwe : (wEntry ye).length ≤ 400 := wEntry_len4 hyo r1 r2
              rw [hd, List.flatMap_cons, hbu, List.append_assoc, ← List.append_assoc, ← List.append_assoc] at hz
              dsimp only at hyo hye
              simp only [go_sem, reduceCtorEq, Nat.reduceEqDiff, Nat.reduceAdd, Nat.reduceMul, Nat.reduceSub, Nat.reduceLeDiff, Nat.reduceLT, Int.reduceMul, Int.reduceAdd, Int.reduceSub, Int.reduceToNat, byq, Int.toNat_natCast, List.length_map, hg, updAV, updC, entryC, hc1, hnL, e_rAppend10, List.length_append]
              refine ⟨⟨by omega, by omega⟩, ⟨by omega, by omega⟩, ye, z ++ [c], ⟨rfl, rfl, by simp; omega, by omega, by omega, hyo, by simp⟩, (k + 1, z ++ [c] ++ wEntry ye), ⟨by dsimp only; omega, by rw [← hz] <;> simp [List.append_assoc], by dsimp only; simp only [List.length_append, List.length_cons, List.length_nil]; omega⟩, by dsimp only; omega, ?_⟩
              refine ⟨by simp only [zkm, hnL]; omega, by (try simp only [List.length_append]); repeat (first | exact AHeap.Le.refl _ | refine AHeap.Le.push ?_ _), closed_buf hclL, ?_, ?_⟩
              · simp [ltF, zmn, zmv, zmo, zkm, hnL, lt_sliceL, zlx, lt_map lt_upd]
                try omega
              · simp [subW, wk2, wk1, wkM, Fr.get]
                exact e5
            · have hk' : k = r.ups.length := by simp at hc; omega
              subst hk'
              rw [List.drop_length, List.flatMap_nil, List.append_nil] at hz
              subst hz
              simp only [go_sem, reduceCtorEq, Nat.reduceEqDiff, Nat.reduceAdd, Nat.reduceMul, Nat.reduceSub, Nat.reduceLeDiff, Nat.reduceLT, Int.reduceMul, Int.reduceAdd, Int.reduceSub, Int.reduceToNat, byq, hcr, hnL]
              refine cond_split (fun hb2 => ?_) (fun hb2 => ?_)
              · have hb3 : 8000 < z.length := by simp only [gt_iff_lt, decide_eq_true_eq] at hb2; omega
                rw [if_pos hb3] at hE0
                subst hE0
                simp only [go_sem, reduceCtorEq, Nat.reduceEqDiff, Nat.reduceAdd, Nat.reduceMul, Nat.reduceSub, Nat.reduceLeDiff, Nat.reduceLT, Int.reduceMul, Int.reduceAdd, Int.reduceSub, Int.reduceToNat, byq, hcr, hcu, hnL]
                refine ⟨⟨.inl ⟨.inl rfl, rfl, rfl⟩, rfl, trivial⟩, by repeat (first | exact hleL | refine AHeap.Le.push ?_ _), hcl, ?_⟩
                first | exact lt_resB | exact lt_resB (l := [])
              · have hb3 : ¬ 8000 < z.length := by simp only [gt_iff_lt, decide_eq_false_iff_not] at hb2; omega
                rw [if_neg hb3] at hE0
                subst hE0
                simp only [go_sem, reduceCtorEq, Nat.reduceEqDiff, Nat.reduceAdd, Nat.reduceMul, Nat.reduceSub, Nat.reduceLeDiff, Nat.reduceLT, Int.reduceMul, Int.reduceAdd, Int.reduceSub, Int.reduceToNat, byq, hcr, hcu, hnL]
                refine ⟨⟨.inl ⟨.inl rfl, rfl, rfl⟩, rfl, trivial⟩, by repeat (first | exact hleL | refine AHeap.Le.push ?_ _), hcl, ?_⟩
                first | exact lt_resB | exact lt_resB (l := [])
          · have hwr : wireR r = [x] ++ (wUint r.role 2 ++ wUint r.table 2) := by rw [hwr, hk]; rfl
            simp only [go_sem, reduceCtorEq, Nat.reduceEqDiff, Nat.reduceAdd, Nat.reduceMul, Nat.reduceSub, Nat.reduceLeDiff, Nat.reduceLT, Int.reduceMul, Int.reduceAdd, Int.reduceSub, Int.reduceToNat, byq, hk, Int.reduceBEq, hcr, hnL, e_rUint, e_rValue, e_rBytes, iv, Int.toNat_natCast, vOf_back]
            (repeat with_reducible refine And.intro (by first | omega | exact ⟨by omega, by rw [Nat.add_comm]⟩ | exact ⟨by simp only [List.length_append]; omega, by simp only [List.length_append, Nat.add_comm, Nat.add_left_comm, Nat.add_assoc]⟩) ?_)
            obtain ⟨BB, hBB⟩ : ∃ BB, wireR r = BB := ⟨_, rfl⟩
            rw [hBB] at hE0 hlw hwr
            rw [List.singleton_append] at hwr
            have hBl : BB.length = _ := congrArg List.length hwr
            rw [List.length_cons] at hBl
            refine cond_split (fun hb2 => ?_) (fun hb2 => ?_)
            · have hb3 : 8000 < BB.length := by rw [hBl]; simp only [gt_iff_lt, decide_eq_true_eq] at hb2; (try simp only [List.length_nil]); (try omega)
              rw [if_pos hb3] at hE0
              subst hE0
              simp only [go_sem, reduceCtorEq, Nat.reduceEqDiff, Nat.reduceAdd, Nat.reduceMul, Nat.reduceSub, Nat.reduceLeDiff, Nat.reduceLT, Int.reduceMul, Int.reduceAdd, Int.reduceSub, Int.reduceToNat, byq, hcr, hcu, hnL]
              refine ⟨⟨.inl ⟨.inl rfl, rfl, rfl⟩, rfl, trivial⟩, by repeat (first | exact hleL | refine AHeap.Le.push ?_ _), hcl, ?_⟩
              first | exact lt_resB | exact lt_resB (l := [])
            · have hb3 : ¬ 8000 < BB.length := by rw [hBl]; simp only [gt_iff_lt, decide_eq_false_iff_not] at hb2; (try simp only [List.length_nil]); (try omega)
              rw [if_neg hb3] at hE0
              subst hE0
              simp only [go_sem, reduceCtorEq, Nat.reduceEqDiff, Nat.reduceAdd, Nat.reduceMul, Nat.reduceSub, Nat.reduceLeDiff, Nat.reduceLT, Int.reduceMul, Int.reduceAdd, Int.reduceSub, Int.reduceToNat, byq, hcr, hcu, hnL]
              refine ⟨⟨.inl ⟨.inl rfl, rfl, by rw [hwr] <;> rfl⟩, rfl, trivial⟩, by repeat (first | exact hleL | refine AHeap.Le.push ?_ _), hcl, ?_⟩
              first | exact lt_resB | exact lt_resB (l := [])
          · have hwr : wireR r = [x] ++ (wUint r.role 2 ++ wUint r.frm 4 ++ wUint r.count 2) := by rw [hwr, hk]; rfl
            simp only [go_sem, reduceCtorEq, Nat.reduceEqDiff, Nat.reduceAdd, Nat.reduceMul, Nat.reduceSub, Nat.reduceLeDiff, Nat.reduceLT, Int.reduceMul, Int.reduceAdd, Int.reduceSub, Int.reduceToNat, byq, hk, Int.reduceBEq, hcr, hnL, e_rUint, e_rValue, e_rBytes, iv, Int.toNat_natCast, vOf_back]
            (repeat with_reducible refine And.intro (by first | omega | exact ⟨by omega, by rw [Nat.add_comm]⟩ | exact ⟨by simp only [List.length_append]; omega, by simp only [List.length_append, Nat.add_comm, Nat.add_left_comm, Nat.add_assoc]⟩) ?_)
            obtain ⟨BB, hBB⟩ : ∃ BB, wireR r = BB := ⟨_, rfl⟩
            rw [hBB] at hE0 hlw hwr
            rw [List.singleton_append] at hwr
            have hBl : BB.length = _ := congrArg List.length hwr
            rw [List.length_cons] at hBl
            refine cond_split (fun hb2 => ?_) (fun hb2 => ?_)
            · have hb3 : 8000 < BB.length := by rw [hBl]; simp only [gt_iff_lt, decide_eq_true_eq] at hb2; (try simp only [List.length_nil]); (try omega)
              rw [if_pos hb3] at hE0
              subst hE0
              simp only [go_sem, reduceCtorEq, Nat.reduceEqDiff, Nat.reduceAdd, Nat.reduceMul, Nat.reduceSub, Nat.reduceLeDiff, Nat.reduceLT, Int.reduceMul, Int.reduceAdd, Int.reduceSub, Int.reduceToNat, byq, hcr, hcu, hnL]
              refine ⟨⟨.inl ⟨.inl rfl, rfl, rfl⟩, rfl, trivial⟩, by repeat (first | exact hleL | refine AHeap.Le.push ?_ _), hcl, ?_⟩
              first | exact lt_resB | exact lt_resB (l := [])
            · have hb3 : ¬ 8000 < BB.length := by rw [hBl]; simp only [gt_iff_lt, decide_eq_false_iff_not] at hb2; (try simp only [List.length_nil]); (try omega)
              rw [if_neg hb3] at hE0
              subst hE0
              simp only [go_sem, reduceCtorEq, Nat.reduceEqDiff, Nat.reduceAdd, Nat.reduceMul, Nat.reduceSub, Nat.reduceLeDiff, Nat.reduceLT, Int.reduceMul, Int.reduceAdd, Int.reduceSub, Int.reduceToNat, byq, hcr, hcu, hnL]
              refine ⟨⟨.inl ⟨.inl rfl, rfl, by rw [hwr] <;> rfl⟩, rfl, trivial⟩, by repeat (first | exact hleL | refine AHeap.Le.push ?_ _), hcl, ?_⟩
              first | exact lt_resB | exact lt_resB (l := [])
          · have hwr : wireR r = [x] ++ (wUint r.port 2 ++ wBytes r.data) := by rw [hwr, hk]; rfl
            simp only [go_sem, reduceCtorEq, Nat.reduceEqDiff, Nat.reduceAdd, Nat.reduceMul, Nat.reduceSub, Nat.reduceLeDiff, Nat.reduceLT, Int.reduceMul, Int.reduceAdd, Int.reduceSub, Int.reduceToNat, byq, hk, Int.reduceBEq, hcr, hnL, e_rUint, e_rValue, e_rBytes, iv, Int.toNat_natCast, vOf_back]
            (repeat with_reducible refine And.intro (by first | omega | exact ⟨by omega, by rw [Nat.add_comm]⟩ | exact ⟨by simp only [List.length_append]; omega, by simp only [List.length_append, Nat.add_comm, Nat.add_left_comm, Nat.add_assoc]⟩) ?_)
            obtain ⟨BB, hBB⟩ : ∃ BB, wireR r = BB := ⟨_, rfl⟩
            rw [hBB] at hE0 hlw hwr
            rw [List.singleton_append] at hwr
            have hBl : BB.length = _ := congrArg List.length hwr
            rw [List.length_cons] at hBl
            refine cond_split (fun hb2 => ?_) (fun hb2 => ?_)
            · have hb3 : 8000 < BB.length := by rw [hBl]; simp only [gt_iff_lt, decide_eq_true_eq] at hb2; (try simp only [List.length_nil]); (try omega)
              rw [if_pos hb3] at hE0
              subst hE0
              simp only [go_sem, reduceCtorEq, Nat.reduceEqDiff, Nat.reduceAdd, Nat.reduceMul, Nat.reduceSub, Nat.reduceLeDiff, Nat.reduceLT, Int.reduceMul, Int.reduceAdd, Int.reduceSub, Int.reduceToNat, byq, hcr, hcu, hnL]
              refine ⟨⟨.inl ⟨.inl rfl, rfl, rfl⟩, rfl, trivial⟩, by repeat (first | exact hleL | refine AHeap.Le.push ?_ _), hcl, ?_⟩
              first | exact lt_resB | exact lt_resB (l := [])
            · have hb3 : ¬ 8000 < BB.length := by rw [hBl]; simp only [gt_iff_lt, decide_eq_false_iff_not] at hb2; (try simp only [List.length_nil]); (try omega)
              rw [if_neg hb3] at hE0
              subst hE0
              simp only [go_sem, reduceCtorEq, Nat.reduceEqDiff, Nat.reduceAdd, Nat.reduceMul, Nat.reduceSub, Nat.reduceLeDiff, Nat.reduceLT, Int.reduceMul, Int.reduceAdd, Int.reduceSub, Int.reduceToNat, byq, hcr, hcu, hnL]
              refine ⟨⟨.inl ⟨.inl rfl, rfl, by rw [hwr] <;> rfl⟩, rfl, trivial⟩, by repeat (first | exact hleL | refine AHeap.Le.push ?_ _), hcl, ?_⟩
              first | exact lt_resB | exact lt_resB (l := [])
end Go.AL


open Go Go.AL Go.Proofs
namespace Go.AL
set_option linter.all false
set_option maxRecDepth 10000

end Go.AL


open Go Go.AL Go.Proofs
namespace Go.AL
set_option linter.all false
set_option maxRecDepth 10000

end Go.AL

