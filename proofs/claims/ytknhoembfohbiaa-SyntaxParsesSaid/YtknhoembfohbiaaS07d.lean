/- Contracts and plain laws, a part of the proof; no condition of its own. -/
import Derived.Test.YtknhoembfohbiaaS07c
import Derived.Test.YtknhoembfohbiaaAlDefer
open Go Go.AL Go.Proofs
namespace Go.AL
set_option linter.all false
set_option maxRecDepth 10000
theorem ti_any : ti Try.prog 20 = some ⟨.iface 0, 1, 16, .nili⟩ := by kernel_rfl
attribute [go_sem] ti_any
theorem rule_zero {g : FuncId} {rl : Rl} : EntOk Try.prog g (Ent.effect (e_rule rl 0)) := by
  refine EntOk.effect fun args H K h => ?_
  unfold e_rule at h
  split at h
  · obtain ⟨m, l, p, tb, t, hg, hpre, hK⟩ := h
    exact hK.elim
  · exact h.elim
structure RulesOk (f : Nat) : Prop where
  imp : EntOk Try.prog 151 (Ent.effect (e_yImp f))
  or : EntOk Try.prog 198 (Ent.effect (e_yOr f))
  and : EntOk Try.prog 222 (Ent.effect (e_yAnd f))
  not : EntOk Try.prog 226 (Ent.effect (e_yNot f))
  cmp : EntOk Try.prog 228 (Ent.effect (e_yCmp f))
  sum : EntOk Try.prog 230 (Ent.effect (e_ySum f))
  un : EntOk Try.prog 234 (Ent.effect (e_yUn f))
  atom : EntOk Try.prog 237 (Ent.effect (e_yAtom f))
theorem rules_ok : ∀ f, RulesOk f
  | 0 => ⟨rule_zero, rule_zero, rule_zero, rule_zero, rule_zero, rule_zero, rule_zero, rule_zero⟩
  | f + 1 => have h := rules_ok f
    ⟨st_yImp h.or h.imp, st_yOr h.and, st_yAnd h.not, st_yNot h.not h.cmp, st_yCmp h.sum, st_ySum h.un, st_yUn h.un h.atom, st_yAtom h.imp⟩
theorem dEnd_n {n0 : Nat} {H2 H : AHeap} {T : Nat → List (List Nat)} {fr : Fr} : (dEnd n0 H2 T).n fr H = (H2.Le H ∧ H2.Closed ∧ n0 ≤ H2.nx) := rfl
theorem dEnd_r {n0 : Nat} {H2 H : AHeap} {T : Nat → List (List Nat)} {fr : Fr} : (dEnd n0 H2 T).r fr H = (H2.Le H ∧ H2.Closed ∧ n0 ≤ H2.nx) := rfl
theorem dEnd_T {n0 : Nat} {H2 : AHeap} {T : Nat → List (List Nat)} : (dEnd n0 H2 T).T = T := rfl
section
variable {P : Program} {Ω : Tbl} {C : Code} {rs : List ResultVar} {H1 H : AHeap} {x v : AV} {g : FuncId} {d n0 : Nat} {caps : List AV} {cs : List Nat} {T : Nat → List (List Nat)} {fr : Fr}
theorem contD_r : (contD P rs H1 x g caps n0 T).r fr H = finD P rs H1 x g caps none fr H := rfl
theorem contD_p : (contD P rs H1 x g caps n0 T).p fr v H = finD P rs H1 x g caps (some v) fr H := rfl
theorem contD_T : (contD P rs H1 x g caps n0 T).T = T := rfl
theorem contA_T : (contA P Ω C rs H1 x g d cs n0 T).T = T := rfl
theorem contA_n : (contA P Ω C rs H1 x g d cs n0 T).n fr H = aw P Ω C (KI P Ω (contD P rs H1 x g (cs.map (Fr.get fr)) H.nx T) []) ((d, .func (.func g) [] (cs.map (Fr.get fr))) :: fr) H := rfl
end
/-- the closure where nothing is recovered -/
theorem sentC_none {H : AHeap} {a b c : Nat} : ADefer Try.prog 150 [.ptr a 0, .ptr b 0, .ptr c 0] H none H := by
  refine ADefer.of_aw mixed (Ω := []) TblOk.nil (a := 6) (b := 3) Try.func150 (by rfl) (by rfl) (T := assoc []) (by kernel_rfl) (by decide) (by decide) (by simp only [Try.ntmps150, List.length_cons, List.length_nil]; decide) fun hcl _ => ?_
  change aw _ _ _ (KI Try.prog [] (dEnd H.nx H) []) _ _
  simp only [Option.getD_none, go_sem, reduceCtorEq, Nat.reduceEqDiff, Nat.reduceAdd, Nat.reduceMul, Nat.reduceSub, Nat.reduceLeDiff, Nat.reduceLT, Int.reduceMul, Int.reduceAdd, Int.reduceSub, Int.reduceToNat, dEnd_n, dEnd_r, dEnd_T]
  exact ⟨AHeap.Le.refl _, hcl, Nat.le_refl _⟩
theorem sentC_some {H : AHeap} {a b c p : Nat} {x y z : AV} (ha : H.get a = some (.cells [x])) (hb : H.get b = some (.cells [y])) (hc : H.get c = some (.cells [z])) (hab : a ≠ b) (hac : a ≠ c) (hbc : b ≠ c) :
    ADefer Try.prog 150 [.ptr a 0, .ptr b 0, .ptr c 0] H (some (.iface 237 (.int .i64 (p : Int)))) (((H.set a (.cells [.slice .nil 1 []])).set b (.cells [.int .i64 (p : Int)])).set c (.cells [.bool false])) := by
  refine ADefer.of_aw mixed (Ω := []) TblOk.nil (a := 6) (b := 3) Try.func150 (by rfl) (by rfl) (T := assoc []) (by kernel_rfl) (by decide) (by decide) (by simp only [Try.ntmps150, List.length_cons, List.length_nil]; decide) fun hcl _ => ?_
  have la := AHeap.get_lt ha
  have lb := AHeap.get_lt hb
  have lc := AHeap.get_lt hc
  have h1 := cells_some ha
  have h2 : ∀ o, cellsOf? (H.set a o) b = some [y] := fun o => (cells_set_far (fun e => hab e.symm) o).trans (cells_some hb)
  have h3 : ∀ o o', cellsOf? ((H.set a o).set b o') c = some [z] := fun o o' => (cells_set_far (fun e => hbc e.symm) o').trans ((cells_set_far (fun e => hac e.symm) o).trans (cells_some hc))
  change aw _ _ _ (KI Try.prog [] (dEnd H.nx _) []) _ _
  simp only [Option.getD_some, go_sem, reduceCtorEq, Nat.reduceEqDiff, Nat.reduceAdd, Nat.reduceMul, Nat.reduceSub, Nat.reduceLeDiff, Nat.reduceLT, Int.reduceMul, Int.reduceAdd, Int.reduceSub, Int.reduceToNat, dEnd_n, dEnd_r, dEnd_T, rAssert, h1, h2, h3]
  refine ⟨AHeap.Le.refl _, closed_set (closed_set (closed_set hcl ?_) ?_) ?_, Nat.le_refl _⟩
  · simp [zml, zmm, zle]
  · simp [zml, zmm, zlw]
  · simp [zml, zmm, zlx]
theorem onP_zero {m : Mark} {l : List Tok} {tb : Nat} {K : Mark → List Tok → Nat → Nat → List Nd → Prop} : onP (some (.cells [.slice m 3 (toks l), .int .i64 0, .slice (.own tb) 7 []])) K = K m l 0 tb [] := onP_some (p := 0) (t := [])
theorem get5 {H : AHeap} {o0 o1 o2 o3 o4 : AObj} : (((((H.push o0).push o1).push o2).push o3).push o4).get H.nx = some o0 ∧ (((((H.push o0).push o1).push o2).push o3).push o4).get (H.nx + 1) = some o1 ∧ (((((H.push o0).push o1).push o2).push o3).push o4).get (H.nx + 1 + 1) = some o2 := by
  refine ⟨?_, ?_, ?_⟩
  · rw [AHeap.get_push_lt _ _ (by simp only [zjv]; omega), AHeap.get_push_lt _ _ (by simp only [zjv]; omega), AHeap.get_push_lt _ _ (by simp only [zjv]; omega), AHeap.get_push_lt _ _ (by simp only [zjv]; omega)]
    exact AHeap.get_push_new _ _
  · rw [AHeap.get_push_lt _ _ (by simp only [zjv]; omega), AHeap.get_push_lt _ _ (by simp only [zjv]; omega), AHeap.get_push_lt _ _ (by simp only [zjv]; omega)]
    exact AHeap.get_push_new _ _
  · rw [AHeap.get_push_lt _ _ (by simp only [zjv]; omega), AHeap.get_push_lt _ _ (by simp only [zjv]; omega)]
    exact AHeap.get_push_new _ _
theorem cells3 {H : AHeap} {a b c : Nat} {x y z : List AV} (la : a < H.nx) (lb : b < H.nx) (lc : c < H.nx) (hab : a ≠ b) (hac : a ≠ c) (hbc : b ≠ c) :
    cellsOf? (((H.set a (.cells x)).set b (.cells y)).set c (.cells z)) a = some x ∧ cellsOf? (((H.set a (.cells x)).set b (.cells y)).set c (.cells z)) b = some y ∧ cellsOf? (((H.set a (.cells x)).set b (.cells y)).set c (.cells z)) c = some z := by
  refine ⟨?_, ?_, ?_⟩
  · rw [cells_set_far hac, cells_set_far hab, cells_set la, if_pos rfl]
  · rw [cells_set_far hbc, cells_set (show b < (H.set a (.cells x)).nx from lb), if_pos rfl]
  · rw [cells_set (show c < ((H.set a (.cells x)).set b (.cells y)).nx from lc), if_pos rfl]
/-- the panic's way out -/
theorem sent_panic {H X : AHeap} {q : Nat} {x y z : AV} {fr : Fr} (hcl : H.Closed) (hle : H.Le X) (h0 : X.get H.nx = some (.cells [x])) (h1 : X.get (H.nx + 1) = some (.cells [y])) (h2 : X.get (H.nx + 1 + 1) = some (.cells [z]))
    (f2 : Fr.get fr 2 = .ptr H.nx 0) (f3 : Fr.get fr 3 = .ptr (H.nx + 1) 0) (f4 : Fr.get fr 4 = .ptr (H.nx + 1 + 1) 0) :
    finD Try.prog [.cell 2 38, .cell 3 3, .cell 4 4] H (.tup [.slice .any 7 [], .int .i64 (q : Int), .bool false]) 150 [.ptr H.nx 0, .ptr (H.nx + 1) 0, .ptr (H.nx + 1 + 1) 0] (some (.iface 237 (.int .i64 (q : Int)))) fr X := by
  refine ⟨_, sentC_some (x := x) (y := y) (z := z) h0 h1 h2 (by omega) (by omega) (by omega), ?_⟩
  obtain ⟨c1, c2, c3⟩ := cells3 (x := [.slice .nil 1 []]) (y := [.int .i64 (q : Int)]) (z := [.bool false]) (AHeap.get_lt h0) (AHeap.get_lt h1) (AHeap.get_lt h2) (by omega) (by omega) (by omega)
  have hl3 := le_set_ge (le_set_ge (le_set_ge hle (Nat.le_refl H.nx) (o := .cells [.slice .nil 1 []])) (show H.nx ≤ H.nx + 1 by omega) (o := .cells [.int .i64 (q : Int)])) (show H.nx ≤ H.nx + 1 + 1 by omega) (o := .cells [.bool false])
  simp only [resL, resA, f2, f3, f4, zhz, go_sem, c1, c2, c3, zia, TD.agg, Option.map_some, List.getD_cons_zero, one]
  refine ⟨?_, hl3, hcl, ?_⟩
  · simp [wk, wkLL, wk2, wk1]
  · simp [zmj, zml, zmm, zlw, zlx, zle]
theorem sent_ret {H X : AHeap} {tb : Nat} {t : List Nd} {fr : Fr} (hcl : H.Closed) (hle : H.Le X) (h0 : X.get H.nx = some (.cells [.slice (.own tb) 7 (nds t)])) (h1 : X.get (H.nx + 1) = some (.cells [.int .i64 0])) (h2 : X.get (H.nx + 1 + 1) = some (.cells [.bool true]))
    (f2 : Fr.get fr 2 = .ptr H.nx 0) (f3 : Fr.get fr 3 = .ptr (H.nx + 1) 0) (f4 : Fr.get fr 4 = .ptr (H.nx + 1 + 1) 0) :
    finD Try.prog [.cell 2 38, .cell 3 3, .cell 4 4] H (.tup [.slice .any 7 (nds t), .int .i64 0, .bool true]) 150 [.ptr H.nx 0, .ptr (H.nx + 1) 0, .ptr (H.nx + 1 + 1) 0] none fr X := by
  refine ⟨_, sentC_none, ?_⟩
  have c1 := cells_some h0
  have c2 := cells_some h1
  have c3 := cells_some h2
  simp only [resL, resA, f2, f3, f4, zhz, go_sem, c1, c2, c3, zia, TD.agg, Option.map_some, List.getD_cons_zero, one]
  refine ⟨?_, hle, hcl, ?_⟩
  · simp [wk, wkLL, wk2, wk1, wkM]
  · simp [zmj, zml, zmm, zlw, zlx, nds_lt]
def sentAV (l : List Tok) : PR → AV
  | .ok _ p t => if p < l.length then .tup [.slice .any 7 [], .int .i64 (p : Int), .bool false] else .tup [.slice .any 7 (nds t), .int .i64 0, .bool true]
  | .bad p => .tup [.slice .any 7 [], .int .i64 (p : Int), .bool false]
def p_ySent : List AV → AHeap → (AV → Prop) → Prop
  | [.slice _ 3 x], _, K => ∃ l f r, (x = toks l ∧ run l f .imp 0 [] = some r ∧ l.length ≤ 1000 ∧ goodL l) ∧ K (sentAV l r)
  | _, _, _ => False
theorem ok_ySent : EntOk Try.prog 78 (Ent.pure p_ySent) := by
  refine EntOk.pure fun args H K h => ?_
  unfold p_ySent at h
  split at h
  rotate_left
  · exact h.elim
  rename_i m x
  obtain ⟨l, f, r, ⟨rfl, hr, hl, hgl⟩, hK⟩ := h
  refine ⟨_, hK, ?_⟩
  clear hK
  have hR := rules_ok f
  refine ACalls.of_defer mixed (Ω := [(151, Ent.effect (e_yImp f)), (152, Ent.effect e_yFail)]) (TblOk.cons hR.imp (TblOk.cons ok_yFail TblOk.nil)) (T := assoc [(2, [[10]])]) (d := 6) (caps := [2, 3, 4]) Try.func78 (by kernel_rfl) Try.func150 (by kernel_rfl) (by rfl) (by rfl) (rs := [.cell 2 38, .cell 3 3, .cell 4 4]) (by rfl) (by kernel_rfl) (by kernel_rfl) (by decide) (by simp only [Try.ntmps78, List.length_cons, List.length_nil]; decide) (Nat.le_refl _) fun hcl hlt => ?_
  show aw _ _ _ (KI Try.prog [(151, Ent.effect (e_yImp f)), (152, Ent.effect e_yFail)] (contA _ _ _ _ _ _ _ _ _ _ _) []) _ _
  simp only [go_sem, reduceCtorEq, Nat.reduceEqDiff, Nat.reduceAdd, Nat.reduceMul, Nat.reduceSub, Nat.reduceLeDiff, Nat.reduceLT, Int.reduceMul, Int.reduceAdd, Int.reduceSub, Int.reduceToNat, contA_n, contA_T, contD_T, bhq, Nat.reduceMod, Nat.reduceDiv, stepH, stepM, toMs1, toMs, toMs0, strK, pubK, pubF, pubV, List.take_succ_cons, List.take_zero, List.drop_succ_cons, List.drop_zero]
  refine weak_nil 8 2 7 [.slice m 3 (toks l), .int .i64 0, .slice .nil 1 []] (by simp [Fr.get]) rfl ?_
  simp only [List.set_cons_succ, List.set_cons_zero, go_sem, reduceCtorEq, Nat.reduceEqDiff, Nat.reduceAdd, Nat.reduceMul, Nat.reduceSub, Nat.reduceLeDiff, Nat.reduceLT, Int.reduceMul, Int.reduceAdd, Int.reduceSub, Int.reduceToNat, contD_T, bhq, Nat.reduceMod, Nat.reduceDiv, stepH, stepM, toMs1, toMs, toMs0, strK, pubK, pubF, pubV, List.take_succ_cons, List.take_zero, List.drop_succ_cons, List.drop_zero, e_yImp, e_rule, onP_zero, hr]
  refine ⟨⟨by omega, ?_, by simp, by simp, hl, hgl, Good.nil⟩, ?_⟩
  · exact AHeap.get_push_new _ _
  have hlm : ∀ n', H.nx ≤ n' → (AV.slice m 3 (toks l)).lt n' := fun n' hn => AV.lt_mono hn _ (hlt (AV.slice m 3 (toks l)) (by simp))
  have hw := run_post f hr Good.nil trivial (Nat.zero_le _)
  cases r with
  | bad q =>
    simp only [endR_bad, go_sem, reduceCtorEq, Nat.reduceEqDiff, Nat.reduceAdd, Nat.reduceMul, Nat.reduceSub, Nat.reduceLeDiff, Nat.reduceLT, Int.reduceMul, Int.reduceAdd, Int.reduceSub, Int.reduceToNat, contD_p, sentAV]
    obtain ⟨e0, e1, e2⟩ := @get5 H (.cells [.slice .nil 1 []]) (.cells [.int .i64 0]) (.cells [.bool false]) (.cells [.slice m 3 (toks l), .int .i64 0, .slice (.own (H.nx + 1 + 1 + 1 + 1)) 7 []]) (.buf 7 0)
    have hd : ∀ {X : AHeap} {j : Nat} {o : AObj}, X.get j = some o → j ≠ H.nx + 1 + 1 + 1 → j ≠ H.nx + 1 + 1 + 1 + 1 → ((X.del (H.nx + 1 + 1 + 1)).del (H.nx + 1 + 1 + 1 + 1)).get j = some o := fun h n1 n2 => by
      rw [del_get, if_neg n2, del_get, if_neg n1]; exact h
    refine sent_panic hcl ?_ (hd e0 (by omega) (by omega)) (hd e1 (by omega) (by omega)) (hd e2 (by omega) (by omega)) rfl rfl rfl
    exact (((((((AHeap.Le.refl H).push _).push _).push _).push _).push _).del (by omega)).del (by omega)
  | ok a p t =>
    obtain ⟨k1, k2, k3, k4, k5, k6⟩ := hw
    have hnl : (nds t).length = t.length := nds_length
    simp only [endR_ok, go_sem, reduceCtorEq, Nat.reduceEqDiff, Nat.reduceAdd, Nat.reduceMul, Nat.reduceSub, Nat.reduceLeDiff, Nat.reduceLT, Int.reduceMul, Int.reduceAdd, Int.reduceSub, Int.reduceToNat, contD_r, contD_T, pst, toks_length]
    refine cond_split (fun hc => ?_) (fun hc => ?_)
    · have hc' : p < l.length := by simp at hc; omega
      simp only [go_sem, reduceCtorEq, Nat.reduceEqDiff, Nat.reduceAdd, Nat.reduceMul, Nat.reduceSub, Nat.reduceLeDiff, Nat.reduceLT, Int.reduceMul, Int.reduceAdd, Int.reduceSub, Int.reduceToNat, contD_p, contD_T, pst, e_yFail, onP_some', sentAV, hc', if_true]
      obtain ⟨e0, e1, e2⟩ := @get5 H (.cells [.slice .nil 1 []]) (.cells [.int .i64 0]) (.cells [.bool false]) (.cells [.slice m 3 (toks l), .int .i64 (p : Int), .slice (.own (H.nx + 1 + 1 + 1 + 1)) 7 (nds t)]) (.buf 7 t.length)
      refine sent_panic hcl ?_ e0 e1 e2 rfl rfl rfl
      exact (((((AHeap.Le.refl H).push _).push _).push _).push _).push _
    · have hc' : ¬ p < l.length := by simp at hc; omega
      simp only [go_sem, reduceCtorEq, Nat.reduceEqDiff, Nat.reduceAdd, Nat.reduceMul, Nat.reduceSub, Nat.reduceLeDiff, Nat.reduceLT, Int.reduceMul, Int.reduceAdd, Int.reduceSub, Int.reduceToNat, contD_r, contD_T, pst, sentAV, hc', if_false]
      obtain ⟨e0, e1, e2⟩ := @get5 H (.cells [.slice (.own (H.nx + 1 + 1 + 1 + 1)) 7 (nds t)]) (.cells [.int .i64 0]) (.cells [.bool true]) (.cells [.slice m 3 (toks l), .int .i64 (p : Int), .slice (.own (H.nx + 1 + 1 + 1 + 1)) 7 (nds t)]) (.buf 7 t.length)
      refine sent_ret hcl ?_ e0 e1 e2 rfl rfl rfl
      exact (((((AHeap.Le.refl H).push _).push _).push _).push _).push _
end Go.AL

