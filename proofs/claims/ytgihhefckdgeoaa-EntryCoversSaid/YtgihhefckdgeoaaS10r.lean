/- Contracts and plain laws, a part of the proof; no condition of its own. -/
import Derived.Test.YtgihhefckdgeoaaS10o
open List renaming length_cons → yaz, cons_append → yal, nil_append → yak, append_nil → yaj, length_nil → yba, take_zero → yar, map_nil → yaf, take_succ_cons → yaq, drop_succ_cons → yao, drop_zero → yap, length_map → ybb, take_of_length_le → ybc, drop_append → ybd, take_append → ybe, drop_eq_nil_of_le → ybf
open Go Go.AL Go.Proofs
namespace Go.AL
set_option linter.all false
set_option maxRecDepth 10000

/-- what is so of generated matches -/
structure GM (m : SMatch) : Prop where
  v : m.value < 2 ^ 32
  k : m.mask < 2 ^ 32
  h : m.high < 2 ^ 32
  p0 : 0 ≤ m.pfx
  p1 : m.pfx ≤ 32
theorem gMatch_ok {b : List UInt8} {v : Nat} {w kind : Int} (h1 : 1 ≤ w) (h2 : w ≤ 32) (h3 : kind = 2 → 16 ≤ w) : GM (gMatch b v w kind).1 := by
  have hX := low_lt32 (x := gNum b v) h1 h2
  have hno : GM noMatch := ⟨by decide, by decide, by decide, by decide, by decide⟩
  unfold gMatch
  dsimp only
  split
  · rename_i hk
    have := gPfx_in (b := b) (u := v + 4) (h3 hk)
    split
    · exact ⟨Nat.lt_of_le_of_lt Nat.and_le_left hX, by dsimp only; decide, by dsimp only; decide, by dsimp only; omega, by dsimp only; omega⟩
    · exact hno
  · split
    · split
      · exact ⟨Nat.lt_of_le_of_lt Nat.and_le_left hX, low_lt32 h1 h2, by dsimp only; decide, by dsimp only; decide, by dsimp only; decide⟩
      · exact hno
    · split
      · split
        · refine ⟨hX, by dsimp only; decide, ?_, by dsimp only; decide, by dsimp only; decide⟩
          dsimp only
          unfold gHigh
          have : 2 ^ w.toNat ≤ 2 ^ 32 := Nat.pow_le_pow_right (by decide) (by omega)
          have := Nat.two_pow_pos w.toNat
          omega
        · exact hno
      · exact ⟨hX, by dsimp only; decide, by dsimp only; decide, by dsimp only; decide, by dsimp only; decide⟩
theorem gMatches_ok {S : Sch} {b : List UInt8} : ∀ (ks : List SKey) (v : Nat) (p : Int), (∀ k ∈ ks, 1 ≤ bitsF S k.field ∧ bitsF S k.field ≤ 32 ∧ (k.kind = 2 → 16 ≤ bitsF S k.field)) → 0 ≤ p → p ≤ 5 →
    (gMatches S b ks v p).1.1.length = ks.length ∧ (∀ m ∈ (gMatches S b ks v p).1.1, GM m) ∧ 0 ≤ (gMatches S b ks v p).1.2 ∧ (gMatches S b ks v p).1.2 ≤ 5
  | [], v, p, _, h1, h2 => ⟨rfl, by simp [gMatches], h1, h2⟩
  | k :: ks, v, p, h, h1, h2 => by
    obtain ⟨g1, g2, g3⟩ := h k List.mem_cons_self
    have hm := gMatch_ok (b := b) (v := v) g1 g2 g3
    have hc := cv_lt (b := b) (v := (gMatch b v (bitsF S k.field) k.kind).2) (n := 5) (by decide)
    unfold gMatches
    dsimp only
    by_cases hk : k.kind = 3 ∨ k.kind = 4
    · simp only [if_pos hk]
      obtain ⟨i1, i2, i3, i4⟩ := gMatches_ok ks ((gMatch b v (bitsF S k.field) k.kind).2 + 1) (1 + ci b (gMatch b v (bitsF S k.field) k.kind).2 5) (fun x hx => h x (List.mem_cons_of_mem _ hx)) (by unfold ci; omega) (by unfold ci; omega)
      exact ⟨by simp [i1], fun m hm' => (List.mem_cons.1 hm').elim (fun e => e ▸ hm) (i2 m), i3, i4⟩
    · simp only [if_neg hk]
      obtain ⟨i1, i2, i3, i4⟩ := gMatches_ok ks (gMatch b v (bitsF S k.field) k.kind).2 p (fun x hx => h x (List.mem_cons_of_mem _ hx)) h1 h2
      exact ⟨by simp [i1], fun m hm' => (List.mem_cons.1 hm').elim (fun e => e ▸ hm) (i2 m), i3, i4⟩
theorem gArgs_ok {b : List UInt8} : ∀ (ps : List SParam) (v : Nat), (gArgs b ps v).1.length = ps.length ∧ ∀ x ∈ (gArgs b ps v).1, x < 256
  | [], v => ⟨rfl, by simp [gArgs]⟩
  | p :: ps, v => by
    obtain ⟨i1, i2⟩ := gArgs_ok ps (v + 1)
    unfold gArgs
    refine ⟨by simp only [yaz]; rw [i1], fun x hx => ?_⟩
    rcases List.mem_cons.1 hx with rfl | hx
    · have := cv_lt (b := b) (v := v) (n := 256) (by decide)
      unfold low
      split
      · exact this
      · exact Nat.lt_of_le_of_lt (Nat.mod_le _ _) this
    · exact i2 x hx
theorem tableAt_mem {S : Sch} {n : Int} (h : 1 ≤ S.tables.length) : tableAt S n ∈ S.tables := by
  have hm1 := Int.emod_nonneg n (show ((S.tables.length : Nat) : Int) ≠ 0 by omega)
  have hm2 := Int.emod_lt_of_pos n (show (0 : Int) < ((S.tables.length : Nat) : Int) by omega)
  have hmi : (n % ((S.tables.length : Nat) : Int)).toNat < S.tables.length := by omega
  unfold tableAt
  rw [List.getD_eq_getElem?_getD, List.getElem?_eq_getElem hmi]
  exact List.getElem_mem hmi
/-- what is so of generated entries -/
structure GE (S : Sch) (t : STable) (e : SEntry) : Prop where
  tb : e.table = t.id
  ml : e.ms.length = t.keys.length
  mo : ∀ m ∈ e.ms, GM m
  p0 : 0 ≤ e.prio
  p1 : e.prio ≤ 5
  am : e.act ∈ t.actions
  al : e.args.length = (actionL S.actions e.act).params.length
  ao : ∀ x ∈ e.args, x < 256
theorem gEntry_ok {S : Sch} (hG : GenS S) {b : List UInt8} {v : Nat} {n : Int} : GE S (tableAt S n) (gEntry S b v n).1 := by
  have ht := tableAt_mem (S := S) (n := n) hG.t1
  obtain ⟨i1, i2, i3, i4⟩ := gMatches_ok (b := b) (tableAt S n).keys v 0 (hG.kb _ ht) (by omega) (by omega)
  have hc : cv b (gMatches S b (tableAt S n).keys v 0).2 (tableAt S n).actions.length < (tableAt S n).actions.length := cv_lt (by have := (hG.a1 _ ht).1; omega)
  unfold gEntry
  dsimp only
  refine ⟨rfl, i1, i2, i3, i4, ?_, (gArgs_ok _ _).1, (gArgs_ok _ _).2⟩
  dsimp only
  rw [List.getD_eq_getElem?_getD, List.getElem?_eq_getElem hc]
  exact List.getElem_mem hc
theorem GE.ok {S : Sch} {t : STable} {e : SEntry} (h : GE S t e) (h1 : t.keys.length ≤ 100) (h2 : ∀ a : Int, (actionL S.actions a).params.length ≤ 100) : EOk e :=
  ⟨by have := h.ml; omega, by have := h.al; have := h2 e.act; omega, fun m hm => by have := h.mo m hm; exact ⟨Nat.lt_of_lt_of_le this.v (by decide), Nat.lt_of_lt_of_le this.k (by decide), Nat.lt_of_lt_of_le this.h (by decide)⟩⟩
/-- the four tables -/
structure TabS (S : Sch) : Prop where
  uq : ∀ t ∈ S.tables, tabF S t.id = some t
  k4 : ∀ t ∈ S.tables, t.keys.length ≤ 3
  b2 : ∀ t ∈ S.tables, ∀ k ∈ t.keys, k.kind = 2 → bitsF S k.field = 32
  l4 : S.tables.length = 4
theorem tabS_ok (b : List UInt8) (v : Nat) : TabS (gSchema b v).1 where
  uq := fun t ht => by
    simp only [gSchema, gTables, List.mem_cons, List.not_mem_nil, or_false] at ht
    rcases ht with rfl | rfl | rfl | rfl <;> rfl
  k4 := fun t ht => (gTables_keys t ht).1
  b2 := fun t ht k hk h2 => by
    simp only [gSchema, gTables, List.mem_cons, List.not_mem_nil, or_false] at ht
    rcases ht with rfl | rfl | rfl | rfl
    · simp only [gTable0, List.mem_cons, List.not_mem_nil, or_false] at hk
      subst hk; exact absurd h2 (by decide)
    · simp only [gTable1] at hk
      split at hk <;> simp only [yal, yak, yaj, List.mem_cons, List.not_mem_nil, or_false] at hk
      · rcases hk with rfl | rfl
        · rfl
        · exact absurd h2 (by decide)
      · subst hk; rfl
    · simp only [gTable2] at hk
      split at hk <;> simp only [yal, yak, yaj, List.mem_cons, List.not_mem_nil, or_false] at hk
      · rcases hk with rfl | rfl | rfl <;> exact absurd h2 (by decide)
      · rcases hk with rfl | rfl <;> exact absurd h2 (by decide)
    · simp only [gTable3] at hk
      split at hk <;> simp only [yal, yak, yaj, List.mem_cons, List.not_mem_nil, or_false] at hk
      · rcases hk with rfl | rfl | rfl
        · exact absurd h2 (by decide)
        · exact absurd h2 (by decide)
        · rfl
      · subst hk; exact absurd h2 (by decide)
  l4 := rfl
theorem gPoint_ok {b : List UInt8} : ∀ (n v : Nat), (gPoint b n v).1.length = n ∧ ∀ x ∈ (gPoint b n v).1, x < 2 ^ 64
  | 0, v => ⟨rfl, by simp [gPoint]⟩
  | n + 1, v => by
    have c1 := cv_lt (b := b) (v := v) (n := 256) (by decide)
    have c2 := cv_lt (b := b) (v := v + 2) (n := 256) (by decide)
    unfold gPoint
    split
    · obtain ⟨i1, i2⟩ := gPoint_ok (b := b) n (v + 3)
      refine ⟨by simp [i1], fun x hx => ?_⟩
      rcases List.mem_cons.1 hx with rfl | hx
      · exact Nat.or_lt_two_pow (by rw [Nat.shiftLeft_eq]; omega) (by omega)
      · exact i2 x hx
    · obtain ⟨i1, i2⟩ := gPoint_ok (b := b) n (v + 2)
      refine ⟨by simp [i1], fun x hx => ?_⟩
      rcases List.mem_cons.1 hx with rfl | hx
      · omega
      · exact i2 x hx
end Go.AL


open Go Go.AL Go.Proofs
namespace Go.AL
set_option linter.all false
set_option maxRecDepth 10000
theorem ti_ids6 : ti Try.prog 237 = some ⟨.array 6 48, 6, 144, .agg [.slice .nil 1 [], .slice .nil 1 [], .slice .nil 1 [], .slice .nil 1 [], .slice .nil 1 [], .slice .nil 1 []]⟩ := by kernel_rfl
attribute [go_sem] ti_ids6
theorem inL_len {l : List Int} : (inL l).length = l.length := by simp [inL]
def sI (l : List Int) : AV := .slice .any 1 (inL l)
theorem lt_sI {n : Nat} {l : List Int} : AV.lt n (sI l) := lt_inL
theorem inL_wk : ∀ l : List Int, wkDR (inL l) (inL l)
  | [] => by simp [inL, wkDR_nil]
  | x :: l => by
    have := inL_wk l
    unfold inL at this ⊢
    simp [wkDR_cons, AV.cells, wkDL_cons, wkDL_nil, wkD_int, this]
theorem wk_sI {m : Mark} {l : List Int} : wkD (.slice m 1 (inL l)) (sI l) := by
  unfold sI
  rw [wkD_slice]
  exact .inl ⟨.inl rfl, rfl, inL_wk l⟩
theorem ltL_inL {n : Nat} {l : List Int} : ltL n (inL l) := ltL_iff.2 fun j hj => by
  simp [inL, zmh]
theorem closed_mid {H : AHeap} {c cs : List AV} {x y z : AObj} (h : ((((H.push (.cells c)).push x).push y).push z).Closed) (hl : ltL (H.nx + 1 + 1 + 1 + 1) cs) : ((((H.push (.cells cs)).push x).push y).push z).Closed := by
  have h1 : ((((H.push (.cells c)).push x).push y).push z).set H.nx (.cells cs) = (((H.push (.cells cs)).push x).push y).push z := by
    simp only [zkk, zkg]
    rw [if_neg (by omega), if_neg (by omega), if_neg (by omega), if_pos trivial]
  rw [← h1]
  exact closed_set h (by simpa only [zkg] using hl)
structure SLen (S : Sch) : Prop where
  fl : S.fields.length ≤ 1000000
  hl : S.headers.length ≤ 1000000
  sl : S.states.length ≤ 1000000
  al : S.actions.length ≤ 1000000
  tl : S.tables.length ≤ 1000000
  rl : S.roles.length ≤ 1000000
def idsAV (S : Sch) : AV := .agg [sI (S.fields.map (·.id)), sI (S.headers.map (·.id)), sI (S.states.map (·.id)), sI (S.actions.map (·.id)), sI (S.tables.map (·.id)), sI (S.roles.map (·.id))]
def p_rIds : List AV → AHeap → (AV → Prop) → Prop
  | [.agg l], _, K => ∃ S : Sch, (l = schC S ∧ SLen S) ∧ K (idsAV S)
  | _, _, _ => False
set_option maxHeartbeats 8000000 in
theorem ok_rIds : EntOk Try.prog 144 (Ent.pure p_rIds) := by
  refine EntOk.pure fun args H K h => ?_
  unfold p_rIds at h
  split at h
  rotate_left
  · exact h.elim
  rename_i l
  obtain ⟨S, ⟨rfl, h1, h2, h3, h4, h5, h6⟩, hK⟩ := h
  refine ⟨_, hK, ?_⟩
  clear hK
  refine ACalls.of_aw (Ω := []) (T := assoc [(7, [[1,1]]), (12, [[1,1]]), (17, [[1,1]]), (22, [[1,1]]), (27, [[1,1]]), (32, [[1,1]])]) mixed TblOk.nil Try.func144 (by kernel_rfl) (by rfl) (rs := [.cell 2 237]) (by rfl) (by kernel_rfl) (by simp only [Try.ntmps144, yaz, yba]; decide) (Nat.le_refl _) fun hcl hlt => ?_
  change aw _ _ _ (KI Try.prog [] (aEnd Try.prog [.cell 2 237] H.nx _ _ (assoc [(7, [[1,1]]), (12, [[1,1]]), (17, [[1,1]]), (22, [[1,1]]), (27, [[1,1]]), (32, [[1,1]])])) []) _ _
  clear hlt
  have nl : ([.slice .nil 1 [], .slice .nil 1 [], .slice .nil 1 [], .slice .nil 1 [], .slice .nil 1 [], .slice .nil 1 []] : List AV).length = 6 := rfl
  obtain ⟨HB, hHB⟩ : ∃ HB, (H.push (.cells (schC S))).push (.cells [.slice .nil 1 [], .slice .nil 1 [], .slice .nil 1 [], .slice .nil 1 [], .slice .nil 1 [], .slice .nil 1 []]) = HB := ⟨_, rfl⟩
  have hclB : HB.Closed := by
    rw [← hHB]
    refine closed_cells (closed_cells hcl (ltL_iff.2 fun j hj => AV.lt_cells (lt_sch S) j hj)) ?_
    simp [zmw, zmx, lt_sliceL]
  have hnB : HB.nx = H.nx + 1 + 1 := by rw [← hHB]; rfl
  simp only [go_sem, reduceCtorEq, Nat.reduceEqDiff, Nat.reduceAdd, Nat.reduceMul, Nat.reduceSub, Nat.reduceLeDiff, Nat.reduceLT, Int.reduceMul, Int.reduceAdd, Int.reduceSub, Int.reduceToNat, schC]
  obtain ⟨C0, hC0⟩ : ∃ C0 : List AV, C0 = (match S.fields with | x :: _ => (fieldAV x).cells | [] => []) := ⟨_, rfl⟩
  have hC0l : ∀ m, ltL m C0 := by
    rw [hC0]
    intro m
    cases S.fields with
    | nil => rw [zmx]; trivial
    | cons x _ => exact ltL_iff.2 fun j hj => AV.lt_cells (lt_field x) j hj
  obtain ⟨HL, hHL⟩ : ∃ HL : Nat → AHeap, HL = fun k => if k = 0 then HB.push (.cells [.slice .nil 1 [], .slice .nil 1 [], .slice .nil 1 [], .slice .nil 1 [], .slice .nil 1 [], .slice .nil 1 []]) else (((HB.push (.cells [.slice (.own (H.nx + 1 + 1 + 1 + 1 + 1)) 1 (inL ((S.fields.take k).map (·.id))), .slice .nil 1 [], .slice .nil 1 [], .slice .nil 1 [], .slice .nil 1 [], .slice .nil 1 []])).push (.cells C0)).push (.buf 1 1)).push (.buf 1 k) := ⟨_, rfl⟩
  have hL0 : HL 0 = HB.push (.cells [.slice .nil 1 [], .slice .nil 1 [], .slice .nil 1 [], .slice .nil 1 [], .slice .nil 1 [], .slice .nil 1 []]) := by rw [hHL]; rfl
  have hLk : ∀ k, k ≠ 0 → HL k = (((HB.push (.cells [.slice (.own (H.nx + 1 + 1 + 1 + 1 + 1)) 1 (inL ((S.fields.take k).map (·.id))), .slice .nil 1 [], .slice .nil 1 [], .slice .nil 1 [], .slice .nil 1 [], .slice .nil 1 []])).push (.cells C0)).push (.buf 1 1)).push (.buf 1 k) := fun k h => by rw [hHL]; exact if_neg h
  have hclL : ∀ k, (HL k).Closed := fun k => by
    by_cases h : k = 0
    · rw [h, hL0]
      exact closed_cells hclB (by simp [zmw, zmx, lt_sliceL, lt_sI])
    · rw [hLk k h]
      refine closed_mid (c := [.slice .nil 1 [], .slice .nil 1 [], .slice .nil 1 [], .slice .nil 1 [], .slice .nil 1 [], .slice .nil 1 []]) (closed_buf (closed_buf (closed_cells (closed_cells hclB (by simp [zmw, zmx, lt_sliceL, lt_sI])) (hC0l _)))) ?_
      simp [zmw, zmx, lt_sliceL, lt_sI, hnB, ltL_inL]
  have hnL : ∀ k, H.nx + 1 + 1 + 1 ≤ (HL k).nx := fun k => by
    by_cases h : k = 0
    · rw [h, hL0, zkg, hnB]; omega
    · rw [hLk k h]; simp only [zkg, hnB]; omega
  apply join_cut (α := Unit) (fun _ => [(1, .ptr H.nx 0), (2, .ptr (H.nx + 1) 0), (3, .ptr (H.nx + 1 + 1) 0)]) (fun _ => HB.push (.cells [sI (S.fields.map (·.id)), .slice .nil 1 [], .slice .nil 1 [], .slice .nil 1 [], .slice .nil 1 [], .slice .nil 1 []])) (fun _ => True)
  · intro J
    refine loop_introW (A := Nat) (fun k => [(1, .ptr H.nx 0), (2, .ptr (H.nx + 1) 0), (3, .ptr (H.nx + 1 + 1) 0), (17, .slice .any 3 (S.fields.map fieldAV)), (18, .int .i64 (S.fields.length : Int)), (19, .int .i64 (k : Int))]) HL (fun k => k ≤ S.fields.length) (fun k => S.fields.length - k) 0 (by omega) ?_ fun k hk => ?_
    · rw [hL0, ← hHB]
      refine ⟨by simp only [zkg, zjs, zjx]; omega, AHeap.Le.refl _, by have := hclL 0; rw [hL0, ← hHB] at this; exact this, ?_, ?_⟩
      · simp [ltF, zkg, zmp, zmh, lt_map lt_field]
        try omega
      · simp [subW, wk2, wk1, wkM, Fr.get]
    simp only [go_sem, reduceCtorEq, Nat.reduceEqDiff, Nat.reduceAdd, Nat.reduceMul, Nat.reduceSub, Nat.reduceLeDiff, Nat.reduceLT, Int.reduceMul, Int.reduceAdd, Int.reduceSub, Int.reduceToNat]
    refine cond_split (fun hc => ?_) (fun hc => ?_)
    · have hk' : k < S.fields.length := by simp at hc; omega
      obtain ⟨x, hx⟩ : ∃ x, x = S.fields[k] := ⟨_, rfl⟩
      have hxg := getD_map (f := fieldAV) (l := S.fields) (k := k) (x := x) (by rw [List.getElem?_eq_getElem hk', hx])
      have e5 : IntKind.i64.wrap ((k : Int) + 1) = ((k + 1 : Nat) : Int) := by rw [wrap_i64] <;> omega
      have htk : S.fields.take (k + 1) = S.fields.take k ++ [x] := by rw [hx, List.take_succ_eq_append_getElem hk']
      have hil : inL ((S.fields.take k).map (·.id)) ++ [.int .i64 x.id] = inL ((S.fields.take (k + 1)).map (·.id)) := by rw [htk]; simp [inL]
      have hll : (inL ((S.fields.take k).map (·.id))).length = k := by simp [inL]; omega
      by_cases h0 : k = 0
      · subst h0
        have hC1 : C0 = (fieldAV x).cells := by
          rw [hC0]
          cases hq : S.fields with
          | nil => rw [hq] at hk'; exact absurd hk' (by simp)
          | cons y ys => dsimp only; rw [hx]; simp only [hq, List.getElem_cons_zero]
        simp only [fieldAV, AV.cells] at hC1
        have hcl1 := hclL 1
        rw [hLk 1 (by decide), ← hHB, hC1, ← hil] at hcl1
        simp only [yar, yaf, inL, yak, schC] at hcl1
        rw [hL0, ← hHB]
        simp only [blkE, blkP, bhq, Nat.reduceMod, Nat.reduceDiv, stepH, stepM, toMs1, toMs, toMs0, strK, pubK, pubF, pubV, yaq, yar, yao, yap, go_sem, reduceCtorEq, Nat.reduceEqDiff, Nat.reduceAdd, Nat.reduceMul, Nat.reduceSub, Nat.reduceLeDiff, Nat.reduceLT, Int.reduceMul, Int.reduceAdd, Int.reduceSub, Int.reduceToNat, schC, Int.toNat_natCast, ybb, hxg, fieldAV, yal, yak, e5]
        refine ⟨⟨by omega, by omega⟩, ⟨by omega, by omega⟩, fun z hz => by rw [List.mem_singleton.1 hz]; rfl, ⟨by omega, by omega⟩, 1, by omega, by omega, ?_⟩
        rw [hLk 1 (by decide), ← hHB, hC1, ← hil]
        simp only [yar, yaf, inL, yak, schC]
        refine ⟨by simp only [zkg]; omega, by repeat (first | exact AHeap.Le.refl _ | refine AHeap.Le.push ?_ _), hcl1, ?_, ?_⟩
        · simp [ltF, zkg, zmp, zmh, lt_map lt_field]
          try omega
        · simp [subW, wk2, wk1, wkM, Fr.get]
      · have hcl1 := hclL (k + 1)
        rw [hLk (k + 1) (by omega), ← hHB, ← hil] at hcl1
        simp only [schC] at hcl1
        rw [hLk k h0, ← hHB]
        simp only [blkE, blkP, bhq, Nat.reduceMod, Nat.reduceDiv, stepH, stepM, toMs1, toMs, toMs0, strK, pubK, pubF, pubV, yaq, yar, yao, yap, go_sem, reduceCtorEq, Nat.reduceEqDiff, Nat.reduceAdd, Nat.reduceMul, Nat.reduceSub, Nat.reduceLeDiff, Nat.reduceLT, Int.reduceMul, Int.reduceAdd, Int.reduceSub, Int.reduceToNat, schC, Int.toNat_natCast, ybb, hxg, fieldAV, yal, yak, e5]
        refine ⟨⟨by omega, by omega⟩, ⟨by omega, by omega⟩, ⟨by rw [hll], by rw [hll]; omega, by rw [hll]; omega, fun z hz => by rw [List.mem_singleton.1 hz]; rfl⟩, ⟨by omega, by omega⟩, k + 1, by omega, by omega, ?_⟩
        rw [hLk (k + 1) (by omega), ← hHB, ← hil, hll]
        simp only [schC]
        refine ⟨by simp only [zkg]; omega, by repeat (first | exact AHeap.Le.refl _ | refine AHeap.Le.push ?_ _), hcl1, ?_, ?_⟩
        · simp [ltF, zkg, zmp, zmh, lt_map lt_field]
          try omega
        · simp [subW, wk2, wk1, wkM, Fr.get]
    · have hk' : k = S.fields.length := by simp at hc; omega
      have hcl1 : (HB.push (.cells [sI (S.fields.map (·.id)), .slice .nil 1 [], .slice .nil 1 [], .slice .nil 1 [], .slice .nil 1 [], .slice .nil 1 []])).Closed := closed_cells hclB (by simp [zmw, zmx, lt_sliceL, lt_sI])
      rw [← hHB] at hcl1
      by_cases h0 : k = 0
      · subst h0
        have hnl : S.fields = [] := List.length_eq_zero_iff.1 hk'.symm
        rw [hL0, ← hHB]
        simp only [go_sem, reduceCtorEq, Nat.reduceEqDiff, Nat.reduceAdd, Nat.reduceMul, Nat.reduceSub, Nat.reduceLeDiff, Nat.reduceLT, Int.reduceMul, Int.reduceAdd, Int.reduceSub, Int.reduceToNat]
        refine weak_obj (H.nx + 1 + 1) [sI (S.fields.map (·.id)), .slice .nil 1 [], .slice .nil 1 [], .slice .nil 1 [], .slice .nil 1 [], .slice .nil 1 []] (cs := [.slice .nil 1 [], .slice .nil 1 [], .slice .nil 1 [], .slice .nil 1 [], .slice .nil 1 [], .slice .nil 1 []]) (by simp only [go_sem, reduceCtorEq, Nat.reduceEqDiff, Nat.reduceAdd, Nat.reduceMul, Nat.reduceSub, Nat.reduceLeDiff, Nat.reduceLT, Int.reduceMul, Int.reduceAdd, Int.reduceSub, Int.reduceToNat]) ?_ ?_
        · simp only [wkDL_cons, wkDL_nil, and_true]
          refine ⟨?_, ?_, ?_, ?_, ?_, ?_⟩
          all_goals first | exact wk_sI | (rw [hnl]; exact wk_sI (l := [])) | (rw [wkD_slice]; exact .inl ⟨.inr rfl, rfl, by rw [wkDR_nil]; trivial⟩)
        simp only [go_sem, reduceCtorEq, Nat.reduceEqDiff, Nat.reduceAdd, Nat.reduceMul, Nat.reduceSub, Nat.reduceLeDiff, Nat.reduceLT, Int.reduceMul, Int.reduceAdd, Int.reduceSub, Int.reduceToNat]
        refine weak_join J () trivial ⟨by simp only [zkg, zjx, zjs, KI_n0, hnB]; omega, by rw [← hHB]; repeat (first | exact AHeap.Le.refl _ | refine AHeap.Le.push ?_ _), by rw [← hHB]; exact hcl1, ?_, ?_⟩
        · (simp [ltF, zkg, zmp, hnB]; try omega)
        · simp [subW, wk2, wk1, wkM, Fr.get]
      · rw [hLk k h0, ← hHB]
        simp only [go_sem, reduceCtorEq, Nat.reduceEqDiff, Nat.reduceAdd, Nat.reduceMul, Nat.reduceSub, Nat.reduceLeDiff, Nat.reduceLT, Int.reduceMul, Int.reduceAdd, Int.reduceSub, Int.reduceToNat]
        refine weak_obj (H.nx + 1 + 1) [sI (S.fields.map (·.id)), .slice .nil 1 [], .slice .nil 1 [], .slice .nil 1 [], .slice .nil 1 [], .slice .nil 1 []] (cs := [.slice (.own (H.nx + 1 + 1 + 1 + 1 + 1)) 1 (inL ((S.fields.take k).map (·.id))), .slice .nil 1 [], .slice .nil 1 [], .slice .nil 1 [], .slice .nil 1 [], .slice .nil 1 []]) (by simp only [go_sem, reduceCtorEq, Nat.reduceEqDiff, Nat.reduceAdd, Nat.reduceMul, Nat.reduceSub, Nat.reduceLeDiff, Nat.reduceLT, Int.reduceMul, Int.reduceAdd, Int.reduceSub, Int.reduceToNat]) ?_ ?_
        · rw [hk', List.take_length]
          simp only [wkDL_cons, wkDL_nil, and_true]
          refine ⟨?_, ?_, ?_, ?_, ?_, ?_⟩
          all_goals first | exact wk_sI | (rw [wkD_slice]; exact .inl ⟨.inr rfl, rfl, by rw [wkDR_nil]; trivial⟩)
        simp only [go_sem, reduceCtorEq, Nat.reduceEqDiff, Nat.reduceAdd, Nat.reduceMul, Nat.reduceSub, Nat.reduceLeDiff, Nat.reduceLT, Int.reduceMul, Int.reduceAdd, Int.reduceSub, Int.reduceToNat]
        refine weak_join J () trivial ⟨by simp only [zkg, zjx, zjs, KI_n0, hnB]; omega, by rw [← hHB]; repeat (first | exact AHeap.Le.refl _ | refine AHeap.Le.push ?_ _), by rw [← hHB]; exact hcl1, ?_, ?_⟩
        · (simp [ltF, zkg, zmp, hnB]; try omega)
        · simp [subW, wk2, wk1, wkM, Fr.get]
  · intro _ _
    dsimp only
    rw [← hHB]
    simp only [blkE, blkP, bhq, Nat.reduceMod, Nat.reduceDiv, stepH, stepM, toMs1, toMs, toMs0, strK, pubK, pubF, pubV, yaq, yar, yao, yap, go_sem, reduceCtorEq, Nat.reduceEqDiff, Nat.reduceAdd, Nat.reduceMul, Nat.reduceSub, Nat.reduceLeDiff, Nat.reduceLT, Int.reduceMul, Int.reduceAdd, Int.reduceSub, Int.reduceToNat, schC]
    obtain ⟨C0, hC0⟩ : ∃ C0 : List AV, C0 = (match S.headers with | x :: _ => (headerAV x).cells | [] => []) := ⟨_, rfl⟩
    have hC0l : ∀ m, ltL m C0 := by
      rw [hC0]
      intro m
      cases S.headers with
      | nil => rw [zmx]; trivial
      | cons x _ => exact ltL_iff.2 fun j hj => AV.lt_cells (lt_header x) j hj
    obtain ⟨HL, hHL⟩ : ∃ HL : Nat → AHeap, HL = fun k => if k = 0 then HB.push (.cells [sI (S.fields.map (·.id)), .slice .nil 1 [], .slice .nil 1 [], .slice .nil 1 [], .slice .nil 1 [], .slice .nil 1 []]) else (((HB.push (.cells [sI (S.fields.map (·.id)), .slice (.own (H.nx + 1 + 1 + 1 + 1 + 1)) 1 (inL ((S.headers.take k).map (·.id))), .slice .nil 1 [], .slice .nil 1 [], .slice .nil 1 [], .slice .nil 1 []])).push (.cells C0)).push (.buf 1 1)).push (.buf 1 k) := ⟨_, rfl⟩
    have hL0 : HL 0 = HB.push (.cells [sI (S.fields.map (·.id)), .slice .nil 1 [], .slice .nil 1 [], .slice .nil 1 [], .slice .nil 1 [], .slice .nil 1 []]) := by rw [hHL]; rfl
    have hLk : ∀ k, k ≠ 0 → HL k = (((HB.push (.cells [sI (S.fields.map (·.id)), .slice (.own (H.nx + 1 + 1 + 1 + 1 + 1)) 1 (inL ((S.headers.take k).map (·.id))), .slice .nil 1 [], .slice .nil 1 [], .slice .nil 1 [], .slice .nil 1 []])).push (.cells C0)).push (.buf 1 1)).push (.buf 1 k) := fun k h => by rw [hHL]; exact if_neg h
    have hclL : ∀ k, (HL k).Closed := fun k => by
      by_cases h : k = 0
      · rw [h, hL0]
        exact closed_cells hclB (by simp [zmw, zmx, lt_sliceL, lt_sI])
      · rw [hLk k h]
        refine closed_mid (c := [sI (S.fields.map (·.id)), .slice .nil 1 [], .slice .nil 1 [], .slice .nil 1 [], .slice .nil 1 [], .slice .nil 1 []]) (closed_buf (closed_buf (closed_cells (closed_cells hclB (by simp [zmw, zmx, lt_sliceL, lt_sI])) (hC0l _)))) ?_
        simp [zmw, zmx, lt_sliceL, lt_sI, hnB, ltL_inL]
    have hnL : ∀ k, H.nx + 1 + 1 + 1 ≤ (HL k).nx := fun k => by
      by_cases h : k = 0
      · rw [h, hL0, zkg, hnB]; omega
      · rw [hLk k h]; simp only [zkg, hnB]; omega
    apply join_cut (α := Unit) (fun _ => [(1, .ptr H.nx 0), (2, .ptr (H.nx + 1) 0), (3, .ptr (H.nx + 1 + 1) 0)]) (fun _ => HB.push (.cells [sI (S.fields.map (·.id)), sI (S.headers.map (·.id)), .slice .nil 1 [], .slice .nil 1 [], .slice .nil 1 [], .slice .nil 1 []])) (fun _ => True)
    · intro J
      refine loop_introW (A := Nat) (fun k => [(1, .ptr H.nx 0), (2, .ptr (H.nx + 1) 0), (3, .ptr (H.nx + 1 + 1) 0), (32, .slice .any 3 (S.headers.map headerAV)), (33, .int .i64 (S.headers.length : Int)), (34, .int .i64 (k : Int))]) HL (fun k => k ≤ S.headers.length) (fun k => S.headers.length - k) 0 (by omega) ?_ fun k hk => ?_
      · rw [hL0, ← hHB]
        refine ⟨by simp only [zkg, zjs, zjx]; omega, AHeap.Le.refl _, by have := hclL 0; rw [hL0, ← hHB] at this; exact this, ?_, ?_⟩
        · simp [ltF, zkg, zmp, zmh, lt_map lt_header]
          try omega
        · simp [subW, wk2, wk1, wkM, Fr.get]
      simp only [go_sem, reduceCtorEq, Nat.reduceEqDiff, Nat.reduceAdd, Nat.reduceMul, Nat.reduceSub, Nat.reduceLeDiff, Nat.reduceLT, Int.reduceMul, Int.reduceAdd, Int.reduceSub, Int.reduceToNat]
      refine cond_split (fun hc => ?_) (fun hc => ?_)
      · have hk' : k < S.headers.length := by simp at hc; omega
        obtain ⟨x, hx⟩ : ∃ x, x = S.headers[k] := ⟨_, rfl⟩
        have hxg := getD_map (f := headerAV) (l := S.headers) (k := k) (x := x) (by rw [List.getElem?_eq_getElem hk', hx])
        have e5 : IntKind.i64.wrap ((k : Int) + 1) = ((k + 1 : Nat) : Int) := by rw [wrap_i64] <;> omega
        have htk : S.headers.take (k + 1) = S.headers.take k ++ [x] := by rw [hx, List.take_succ_eq_append_getElem hk']
        have hil : inL ((S.headers.take k).map (·.id)) ++ [.int .i64 x.id] = inL ((S.headers.take (k + 1)).map (·.id)) := by rw [htk]; simp [inL]
        have hll : (inL ((S.headers.take k).map (·.id))).length = k := by simp [inL]; omega
        by_cases h0 : k = 0
        · subst h0
          have hC1 : C0 = (headerAV x).cells := by
            rw [hC0]
            cases hq : S.headers with
            | nil => rw [hq] at hk'; exact absurd hk' (by simp)
            | cons y ys => dsimp only; rw [hx]; simp only [hq, List.getElem_cons_zero]
          simp only [headerAV, AV.cells] at hC1
          have hcl1 := hclL 1
          rw [hLk 1 (by decide), ← hHB, hC1, ← hil] at hcl1
          simp only [yar, yaf, inL, yak, schC] at hcl1
          rw [hL0, ← hHB]
          simp only [blkE, blkP, bhq, Nat.reduceMod, Nat.reduceDiv, stepH, stepM, toMs1, toMs, toMs0, strK, pubK, pubF, pubV, yaq, yar, yao, yap, go_sem, reduceCtorEq, Nat.reduceEqDiff, Nat.reduceAdd, Nat.reduceMul, Nat.reduceSub, Nat.reduceLeDiff, Nat.reduceLT, Int.reduceMul, Int.reduceAdd, Int.reduceSub, Int.reduceToNat, schC, Int.toNat_natCast, ybb, hxg, headerAV, yal, yak, e5]
          refine ⟨⟨by omega, by omega⟩, ⟨by omega, by omega⟩, fun z hz => by rw [List.mem_singleton.1 hz]; rfl, ⟨by omega, by omega⟩, 1, by omega, by omega, ?_⟩
          rw [hLk 1 (by decide), ← hHB, hC1, ← hil]
          simp only [yar, yaf, inL, yak, schC]
          refine ⟨by simp only [zkg]; omega, by repeat (first | exact AHeap.Le.refl _ | refine AHeap.Le.push ?_ _), hcl1, ?_, ?_⟩
          · simp [ltF, zkg, zmp, zmh, lt_map lt_header]
            try omega
          · simp [subW, wk2, wk1, wkM, Fr.get]
        · have hcl1 := hclL (k + 1)
          rw [hLk (k + 1) (by omega), ← hHB, ← hil] at hcl1
          simp only [schC] at hcl1
          rw [hLk k h0, ← hHB]
          simp only [blkE, blkP, bhq, Nat.reduceMod, Nat.reduceDiv, stepH, stepM, toMs1, toMs, toMs0, strK, pubK, pubF, pubV, yaq, yar, yao, yap, go_sem, reduceCtorEq, Nat.reduceEqDiff, Nat.reduceAdd, Nat.reduceMul, Nat.reduceSub, Nat.reduceLeDiff, Nat.reduceLT, Int.reduceMul, Int.reduceAdd, Int.reduceSub, Int.reduceToNat, schC, Int.toNat_natCast, ybb, hxg, headerAV, yal, yak, e5]
          refine ⟨⟨by omega, by omega⟩, ⟨by omega, by omega⟩, ⟨by rw [hll], by rw [hll]; omega, by rw [hll]; omega, fun z hz => by rw [List.mem_singleton.1 hz]; rfl⟩, ⟨by omega, by omega⟩, k + 1, by omega, by omega, ?_⟩
          rw [hLk (k + 1) (by omega), ← hHB, ← hil, hll]
          simp only [schC]
          refine ⟨by simp only [zkg]; omega, by repeat (first | exact AHeap.Le.refl _ | refine AHeap.Le.push ?_ _), hcl1, ?_, ?_⟩
          · simp [ltF, zkg, zmp, zmh, lt_map lt_header]
            try omega
          · simp [subW, wk2, wk1, wkM, Fr.get]
      · have hk' : k = S.headers.length := by simp at hc; omega
        have hcl1 : (HB.push (.cells [sI (S.fields.map (·.id)), sI (S.headers.map (·.id)), .slice .nil 1 [], .slice .nil 1 [], .slice .nil 1 [], .slice .nil 1 []])).Closed := closed_cells hclB (by simp [zmw, zmx, lt_sliceL, lt_sI])
        rw [← hHB] at hcl1
        by_cases h0 : k = 0
        · subst h0
          have hnl : S.headers = [] := List.length_eq_zero_iff.1 hk'.symm
          rw [hL0, ← hHB]
          simp only [go_sem, reduceCtorEq, Nat.reduceEqDiff, Nat.reduceAdd, Nat.reduceMul, Nat.reduceSub, Nat.reduceLeDiff, Nat.reduceLT, Int.reduceMul, Int.reduceAdd, Int.reduceSub, Int.reduceToNat]
          refine weak_obj (H.nx + 1 + 1) [sI (S.fields.map (·.id)), sI (S.headers.map (·.id)), .slice .nil 1 [], .slice .nil 1 [], .slice .nil 1 [], .slice .nil 1 []] (cs := [sI (S.fields.map (·.id)), .slice .nil 1 [], .slice .nil 1 [], .slice .nil 1 [], .slice .nil 1 [], .slice .nil 1 []]) (by simp only [go_sem, reduceCtorEq, Nat.reduceEqDiff, Nat.reduceAdd, Nat.reduceMul, Nat.reduceSub, Nat.reduceLeDiff, Nat.reduceLT, Int.reduceMul, Int.reduceAdd, Int.reduceSub, Int.reduceToNat]) ?_ ?_
          · simp only [wkDL_cons, wkDL_nil, and_true]
            refine ⟨?_, ?_, ?_, ?_, ?_, ?_⟩
            all_goals first | exact wk_sI | (rw [hnl]; exact wk_sI (l := [])) | (rw [wkD_slice]; exact .inl ⟨.inr rfl, rfl, by rw [wkDR_nil]; trivial⟩)
          simp only [go_sem, reduceCtorEq, Nat.reduceEqDiff, Nat.reduceAdd, Nat.reduceMul, Nat.reduceSub, Nat.reduceLeDiff, Nat.reduceLT, Int.reduceMul, Int.reduceAdd, Int.reduceSub, Int.reduceToNat]
          refine weak_join J () trivial ⟨by simp only [zkg, zjx, zjs, KI_n0, hnB]; omega, by rw [← hHB]; repeat (first | exact AHeap.Le.refl _ | refine AHeap.Le.push ?_ _), by rw [← hHB]; exact hcl1, ?_, ?_⟩
          · (simp [ltF, zkg, zmp, hnB]; try omega)
          · simp [subW, wk2, wk1, wkM, Fr.get]
        · rw [hLk k h0, ← hHB]
          simp only [go_sem, reduceCtorEq, Nat.reduceEqDiff, Nat.reduceAdd, Nat.reduceMul, Nat.reduceSub, Nat.reduceLeDiff, Nat.reduceLT, Int.reduceMul, Int.reduceAdd, Int.reduceSub, Int.reduceToNat]
          refine weak_obj (H.nx + 1 + 1) [sI (S.fields.map (·.id)), sI (S.headers.map (·.id)), .slice .nil 1 [], .slice .nil 1 [], .slice .nil 1 [], .slice .nil 1 []] (cs := [sI (S.fields.map (·.id)), .slice (.own (H.nx + 1 + 1 + 1 + 1 + 1)) 1 (inL ((S.headers.take k).map (·.id))), .slice .nil 1 [], .slice .nil 1 [], .slice .nil 1 [], .slice .nil 1 []]) (by simp only [go_sem, reduceCtorEq, Nat.reduceEqDiff, Nat.reduceAdd, Nat.reduceMul, Nat.reduceSub, Nat.reduceLeDiff, Nat.reduceLT, Int.reduceMul, Int.reduceAdd, Int.reduceSub, Int.reduceToNat]) ?_ ?_
          · rw [hk', List.take_length]
            simp only [wkDL_cons, wkDL_nil, and_true]
            refine ⟨?_, ?_, ?_, ?_, ?_, ?_⟩
            all_goals first | exact wk_sI | (rw [wkD_slice]; exact .inl ⟨.inr rfl, rfl, by rw [wkDR_nil]; trivial⟩)
          simp only [go_sem, reduceCtorEq, Nat.reduceEqDiff, Nat.reduceAdd, Nat.reduceMul, Nat.reduceSub, Nat.reduceLeDiff, Nat.reduceLT, Int.reduceMul, Int.reduceAdd, Int.reduceSub, Int.reduceToNat]
          refine weak_join J () trivial ⟨by simp only [zkg, zjx, zjs, KI_n0, hnB]; omega, by rw [← hHB]; repeat (first | exact AHeap.Le.refl _ | refine AHeap.Le.push ?_ _), by rw [← hHB]; exact hcl1, ?_, ?_⟩
          · (simp [ltF, zkg, zmp, hnB]; try omega)
          · simp [subW, wk2, wk1, wkM, Fr.get]
    · intro _ _
      dsimp only
      rw [← hHB]
      simp only [blkE, blkP, bhq, Nat.reduceMod, Nat.reduceDiv, stepH, stepM, toMs1, toMs, toMs0, strK, pubK, pubF, pubV, yaq, yar, yao, yap, go_sem, reduceCtorEq, Nat.reduceEqDiff, Nat.reduceAdd, Nat.reduceMul, Nat.reduceSub, Nat.reduceLeDiff, Nat.reduceLT, Int.reduceMul, Int.reduceAdd, Int.reduceSub, Int.reduceToNat, schC]
      obtain ⟨C0, hC0⟩ : ∃ C0 : List AV, C0 = (match S.states with | x :: _ => (stateAV x).cells | [] => []) := ⟨_, rfl⟩
      have hC0l : ∀ m, ltL m C0 := by
        rw [hC0]
        intro m
        cases S.states with
        | nil => rw [zmx]; trivial
        | cons x _ => exact ltL_iff.2 fun j hj => AV.lt_cells (lt_state x) j hj
      obtain ⟨HL, hHL⟩ : ∃ HL : Nat → AHeap, HL = fun k => if k = 0 then HB.push (.cells [sI (S.fields.map (·.id)), sI (S.headers.map (·.id)), .slice .nil 1 [], .slice .nil 1 [], .slice .nil 1 [], .slice .nil 1 []]) else (((HB.push (.cells [sI (S.fields.map (·.id)), sI (S.headers.map (·.id)), .slice (.own (H.nx + 1 + 1 + 1 + 1 + 1)) 1 (inL ((S.states.take k).map (·.id))), .slice .nil 1 [], .slice .nil 1 [], .slice .nil 1 []])).push (.cells C0)).push (.buf 1 1)).push (.buf 1 k) := ⟨_, rfl⟩
      have hL0 : HL 0 = HB.push (.cells [sI (S.fields.map (·.id)), sI (S.headers.map (·.id)), .slice .nil 1 [], .slice .nil 1 [], .slice .nil 1 [], .slice .nil 1 []]) := by rw [hHL]; rfl
      have hLk : ∀ k, k ≠ 0 → HL k = (((HB.push (.cells [sI (S.fields.map (·.id)), sI (S.headers.map (·.id)), .slice (.own (H.nx + 1 + 1 + 1 + 1 + 1)) 1 (inL ((S.states.take k).map (·.id))), .slice .nil 1 [], .slice .nil 1 [], .slice .nil 1 []])).push (.cells C0)).push (.buf 1 1)).push (.buf 1 k) := fun k h => by rw [hHL]; exact if_neg h
      have hclL : ∀ k, (HL k).Closed := fun k => by
        by_cases h : k = 0
        · rw [h, hL0]
          exact closed_cells hclB (by simp [zmw, zmx, lt_sliceL, lt_sI])
        · rw [hLk k h]
          refine closed_mid (c := [sI (S.fields.map (·.id)), sI (S.headers.map (·.id)), .slice .nil 1 [], .slice .nil 1 [], .slice .nil 1 [], .slice .nil 1 []]) (closed_buf (closed_buf (closed_cells (closed_cells hclB (by simp [zmw, zmx, lt_sliceL, lt_sI])) (hC0l _)))) ?_
          simp [zmw, zmx, lt_sliceL, lt_sI, hnB, ltL_inL]
      have hnL : ∀ k, H.nx + 1 + 1 + 1 ≤ (HL k).nx := fun k => by
        by_cases h : k = 0
        · rw [h, hL0, zkg, hnB]; omega
        · rw [hLk k h]; simp only [zkg, hnB]; omega
      apply join_cut (α := Unit) (fun _ => [(1, .ptr H.nx 0), (2, .ptr (H.nx + 1) 0), (3, .ptr (H.nx + 1 + 1) 0)]) (fun _ => HB.push (.cells [sI (S.fields.map (·.id)), sI (S.headers.map (·.id)), sI (S.states.map (·.id)), .slice .nil 1 [], .slice .nil 1 [], .slice .nil 1 []])) (fun _ => True)
      · intro J
        refine loop_introW (A := Nat) (fun k => [(1, .ptr H.nx 0), (2, .ptr (H.nx + 1) 0), (3, .ptr (H.nx + 1 + 1) 0), (47, .slice .any 5 (S.states.map stateAV)), (48, .int .i64 (S.states.length : Int)), (49, .int .i64 (k : Int))]) HL (fun k => k ≤ S.states.length) (fun k => S.states.length - k) 0 (by omega) ?_ fun k hk => ?_
        · rw [hL0, ← hHB]
          refine ⟨by simp only [zkg, zjs, zjx]; omega, AHeap.Le.refl _, by have := hclL 0; rw [hL0, ← hHB] at this; exact this, ?_, ?_⟩
          · simp [ltF, zkg, zmp, zmh, lt_map lt_state]
            try omega
          · simp [subW, wk2, wk1, wkM, Fr.get]
        simp only [go_sem, reduceCtorEq, Nat.reduceEqDiff, Nat.reduceAdd, Nat.reduceMul, Nat.reduceSub, Nat.reduceLeDiff, Nat.reduceLT, Int.reduceMul, Int.reduceAdd, Int.reduceSub, Int.reduceToNat]
        refine cond_split (fun hc => ?_) (fun hc => ?_)
        · have hk' : k < S.states.length := by simp at hc; omega
          obtain ⟨x, hx⟩ : ∃ x, x = S.states[k] := ⟨_, rfl⟩
          have hxg := getD_map (f := stateAV) (l := S.states) (k := k) (x := x) (by rw [List.getElem?_eq_getElem hk', hx])
          have e5 : IntKind.i64.wrap ((k : Int) + 1) = ((k + 1 : Nat) : Int) := by rw [wrap_i64] <;> omega
          have htk : S.states.take (k + 1) = S.states.take k ++ [x] := by rw [hx, List.take_succ_eq_append_getElem hk']
          have hil : inL ((S.states.take k).map (·.id)) ++ [.int .i64 x.id] = inL ((S.states.take (k + 1)).map (·.id)) := by rw [htk]; simp [inL]
          have hll : (inL ((S.states.take k).map (·.id))).length = k := by simp [inL]; omega
          by_cases h0 : k = 0
          · subst h0
            have hC1 : C0 = (stateAV x).cells := by
              rw [hC0]
              cases hq : S.states with
              | nil => rw [hq] at hk'; exact absurd hk' (by simp)
              | cons y ys => dsimp only; rw [hx]; simp only [hq, List.getElem_cons_zero]
            simp only [stateAV, AV.cells] at hC1
            have hcl1 := hclL 1
            rw [hLk 1 (by decide), ← hHB, hC1, ← hil] at hcl1
            simp only [yar, yaf, inL, yak, schC] at hcl1
            rw [hL0, ← hHB]
            simp only [blkE, blkP, bhq, Nat.reduceMod, Nat.reduceDiv, stepH, stepM, toMs1, toMs, toMs0, strK, pubK, pubF, pubV, yaq, yar, yao, yap, go_sem, reduceCtorEq, Nat.reduceEqDiff, Nat.reduceAdd, Nat.reduceMul, Nat.reduceSub, Nat.reduceLeDiff, Nat.reduceLT, Int.reduceMul, Int.reduceAdd, Int.reduceSub, Int.reduceToNat, schC, Int.toNat_natCast, ybb, hxg, stateAV, yal, yak, e5]
            refine ⟨⟨by omega, by omega⟩, ⟨by omega, by omega⟩, fun z hz => by rw [List.mem_singleton.1 hz]; rfl, ⟨by omega, by omega⟩, 1, by omega, by omega, ?_⟩
            rw [hLk 1 (by decide), ← hHB, hC1, ← hil]
            simp only [yar, yaf, inL, yak, schC]
            refine ⟨by simp only [zkg]; omega, by repeat (first | exact AHeap.Le.refl _ | refine AHeap.Le.push ?_ _), hcl1, ?_, ?_⟩
            · simp [ltF, zkg, zmp, zmh, lt_map lt_state]
              try omega
            · simp [subW, wk2, wk1, wkM, Fr.get]
          · have hcl1 := hclL (k + 1)
            rw [hLk (k + 1) (by omega), ← hHB, ← hil] at hcl1
            simp only [schC] at hcl1
            rw [hLk k h0, ← hHB]
            simp only [blkE, blkP, bhq, Nat.reduceMod, Nat.reduceDiv, stepH, stepM, toMs1, toMs, toMs0, strK, pubK, pubF, pubV, yaq, yar, yao, yap, go_sem, reduceCtorEq, Nat.reduceEqDiff, Nat.reduceAdd, Nat.reduceMul, Nat.reduceSub, Nat.reduceLeDiff, Nat.reduceLT, Int.reduceMul, Int.reduceAdd, Int.reduceSub, Int.reduceToNat, schC, Int.toNat_natCast, ybb, hxg, stateAV, yal, yak, e5]
            refine ⟨⟨by omega, by omega⟩, ⟨by omega, by omega⟩, ⟨by rw [hll], by rw [hll]; omega, by rw [hll]; omega, fun z hz => by rw [List.mem_singleton.1 hz]; rfl⟩, ⟨by omega, by omega⟩, k + 1, by omega, by omega, ?_⟩
            rw [hLk (k + 1) (by omega), ← hHB, ← hil, hll]
            simp only [schC]
            refine ⟨by simp only [zkg]; omega, by repeat (first | exact AHeap.Le.refl _ | refine AHeap.Le.push ?_ _), hcl1, ?_, ?_⟩
            · simp [ltF, zkg, zmp, zmh, lt_map lt_state]
              try omega
            · simp [subW, wk2, wk1, wkM, Fr.get]
        · have hk' : k = S.states.length := by simp at hc; omega
          have hcl1 : (HB.push (.cells [sI (S.fields.map (·.id)), sI (S.headers.map (·.id)), sI (S.states.map (·.id)), .slice .nil 1 [], .slice .nil 1 [], .slice .nil 1 []])).Closed := closed_cells hclB (by simp [zmw, zmx, lt_sliceL, lt_sI])
          rw [← hHB] at hcl1
          by_cases h0 : k = 0
          · subst h0
            have hnl : S.states = [] := List.length_eq_zero_iff.1 hk'.symm
            rw [hL0, ← hHB]
            simp only [go_sem, reduceCtorEq, Nat.reduceEqDiff, Nat.reduceAdd, Nat.reduceMul, Nat.reduceSub, Nat.reduceLeDiff, Nat.reduceLT, Int.reduceMul, Int.reduceAdd, Int.reduceSub, Int.reduceToNat]
            refine weak_obj (H.nx + 1 + 1) [sI (S.fields.map (·.id)), sI (S.headers.map (·.id)), sI (S.states.map (·.id)), .slice .nil 1 [], .slice .nil 1 [], .slice .nil 1 []] (cs := [sI (S.fields.map (·.id)), sI (S.headers.map (·.id)), .slice .nil 1 [], .slice .nil 1 [], .slice .nil 1 [], .slice .nil 1 []]) (by simp only [go_sem, reduceCtorEq, Nat.reduceEqDiff, Nat.reduceAdd, Nat.reduceMul, Nat.reduceSub, Nat.reduceLeDiff, Nat.reduceLT, Int.reduceMul, Int.reduceAdd, Int.reduceSub, Int.reduceToNat]) ?_ ?_
            · simp only [wkDL_cons, wkDL_nil, and_true]
              refine ⟨?_, ?_, ?_, ?_, ?_, ?_⟩
              all_goals first | exact wk_sI | (rw [hnl]; exact wk_sI (l := [])) | (rw [wkD_slice]; exact .inl ⟨.inr rfl, rfl, by rw [wkDR_nil]; trivial⟩)
            simp only [go_sem, reduceCtorEq, Nat.reduceEqDiff, Nat.reduceAdd, Nat.reduceMul, Nat.reduceSub, Nat.reduceLeDiff, Nat.reduceLT, Int.reduceMul, Int.reduceAdd, Int.reduceSub, Int.reduceToNat]
            refine weak_join J () trivial ⟨by simp only [zkg, zjx, zjs, KI_n0, hnB]; omega, by rw [← hHB]; repeat (first | exact AHeap.Le.refl _ | refine AHeap.Le.push ?_ _), by rw [← hHB]; exact hcl1, ?_, ?_⟩
            · (simp [ltF, zkg, zmp, hnB]; try omega)
            · simp [subW, wk2, wk1, wkM, Fr.get]
          · rw [hLk k h0, ← hHB]
            simp only [go_sem, reduceCtorEq, Nat.reduceEqDiff, Nat.reduceAdd, Nat.reduceMul, Nat.reduceSub, Nat.reduceLeDiff, Nat.reduceLT, Int.reduceMul, Int.reduceAdd, Int.reduceSub, Int.reduceToNat]
            refine weak_obj (H.nx + 1 + 1) [sI (S.fields.map (·.id)), sI (S.headers.map (·.id)), sI (S.states.map (·.id)), .slice .nil 1 [], .slice .nil 1 [], .slice .nil 1 []] (cs := [sI (S.fields.map (·.id)), sI (S.headers.map (·.id)), .slice (.own (H.nx + 1 + 1 + 1 + 1 + 1)) 1 (inL ((S.states.take k).map (·.id))), .slice .nil 1 [], .slice .nil 1 [], .slice .nil 1 []]) (by simp only [go_sem, reduceCtorEq, Nat.reduceEqDiff, Nat.reduceAdd, Nat.reduceMul, Nat.reduceSub, Nat.reduceLeDiff, Nat.reduceLT, Int.reduceMul, Int.reduceAdd, Int.reduceSub, Int.reduceToNat]) ?_ ?_
            · rw [hk', List.take_length]
              simp only [wkDL_cons, wkDL_nil, and_true]
              refine ⟨?_, ?_, ?_, ?_, ?_, ?_⟩
              all_goals first | exact wk_sI | (rw [wkD_slice]; exact .inl ⟨.inr rfl, rfl, by rw [wkDR_nil]; trivial⟩)
            simp only [go_sem, reduceCtorEq, Nat.reduceEqDiff, Nat.reduceAdd, Nat.reduceMul, Nat.reduceSub, Nat.reduceLeDiff, Nat.reduceLT, Int.reduceMul, Int.reduceAdd, Int.reduceSub, Int.reduceToNat]
            refine weak_join J () trivial ⟨by simp only [zkg, zjx, zjs, KI_n0, hnB]; omega, by rw [← hHB]; repeat (first | exact AHeap.Le.refl _ | refine AHeap.Le.push ?_ _), by rw [← hHB]; exact hcl1, ?_, ?_⟩
            · (simp [ltF, zkg, zmp, hnB]; try omega)
            · simp [subW, wk2, wk1, wkM, Fr.get]
      · intro _ _
        dsimp only
        rw [← hHB]
        simp only [blkE, blkP, bhq, Nat.reduceMod, Nat.reduceDiv, stepH, stepM, toMs1, toMs, toMs0, strK, pubK, pubF, pubV, yaq, yar, yao, yap, go_sem, reduceCtorEq, Nat.reduceEqDiff, Nat.reduceAdd, Nat.reduceMul, Nat.reduceSub, Nat.reduceLeDiff, Nat.reduceLT, Int.reduceMul, Int.reduceAdd, Int.reduceSub, Int.reduceToNat, schC]
        obtain ⟨C0, hC0⟩ : ∃ C0 : List AV, C0 = (match S.actions with | x :: _ => (actionAV x).cells | [] => []) := ⟨_, rfl⟩
        have hC0l : ∀ m, ltL m C0 := by
          rw [hC0]
          intro m
          cases S.actions with
          | nil => rw [zmx]; trivial
          | cons x _ => exact ltL_iff.2 fun j hj => AV.lt_cells (lt_action x) j hj
        obtain ⟨HL, hHL⟩ : ∃ HL : Nat → AHeap, HL = fun k => if k = 0 then HB.push (.cells [sI (S.fields.map (·.id)), sI (S.headers.map (·.id)), sI (S.states.map (·.id)), .slice .nil 1 [], .slice .nil 1 [], .slice .nil 1 []]) else (((HB.push (.cells [sI (S.fields.map (·.id)), sI (S.headers.map (·.id)), sI (S.states.map (·.id)), .slice (.own (H.nx + 1 + 1 + 1 + 1 + 1)) 1 (inL ((S.actions.take k).map (·.id))), .slice .nil 1 [], .slice .nil 1 []])).push (.cells C0)).push (.buf 1 1)).push (.buf 1 k) := ⟨_, rfl⟩
        have hL0 : HL 0 = HB.push (.cells [sI (S.fields.map (·.id)), sI (S.headers.map (·.id)), sI (S.states.map (·.id)), .slice .nil 1 [], .slice .nil 1 [], .slice .nil 1 []]) := by rw [hHL]; rfl
        have hLk : ∀ k, k ≠ 0 → HL k = (((HB.push (.cells [sI (S.fields.map (·.id)), sI (S.headers.map (·.id)), sI (S.states.map (·.id)), .slice (.own (H.nx + 1 + 1 + 1 + 1 + 1)) 1 (inL ((S.actions.take k).map (·.id))), .slice .nil 1 [], .slice .nil 1 []])).push (.cells C0)).push (.buf 1 1)).push (.buf 1 k) := fun k h => by rw [hHL]; exact if_neg h
        have hclL : ∀ k, (HL k).Closed := fun k => by
          by_cases h : k = 0
          · rw [h, hL0]
            exact closed_cells hclB (by simp [zmw, zmx, lt_sliceL, lt_sI])
          · rw [hLk k h]
            refine closed_mid (c := [sI (S.fields.map (·.id)), sI (S.headers.map (·.id)), sI (S.states.map (·.id)), .slice .nil 1 [], .slice .nil 1 [], .slice .nil 1 []]) (closed_buf (closed_buf (closed_cells (closed_cells hclB (by simp [zmw, zmx, lt_sliceL, lt_sI])) (hC0l _)))) ?_
            simp [zmw, zmx, lt_sliceL, lt_sI, hnB, ltL_inL]
        have hnL : ∀ k, H.nx + 1 + 1 + 1 ≤ (HL k).nx := fun k => by
          by_cases h : k = 0
          · rw [h, hL0, zkg, hnB]; omega
          · rw [hLk k h]; simp only [zkg, hnB]; omega
        apply join_cut (α := Unit) (fun _ => [(1, .ptr H.nx 0), (2, .ptr (H.nx + 1) 0), (3, .ptr (H.nx + 1 + 1) 0)]) (fun _ => HB.push (.cells [sI (S.fields.map (·.id)), sI (S.headers.map (·.id)), sI (S.states.map (·.id)), sI (S.actions.map (·.id)), .slice .nil 1 [], .slice .nil 1 []])) (fun _ => True)
        · intro J
          refine loop_introW (A := Nat) (fun k => [(1, .ptr H.nx 0), (2, .ptr (H.nx + 1) 0), (3, .ptr (H.nx + 1 + 1) 0), (62, .slice .any 5 (S.actions.map actionAV)), (63, .int .i64 (S.actions.length : Int)), (64, .int .i64 (k : Int))]) HL (fun k => k ≤ S.actions.length) (fun k => S.actions.length - k) 0 (by omega) ?_ fun k hk => ?_
          · rw [hL0, ← hHB]
            refine ⟨by simp only [zkg, zjs, zjx]; omega, AHeap.Le.refl _, by have := hclL 0; rw [hL0, ← hHB] at this; exact this, ?_, ?_⟩
            · simp [ltF, zkg, zmp, zmh, lt_map lt_action]
              try omega
            · simp [subW, wk2, wk1, wkM, Fr.get]
          simp only [go_sem, reduceCtorEq, Nat.reduceEqDiff, Nat.reduceAdd, Nat.reduceMul, Nat.reduceSub, Nat.reduceLeDiff, Nat.reduceLT, Int.reduceMul, Int.reduceAdd, Int.reduceSub, Int.reduceToNat]
          refine cond_split (fun hc => ?_) (fun hc => ?_)
          · have hk' : k < S.actions.length := by simp at hc; omega
            obtain ⟨x, hx⟩ : ∃ x, x = S.actions[k] := ⟨_, rfl⟩
            have hxg := getD_map (f := actionAV) (l := S.actions) (k := k) (x := x) (by rw [List.getElem?_eq_getElem hk', hx])
            have e5 : IntKind.i64.wrap ((k : Int) + 1) = ((k + 1 : Nat) : Int) := by rw [wrap_i64] <;> omega
            have htk : S.actions.take (k + 1) = S.actions.take k ++ [x] := by rw [hx, List.take_succ_eq_append_getElem hk']
            have hil : inL ((S.actions.take k).map (·.id)) ++ [.int .i64 x.id] = inL ((S.actions.take (k + 1)).map (·.id)) := by rw [htk]; simp [inL]
            have hll : (inL ((S.actions.take k).map (·.id))).length = k := by simp [inL]; omega
            by_cases h0 : k = 0
            · subst h0
              have hC1 : C0 = (actionAV x).cells := by
                rw [hC0]
                cases hq : S.actions with
                | nil => rw [hq] at hk'; exact absurd hk' (by simp)
                | cons y ys => dsimp only; rw [hx]; simp only [hq, List.getElem_cons_zero]
              simp only [actionAV, AV.cells] at hC1
              have hcl1 := hclL 1
              rw [hLk 1 (by decide), ← hHB, hC1, ← hil] at hcl1
              simp only [yar, yaf, inL, yak, schC] at hcl1
              rw [hL0, ← hHB]
              simp only [blkE, blkP, bhq, Nat.reduceMod, Nat.reduceDiv, stepH, stepM, toMs1, toMs, toMs0, strK, pubK, pubF, pubV, yaq, yar, yao, yap, go_sem, reduceCtorEq, Nat.reduceEqDiff, Nat.reduceAdd, Nat.reduceMul, Nat.reduceSub, Nat.reduceLeDiff, Nat.reduceLT, Int.reduceMul, Int.reduceAdd, Int.reduceSub, Int.reduceToNat, schC, Int.toNat_natCast, ybb, hxg, actionAV, yal, yak, e5]
              refine ⟨⟨by omega, by omega⟩, ⟨by omega, by omega⟩, fun z hz => by rw [List.mem_singleton.1 hz]; rfl, ⟨by omega, by omega⟩, 1, by omega, by omega, ?_⟩
              rw [hLk 1 (by decide), ← hHB, hC1, ← hil]
              simp only [yar, yaf, inL, yak, schC]
              refine ⟨by simp only [zkg]; omega, by repeat (first | exact AHeap.Le.refl _ | refine AHeap.Le.push ?_ _), hcl1, ?_, ?_⟩
              · simp [ltF, zkg, zmp, zmh, lt_map lt_action]
                try omega
              · simp [subW, wk2, wk1, wkM, Fr.get]
            · have hcl1 := hclL (k + 1)
              rw [hLk (k + 1) (by omega), ← hHB, ← hil] at hcl1
              simp only [schC] at hcl1
              rw [hLk k h0, ← hHB]
              simp only [blkE, blkP, bhq, Nat.reduceMod, Nat.reduceDiv, stepH, stepM, toMs1, toMs, toMs0, strK, pubK, pubF, pubV, yaq, yar, yao, yap, go_sem, reduceCtorEq, Nat.reduceEqDiff, Nat.reduceAdd, Nat.reduceMul, Nat.reduceSub, Nat.reduceLeDiff, Nat.reduceLT, Int.reduceMul, Int.reduceAdd, Int.reduceSub, Int.reduceToNat, schC, Int.toNat_natCast, ybb, hxg, actionAV, yal, yak, e5]
              refine ⟨⟨by omega, by omega⟩, ⟨by omega, by omega⟩, ⟨by rw [hll], by rw [hll]; omega, by rw [hll]; omega, fun z hz => by rw [List.mem_singleton.1 hz]; rfl⟩, ⟨by omega, by omega⟩, k + 1, by omega, by omega, ?_⟩
              rw [hLk (k + 1) (by omega), ← hHB, ← hil, hll]
              simp only [schC]
              refine ⟨by simp only [zkg]; omega, by repeat (first | exact AHeap.Le.refl _ | refine AHeap.Le.push ?_ _), hcl1, ?_, ?_⟩
              · simp [ltF, zkg, zmp, zmh, lt_map lt_action]
                try omega
              · simp [subW, wk2, wk1, wkM, Fr.get]
          · have hk' : k = S.actions.length := by simp at hc; omega
            have hcl1 : (HB.push (.cells [sI (S.fields.map (·.id)), sI (S.headers.map (·.id)), sI (S.states.map (·.id)), sI (S.actions.map (·.id)), .slice .nil 1 [], .slice .nil 1 []])).Closed := closed_cells hclB (by simp [zmw, zmx, lt_sliceL, lt_sI])
            rw [← hHB] at hcl1
            by_cases h0 : k = 0
            · subst h0
              have hnl : S.actions = [] := List.length_eq_zero_iff.1 hk'.symm
              rw [hL0, ← hHB]
              simp only [go_sem, reduceCtorEq, Nat.reduceEqDiff, Nat.reduceAdd, Nat.reduceMul, Nat.reduceSub, Nat.reduceLeDiff, Nat.reduceLT, Int.reduceMul, Int.reduceAdd, Int.reduceSub, Int.reduceToNat]
              refine weak_obj (H.nx + 1 + 1) [sI (S.fields.map (·.id)), sI (S.headers.map (·.id)), sI (S.states.map (·.id)), sI (S.actions.map (·.id)), .slice .nil 1 [], .slice .nil 1 []] (cs := [sI (S.fields.map (·.id)), sI (S.headers.map (·.id)), sI (S.states.map (·.id)), .slice .nil 1 [], .slice .nil 1 [], .slice .nil 1 []]) (by simp only [go_sem, reduceCtorEq, Nat.reduceEqDiff, Nat.reduceAdd, Nat.reduceMul, Nat.reduceSub, Nat.reduceLeDiff, Nat.reduceLT, Int.reduceMul, Int.reduceAdd, Int.reduceSub, Int.reduceToNat]) ?_ ?_
              · simp only [wkDL_cons, wkDL_nil, and_true]
                refine ⟨?_, ?_, ?_, ?_, ?_, ?_⟩
                all_goals first | exact wk_sI | (rw [hnl]; exact wk_sI (l := [])) | (rw [wkD_slice]; exact .inl ⟨.inr rfl, rfl, by rw [wkDR_nil]; trivial⟩)
              simp only [go_sem, reduceCtorEq, Nat.reduceEqDiff, Nat.reduceAdd, Nat.reduceMul, Nat.reduceSub, Nat.reduceLeDiff, Nat.reduceLT, Int.reduceMul, Int.reduceAdd, Int.reduceSub, Int.reduceToNat]
              refine weak_join J () trivial ⟨by simp only [zkg, zjx, zjs, KI_n0, hnB]; omega, by rw [← hHB]; repeat (first | exact AHeap.Le.refl _ | refine AHeap.Le.push ?_ _), by rw [← hHB]; exact hcl1, ?_, ?_⟩
              · (simp [ltF, zkg, zmp, hnB]; try omega)
              · simp [subW, wk2, wk1, wkM, Fr.get]
            · rw [hLk k h0, ← hHB]
              simp only [go_sem, reduceCtorEq, Nat.reduceEqDiff, Nat.reduceAdd, Nat.reduceMul, Nat.reduceSub, Nat.reduceLeDiff, Nat.reduceLT, Int.reduceMul, Int.reduceAdd, Int.reduceSub, Int.reduceToNat]
              refine weak_obj (H.nx + 1 + 1) [sI (S.fields.map (·.id)), sI (S.headers.map (·.id)), sI (S.states.map (·.id)), sI (S.actions.map (·.id)), .slice .nil 1 [], .slice .nil 1 []] (cs := [sI (S.fields.map (·.id)), sI (S.headers.map (·.id)), sI (S.states.map (·.id)), .slice (.own (H.nx + 1 + 1 + 1 + 1 + 1)) 1 (inL ((S.actions.take k).map (·.id))), .slice .nil 1 [], .slice .nil 1 []]) (by simp only [go_sem, reduceCtorEq, Nat.reduceEqDiff, Nat.reduceAdd, Nat.reduceMul, Nat.reduceSub, Nat.reduceLeDiff, Nat.reduceLT, Int.reduceMul, Int.reduceAdd, Int.reduceSub, Int.reduceToNat]) ?_ ?_
              · rw [hk', List.take_length]
                simp only [wkDL_cons, wkDL_nil, and_true]
                refine ⟨?_, ?_, ?_, ?_, ?_, ?_⟩
                all_goals first | exact wk_sI | (rw [wkD_slice]; exact .inl ⟨.inr rfl, rfl, by rw [wkDR_nil]; trivial⟩)
              simp only [go_sem, reduceCtorEq, Nat.reduceEqDiff, Nat.reduceAdd, Nat.reduceMul, Nat.reduceSub, Nat.reduceLeDiff, Nat.reduceLT, Int.reduceMul, Int.reduceAdd, Int.reduceSub, Int.reduceToNat]
              refine weak_join J () trivial ⟨by simp only [zkg, zjx, zjs, KI_n0, hnB]; omega, by rw [← hHB]; repeat (first | exact AHeap.Le.refl _ | refine AHeap.Le.push ?_ _), by rw [← hHB]; exact hcl1, ?_, ?_⟩
              · (simp [ltF, zkg, zmp, hnB]; try omega)
              · simp [subW, wk2, wk1, wkM, Fr.get]
        · intro _ _
          dsimp only
          rw [← hHB]
          simp only [blkE, blkP, bhq, Nat.reduceMod, Nat.reduceDiv, stepH, stepM, toMs1, toMs, toMs0, strK, pubK, pubF, pubV, yaq, yar, yao, yap, go_sem, reduceCtorEq, Nat.reduceEqDiff, Nat.reduceAdd, Nat.reduceMul, Nat.reduceSub, Nat.reduceLeDiff, Nat.reduceLT, Int.reduceMul, Int.reduceAdd, Int.reduceSub, Int.reduceToNat, schC]
          obtain ⟨C0, hC0⟩ : ∃ C0 : List AV, C0 = (match S.tables with | x :: _ => (tableAV x).cells | [] => []) := ⟨_, rfl⟩
          have hC0l : ∀ m, ltL m C0 := by
            rw [hC0]
            intro m
            cases S.tables with
            | nil => rw [zmx]; trivial
            | cons x _ => exact ltL_iff.2 fun j hj => AV.lt_cells (lt_table x) j hj
          obtain ⟨HL, hHL⟩ : ∃ HL : Nat → AHeap, HL = fun k => if k = 0 then HB.push (.cells [sI (S.fields.map (·.id)), sI (S.headers.map (·.id)), sI (S.states.map (·.id)), sI (S.actions.map (·.id)), .slice .nil 1 [], .slice .nil 1 []]) else (((HB.push (.cells [sI (S.fields.map (·.id)), sI (S.headers.map (·.id)), sI (S.states.map (·.id)), sI (S.actions.map (·.id)), .slice (.own (H.nx + 1 + 1 + 1 + 1 + 1)) 1 (inL ((S.tables.take k).map (·.id))), .slice .nil 1 []])).push (.cells C0)).push (.buf 1 1)).push (.buf 1 k) := ⟨_, rfl⟩
          have hL0 : HL 0 = HB.push (.cells [sI (S.fields.map (·.id)), sI (S.headers.map (·.id)), sI (S.states.map (·.id)), sI (S.actions.map (·.id)), .slice .nil 1 [], .slice .nil 1 []]) := by rw [hHL]; rfl
          have hLk : ∀ k, k ≠ 0 → HL k = (((HB.push (.cells [sI (S.fields.map (·.id)), sI (S.headers.map (·.id)), sI (S.states.map (·.id)), sI (S.actions.map (·.id)), .slice (.own (H.nx + 1 + 1 + 1 + 1 + 1)) 1 (inL ((S.tables.take k).map (·.id))), .slice .nil 1 []])).push (.cells C0)).push (.buf 1 1)).push (.buf 1 k) := fun k h => by rw [hHL]; exact if_neg h
          have hclL : ∀ k, (HL k).Closed := fun k => by
            by_cases h : k = 0
            · rw [h, hL0]
              exact closed_cells hclB (by simp [zmw, zmx, lt_sliceL, lt_sI])
            · rw [hLk k h]
              refine closed_mid (c := [sI (S.fields.map (·.id)), sI (S.headers.map (·.id)), sI (S.states.map (·.id)), sI (S.actions.map (·.id)), .slice .nil 1 [], .slice .nil 1 []]) (closed_buf (closed_buf (closed_cells (closed_cells hclB (by simp [zmw, zmx, lt_sliceL, lt_sI])) (hC0l _)))) ?_
              simp [zmw, zmx, lt_sliceL, lt_sI, hnB, ltL_inL]
          have hnL : ∀ k, H.nx + 1 + 1 + 1 ≤ (HL k).nx := fun k => by
            by_cases h : k = 0
            · rw [h, hL0, zkg, hnB]; omega
            · rw [hLk k h]; simp only [zkg, hnB]; omega
          apply join_cut (α := Unit) (fun _ => [(1, .ptr H.nx 0), (2, .ptr (H.nx + 1) 0), (3, .ptr (H.nx + 1 + 1) 0)]) (fun _ => HB.push (.cells [sI (S.fields.map (·.id)), sI (S.headers.map (·.id)), sI (S.states.map (·.id)), sI (S.actions.map (·.id)), sI (S.tables.map (·.id)), .slice .nil 1 []])) (fun _ => True)
          · intro J
            refine loop_introW (A := Nat) (fun k => [(1, .ptr H.nx 0), (2, .ptr (H.nx + 1) 0), (3, .ptr (H.nx + 1 + 1) 0), (77, .slice .any 8 (S.tables.map tableAV)), (78, .int .i64 (S.tables.length : Int)), (79, .int .i64 (k : Int))]) HL (fun k => k ≤ S.tables.length) (fun k => S.tables.length - k) 0 (by omega) ?_ fun k hk => ?_
            · rw [hL0, ← hHB]
              refine ⟨by simp only [zkg, zjs, zjx]; omega, AHeap.Le.refl _, by have := hclL 0; rw [hL0, ← hHB] at this; exact this, ?_, ?_⟩
              · simp [ltF, zkg, zmp, zmh, lt_map lt_table]
                try omega
              · simp [subW, wk2, wk1, wkM, Fr.get]
            simp only [go_sem, reduceCtorEq, Nat.reduceEqDiff, Nat.reduceAdd, Nat.reduceMul, Nat.reduceSub, Nat.reduceLeDiff, Nat.reduceLT, Int.reduceMul, Int.reduceAdd, Int.reduceSub, Int.reduceToNat]
            refine cond_split (fun hc => ?_) (fun hc => ?_)
            · have hk' : k < S.tables.length := by simp at hc; omega
              obtain ⟨x, hx⟩ : ∃ x, x = S.tables[k] := ⟨_, rfl⟩
              have hxg := getD_map (f := tableAV) (l := S.tables) (k := k) (x := x) (by rw [List.getElem?_eq_getElem hk', hx])
              have e5 : IntKind.i64.wrap ((k : Int) + 1) = ((k + 1 : Nat) : Int) := by rw [wrap_i64] <;> omega
              have htk : S.tables.take (k + 1) = S.tables.take k ++ [x] := by rw [hx, List.take_succ_eq_append_getElem hk']
              have hil : inL ((S.tables.take k).map (·.id)) ++ [.int .i64 x.id] = inL ((S.tables.take (k + 1)).map (·.id)) := by rw [htk]; simp [inL]
              have hll : (inL ((S.tables.take k).map (·.id))).length = k := by simp [inL]; omega
              by_cases h0 : k = 0
              · subst h0
                have hC1 : C0 = (tableAV x).cells := by
                  rw [hC0]
                  cases hq : S.tables with
                  | nil => rw [hq] at hk'; exact absurd hk' (by simp)
                  | cons y ys => dsimp only; rw [hx]; simp only [hq, List.getElem_cons_zero]
                simp only [tableAV, AV.cells] at hC1
                have hcl1 := hclL 1
                rw [hLk 1 (by decide), ← hHB, hC1, ← hil] at hcl1
                simp only [yar, yaf, inL, yak, schC] at hcl1
                rw [hL0, ← hHB]
                simp only [blkE, blkP, bhq, Nat.reduceMod, Nat.reduceDiv, stepH, stepM, toMs1, toMs, toMs0, strK, pubK, pubF, pubV, yaq, yar, yao, yap, go_sem, reduceCtorEq, Nat.reduceEqDiff, Nat.reduceAdd, Nat.reduceMul, Nat.reduceSub, Nat.reduceLeDiff, Nat.reduceLT, Int.reduceMul, Int.reduceAdd, Int.reduceSub, Int.reduceToNat, schC, Int.toNat_natCast, ybb, hxg, tableAV, yal, yak, e5]
                refine ⟨⟨by omega, by omega⟩, ⟨by omega, by omega⟩, fun z hz => by rw [List.mem_singleton.1 hz]; rfl, ⟨by omega, by omega⟩, 1, by omega, by omega, ?_⟩
                rw [hLk 1 (by decide), ← hHB, hC1, ← hil]
                simp only [yar, yaf, inL, yak, schC]
                refine ⟨by simp only [zkg]; omega, by repeat (first | exact AHeap.Le.refl _ | refine AHeap.Le.push ?_ _), hcl1, ?_, ?_⟩
                · simp [ltF, zkg, zmp, zmh, lt_map lt_table]
                  try omega
                · simp [subW, wk2, wk1, wkM, Fr.get]
              · have hcl1 := hclL (k + 1)
                rw [hLk (k + 1) (by omega), ← hHB, ← hil] at hcl1
                simp only [schC] at hcl1
                rw [hLk k h0, ← hHB]
                simp only [blkE, blkP, bhq, Nat.reduceMod, Nat.reduceDiv, stepH, stepM, toMs1, toMs, toMs0, strK, pubK, pubF, pubV, yaq, yar, yao, yap, go_sem, reduceCtorEq, Nat.reduceEqDiff, Nat.reduceAdd, Nat.reduceMul, Nat.reduceSub, Nat.reduceLeDiff, Nat.reduceLT, Int.reduceMul, Int.reduceAdd, Int.reduceSub, Int.reduceToNat, schC, Int.toNat_natCast, ybb, hxg, tableAV, yal, yak, e5]
                refine ⟨⟨by omega, by omega⟩, ⟨by omega, by omega⟩, ⟨by rw [hll], by rw [hll]; omega, by rw [hll]; omega, fun z hz => by rw [List.mem_singleton.1 hz]; rfl⟩, ⟨by omega, by omega⟩, k + 1, by omega, by omega, ?_⟩
                rw [hLk (k + 1) (by omega), ← hHB, ← hil, hll]
                simp only [schC]
                refine ⟨by simp only [zkg]; omega, by repeat (first | exact AHeap.Le.refl _ | refine AHeap.Le.push ?_ _), hcl1, ?_, ?_⟩
                · simp [ltF, zkg, zmp, zmh, lt_map lt_table]
                  try omega
                · simp [subW, wk2, wk1, wkM, Fr.get]
            · have hk' : k = S.tables.length := by simp at hc; omega
              have hcl1 : (HB.push (.cells [sI (S.fields.map (·.id)), sI (S.headers.map (·.id)), sI (S.states.map (·.id)), sI (S.actions.map (·.id)), sI (S.tables.map (·.id)), .slice .nil 1 []])).Closed := closed_cells hclB (by simp [zmw, zmx, lt_sliceL, lt_sI])
              rw [← hHB] at hcl1
              by_cases h0 : k = 0
              · subst h0
                have hnl : S.tables = [] := List.length_eq_zero_iff.1 hk'.symm
                rw [hL0, ← hHB]
                simp only [go_sem, reduceCtorEq, Nat.reduceEqDiff, Nat.reduceAdd, Nat.reduceMul, Nat.reduceSub, Nat.reduceLeDiff, Nat.reduceLT, Int.reduceMul, Int.reduceAdd, Int.reduceSub, Int.reduceToNat]
                refine weak_obj (H.nx + 1 + 1) [sI (S.fields.map (·.id)), sI (S.headers.map (·.id)), sI (S.states.map (·.id)), sI (S.actions.map (·.id)), sI (S.tables.map (·.id)), .slice .nil 1 []] (cs := [sI (S.fields.map (·.id)), sI (S.headers.map (·.id)), sI (S.states.map (·.id)), sI (S.actions.map (·.id)), .slice .nil 1 [], .slice .nil 1 []]) (by simp only [go_sem, reduceCtorEq, Nat.reduceEqDiff, Nat.reduceAdd, Nat.reduceMul, Nat.reduceSub, Nat.reduceLeDiff, Nat.reduceLT, Int.reduceMul, Int.reduceAdd, Int.reduceSub, Int.reduceToNat]) ?_ ?_
                · simp only [wkDL_cons, wkDL_nil, and_true]
                  refine ⟨?_, ?_, ?_, ?_, ?_, ?_⟩
                  all_goals first | exact wk_sI | (rw [hnl]; exact wk_sI (l := [])) | (rw [wkD_slice]; exact .inl ⟨.inr rfl, rfl, by rw [wkDR_nil]; trivial⟩)
                simp only [go_sem, reduceCtorEq, Nat.reduceEqDiff, Nat.reduceAdd, Nat.reduceMul, Nat.reduceSub, Nat.reduceLeDiff, Nat.reduceLT, Int.reduceMul, Int.reduceAdd, Int.reduceSub, Int.reduceToNat]
                refine weak_join J () trivial ⟨by simp only [zkg, zjx, zjs, KI_n0, hnB]; omega, by rw [← hHB]; repeat (first | exact AHeap.Le.refl _ | refine AHeap.Le.push ?_ _), by rw [← hHB]; exact hcl1, ?_, ?_⟩
                · (simp [ltF, zkg, zmp, hnB]; try omega)
                · simp [subW, wk2, wk1, wkM, Fr.get]
              · rw [hLk k h0, ← hHB]
                simp only [go_sem, reduceCtorEq, Nat.reduceEqDiff, Nat.reduceAdd, Nat.reduceMul, Nat.reduceSub, Nat.reduceLeDiff, Nat.reduceLT, Int.reduceMul, Int.reduceAdd, Int.reduceSub, Int.reduceToNat]
                refine weak_obj (H.nx + 1 + 1) [sI (S.fields.map (·.id)), sI (S.headers.map (·.id)), sI (S.states.map (·.id)), sI (S.actions.map (·.id)), sI (S.tables.map (·.id)), .slice .nil 1 []] (cs := [sI (S.fields.map (·.id)), sI (S.headers.map (·.id)), sI (S.states.map (·.id)), sI (S.actions.map (·.id)), .slice (.own (H.nx + 1 + 1 + 1 + 1 + 1)) 1 (inL ((S.tables.take k).map (·.id))), .slice .nil 1 []]) (by simp only [go_sem, reduceCtorEq, Nat.reduceEqDiff, Nat.reduceAdd, Nat.reduceMul, Nat.reduceSub, Nat.reduceLeDiff, Nat.reduceLT, Int.reduceMul, Int.reduceAdd, Int.reduceSub, Int.reduceToNat]) ?_ ?_
                · rw [hk', List.take_length]
                  simp only [wkDL_cons, wkDL_nil, and_true]
                  refine ⟨?_, ?_, ?_, ?_, ?_, ?_⟩
                  all_goals first | exact wk_sI | (rw [wkD_slice]; exact .inl ⟨.inr rfl, rfl, by rw [wkDR_nil]; trivial⟩)
                simp only [go_sem, reduceCtorEq, Nat.reduceEqDiff, Nat.reduceAdd, Nat.reduceMul, Nat.reduceSub, Nat.reduceLeDiff, Nat.reduceLT, Int.reduceMul, Int.reduceAdd, Int.reduceSub, Int.reduceToNat]
                refine weak_join J () trivial ⟨by simp only [zkg, zjx, zjs, KI_n0, hnB]; omega, by rw [← hHB]; repeat (first | exact AHeap.Le.refl _ | refine AHeap.Le.push ?_ _), by rw [← hHB]; exact hcl1, ?_, ?_⟩
                · (simp [ltF, zkg, zmp, hnB]; try omega)
                · simp [subW, wk2, wk1, wkM, Fr.get]
          · intro _ _
            dsimp only
            rw [← hHB]
            simp only [blkE, blkP, bhq, Nat.reduceMod, Nat.reduceDiv, stepH, stepM, toMs1, toMs, toMs0, strK, pubK, pubF, pubV, yaq, yar, yao, yap, go_sem, reduceCtorEq, Nat.reduceEqDiff, Nat.reduceAdd, Nat.reduceMul, Nat.reduceSub, Nat.reduceLeDiff, Nat.reduceLT, Int.reduceMul, Int.reduceAdd, Int.reduceSub, Int.reduceToNat, schC]
            obtain ⟨C0, hC0⟩ : ∃ C0 : List AV, C0 = (match S.roles with | x :: _ => (roleAV x).cells | [] => []) := ⟨_, rfl⟩
            have hC0l : ∀ m, ltL m C0 := by
              rw [hC0]
              intro m
              cases S.roles with
              | nil => rw [zmx]; trivial
              | cons x _ => exact ltL_iff.2 fun j hj => AV.lt_cells (lt_role x) j hj
            obtain ⟨HL, hHL⟩ : ∃ HL : Nat → AHeap, HL = fun k => if k = 0 then HB.push (.cells [sI (S.fields.map (·.id)), sI (S.headers.map (·.id)), sI (S.states.map (·.id)), sI (S.actions.map (·.id)), sI (S.tables.map (·.id)), .slice .nil 1 []]) else (((HB.push (.cells [sI (S.fields.map (·.id)), sI (S.headers.map (·.id)), sI (S.states.map (·.id)), sI (S.actions.map (·.id)), sI (S.tables.map (·.id)), .slice (.own (H.nx + 1 + 1 + 1 + 1 + 1)) 1 (inL ((S.roles.take k).map (·.id)))])).push (.cells C0)).push (.buf 1 1)).push (.buf 1 k) := ⟨_, rfl⟩
            have hL0 : HL 0 = HB.push (.cells [sI (S.fields.map (·.id)), sI (S.headers.map (·.id)), sI (S.states.map (·.id)), sI (S.actions.map (·.id)), sI (S.tables.map (·.id)), .slice .nil 1 []]) := by rw [hHL]; rfl
            have hLk : ∀ k, k ≠ 0 → HL k = (((HB.push (.cells [sI (S.fields.map (·.id)), sI (S.headers.map (·.id)), sI (S.states.map (·.id)), sI (S.actions.map (·.id)), sI (S.tables.map (·.id)), .slice (.own (H.nx + 1 + 1 + 1 + 1 + 1)) 1 (inL ((S.roles.take k).map (·.id)))])).push (.cells C0)).push (.buf 1 1)).push (.buf 1 k) := fun k h => by rw [hHL]; exact if_neg h
            have hclL : ∀ k, (HL k).Closed := fun k => by
              by_cases h : k = 0
              · rw [h, hL0]
                exact closed_cells hclB (by simp [zmw, zmx, lt_sliceL, lt_sI])
              · rw [hLk k h]
                refine closed_mid (c := [sI (S.fields.map (·.id)), sI (S.headers.map (·.id)), sI (S.states.map (·.id)), sI (S.actions.map (·.id)), sI (S.tables.map (·.id)), .slice .nil 1 []]) (closed_buf (closed_buf (closed_cells (closed_cells hclB (by simp [zmw, zmx, lt_sliceL, lt_sI])) (hC0l _)))) ?_
                simp [zmw, zmx, lt_sliceL, lt_sI, hnB, ltL_inL]
            have hnL : ∀ k, H.nx + 1 + 1 + 1 ≤ (HL k).nx := fun k => by
              by_cases h : k = 0
              · rw [h, hL0, zkg, hnB]; omega
              · rw [hLk k h]; simp only [zkg, hnB]; omega
            apply join_cut (α := Unit) (fun _ => [(2, .ptr (H.nx + 1) 0), (3, .ptr (H.nx + 1 + 1) 0)]) (fun _ => HB.push (.cells [sI (S.fields.map (·.id)), sI (S.headers.map (·.id)), sI (S.states.map (·.id)), sI (S.actions.map (·.id)), sI (S.tables.map (·.id)), sI (S.roles.map (·.id))])) (fun _ => True)
            · intro J
              refine loop_introW (A := Nat) (fun k => [(2, .ptr (H.nx + 1) 0), (3, .ptr (H.nx + 1 + 1) 0), (92, .slice .any 6 (S.roles.map roleAV)), (93, .int .i64 (S.roles.length : Int)), (94, .int .i64 (k : Int))]) HL (fun k => k ≤ S.roles.length) (fun k => S.roles.length - k) 0 (by omega) ?_ fun k hk => ?_
              · rw [hL0, ← hHB]
                refine ⟨by simp only [zkg, zjs, zjx]; omega, AHeap.Le.refl _, by have := hclL 0; rw [hL0, ← hHB] at this; exact this, ?_, ?_⟩
                · simp [ltF, zkg, zmp, zmh, lt_map lt_role]
                  try omega
                · simp [subW, wk2, wk1, wkM, Fr.get]
              simp only [go_sem, reduceCtorEq, Nat.reduceEqDiff, Nat.reduceAdd, Nat.reduceMul, Nat.reduceSub, Nat.reduceLeDiff, Nat.reduceLT, Int.reduceMul, Int.reduceAdd, Int.reduceSub, Int.reduceToNat]
              refine cond_split (fun hc => ?_) (fun hc => ?_)
              · have hk' : k < S.roles.length := by simp at hc; omega
                obtain ⟨x, hx⟩ : ∃ x, x = S.roles[k] := ⟨_, rfl⟩
                have hxg := getD_map (f := roleAV) (l := S.roles) (k := k) (x := x) (by rw [List.getElem?_eq_getElem hk', hx])
                have e5 : IntKind.i64.wrap ((k : Int) + 1) = ((k + 1 : Nat) : Int) := by rw [wrap_i64] <;> omega
                have htk : S.roles.take (k + 1) = S.roles.take k ++ [x] := by rw [hx, List.take_succ_eq_append_getElem hk']
                have hil : inL ((S.roles.take k).map (·.id)) ++ [.int .i64 x.id] = inL ((S.roles.take (k + 1)).map (·.id)) := by rw [htk]; simp [inL]
                have hll : (inL ((S.roles.take k).map (·.id))).length = k := by simp [inL]; omega
                by_cases h0 : k = 0
                · subst h0
                  have hC1 : C0 = (roleAV x).cells := by
                    rw [hC0]
                    cases hq : S.roles with
                    | nil => rw [hq] at hk'; exact absurd hk' (by simp)
                    | cons y ys => dsimp only; rw [hx]; simp only [hq, List.getElem_cons_zero]
                  simp only [roleAV, AV.cells] at hC1
                  have hcl1 := hclL 1
                  rw [hLk 1 (by decide), ← hHB, hC1, ← hil] at hcl1
                  simp only [yar, yaf, inL, yak, schC] at hcl1
                  rw [hL0, ← hHB]
                  simp only [blkE, blkP, bhq, Nat.reduceMod, Nat.reduceDiv, stepH, stepM, toMs1, toMs, toMs0, strK, pubK, pubF, pubV, yaq, yar, yao, yap, go_sem, reduceCtorEq, Nat.reduceEqDiff, Nat.reduceAdd, Nat.reduceMul, Nat.reduceSub, Nat.reduceLeDiff, Nat.reduceLT, Int.reduceMul, Int.reduceAdd, Int.reduceSub, Int.reduceToNat, schC, Int.toNat_natCast, ybb, hxg, roleAV, yal, yak, e5]
                  refine ⟨⟨by omega, by omega⟩, ⟨by omega, by omega⟩, fun z hz => by rw [List.mem_singleton.1 hz]; rfl, ⟨by omega, by omega⟩, 1, by omega, by omega, ?_⟩
                  rw [hLk 1 (by decide), ← hHB, hC1, ← hil]
                  simp only [yar, yaf, inL, yak, schC]
                  refine ⟨by simp only [zkg]; omega, by repeat (first | exact AHeap.Le.refl _ | refine AHeap.Le.push ?_ _), hcl1, ?_, ?_⟩
                  · simp [ltF, zkg, zmp, zmh, lt_map lt_role]
                    try omega
                  · simp [subW, wk2, wk1, wkM, Fr.get]
                · have hcl1 := hclL (k + 1)
                  rw [hLk (k + 1) (by omega), ← hHB, ← hil] at hcl1
                  simp only [schC] at hcl1
                  rw [hLk k h0, ← hHB]
                  simp only [blkE, blkP, bhq, Nat.reduceMod, Nat.reduceDiv, stepH, stepM, toMs1, toMs, toMs0, strK, pubK, pubF, pubV, yaq, yar, yao, yap, go_sem, reduceCtorEq, Nat.reduceEqDiff, Nat.reduceAdd, Nat.reduceMul, Nat.reduceSub, Nat.reduceLeDiff, Nat.reduceLT, Int.reduceMul, Int.reduceAdd, Int.reduceSub, Int.reduceToNat, schC, Int.toNat_natCast, ybb, hxg, roleAV, yal, yak, e5]
                  refine ⟨⟨by omega, by omega⟩, ⟨by omega, by omega⟩, ⟨by rw [hll], by rw [hll]; omega, by rw [hll]; omega, fun z hz => by rw [List.mem_singleton.1 hz]; rfl⟩, ⟨by omega, by omega⟩, k + 1, by omega, by omega, ?_⟩
                  rw [hLk (k + 1) (by omega), ← hHB, ← hil, hll]
                  simp only [schC]
                  refine ⟨by simp only [zkg]; omega, by repeat (first | exact AHeap.Le.refl _ | refine AHeap.Le.push ?_ _), hcl1, ?_, ?_⟩
                  · simp [ltF, zkg, zmp, zmh, lt_map lt_role]
                    try omega
                  · simp [subW, wk2, wk1, wkM, Fr.get]
              · have hk' : k = S.roles.length := by simp at hc; omega
                have hcl1 : (HB.push (.cells [sI (S.fields.map (·.id)), sI (S.headers.map (·.id)), sI (S.states.map (·.id)), sI (S.actions.map (·.id)), sI (S.tables.map (·.id)), sI (S.roles.map (·.id))])).Closed := closed_cells hclB (by simp [zmw, zmx, lt_sliceL, lt_sI])
                rw [← hHB] at hcl1
                by_cases h0 : k = 0
                · subst h0
                  have hnl : S.roles = [] := List.length_eq_zero_iff.1 hk'.symm
                  rw [hL0, ← hHB]
                  simp only [go_sem, reduceCtorEq, Nat.reduceEqDiff, Nat.reduceAdd, Nat.reduceMul, Nat.reduceSub, Nat.reduceLeDiff, Nat.reduceLT, Int.reduceMul, Int.reduceAdd, Int.reduceSub, Int.reduceToNat]
                  refine weak_obj (H.nx + 1 + 1) [sI (S.fields.map (·.id)), sI (S.headers.map (·.id)), sI (S.states.map (·.id)), sI (S.actions.map (·.id)), sI (S.tables.map (·.id)), sI (S.roles.map (·.id))] (cs := [sI (S.fields.map (·.id)), sI (S.headers.map (·.id)), sI (S.states.map (·.id)), sI (S.actions.map (·.id)), sI (S.tables.map (·.id)), .slice .nil 1 []]) (by simp only [go_sem, reduceCtorEq, Nat.reduceEqDiff, Nat.reduceAdd, Nat.reduceMul, Nat.reduceSub, Nat.reduceLeDiff, Nat.reduceLT, Int.reduceMul, Int.reduceAdd, Int.reduceSub, Int.reduceToNat]) ?_ ?_
                  · simp only [wkDL_cons, wkDL_nil, and_true]
                    refine ⟨?_, ?_, ?_, ?_, ?_, ?_⟩
                    all_goals first | exact wk_sI | (rw [hnl]; exact wk_sI (l := [])) | (rw [wkD_slice]; exact .inl ⟨.inr rfl, rfl, by rw [wkDR_nil]; trivial⟩)
                  simp only [go_sem, reduceCtorEq, Nat.reduceEqDiff, Nat.reduceAdd, Nat.reduceMul, Nat.reduceSub, Nat.reduceLeDiff, Nat.reduceLT, Int.reduceMul, Int.reduceAdd, Int.reduceSub, Int.reduceToNat]
                  refine weak_join J () trivial ⟨by simp only [zkg, zjx, zjs, KI_n0, hnB]; omega, by rw [← hHB]; repeat (first | exact AHeap.Le.refl _ | refine AHeap.Le.push ?_ _), by rw [← hHB]; exact hcl1, ?_, ?_⟩
                  · (simp [ltF, zkg, zmp, hnB]; try omega)
                  · simp [subW, wk2, wk1, wkM, Fr.get]
                · rw [hLk k h0, ← hHB]
                  simp only [go_sem, reduceCtorEq, Nat.reduceEqDiff, Nat.reduceAdd, Nat.reduceMul, Nat.reduceSub, Nat.reduceLeDiff, Nat.reduceLT, Int.reduceMul, Int.reduceAdd, Int.reduceSub, Int.reduceToNat]
                  refine weak_obj (H.nx + 1 + 1) [sI (S.fields.map (·.id)), sI (S.headers.map (·.id)), sI (S.states.map (·.id)), sI (S.actions.map (·.id)), sI (S.tables.map (·.id)), sI (S.roles.map (·.id))] (cs := [sI (S.fields.map (·.id)), sI (S.headers.map (·.id)), sI (S.states.map (·.id)), sI (S.actions.map (·.id)), sI (S.tables.map (·.id)), .slice (.own (H.nx + 1 + 1 + 1 + 1 + 1)) 1 (inL ((S.roles.take k).map (·.id)))]) (by simp only [go_sem, reduceCtorEq, Nat.reduceEqDiff, Nat.reduceAdd, Nat.reduceMul, Nat.reduceSub, Nat.reduceLeDiff, Nat.reduceLT, Int.reduceMul, Int.reduceAdd, Int.reduceSub, Int.reduceToNat]) ?_ ?_
                  · rw [hk', List.take_length]
                    simp only [wkDL_cons, wkDL_nil, and_true]
                    refine ⟨?_, ?_, ?_, ?_, ?_, ?_⟩
                    all_goals first | exact wk_sI | (rw [wkD_slice]; exact .inl ⟨.inr rfl, rfl, by rw [wkDR_nil]; trivial⟩)
                  simp only [go_sem, reduceCtorEq, Nat.reduceEqDiff, Nat.reduceAdd, Nat.reduceMul, Nat.reduceSub, Nat.reduceLeDiff, Nat.reduceLT, Int.reduceMul, Int.reduceAdd, Int.reduceSub, Int.reduceToNat]
                  refine weak_join J () trivial ⟨by simp only [zkg, zjx, zjs, KI_n0, hnB]; omega, by rw [← hHB]; repeat (first | exact AHeap.Le.refl _ | refine AHeap.Le.push ?_ _), by rw [← hHB]; exact hcl1, ?_, ?_⟩
                  · (simp [ltF, zkg, zmp, hnB]; try omega)
                  · simp [subW, wk2, wk1, wkM, Fr.get]
            · intro _ _
              dsimp only
              rw [← hHB]
              simp only [blkE, blkP, bhq, Nat.reduceMod, Nat.reduceDiv, stepH, stepM, toMs1, toMs, toMs0, strK, pubK, pubF, pubV, yaq, yar, yao, yap, go_sem, reduceCtorEq, Nat.reduceEqDiff, Nat.reduceAdd, Nat.reduceMul, Nat.reduceSub, Nat.reduceLeDiff, Nat.reduceLT, Int.reduceMul, Int.reduceAdd, Int.reduceSub, Int.reduceToNat, schC]
              simp only [blkE, blkP, bhq, Nat.reduceMod, Nat.reduceDiv, stepH, stepM, toMs1, toMs, toMs0, strK, pubK, pubF, pubV, yaq, yar, yao, yap, go_sem, reduceCtorEq, Nat.reduceEqDiff, Nat.reduceAdd, Nat.reduceMul, Nat.reduceSub, Nat.reduceLeDiff, Nat.reduceLT, Int.reduceMul, Int.reduceAdd, Int.reduceSub, Int.reduceToNat, schC, sI]
              simp (disch := first | assumption | omega | (simp; done) | (simp; omega) | (simp only [bt, and_true]; first | done | omega | (simp; done))) [↓zlq, beq, ybc, ybd, ybe, endOk, wk, wk2, wk1, wkM, wkL, wkLL, ybf, hcl, idsAV, sI, lt_inL]
              first | done | repeat (first | exact AHeap.Le.refl _ | refine AHeap.Le.push ?_ _)
def p_rIndex : List AV → AHeap → (AV → Prop) → Prop
  | [.slice _ 1 l, .int .i64 n], _, K => ∃ xs : List Int, (l = inL xs ∧ xs.length ≤ 1000000) ∧ K (.int .i64 (ixP (fun x => x == n) xs 0))
  | _, _, _ => False
theorem ok_rIndex : EntOk Try.prog 143 (Ent.pure p_rIndex) := by
  refine EntOk.pure fun args H K h => ?_
  unfold p_rIndex at h
  split at h
  rotate_left
  · exact h.elim
  rename_i m l n
  obtain ⟨xs, ⟨rfl, hl⟩, hK⟩ := h
  refine ⟨_, hK, ?_⟩
  clear hK
  generalize hR : ixP (fun x : Int => x == n) xs 0 = R
  refine ACalls.of_aw (Ω := []) (T := assoc []) mixed TblOk.nil Try.func143 (by kernel_rfl) (by rfl) (rs := [.tmp 4]) (by rfl) (by kernel_rfl) (by simp only [Try.ntmps143, yaz, yba]; decide) (Nat.le_refl _) fun hcl hlt => ?_
  change aw _ _ _ (KI Try.prog [] (aEnd Try.prog [.tmp 4] H.nx _ _) []) _ _
  have hm : AV.lt H.nx (.slice m 1 (inL xs)) := hlt _ (by simp)
  clear hlt
  simp only [go_sem, reduceCtorEq, Nat.reduceEqDiff, Nat.reduceAdd, Nat.reduceMul, Nat.reduceSub, Nat.reduceLeDiff, Nat.reduceLT, Int.reduceMul, Int.reduceAdd, Int.reduceSub, Int.reduceToNat, inL_len]
  refine loop_introW (A := Nat) (fun k => [(1, .int .i64 n), (7, .slice m 1 (inL xs)), (8, .int .i64 (xs.length : Int)), (9, .int .i64 (k : Int))]) (fun _ => H) (fun k => k ≤ xs.length ∧ ixP (fun x : Int => x == n) (xs.drop k) k = R) (fun k => xs.length - k) 0 ⟨by omega, hR⟩ ?_ fun k hk => ?_
  · refine ⟨Nat.le_refl _, AHeap.Le.refl _, hcl, ?_, ?_⟩
    · simp [ltF, zmh, hm]
    · simp [subW, wk2, wk1, wkM, Fr.get]
  clear hR
  obtain ⟨hk, hR⟩ := hk
  simp only [go_sem, reduceCtorEq, Nat.reduceEqDiff, Nat.reduceAdd, Nat.reduceMul, Nat.reduceSub, Nat.reduceLeDiff, Nat.reduceLT, Int.reduceMul, Int.reduceAdd, Int.reduceSub, Int.reduceToNat]
  refine cond_split (fun hc => ?_) (fun hc => ?_)
  · have hk' : k < xs.length := by simp at hc; omega
    obtain ⟨x, hx⟩ : ∃ x, x = xs[k] := ⟨_, rfl⟩
    have hd : xs.drop k = x :: xs.drop (k + 1) := by rw [hx]; exact List.drop_eq_getElem_cons hk'
    have hg := getD_map (f := AV.int .i64) (l := xs) (k := k) (x := x) (by rw [List.getElem?_eq_getElem hk', hx])
    have e5 : IntKind.i64.wrap ((k : Int) + 1) = ((k + 1 : Nat) : Int) := by rw [wrap_i64] <;> omega
    rw [hd] at hR
    unfold ixP at hR
    simp only [go_sem, reduceCtorEq, Nat.reduceEqDiff, Nat.reduceAdd, Nat.reduceMul, Nat.reduceSub, Nat.reduceLeDiff, Nat.reduceLT, Int.reduceMul, Int.reduceAdd, Int.reduceSub, Int.reduceToNat, Int.toNat_natCast, inL, hg, ybb]
    (repeat with_reducible refine And.intro (by first | exact True.intro | decide | omega | (simp [zhx, zge, zgf, zgg, zgi, zgh, zgm]; first | done | omega)) ?_)
    refine cond_split (fun hq => ?_) (fun hq => ?_)
    · rw [if_pos hq] at hR
      subst hR
      simp only [go_sem, reduceCtorEq, Nat.reduceEqDiff, Nat.reduceAdd, Nat.reduceMul, Nat.reduceSub, Nat.reduceLeDiff, Nat.reduceLT, Int.reduceMul, Int.reduceAdd, Int.reduceSub, Int.reduceToNat]
      simp (disch := first | assumption | omega | (simp; done) | (simp; omega) | (simp only [bt, and_true]; first | done | omega | (simp; done))) [↓zlq, beq, ybc, ybd, ybe, endOk, wk, wk2, wk1, wkM, wkL, wkLL, ybf, hcl]
    · rw [if_neg (by rw [hq]; decide)] at hR
      simp only [go_sem, reduceCtorEq, Nat.reduceEqDiff, Nat.reduceAdd, Nat.reduceMul, Nat.reduceSub, Nat.reduceLeDiff, Nat.reduceLT, Int.reduceMul, Int.reduceAdd, Int.reduceSub, Int.reduceToNat, e5]
      unfold inL at hm
      refine ⟨k + 1, ⟨by omega, hR⟩, by omega, Nat.le_refl _, AHeap.Le.refl _, hcl, ?_, ?_⟩
      · simp [ltF, zmh, hm]
      · simp [subW, wk2, wk1, wkM, Fr.get]
  · have hk' : k = xs.length := by simp at hc; omega
    subst hk'
    rw [List.drop_length] at hR
    unfold ixP at hR
    subst hR
    simp only [go_sem, reduceCtorEq, Nat.reduceEqDiff, Nat.reduceAdd, Nat.reduceMul, Nat.reduceSub, Nat.reduceLeDiff, Nat.reduceLT, Int.reduceMul, Int.reduceAdd, Int.reduceSub, Int.reduceToNat]
    simp (disch := first | assumption | omega | (simp; done) | (simp; omega) | (simp only [bt, and_true]; first | done | omega | (simp; done))) [↓zlq, beq, ybc, ybd, ybe, endOk, wk, wk2, wk1, wkM, wkL, wkLL, ybf, hcl]
def p_rTableOf : List AV → AHeap → (AV → Prop) → Prop
  | [.agg l, .int .i64 n], _, K => ∃ S : Sch, (l = schC S ∧ SLen S) ∧ K (.int .i64 (ixP (fun t : STable => t.id == n) S.tables 0))
  | _, _, _ => False
theorem ok_rTableOf : EntOk Try.prog 83 (Ent.pure p_rTableOf) := by
  refine EntOk.pure fun args H K h => ?_
  unfold p_rTableOf at h
  split at h
  rotate_left
  · exact h.elim
  rename_i l n
  obtain ⟨S, ⟨rfl, hS⟩, hK⟩ := h
  refine ⟨_, hK, ?_⟩
  clear hK
  refine ACalls.of_aw (Ω := [(144, Ent.pure p_rIds), (143, Ent.pure p_rIndex)]) (T := assoc []) mixed (TblOk.cons ok_rIds (TblOk.cons ok_rIndex TblOk.nil)) Try.func83 (by kernel_rfl) (by rfl) (rs := [.tmp 4]) (by rfl) (by kernel_rfl) (by simp only [Try.ntmps83, yaz, yba]; decide) (Nat.le_refl _) fun hcl hlt => ?_
  change aw _ _ _ (KI Try.prog [(144, Ent.pure p_rIds), (143, Ent.pure p_rIndex)] (aEnd Try.prog [.tmp 4] H.nx _ _) []) _ _
  clear hlt
  simp only [go_sem, reduceCtorEq, Nat.reduceEqDiff, Nat.reduceAdd, Nat.reduceMul, Nat.reduceSub, Nat.reduceLeDiff, Nat.reduceLT, Int.reduceMul, Int.reduceAdd, Int.reduceSub, Int.reduceToNat, schC, p_rIds]
  (repeat with_reducible refine And.intro (by first | exact True.intro | decide | omega | (simp [zhx, zge, zgf, zgg, zgi, zgh, zgm]; first | done | omega)) ?_)
  refine ⟨S, ⟨rfl, hS⟩, ?_⟩
  try simp only [blkP, go_sem, reduceCtorEq, Nat.reduceEqDiff, Nat.reduceAdd, Nat.reduceMul, Nat.reduceSub, Nat.reduceLeDiff, Nat.reduceLT, Int.reduceMul, Int.reduceAdd, Int.reduceSub, Int.reduceToNat, idsAV, sI, p_rIndex]
  (repeat with_reducible refine And.intro (by first | exact True.intro | decide | omega | (simp [zhx, zge, zgf, zgg, zgi, zgh, zgm]; first | done | omega)) ?_)
  refine ⟨_, ⟨rfl, by have h1 := hS.fl; have h2 := hS.tl; simpa using (by assumption)⟩, ?_⟩
  rw [ixP_map]
  try simp only [blkP, go_sem, reduceCtorEq, Nat.reduceEqDiff, Nat.reduceAdd, Nat.reduceMul, Nat.reduceSub, Nat.reduceLeDiff, Nat.reduceLT, Int.reduceMul, Int.reduceAdd, Int.reduceSub, Int.reduceToNat]
  simp (disch := first | assumption | omega | (simp; done) | (simp; omega) | (simp only [bt, and_true]; first | done | omega | (simp; done))) [↓zlq, beq, ybc, ybd, ybe, endOk, wk, wk2, wk1, wkM, wkL, wkLL, ybf, hcl]
  first | done | repeat (first | exact AHeap.Le.refl _ | refine AHeap.Le.push ?_ _)
def p_rFieldOf : List AV → AHeap → (AV → Prop) → Prop
  | [.agg l, .int .i64 n], _, K => ∃ S : Sch, (l = schC S ∧ SLen S) ∧ K (.int .i64 (ixP (fun t : SField => t.id == n) S.fields 0))
  | _, _, _ => False
theorem ok_rFieldOf : EntOk Try.prog 190 (Ent.pure p_rFieldOf) := by
  refine EntOk.pure fun args H K h => ?_
  unfold p_rFieldOf at h
  split at h
  rotate_left
  · exact h.elim
  rename_i l n
  obtain ⟨S, ⟨rfl, hS⟩, hK⟩ := h
  refine ⟨_, hK, ?_⟩
  clear hK
  refine ACalls.of_aw (Ω := [(144, Ent.pure p_rIds), (143, Ent.pure p_rIndex)]) (T := assoc []) mixed (TblOk.cons ok_rIds (TblOk.cons ok_rIndex TblOk.nil)) Try.func190 (by kernel_rfl) (by rfl) (rs := [.tmp 4]) (by rfl) (by kernel_rfl) (by simp only [Try.ntmps190, yaz, yba]; decide) (Nat.le_refl _) fun hcl hlt => ?_
  change aw _ _ _ (KI Try.prog [(144, Ent.pure p_rIds), (143, Ent.pure p_rIndex)] (aEnd Try.prog [.tmp 4] H.nx _ _) []) _ _
  clear hlt
  simp only [go_sem, reduceCtorEq, Nat.reduceEqDiff, Nat.reduceAdd, Nat.reduceMul, Nat.reduceSub, Nat.reduceLeDiff, Nat.reduceLT, Int.reduceMul, Int.reduceAdd, Int.reduceSub, Int.reduceToNat, schC, p_rIds]
  (repeat with_reducible refine And.intro (by first | exact True.intro | decide | omega | (simp [zhx, zge, zgf, zgg, zgi, zgh, zgm]; first | done | omega)) ?_)
  refine ⟨S, ⟨rfl, hS⟩, ?_⟩
  try simp only [blkP, go_sem, reduceCtorEq, Nat.reduceEqDiff, Nat.reduceAdd, Nat.reduceMul, Nat.reduceSub, Nat.reduceLeDiff, Nat.reduceLT, Int.reduceMul, Int.reduceAdd, Int.reduceSub, Int.reduceToNat, idsAV, sI, p_rIndex]
  (repeat with_reducible refine And.intro (by first | exact True.intro | decide | omega | (simp [zhx, zge, zgf, zgg, zgi, zgh, zgm]; first | done | omega)) ?_)
  refine ⟨_, ⟨rfl, by have h1 := hS.fl; have h2 := hS.tl; simpa using (by assumption)⟩, ?_⟩
  rw [ixP_map]
  try simp only [blkP, go_sem, reduceCtorEq, Nat.reduceEqDiff, Nat.reduceAdd, Nat.reduceMul, Nat.reduceSub, Nat.reduceLeDiff, Nat.reduceLT, Int.reduceMul, Int.reduceAdd, Int.reduceSub, Int.reduceToNat]
  simp (disch := first | assumption | omega | (simp; done) | (simp; omega) | (simp only [bt, and_true]; first | done | omega | (simp; done))) [↓zlq, beq, ybc, ybd, ybe, endOk, wk, wk2, wk1, wkM, wkL, wkLL, ybf, hcl]
  first | done | repeat (first | exact AHeap.Le.refl _ | refine AHeap.Le.push ?_ _)
end Go.AL

