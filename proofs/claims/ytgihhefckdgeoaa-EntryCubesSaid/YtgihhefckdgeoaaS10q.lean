/- Contracts and plain laws, a part of the proof; no condition of its own. -/
import Derived.Test.YtgihhefckdgeoaaS10o
open List renaming length_cons → yaz, getElem?_cons_succ → yan, cons_append → yal, nil_append → yak, append_nil → yaj, take_succ_cons → yaq, drop_succ_cons → yao, length_nil → yba, take_zero → yar, drop_zero → yap, take_of_length_le → ybc, length_map → ybb, drop_append → ybd, take_append → ybe, drop_eq_nil_of_le → ybf
open Go Go.AL Go.Proofs
namespace Go.AL
set_option linter.all false
set_option maxRecDepth 10000

/-- the bits that a match does not fix -/
def looseM (m : SMatch) (kind : Int) (v : Nat) : Nat := if m.present = false then v else if kind = 2 then v &&& onesN (32 - m.pfx) else if kind = 3 then v &&& notN m.mask 128 else 0
theorem coversM_loose {m : SMatch} {kind bits : Int} {x v : Nat} (hk : kind = 2 → bits = 32) : coversM m kind bits (x ^^^ looseM m kind v) = coversM m kind bits x := by
  by_cases hp : m.present = false
  · unfold coversM
    rw [if_pos hp, if_pos hp]
  by_cases h2 : kind = 2
  · subst h2
    have hb := hk rfl
    subst hb
    have hl : looseM m 2 v = v &&& onesN (32 - m.pfx) := by unfold looseM; simp [hp]
    have hc : ∀ y, coversM m 2 32 y = decide (y &&& leadN 32 m.pfx = m.value &&& leadN 32 m.pfx) := fun y => by unfold coversM; simp [hp]
    have e : (x ^^^ v &&& onesN (32 - m.pfx)) &&& leadN 32 m.pfx = x &&& leadN 32 m.pfx := by
      rw [and_eq_iff]
      intro j hj
      rw [leadN_bit] at hj
      rw [Nat.testBit_xor, Nat.testBit_and, onesN_bit]
      have : decide (j < clampN (32 - m.pfx)) = false := by
        simp only [decide_eq_true_eq] at hj
        obtain ⟨h1, h2⟩ := hj
        have hc : clampN 32 = 32 := rfl
        rw [hc] at h1 h2
        refine decide_eq_false ?_
        unfold clampN
        omega
      rw [this, Bool.and_false, Bool.xor_false]
    rw [hl, hc, hc, e]
  by_cases h3 : kind = 3
  · subst h3
    have hl : looseM m 3 v = v &&& notN m.mask 128 := by unfold looseM; simp [hp]
    have hc : ∀ y, coversM m 3 bits y = decide (y &&& m.mask = m.value) := fun y => by unfold coversM; simp [hp]
    have e : (x ^^^ v &&& notN m.mask 128) &&& m.mask = x &&& m.mask := by
      rw [and_eq_iff]
      intro j hj
      rw [Nat.testBit_xor, Nat.testBit_and, notN_bit, hj]
      simp
    rw [hl, hc, hc, e]
  · have hl : looseM m kind v = 0 := by unfold looseM; rw [if_neg hp, if_neg h2, if_neg h3]
    rw [hl, Nat.xor_zero]
def cubeQ (v : Nat) : List SMatch → List SKey → List Nat → List Nat
  | m :: ms, k :: ks, x :: xs => (x ^^^ looseM m k.kind v) :: cubeQ v ms ks xs
  | _, _, xs => xs
theorem cubeQ_len {v : Nat} : ∀ (ms : List SMatch) (ks : List SKey) (xs : List Nat), (cubeQ v ms ks xs).length = xs.length
  | m :: ms, k :: ks, x :: xs => by simp only [cubeQ, yaz, cubeQ_len ms ks xs]
  | [], _, _ => by simp [cubeQ]
  | _ :: _, [], _ => by simp [cubeQ]
  | _ :: _, _ :: _, [] => by simp [cubeQ]
theorem cubeQ_get {v : Nat} : ∀ (ms : List SMatch) (ks : List SKey) (xs : List Nat) (i : Nat) (m : SMatch) (k : SKey) (x : Nat), ms[i]? = some m → ks[i]? = some k → xs[i]? = some x → (cubeQ v ms ks xs)[i]? = some (x ^^^ looseM m k.kind v)
  | m :: ms, k :: ks, x :: xs, 0, _, _, _, h1, h2, h3 => by cases h1; cases h2; cases h3; rfl
  | m :: ms, k :: ks, x :: xs, i + 1, m', k', x', h1, h2, h3 => by
    simp only [cubeQ, yan] at *
    exact cubeQ_get ms ks xs i m' k' x' h1 h2 h3
  | [], _, _, i, _, _, _, h1, _, _ => by simp at h1
  | _ :: _, [], _, i, _, _, _, _, h2, _ => by simp at h2
  | _ :: _, _ :: _, [], i, _, _, _, _, _, h3 => by simp at h3
theorem cubeQ_lt {v : Nat} (hv : v < 2 ^ 128) : ∀ (ms : List SMatch) (ks : List SKey) (xs : List Nat), (∀ x ∈ xs, x < 2 ^ 128) → ∀ x ∈ cubeQ v ms ks xs, x < 2 ^ 128
  | m :: ms, k :: ks, x :: xs, h, y, hy => by
    simp only [cubeQ, List.mem_cons] at hy
    rcases hy with rfl | hy
    · refine Nat.xor_lt_two_pow (h x List.mem_cons_self) ?_
      unfold looseM
      split
      · exact hv
      · split
        · exact Nat.and_lt_two_pow _ (onesN_lt _)
        · split
          · exact Nat.and_lt_two_pow _ (notN_lt _ _)
          · decide
    · exact cubeQ_lt hv ms ks xs (fun z hz => h z (List.mem_cons_of_mem _ hz)) y hy
  | [], _, _, h, y, hy => h y (by simpa [cubeQ] using hy)
  | _ :: _, [], _, h, y, hy => h y (by simpa [cubeQ] using hy)
  | _ :: _, _ :: _, [], h, y, hy => h y (by simpa [cubeQ] using hy)
theorem matchesG_congr {S : Sch} {ms : List SMatch} {p q : List Nat} : ∀ (ks : List SKey) (i : Nat), (∀ j k, ks[j]? = some k → i + j < ms.length → i + j < 4 → coversM (ms.getD (i + j) noMatch) k.kind (bitsF S k.field) (p.getD (i + j) 0) = coversM (ms.getD (i + j) noMatch) k.kind (bitsF S k.field) (q.getD (i + j) 0)) →
    matchesG S ms p ks i = matchesG S ms q ks i
  | [], _, _ => rfl
  | k :: ks, i, h => by
    unfold matchesG
    by_cases hc : ms.length ≤ i ∨ 4 ≤ i
    · rw [if_pos hc, if_pos hc]
    · rw [if_neg hc, if_neg hc]
      have h0 := h 0 k rfl (by omega) (by omega)
      rw [Nat.add_zero] at h0
      have ih := matchesG_congr (S := S) (ms := ms) (p := p) (q := q) ks (i + 1) (by
        intro j k' hk h1 h2
        have := h (j + 1) k' (by simpa using hk) (by omega) (by omega)
        rw [show i + (j + 1) = i + 1 + j by omega] at this
        exact this)
      rw [h0, ih]
theorem matchesG_cube {S : Sch} {ms : List SMatch} {ks : List SKey} {p : List Nat} {v : Nat} (hp : p.length = 4) (h : ∀ k ∈ ks, k.kind = 2 → bitsF S k.field = 32) : matchesG S ms (cubeQ v ms ks p) ks 0 = matchesG S ms p ks 0 := by
  refine matchesG_congr ks 0 fun j k hk h1 h2 => ?_
  rw [Nat.zero_add] at *
  have e1 : ms[j]? = some ms[j] := List.getElem?_eq_getElem h1
  have e3 : p[j]? = some (p[j]'(by omega)) := List.getElem?_eq_getElem (by omega)
  have e4 := cubeQ_get (v := v) ms ks p j _ k _ e1 hk e3
  rw [List.getD_eq_getElem?_getD, List.getD_eq_getElem?_getD, List.getD_eq_getElem?_getD, e1, e3, e4]
  exact coversM_loose fun h2 => h k (List.mem_of_getElem? hk) h2
/-- what is so of generated matches -/
structure GM (m : SMatch) : Prop where
  v : m.value < 2 ^ 32
  k : m.mask < 2 ^ 32
  h : m.high < 2 ^ 32
  p0 : 0 ≤ m.pfx
  p1 : m.pfx ≤ 32
theorem gMatch_ok {b : List UInt8} {v : Nat} {w kind : Int} (h1 : 1 ≤ w) (h2 : w ≤ 32) (h3 : kind = 2 → 16 ≤ w) : GM (gMatch b v w kind).1 := by
  have hX := low_lt32 (x := gNum b v) h1 h2
  have hno : GM noMatch := ⟨by decide, by decide, by decide, by decide, by decide⟩
  unfold gMatch
  dsimp only
  split
  · rename_i hk
    have := gPfx_in (b := b) (u := v + 4) (h3 hk)
    split
    · exact ⟨Nat.lt_of_le_of_lt Nat.and_le_left hX, by dsimp only; decide, by dsimp only; decide, by dsimp only; omega, by dsimp only; omega⟩
    · exact hno
  · split
    · split
      · exact ⟨Nat.lt_of_le_of_lt Nat.and_le_left hX, low_lt32 h1 h2, by dsimp only; decide, by dsimp only; decide, by dsimp only; decide⟩
      · exact hno
    · split
      · split
        · refine ⟨hX, by dsimp only; decide, ?_, by dsimp only; decide, by dsimp only; decide⟩
          dsimp only
          unfold gHigh
          have : 2 ^ w.toNat ≤ 2 ^ 32 := Nat.pow_le_pow_right (by decide) (by omega)
          have := Nat.two_pow_pos w.toNat
          omega
        · exact hno
      · exact ⟨hX, by dsimp only; decide, by dsimp only; decide, by dsimp only; decide, by dsimp only; decide⟩
theorem gMatches_ok {S : Sch} {b : List UInt8} : ∀ (ks : List SKey) (v : Nat) (p : Int), (∀ k ∈ ks, 1 ≤ bitsF S k.field ∧ bitsF S k.field ≤ 32 ∧ (k.kind = 2 → 16 ≤ bitsF S k.field)) → 0 ≤ p → p ≤ 5 →
    (gMatches S b ks v p).1.1.length = ks.length ∧ (∀ m ∈ (gMatches S b ks v p).1.1, GM m) ∧ 0 ≤ (gMatches S b ks v p).1.2 ∧ (gMatches S b ks v p).1.2 ≤ 5
  | [], v, p, _, h1, h2 => ⟨rfl, by simp [gMatches], h1, h2⟩
  | k :: ks, v, p, h, h1, h2 => by
    obtain ⟨g1, g2, g3⟩ := h k List.mem_cons_self
    have hm := gMatch_ok (b := b) (v := v) g1 g2 g3
    have hc := cv_lt (b := b) (v := (gMatch b v (bitsF S k.field) k.kind).2) (n := 5) (by decide)
    unfold gMatches
    dsimp only
    by_cases hk : k.kind = 3 ∨ k.kind = 4
    · simp only [if_pos hk]
      obtain ⟨i1, i2, i3, i4⟩ := gMatches_ok ks ((gMatch b v (bitsF S k.field) k.kind).2 + 1) (1 + ci b (gMatch b v (bitsF S k.field) k.kind).2 5) (fun x hx => h x (List.mem_cons_of_mem _ hx)) (by unfold ci; omega) (by unfold ci; omega)
      exact ⟨by simp [i1], fun m hm' => (List.mem_cons.1 hm').elim (fun e => e ▸ hm) (i2 m), i3, i4⟩
    · simp only [if_neg hk]
      obtain ⟨i1, i2, i3, i4⟩ := gMatches_ok ks (gMatch b v (bitsF S k.field) k.kind).2 p (fun x hx => h x (List.mem_cons_of_mem _ hx)) h1 h2
      exact ⟨by simp [i1], fun m hm' => (List.mem_cons.1 hm').elim (fun e => e ▸ hm) (i2 m), i3, i4⟩
theorem gArgs_ok {b : List UInt8} : ∀ (ps : List SParam) (v : Nat), (gArgs b ps v).1.length = ps.length ∧ ∀ x ∈ (gArgs b ps v).1, x < 256
  | [], v => ⟨rfl, by simp [gArgs]⟩
  | p :: ps, v => by
    obtain ⟨i1, i2⟩ := gArgs_ok ps (v + 1)
    unfold gArgs
    refine ⟨by simp only [yaz]; rw [i1], fun x hx => ?_⟩
    rcases List.mem_cons.1 hx with rfl | hx
    · have := cv_lt (b := b) (v := v) (n := 256) (by decide)
      unfold low
      split
      · exact this
      · exact Nat.lt_of_le_of_lt (Nat.mod_le _ _) this
    · exact i2 x hx
theorem tableAt_mem {S : Sch} {n : Int} (h : 1 ≤ S.tables.length) : tableAt S n ∈ S.tables := by
  have hm1 := Int.emod_nonneg n (show ((S.tables.length : Nat) : Int) ≠ 0 by omega)
  have hm2 := Int.emod_lt_of_pos n (show (0 : Int) < ((S.tables.length : Nat) : Int) by omega)
  have hmi : (n % ((S.tables.length : Nat) : Int)).toNat < S.tables.length := by omega
  unfold tableAt
  rw [List.getD_eq_getElem?_getD, List.getElem?_eq_getElem hmi]
  exact List.getElem_mem hmi
/-- what is so of generated entries -/
structure GE (S : Sch) (t : STable) (e : SEntry) : Prop where
  tb : e.table = t.id
  ml : e.ms.length = t.keys.length
  mo : ∀ m ∈ e.ms, GM m
  p0 : 0 ≤ e.prio
  p1 : e.prio ≤ 5
  am : e.act ∈ t.actions
  al : e.args.length = (actionL S.actions e.act).params.length
  ao : ∀ x ∈ e.args, x < 256
theorem gEntry_ok {S : Sch} (hG : GenS S) {b : List UInt8} {v : Nat} {n : Int} : GE S (tableAt S n) (gEntry S b v n).1 := by
  have ht := tableAt_mem (S := S) (n := n) hG.t1
  obtain ⟨i1, i2, i3, i4⟩ := gMatches_ok (b := b) (tableAt S n).keys v 0 (hG.kb _ ht) (by omega) (by omega)
  have hc : cv b (gMatches S b (tableAt S n).keys v 0).2 (tableAt S n).actions.length < (tableAt S n).actions.length := cv_lt (by have := (hG.a1 _ ht).1; omega)
  unfold gEntry
  dsimp only
  refine ⟨rfl, i1, i2, i3, i4, ?_, (gArgs_ok _ _).1, (gArgs_ok _ _).2⟩
  dsimp only
  rw [List.getD_eq_getElem?_getD, List.getElem?_eq_getElem hc]
  exact List.getElem_mem hc
theorem GE.ok {S : Sch} {t : STable} {e : SEntry} (h : GE S t e) (h1 : t.keys.length ≤ 100) (h2 : ∀ a : Int, (actionL S.actions a).params.length ≤ 100) : EOk e :=
  ⟨by have := h.ml; omega, by have := h.al; have := h2 e.act; omega, fun m hm => by have := h.mo m hm; exact ⟨Nat.lt_of_lt_of_le this.v (by decide), Nat.lt_of_lt_of_le this.k (by decide), Nat.lt_of_lt_of_le this.h (by decide)⟩⟩
/-- the four tables -/
structure TabS (S : Sch) : Prop where
  uq : ∀ t ∈ S.tables, tabF S t.id = some t
  k4 : ∀ t ∈ S.tables, t.keys.length ≤ 3
  b2 : ∀ t ∈ S.tables, ∀ k ∈ t.keys, k.kind = 2 → bitsF S k.field = 32
  l4 : S.tables.length = 4
theorem tabS_ok (b : List UInt8) (v : Nat) : TabS (gSchema b v).1 where
  uq := fun t ht => by
    simp only [gSchema, gTables, List.mem_cons, List.not_mem_nil, or_false] at ht
    rcases ht with rfl | rfl | rfl | rfl <;> rfl
  k4 := fun t ht => (gTables_keys t ht).1
  b2 := fun t ht k hk h2 => by
    simp only [gSchema, gTables, List.mem_cons, List.not_mem_nil, or_false] at ht
    rcases ht with rfl | rfl | rfl | rfl
    · simp only [gTable0, List.mem_cons, List.not_mem_nil, or_false] at hk
      subst hk; exact absurd h2 (by decide)
    · simp only [gTable1] at hk
      split at hk <;> simp only [yal, yak, yaj, List.mem_cons, List.not_mem_nil, or_false] at hk
      · rcases hk with rfl | rfl
        · rfl
        · exact absurd h2 (by decide)
      · subst hk; rfl
    · simp only [gTable2] at hk
      split at hk <;> simp only [yal, yak, yaj, List.mem_cons, List.not_mem_nil, or_false] at hk
      · rcases hk with rfl | rfl | rfl <;> exact absurd h2 (by decide)
      · rcases hk with rfl | rfl <;> exact absurd h2 (by decide)
    · simp only [gTable3] at hk
      split at hk <;> simp only [yal, yak, yaj, List.mem_cons, List.not_mem_nil, or_false] at hk
      · rcases hk with rfl | rfl | rfl
        · exact absurd h2 (by decide)
        · exact absurd h2 (by decide)
        · rfl
      · subst hk; exact absurd h2 (by decide)
  l4 := rfl
theorem gPoint_ok {b : List UInt8} : ∀ (n v : Nat), (gPoint b n v).1.length = n ∧ ∀ x ∈ (gPoint b n v).1, x < 2 ^ 64
  | 0, v => ⟨rfl, by simp [gPoint]⟩
  | n + 1, v => by
    have c1 := cv_lt (b := b) (v := v) (n := 256) (by decide)
    have c2 := cv_lt (b := b) (v := v + 2) (n := 256) (by decide)
    unfold gPoint
    split
    · obtain ⟨i1, i2⟩ := gPoint_ok (b := b) n (v + 3)
      refine ⟨by simp [i1], fun x hx => ?_⟩
      rcases List.mem_cons.1 hx with rfl | hx
      · exact Nat.or_lt_two_pow (by rw [Nat.shiftLeft_eq]; omega) (by omega)
      · exact i2 x hx
    · obtain ⟨i1, i2⟩ := gPoint_ok (b := b) n (v + 2)
      refine ⟨by simp [i1], fun x hx => ?_⟩
      rcases List.mem_cons.1 hx with rfl | hx
      · omega
      · exact i2 x hx
end Go.AL


open Go Go.AL Go.Proofs
namespace Go.AL
set_option linter.all false
set_option maxRecDepth 10000

theorem cubeQ_tail {v : Nat} : ∀ (ms : List SMatch) (ks : List SKey) (xs : List Nat), ms.length = ks.length → ks.length ≤ xs.length → (cubeQ v ms ks xs).take ks.length ++ xs.drop ks.length = cubeQ v ms ks xs
  | m :: ms, k :: ks, x :: xs, h1, h2 => by
    simp only [cubeQ, yaz, yaq, yao, yal]
    rw [cubeQ_tail ms ks xs (by simpa using h1) (by simpa using h2)]
  | [], [], xs, _, _ => by simp [cubeQ]
  | [], k :: ks, _, h1, _ => by simp at h1
  | m :: ms, [], _, h1, _ => by simp at h1
  | m :: ms, k :: ks, [], _, h2 => by simp at h2
theorem pt_set : ∀ (q : List Nat) (k y : Nat), k < q.length → splice (pointC q) (k * 2) (vc y) = pointC (q.set k y)
  | x :: q, 0, y, _ => by
    simp only [pointC, List.flatMap_cons, List.set_cons_zero, vc, yal, yak, Nat.zero_mul, splice]
    cases h : List.flatMap vc q with
    | nil => rfl
    | cons c cs => rfl
  | x :: q, k + 1, y, h => by
    have ih := pt_set q k y (by simpa using h)
    rw [show (k + 1) * 2 = k * 2 + 1 + 1 by omega]
    simp only [pointC, List.flatMap_cons, List.set_cons_succ, vc, yal, yak, splice] at ih ⊢
    rw [ih]
theorem mix_set {Q p : List Nat} {k : Nat} (h1 : k < Q.length) (h2 : k < p.length) : (Q.take k ++ p.drop k).set k Q[k] = Q.take (k + 1) ++ p.drop (k + 1) := by
  rw [List.set_append_right _ _ (by simp; omega), List.length_take, Nat.min_eq_left (by omega), Nat.sub_self, List.take_succ_eq_append_getElem h1, List.append_assoc]
  congr 1
  rw [List.drop_eq_getElem_cons h2]
  rfl
theorem allOne_pt : ∀ (q : List Nat), allOne (pointC q) = true
  | [] => rfl
  | x :: q => by
    have := allOne_pt q
    simp only [allOne, pointC, List.flatMap_cons, vc, yal, yak, List.all_cons, AV.one, Bool.true_and] at this ⊢
    exact this
theorem splice_all : ∀ (z l : List AV), z.length = l.length → splice z 0 l = l
  | [], [], _ => rfl
  | a :: z, b :: l, h => by
    unfold splice
    rw [splice_all z l (by simpa using h)]
  | [], _ :: _, h => by simp at h
  | _ :: _, [], h => by simp at h
def p_EntryCubes : List AV → AHeap → (AV → Prop) → Prop
  | [.slice _ 1 l1, .slice _ 1 l2, .int .i64 n, .agg [.int .u64 a, .int .u64 b]], _, K => (isB l1 ∧ isB l2 ∧ -9223372036854775808 ≤ n ∧ n < 9223372036854775808 ∧ isV a b) ∧ K (.bool true)
  | _, _, _ => False
set_option maxHeartbeats 8000000 in
theorem ok_EntryCubes : EntOk Try.prog 3 (Ent.pure p_EntryCubes) := by
  refine EntOk.pure fun args H K h => ?_
  unfold p_EntryCubes at h
  split at h
  rotate_left
  · exact h.elim
  rename_i m1 l1 m2 l2 n a b
  obtain ⟨⟨c1, c2, hn1, hn2, hab⟩, hK⟩ := h
  refine ⟨_, hK, ?_⟩
  clear hK
  obtain ⟨x1, rfl⟩ := isB_out c1
  obtain ⟨x2, rfl⟩ := isB_out c2
  obtain ⟨v, hv, rfl, rfl, -⟩ := isV_out hab
  have iv := isV_of hv
  clear hab c1 c2
  obtain ⟨B1, hB1⟩ : ∃ B1, x1.take (min (x1.length : Int) 120).toNat = B1 := ⟨_, rfl⟩
  obtain ⟨B2, hB2⟩ : ∃ B2, x2.take (min (x2.length : Int) 40).toNat = B2 := ⟨_, rfl⟩
  have hL1 : B1.length ≤ 1000000 := by rw [← hB1, List.length_take]; omega
  have hL2 : B2.length ≤ 1000000 := by rw [← hB2, List.length_take]; omega
  have hG := genS_ok B1 0
  have hT := tabS_ok B1 0
  generalize hS : gSchema B1 0 = SS at *
  obtain ⟨S, w1⟩ := SS
  dsimp only at hG hT
  have hz1 : zod B1 0 = codV B1 (cp 0 0) := zod_codV
  have hz2 : zod B2 0 = codV B2 (cp 0 0) := zod_codV
  have htm := tableAt_mem (S := S) (n := n) hG.t1
  have hE := gEntry_ok hG (b := B2) (v := 0) (n := n)
  have htg : (S.tables.map tableAV).getD (n % ((S.tables.length : Nat) : Int)).toNat .junk = tableAV (tableAt S n) := by
    have hm1 := Int.emod_nonneg n (show ((S.tables.length : Nat) : Int) ≠ 0 by have := hG.t1; omega)
    have hm2 := Int.emod_lt_of_pos n (show (0 : Int) < ((S.tables.length : Nat) : Int) by have := hG.t1; omega)
    have hmi : (n % ((S.tables.length : Nat) : Int)).toNat < S.tables.length := by omega
    unfold tableAt
    exact getD_map (f := tableAV) (by rw [List.getElem?_eq_getElem hmi, List.getD_eq_getElem?_getD, List.getElem?_eq_getElem hmi]; rfl)
  generalize ht : tableAt S n = t at *
  have hst : (gsEntry S n B2 0) = (entryAV (gEntry S B2 0 n).1, (gEntry S B2 0 n).2) := rfl
  generalize he : gEntry S B2 0 n = ee at *
  obtain ⟨e, w2⟩ := ee
  dsimp only at hE
  have hpt := gPoint_ok (b := B2) 4 w2
  have hsp : gsPoint B2 w2 = (.agg (pointC (gPoint B2 4 w2).1), (gPoint B2 4 w2).2) := rfl
  generalize hp : gPoint B2 4 w2 = pp at *
  obtain ⟨p, w3⟩ := pp
  dsimp only at hpt hst hsp
  obtain ⟨hp4, hpv⟩ := hpt
  refine ACalls.of_aw (Ω := [(12, Ent.effect e_ZNew), (13, Ent.effect e_CSchema), (14, Ent.effect e_CEntry), (15, Ent.effect e_CPoint), (16, Ent.pure p_ZMod), (18, Ent.pure p_rOnes), (17, Ent.pure p_rAnd), (19, Ent.pure p_rNot), (20, Ent.pure p_rXor), (21, Ent.pure p_eMatches), (22, Ent.pure p_begun10)]) (T := assoc [(4, [[], [], [], [], [], [], [4], [], [6], [], [1, 4, 6, 8]]), (14, [[], [], [], [], [2], [0, 2, 4], [0, 2, 4, 5]]), (16, [[], [], [], [2], [0, 2, 3], [0, 2, 3, 4]]), (17, [[], [], [], [], [], [3, 4], [], [3, 4, 5]]), (19, [[], [], [], [0, 1, 2], [], [], [], [0, 1, 2, 3, 4, 5, 6], [], [], [0, 1, 2, 3, 4, 5, 6, 7]])]) mixed (TblOk.cons ok_ZNew (TblOk.cons ok_CSchema (TblOk.cons ok_CEntry (TblOk.cons ok_CPoint (TblOk.cons ok_ZMod (TblOk.cons ok_rOnes (TblOk.cons ok_rAnd (TblOk.cons ok_rNot (TblOk.cons ok_rXor (TblOk.cons ok_eMatches (TblOk.cons ok_begun10 TblOk.nil))))))))))) Try.func3 (by kernel_rfl) (by rfl) (rs := [.tmp 8]) (by rfl) (by kernel_rfl) (by simp only [Try.ntmps3, yaz, yba]; decide) (Nat.le_refl _) fun hcl hlt => ?_
  change aw _ _ _ (KI Try.prog [(12, Ent.effect e_ZNew), (13, Ent.effect e_CSchema), (14, Ent.effect e_CEntry), (15, Ent.effect e_CPoint), (16, Ent.pure p_ZMod), (18, Ent.pure p_rOnes), (17, Ent.pure p_rAnd), (19, Ent.pure p_rNot), (20, Ent.pure p_rXor), (21, Ent.pure p_eMatches), (22, Ent.pure p_begun10)] (aEnd Try.prog [.tmp 8] H.nx _ _ (assoc [(4, [[], [], [], [], [], [], [4], [], [6], [], [1, 4, 6, 8]]), (14, [[], [], [], [], [2], [0, 2, 4], [0, 2, 4, 5]]), (16, [[], [], [], [2], [0, 2, 3], [0, 2, 3, 4]]), (17, [[], [], [], [], [], [3, 4], [], [3, 4, 5]]), (19, [[], [], [], [0, 1, 2], [], [], [], [0, 1, 2, 3, 4, 5, 6], [], [], [0, 1, 2, 3, 4, 5, 6, 7]])])) []) _ _
  clear hlt
  simp only [go_sem, reduceCtorEq, Nat.reduceEqDiff, Nat.reduceAdd, Nat.reduceMul, Nat.reduceSub, Nat.reduceLeDiff, Nat.reduceLT, Int.reduceMul, Int.reduceAdd, Int.reduceSub, Int.reduceToNat, e_ZNew]
  refine ⟨x1, ⟨rfl, by omega⟩, ?_⟩
  rw [hB1, hz1]
  have hSch : e_CSchema = eG fun b v => (schAV (gSchema b v).1, (gSchema b v).2) := rfl
  simp only [blkE, blkP, bhq, Nat.reduceMod, Nat.reduceDiv, stepH, stepM, toMs1, toMs, toMs0, strK, pubK, pubF, pubV, yaq, yar, yao, yap, go_sem, reduceCtorEq, Nat.reduceEqDiff, Nat.reduceAdd, Nat.reduceMul, Nat.reduceSub, Nat.reduceLeDiff, Nat.reduceLT, Int.reduceMul, Int.reduceAdd, Int.reduceSub, Int.reduceToNat, e_ZNew, hSch, eG, onC_cod hL1, Nat.zero_min, cp0, hS, schAV, schC]
  refine ⟨x2, ⟨rfl, by omega⟩, ?_⟩
  rw [hB2, hz2]
  simp only [blkE, blkP, bhq, Nat.reduceMod, Nat.reduceDiv, stepH, stepM, toMs1, toMs, toMs0, strK, pubK, pubF, pubV, yaq, yar, yao, yap, go_sem, reduceCtorEq, Nat.reduceEqDiff, Nat.reduceAdd, Nat.reduceMul, Nat.reduceSub, Nat.reduceLeDiff, Nat.reduceLT, Int.reduceMul, Int.reduceAdd, Int.reduceSub, Int.reduceToNat, e_ZNew, hSch, eG, onC_cod hL1, Nat.zero_min, cp0, hS, schAV, schC]
  refine ⟨S, ⟨rfl, hG, hn1, hn2⟩, ?_⟩
  have hpl : ∀ q : List Nat, q.length = 4 → (pointC q).length = 8 := fun q h => by rw [pointC_len]; omega
  have hp8 := hpl p hp4
  have hs8 : ∀ q : List Nat, q.length = 4 → splice [.int .u64 0, .int .u64 0, .int .u64 0, .int .u64 0, .int .u64 0, .int .u64 0, .int .u64 0, .int .u64 0] 0 (pointC q) = pointC q := fun q h => splice_all _ _ (by rw [hpl q h]; rfl)
  have ht8 : ∀ q : List Nat, q.length = 4 → List.take 8 (pointC q) = pointC q := fun q h => ybc (by rw [hpl q h]; omega)
  have hpz := hs8 p hp4
  have hpt8 := ht8 p hp4
  have hpo := allOne_pt p
  simp only [blkE, blkP, bhq, Nat.reduceMod, Nat.reduceDiv, stepH, stepM, toMs1, toMs, toMs0, strK, pubK, pubF, pubV, yaq, yar, yao, yap, go_sem, reduceCtorEq, Nat.reduceEqDiff, Nat.reduceAdd, Nat.reduceMul, Nat.reduceSub, Nat.reduceLeDiff, Nat.reduceLT, Int.reduceMul, Int.reduceAdd, Int.reduceSub, Int.reduceToNat, onS_cod hL2 (st_entry _ _), onS_cod hL2 st_point, cp0, hst, entryAV, entryC, e_CPoint, eG_onS, hsp, p_ZMod, hp8, hpz, hpt8, hpo, ybb, htg, tableAV]
  have g1 := hG.t1
  have g2 := hG.tl
  have hm1 := Int.emod_nonneg n (show ((S.tables.length : Nat) : Int) ≠ 0 by omega)
  have hm2 := Int.emod_lt_of_pos n (show (0 : Int) < ((S.tables.length : Nat) : Int) by omega)
  refine ⟨by omega, by omega, .inr (by omega), ?_⟩
  (repeat with_reducible refine And.intro (by first | exact True.intro | decide | omega | (simp [zhx, zge, zgf, zgg, zgi, zgh, zgm]; first | done | omega)) ?_)
  have hkl : t.keys.length ≤ 3 := hT.k4 t htm
  have heo := hE.ok (by omega) hG.pl
  have hml := hE.ml
  obtain ⟨Q, hQ⟩ : ∃ Q, cubeQ v e.ms t.keys p = Q := ⟨_, rfl⟩
  have hQ4 : Q.length = 4 := by rw [← hQ, cubeQ_len, hp4]
  have hpv2 : ∀ x ∈ p, x < 2 ^ 128 := fun x hx => Nat.lt_of_lt_of_le (hpv x hx) (by decide)
  have hQv : ∀ x ∈ Q, x < 2 ^ 128 := by rw [← hQ]; exact cubeQ_lt hv _ _ _ hpv2
  have hQt : Q.take t.keys.length ++ p.drop t.keys.length = Q := by rw [← hQ]; exact cubeQ_tail _ _ _ hml (by omega)
  obtain ⟨HL, hHL⟩ : ∃ HL : List Nat → AHeap, HL = fun q => (((((((H.push (.cells [.int .u64 ((v / 2 ^ 64 : Nat) : Int), .int .u64 ((v % 2 ^ 64 : Nat) : Int)])).push (codV B1 w1)).push (codV B2 w3)).push (.cells (schC S))).push (.cells (entryC e))).push (.cells (pointC p))).push (.cells [.int .i64 t.id, .str t.name, .slice .any 3 (t.keys.map keyAV), .slice .any 1 (inL t.actions), .int .i64 t.dflt, .slice .any 2 (t.dargs.map vv), .int .i64 t.size, .str t.restr])).push (.cells (pointC q)) := ⟨_, rfl⟩
  have hclL : ∀ q, (HL q).Closed := fun q => by
    rw [hHL]
    exact closed_cells (closed_cells (closed_cells (closed_cells (closed_cells (closed_cells (closed_cells (closed_cells hcl (by simp [zmw, zmx, zmh])) codV_lt) codV_lt) (ltL_iff.2 fun j hj => AV.lt_cells (lt_sch S) j hj)) (ltL_iff.2 fun j hj => AV.lt_cells (lt_entry e) j hj)) ltL_pt) (ltL_iff.2 fun j hj => AV.lt_cells (lt_table t) j hj)) ltL_pt
  have hnL : ∀ q, (HL q).nx = (H.nx + 1 + 1 + 1 + 1 + 1 + 1 + 1 + 1) := fun q => by rw [hHL]; rfl
  refine loop_introW (A := Nat) (fun k => [(7, .ptr H.nx 0), (9, .ptr (H.nx + 1 + 1 + 1) 0), (11, .ptr (H.nx + 1 + 1 + 1 + 1) 0), (12, .ptr (H.nx + 1 + 1 + 1 + 1 + 1) 0), (14, .ptr (H.nx + 1 + 1 + 1 + 1 + 1 + 1 + 1) 0), (41, .slice .any 3 (t.keys.map keyAV)), (42, .int .i64 (t.keys.length : Int)), (43, .int .i64 (k : Int))]) (fun k => HL (Q.take k ++ p.drop k)) (fun k => k ≤ t.keys.length) (fun k => t.keys.length - k) 0 (by omega) ?_ fun k hk => ?_
  · refine ⟨by simp only [hnL, zjs, zjx]; omega, by rw [hHL]; exact AHeap.Le.refl _, hclL _, ?_, ?_⟩
    · simp [ltF, hnL, zmp, zmh, lt_map lt_key]
      omega
    · simp [subW, wk2, wk1, wkM, Fr.get]
  simp only [go_sem, reduceCtorEq, Nat.reduceEqDiff, Nat.reduceAdd, Nat.reduceMul, Nat.reduceSub, Nat.reduceLeDiff, Nat.reduceLT, Int.reduceMul, Int.reduceAdd, Int.reduceSub, Int.reduceToNat]
  refine cond_split (fun hc => ?_) (fun hc => ?_)
  · have hk' : k < t.keys.length := by simp at hc; omega
    have hk2 : k < e.ms.length := by omega
    obtain ⟨x, hx⟩ : ∃ x, x = t.keys[k] := ⟨_, rfl⟩
    obtain ⟨m, hm⟩ : ∃ m, m = e.ms[k] := ⟨_, rfl⟩
    have hkg := getD_map (f := keyAV) (l := t.keys) (k := k) (x := x) (by rw [List.getElem?_eq_getElem hk', hx])
    have hmg := getD_map (f := matchAV) (l := e.ms) (k := k) (x := m) (by rw [List.getElem?_eq_getElem hk2, hm])
    have hmo := hE.mo m (by rw [hm]; exact List.getElem_mem hk2)
    obtain ⟨hm1', hm2', hm3', hm4', hm5'⟩ := hmo
    have e5 : IntKind.i64.wrap ((k : Int) + 1) = ((k + 1 : Nat) : Int) := by rw [wrap_i64] <;> omega
    have e32 : IntKind.i64.wrap (32 - m.pfx) = 32 - m.pfx := by rw [wrap_i64] <;> omega
    have hkp : k < p.length := by omega
    obtain ⟨y, hy⟩ : ∃ y, y = p[k] := ⟨_, rfl⟩
    have hyv : y < 2 ^ 128 := hpv2 y (by rw [hy]; exact List.getElem_mem hkp)
    have hpg := pt_get p k hkp
    rw [List.getD_eq_getElem?_getD, List.getElem?_eq_getElem hkp, ← hy, Option.getD_some] at hpg
    have hQk : Q[k]'(by omega) = y ^^^ looseM m x.kind v := by
      have := cubeQ_get (v := v) e.ms t.keys p k m x y (by rw [List.getElem?_eq_getElem hk2, hm]) (by rw [List.getElem?_eq_getElem hk', hx]) (by rw [List.getElem?_eq_getElem hkp, hy])
      rw [hQ, List.getElem?_eq_getElem (by omega)] at this
      exact Option.some.inj this
    have hset : (Q.take k ++ p.drop k).set k (y ^^^ looseM m x.kind v) = Q.take (k + 1) ++ p.drop (k + 1) := by
      rw [← hQk]; exact mix_set (by omega) hkp
    have hq4 : (Q.take k ++ p.drop k).length = 4 := by simp; omega
    have hps : splice (pointC (Q.take k ++ p.drop k)) (k * 2) (vc (y ^^^ looseM m x.kind v)) = pointC (Q.take (k + 1) ++ p.drop (k + 1)) := by
      rw [pt_set _ _ _ (by omega), hset]
    have hq8 := hpl _ hq4
    generalize Q.take k ++ p.drop k = q at *
    have hdl : 2 ≤ (List.drop (k * 2) (pointC p)).length := by rw [List.length_drop, hp8]; omega
    have hxx : ∀ L : Nat, L < 2 ^ 128 → isV ((L / 2 ^ 64 : Nat) : Int) ((L % 2 ^ 64 : Nat) : Int) = True := fun L hL => isV_of hL
    have iy := isV_of hyv
    rw [hHL]
    cases hp : m.present
    · have hl : looseM m x.kind v = v := by unfold looseM; rw [if_pos hp]
      rw [hl] at hps
      simp only [vc] at hps
      simp only [blkE, blkP, bhq, Nat.reduceMod, Nat.reduceDiv, stepH, stepM, toMs1, toMs, toMs0, strK, pubK, pubF, pubV, yaq, yar, yao, yap, go_sem, reduceCtorEq, Nat.reduceEqDiff, Nat.reduceAdd, Nat.reduceMul, Nat.reduceSub, Nat.reduceLeDiff, Nat.reduceLT, Int.reduceMul, Int.reduceAdd, Int.reduceSub, Int.reduceToNat, Bool.not_true, Bool.not_false, schC, entryC, Int.toNat_natCast, ybb, hkg, keyAV, hmg, matchAV, vc, matchC, yal, yak, e5, e32, hp8, hq8, hpg, hdl, Nat.zero_add, hp, iv, iy, p_rOnes, p_rAnd, p_rNot, p_rXor, p2V, vv, vOf_back, hps]
      (repeat with_reducible refine And.intro (by first | exact True.intro | decide | omega | (simp [zhx, zge, zgf, zgg, zgi, zgh, zgm]; first | done | omega)) ?_)
      refine ⟨k + 1, by omega, by omega, by simp only [zkg]; omega, ?_, by have := hclL (Q.take (k + 1) ++ p.drop (k + 1)); rw [hHL] at this; exact this, ?_, ?_⟩
      · repeat (first | exact AHeap.Le.refl _ | refine AHeap.Le.push ?_ _)
      · simp [ltF, zkg, zmp, zmh, lt_map lt_key]
        omega
      · simp [subW, wk2, wk1, wkM, Fr.get]
    · have hnp : ¬ m.present = false := by rw [hp]; decide
      by_cases hk2' : x.kind = 2
      · have hl : looseM m x.kind v = v &&& onesN (32 - m.pfx) := by unfold looseM; rw [if_neg hnp, if_pos hk2']
        rw [hl] at hps
        simp only [vc] at hps
        have io := hxx _ (onesN_lt (32 - m.pfx))
        have ia := hxx _ (Nat.and_lt_two_pow v (onesN_lt (32 - m.pfx)))
        have hkb : (x.kind == 2) = true := by rw [hk2']; rfl
        simp only [blkE, blkP, bhq, Nat.reduceMod, Nat.reduceDiv, stepH, stepM, toMs1, toMs, toMs0, strK, pubK, pubF, pubV, yaq, yar, yao, yap, go_sem, reduceCtorEq, Nat.reduceEqDiff, Nat.reduceAdd, Nat.reduceMul, Nat.reduceSub, Nat.reduceLeDiff, Nat.reduceLT, Int.reduceMul, Int.reduceAdd, Int.reduceSub, Int.reduceToNat, Bool.not_true, Bool.not_false, schC, entryC, Int.toNat_natCast, ybb, hkg, keyAV, hmg, matchAV, vc, matchC, yal, yak, e5, e32, hp8, hq8, hpg, hdl, Nat.zero_add, hp, iv, iy, p_rOnes, p_rAnd, p_rNot, p_rXor, p2V, vv, vOf_back, hps, hkb, io, ia]
        (repeat with_reducible refine And.intro (by first | exact True.intro | decide | omega | (simp [zhx, zge, zgf, zgg, zgi, zgh, zgm]; first | done | omega)) ?_)
        refine ⟨k + 1, by omega, by omega, by simp only [zkg]; omega, ?_, by have := hclL (Q.take (k + 1) ++ p.drop (k + 1)); rw [hHL] at this; exact this, ?_, ?_⟩
        · repeat (first | exact AHeap.Le.refl _ | refine AHeap.Le.push ?_ _)
        · simp [ltF, zkg, zmp, zmh, lt_map lt_key]
          omega
        · simp [subW, wk2, wk1, wkM, Fr.get]
      · by_cases hk3' : x.kind = 3
        · have hl : looseM m x.kind v = v &&& notN m.mask 128 := by unfold looseM; rw [if_neg hnp, if_neg hk2', if_pos hk3']
          rw [hl] at hps
          simp only [vc] at hps
          have io := hxx _ (notN_lt m.mask 128)
          have ia := hxx _ (Nat.and_lt_two_pow v (notN_lt m.mask 128))
          have imk := hxx m.mask (by have := hm2'; omega)
          have hkb : (x.kind == 2) = false := by simpa using hk2'
          have hkc : (x.kind == 3) = true := by rw [hk3']; rfl
          simp only [blkE, blkP, bhq, Nat.reduceMod, Nat.reduceDiv, stepH, stepM, toMs1, toMs, toMs0, strK, pubK, pubF, pubV, yaq, yar, yao, yap, go_sem, reduceCtorEq, Nat.reduceEqDiff, Nat.reduceAdd, Nat.reduceMul, Nat.reduceSub, Nat.reduceLeDiff, Nat.reduceLT, Int.reduceMul, Int.reduceAdd, Int.reduceSub, Int.reduceToNat, Bool.not_true, Bool.not_false, schC, entryC, Int.toNat_natCast, ybb, hkg, keyAV, hmg, matchAV, vc, matchC, yal, yak, e5, e32, hp8, hq8, hpg, hdl, Nat.zero_add, hp, iv, iy, p_rOnes, p_rAnd, p_rNot, p_rXor, p2V, vv, vOf_back, hps, hkb, hkc, io, ia, imk]
          (repeat with_reducible refine And.intro (by first | exact True.intro | decide | omega | (simp [zhx, zge, zgf, zgg, zgi, zgh, zgm]; first | done | omega)) ?_)
          refine ⟨k + 1, by omega, by omega, by simp only [zkg]; omega, ?_, by have := hclL (Q.take (k + 1) ++ p.drop (k + 1)); rw [hHL] at this; exact this, ?_, ?_⟩
          · repeat (first | exact AHeap.Le.refl _ | refine AHeap.Le.push ?_ _)
          · simp [ltF, zkg, zmp, zmh, lt_map lt_key]
            omega
          · simp [subW, wk2, wk1, wkM, Fr.get]
        · have hl : looseM m x.kind v = 0 := by unfold looseM; rw [if_neg hnp, if_neg hk2', if_neg hk3']
          rw [hl] at hps
          simp only [vc] at hps
          have hkb : (x.kind == 2) = false := by simpa using hk2'
          have hkc : (x.kind == 3) = false := by simpa using hk3'
          have i0 : isV 0 0 = True := isV_of (x := 0) (by decide)
          simp only [blkE, blkP, bhq, Nat.reduceMod, Nat.reduceDiv, stepH, stepM, toMs1, toMs, toMs0, strK, pubK, pubF, pubV, yaq, yar, yao, yap, go_sem, reduceCtorEq, Nat.reduceEqDiff, Nat.reduceAdd, Nat.reduceMul, Nat.reduceSub, Nat.reduceLeDiff, Nat.reduceLT, Int.reduceMul, Int.reduceAdd, Int.reduceSub, Int.reduceToNat, Bool.not_true, Bool.not_false, schC, entryC, Int.toNat_natCast, ybb, hkg, keyAV, hmg, matchAV, vc, matchC, yal, yak, e5, e32, hp8, hq8, hpg, hdl, Nat.zero_add, hp, iv, iy, p_rOnes, p_rAnd, p_rNot, p_rXor, p2V, vv, vOf_back, hps, hkb, hkc, Int.toNat_zero, vOf_zero, i0]
          (repeat with_reducible refine And.intro (by first | exact True.intro | decide | omega | (simp [zhx, zge, zgf, zgg, zgi, zgh, zgm]; first | done | omega)) ?_)
          refine ⟨k + 1, by omega, by omega, by simp only [zkg]; omega, ?_, by have := hclL (Q.take (k + 1) ++ p.drop (k + 1)); rw [hHL] at this; exact this, ?_, ?_⟩
          · repeat (first | exact AHeap.Le.refl _ | refine AHeap.Le.push ?_ _)
          · simp [ltF, zkg, zmp, zmh, lt_map lt_key]
            omega
          · simp [subW, wk2, wk1, wkM, Fr.get]
  · have hk' : k = t.keys.length := by simp at hc; omega
    subst hk'
    rw [hQt, hHL]
    simp only [go_sem, reduceCtorEq, Nat.reduceEqDiff, Nat.reduceAdd, Nat.reduceMul, Nat.reduceSub, Nat.reduceLeDiff, Nat.reduceLT, Int.reduceMul, Int.reduceAdd, Int.reduceSub, Int.reduceToNat, schC, entryC, hp8, hpl Q hQ4, hpt8, ht8 Q hQ4]
    (repeat with_reducible refine And.intro (by first | exact True.intro | decide | omega | (simp [zhx, zge, zgf, zgg, zgi, zgh, zgm]; first | done | omega)) ?_)
    refine ⟨S, e, p, ⟨rfl, rfl, rfl, by omega, by have := hG.fl; omega, fun t ht => by have := hG.kl t ht; omega, heo, ⟨hp4, hpv2⟩⟩, ?_⟩
    simp only [blkE, blkP, bhq, Nat.reduceMod, Nat.reduceDiv, stepH, stepM, toMs1, toMs, toMs0, strK, pubK, pubF, pubV, yaq, yar, yao, yap, go_sem, reduceCtorEq, Nat.reduceEqDiff, Nat.reduceAdd, Nat.reduceMul, Nat.reduceSub, Nat.reduceLeDiff, Nat.reduceLT, Int.reduceMul, Int.reduceAdd, Int.reduceSub, Int.reduceToNat, schC, entryC, hp8, hpl Q hQ4, hpt8, ht8 Q hQ4]
    have hm : matchesE S e Q = matchesE S e p := by
      unfold matchesE
      rw [hE.tb, hT.uq t htm, ← hQ]
      dsimp only
      rw [matchesG_cube hp4 (hT.b2 t htm)]
    refine ⟨S, e, Q, ⟨rfl, rfl, rfl, by omega, by have := hG.fl; omega, fun t ht => by have := hG.kl t ht; omega, heo, ⟨hQ4, hQv⟩⟩, ?_⟩
    simp only [blkE, blkP, bhq, Nat.reduceMod, Nat.reduceDiv, stepH, stepM, toMs1, toMs, toMs0, strK, pubK, pubF, pubV, yaq, yar, yao, yap, go_sem, reduceCtorEq, Nat.reduceEqDiff, Nat.reduceAdd, Nat.reduceMul, Nat.reduceSub, Nat.reduceLeDiff, Nat.reduceLT, Int.reduceMul, Int.reduceAdd, Int.reduceSub, Int.reduceToNat, hm]
    rw [show ((matchesE S e p == matchesE S e p) != false) = true by rw [beq_self_eq_true]; rfl]
    simp only [both, p_begun10, blkE, blkP, bhq, Nat.reduceMod, Nat.reduceDiv, stepH, stepM, toMs1, toMs, toMs0, strK, pubK, pubF, pubV, yaq, yar, yao, yap, go_sem, reduceCtorEq, Nat.reduceEqDiff, Nat.reduceAdd, Nat.reduceMul, Nat.reduceSub, Nat.reduceLeDiff, Nat.reduceLT, Int.reduceMul, Int.reduceAdd, Int.reduceSub, Int.reduceToNat, beq_self_eq_true]
    simp (disch := first | assumption | omega | (simp; done) | (simp; omega) | (simp only [bt, and_true]; first | done | omega | (simp; done))) [↓zlq, beq, ybc, ybd, ybe, endOk, wk, wk2, wk1, wkM, wkL, wkLL, ybf, hcl]
    first | done | repeat (first | exact AHeap.Le.refl _ | refine AHeap.Le.push ?_ _)
end Go.AL

