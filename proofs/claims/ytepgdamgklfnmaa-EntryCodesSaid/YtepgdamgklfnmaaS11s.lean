/- Contracts and plain laws, a part of the proof; no condition of its own. -/
import Derived.Test.YtepgdamgklfnmaaS11p
import Derived.Test.YtepgdamgklfnmaaCM
import Derived.Test.YtepgdamgklfnmaaCK
open List renaming length_cons → yaz, length_nil → yba, drop_succ_cons → yao, drop_zero → yap, take_succ_cons → yaq, take_zero → yar, append_nil → yaj, take_of_length_le → ybc, drop_append → ybd, take_append → ybe, drop_eq_nil_of_le → ybf
open Go Go.AL Go.Proofs
namespace Go.AL
set_option linter.all false
set_option maxRecDepth 10000

/-- what an entry must be for its encoding to be read back -/
structure WMOk (m : SMatch) : Prop where
  ok : MOk m
  p0 : 0 ≤ m.pfx
  p1 : m.pfx ≤ 255
  no : m.present = false → m = noMatch
structure WOk (e : SEntry) : Prop where
  t0 : 0 ≤ e.table
  t1 : e.table ≤ 65535
  p0 : 0 ≤ e.prio
  p1 : e.prio ≤ 65535
  a0 : 0 ≤ e.act
  a1 : e.act ≤ 65535
  ml : e.ms.length ≤ 4
  al : e.args.length ≤ 4
  mo : ∀ m ∈ e.ms, WMOk m
  ar : ∀ x ∈ e.args, x < 2 ^ 128
theorem WOk.cok {e : SEntry} (h : WOk e) : COk e := ⟨⟨by have := h.ml; omega, by have := h.al; omega, fun m hm => (h.mo m hm).ok⟩, h.ar⟩
theorem uint_back2 {n : Int} (h0 : 0 ≤ n) (h1 : n ≤ 65535) (r : List UInt8) : uintR (.any, wUint n 2 ++ r, 0) 2 = (n, .any, r, 0) := by
  obtain ⟨k, rfl⟩ : ∃ k : Nat, n = (k : Int) := ⟨n.toNat, by omega⟩
  have e : wUint (k : Int) 2 = be (k : Int) 2 := rfl
  rw [e]
  exact uintR_back k 2 r (by decide) (by decide) (by omega)
theorem uint_back1 {n : Int} (h0 : 0 ≤ n) (h1 : n ≤ 255) (r : List UInt8) : uintR (.any, wUint n 1 ++ r, 0) 1 = (n, .any, r, 0) := by
  obtain ⟨k, rfl⟩ : ∃ k : Nat, n = (k : Int) := ⟨n.toNat, by omega⟩
  have e : wUint (k : Int) 1 = be (k : Int) 1 := rfl
  rw [e]
  exact uintR_back k 1 r (by decide) (by decide) (by omega)
theorem count_back {k m : Nat} (h : k ≤ m) (hm : m ≤ 65535) (r : List UInt8) : countR (.any, wUint (k : Int) 2 ++ r, 0) (m : Int) = ((k : Int), .any, r, 0) := by
  have hu := uint_back2 (n := (k : Int)) (by omega) (by omega) r
  unfold uintR at hu
  unfold countR
  have hl : (wUint (k : Int) 2).length = 2 := by
    have e : wUint (k : Int) 2 = be (k : Int) 2 := rfl
    rw [e, be_nat k 2 (by omega) (by decide)]; exact beN_len k 2
  have h2 : ¬ (wUint (k : Int) 2 ++ r).length < 2 := by rw [List.length_append, hl]; omega
  have h3 : ¬ ((wUint (k : Int) 2 ++ r).length : Int) < 2 := by omega
  dsimp only at hu ⊢
  rw [if_neg (by decide), if_neg (by decide), if_neg h3] at hu
  have e2 : (2 : Int).toNat = 2 := rfl
  rw [e2] at hu
  have hv : ((beVal (List.take 2 (wUint (k : Int) 2 ++ r)) : Nat) : Int) = (k : Int) := congrArg Prod.fst hu
  rw [if_neg (by decide), if_neg h2, hv, if_neg (by omega)]
  have := congrArg Prod.snd hu
  dsimp only at this
  rw [this]
theorem readM_back {m : SMatch} (h : WMOk m) (r : List UInt8) : readM (.any, wMatch m ++ r, 0) = (m, .any, r, 0) := by
  obtain ⟨pr, v, k, p, hi⟩ := m
  obtain ⟨⟨hv, hk, hh⟩, p0, p1, hno⟩ := h
  dsimp only at hv hk hh p0 p1 hno
  unfold readM wMatch
  dsimp only
  cases pr
  · have hb := boolR_back false r
    simp only [Bool.false_eq_true, if_false] at hb ⊢
    rw [hb]
    simp only [Bool.false_eq_true, if_false]
    rw [hno rfl]
  · have hb := boolR_back true (wValue v ++ wValue k ++ wUint p 1 ++ wValue hi ++ r)
    simp only [if_true] at hb ⊢
    have e1 : (1 : UInt8) :: (wValue v ++ wValue k ++ wUint p 1 ++ wValue hi) ++ r = [1] ++ (wValue v ++ wValue k ++ wUint p 1 ++ wValue hi ++ r) := by simp
    rw [e1, hb]
    simp only [if_true]
    rw [show wValue v ++ wValue k ++ wUint p 1 ++ wValue hi ++ r = wValue v ++ (wValue k ++ (wUint p 1 ++ (wValue hi ++ r))) by simp [List.append_assoc]]
    rw [valueR_back v _ hv]
    dsimp only
    rw [valueR_back k _ hk]
    dsimp only
    rw [uint_back1 p0 p1]
    dsimp only
    rw [valueR_back hi _ hh]
theorem readMs_back : ∀ (ms : List SMatch), (∀ m ∈ ms, WMOk m) → ∀ r, readMs ms.length (.any, ms.flatMap wMatch ++ r, 0) = (ms, .any, r, 0)
  | [], _, r => rfl
  | m :: ms, h, r => by
    rw [List.flatMap_cons, List.append_assoc, yaz]
    unfold readMs
    rw [readM_back (h m List.mem_cons_self), readMs_back ms (fun x hx => h x (List.mem_cons_of_mem _ hx)) r]
theorem readVs_back : ∀ (vs : List Nat), (∀ x ∈ vs, x < 2 ^ 128) → ∀ r, readVs vs.length (.any, vs.flatMap wValue ++ r, 0) = (vs, .any, r, 0)
  | [], _, r => rfl
  | m :: ms, h, r => by
    rw [List.flatMap_cons, List.append_assoc, yaz]
    unfold readVs
    rw [valueR_back m _ (h m List.mem_cons_self), readVs_back ms (fun x hx => h x (List.mem_cons_of_mem _ hx)) r]
theorem readE_back {e : SEntry} (h : WOk e) (r : List UInt8) : readE (.any, wEntry e ++ r, 0) = (e, .any, r, 0) := by
  have h0 : readE0 (.any, wEntry e ++ r, 0) = (e, .any, r, 0) := by
    unfold readE0 wEntry
    simp only [List.append_assoc]
    rw [uint_back2 h.t0 h.t1]
    dsimp only
    rw [show (4 : Int) = ((4 : Nat) : Int) from rfl, count_back h.ml (by decide)]
    dsimp only
    rw [Int.toNat_natCast, readMs_back e.ms h.mo]
    dsimp only
    rw [uint_back2 h.p0 h.p1]
    dsimp only
    rw [uint_back2 h.a0 h.a1]
    dsimp only
    rw [count_back h.al (by decide)]
    dsimp only
    rw [Int.toNat_natCast, readVs_back e.args h.ar]
  unfold readE
  rw [h0, if_pos rfl]
/-- the mark makes no difference -/
theorem readM_v (m : Mark) (l : List UInt8) (e : Int) : (readM (m, l, e)).1 = (readM (.any, l, e)).1 ∧ (readM (m, l, e)).2.2 = (readM (.any, l, e)).2.2 := by
  unfold readM
  have b1 := boolR_v m l e
  have b2 := boolR_s m l e
  generalize boolR (m, l, e) = q1 at *
  generalize boolR (.any, l, e) = p1 at *
  obtain ⟨b, m1, l1, e1⟩ := q1
  obtain ⟨b', n1, l1', e1'⟩ := p1
  dsimp only at b1 b2 ⊢
  subst b1
  obtain ⟨rfl, rfl⟩ := Prod.mk.inj b2
  cases b
  · exact ⟨rfl, rfl⟩
  · simp only [if_true]
    have c1 := (valueR_v m1 l1 e1).trans (valueR_v n1 l1 e1).symm
    have c2 := (valueR_s m1 l1 e1).trans (valueR_s n1 l1 e1).symm
    generalize valueR (m1, l1, e1) = q2 at *
    generalize valueR (n1, l1, e1) = p2 at *
    obtain ⟨v, m2, l2, e2⟩ := q2
    obtain ⟨v', n2, l2', e2'⟩ := p2
    dsimp only at c1 c2 ⊢
    subst c1
    obtain ⟨rfl, rfl⟩ := Prod.mk.inj c2
    have d1 := (valueR_v m2 l2 e2).trans (valueR_v n2 l2 e2).symm
    have d2 := (valueR_s m2 l2 e2).trans (valueR_s n2 l2 e2).symm
    generalize valueR (m2, l2, e2) = q3 at *
    generalize valueR (n2, l2, e2) = p3 at *
    obtain ⟨k, m3, l3, e3⟩ := q3
    obtain ⟨k', n3, l3', e3'⟩ := p3
    dsimp only at d1 d2 ⊢
    subst d1
    obtain ⟨rfl, rfl⟩ := Prod.mk.inj d2
    have f1 := (uintR_v m3 l3 e3 1).trans (uintR_v n3 l3 e3 1).symm
    have f2 := (uintR_s m3 l3 e3 1).trans (uintR_s n3 l3 e3 1).symm
    generalize uintR (m3, l3, e3) 1 = q4 at *
    generalize uintR (n3, l3, e3) 1 = p4 at *
    obtain ⟨p, m4, l4, e4⟩ := q4
    obtain ⟨p', n4, l4', e4'⟩ := p4
    dsimp only at f1 f2 ⊢
    subst f1
    obtain ⟨rfl, rfl⟩ := Prod.mk.inj f2
    have g1 := (valueR_v m4 l4 e4).trans (valueR_v n4 l4 e4).symm
    have g2 := (valueR_s m4 l4 e4).trans (valueR_s n4 l4 e4).symm
    rw [g1]
    exact ⟨rfl, g2⟩
theorem readMs_v : ∀ (k : Nat) (m n : Mark) (l : List UInt8) (e : Int), (readMs k (m, l, e)).1 = (readMs k (n, l, e)).1 ∧ (readMs k (m, l, e)).2.2 = (readMs k (n, l, e)).2.2
  | 0, _, _, _, _ => ⟨rfl, rfl⟩
  | k + 1, m, n, l, e => by
    unfold readMs
    have c1 := (readM_v m l e).1.trans (readM_v n l e).1.symm
    have c2 := (readM_v m l e).2.trans (readM_v n l e).2.symm
    generalize readM (m, l, e) = q2 at *
    generalize readM (n, l, e) = p2 at *
    obtain ⟨v, m2, l2, e2⟩ := q2
    obtain ⟨v', n2, l2', e2'⟩ := p2
    dsimp only at c1 c2 ⊢
    subst c1
    obtain ⟨rfl, rfl⟩ := Prod.mk.inj c2
    obtain ⟨i1, i2⟩ := readMs_v k m2 n2 l2 e2
    exact ⟨by rw [i1], i2⟩
theorem readVs_v : ∀ (k : Nat) (m n : Mark) (l : List UInt8) (e : Int), (readVs k (m, l, e)).1 = (readVs k (n, l, e)).1 ∧ (readVs k (m, l, e)).2.2 = (readVs k (n, l, e)).2.2
  | 0, _, _, _, _ => ⟨rfl, rfl⟩
  | k + 1, m, n, l, e => by
    unfold readVs
    have c1 := (valueR_v m l e).trans (valueR_v n l e).symm
    have c2 := (valueR_s m l e).trans (valueR_s n l e).symm
    generalize valueR (m, l, e) = q2 at *
    generalize valueR (n, l, e) = p2 at *
    obtain ⟨v, m2, l2, e2⟩ := q2
    obtain ⟨v', n2, l2', e2'⟩ := p2
    dsimp only at c1 c2 ⊢
    subst c1
    obtain ⟨rfl, rfl⟩ := Prod.mk.inj c2
    obtain ⟨i1, i2⟩ := readVs_v k m2 n2 l2 e2
    exact ⟨by rw [i1], i2⟩
end Go.AL


open Go Go.AL Go.Proofs
namespace Go.AL
set_option linter.all false
set_option maxRecDepth 10000

theorem readE0_v (m n : Mark) (l : List UInt8) (e : Int) : (readE0 (m, l, e)).1 = (readE0 (n, l, e)).1 ∧ (readE0 (m, l, e)).2.2 = (readE0 (n, l, e)).2.2 := by
  unfold readE0
  have c1 := (uintR_v m l e 2).trans (uintR_v n l e 2).symm
  have c2 := (uintR_s m l e 2).trans (uintR_s n l e 2).symm
  generalize uintR (m, l, e) 2 = q1 at *
  generalize uintR (n, l, e) 2 = p1 at *
  obtain ⟨t, m1, l1, e1⟩ := q1
  obtain ⟨t', n1, l1', e1'⟩ := p1
  dsimp only at c1 c2 ⊢
  subst c1
  obtain ⟨rfl, rfl⟩ := Prod.mk.inj c2
  have c1 := (countR_v m1 l1 e1 4).trans (countR_v n1 l1 e1 4).symm
  have c2 := (countR_s m1 l1 e1 4).trans (countR_s n1 l1 e1 4).symm
  generalize countR (m1, l1, e1) 4 = q2 at *
  generalize countR (n1, l1, e1) 4 = p2 at *
  obtain ⟨c, m2, l2, e2⟩ := q2
  obtain ⟨c', n2, l2', e2'⟩ := p2
  dsimp only at c1 c2 ⊢
  subst c1
  obtain ⟨rfl, rfl⟩ := Prod.mk.inj c2
  obtain ⟨c1, c2⟩ := readMs_v c.toNat m2 n2 l2 e2
  generalize readMs c.toNat (m2, l2, e2) = q3 at *
  generalize readMs c.toNat (n2, l2, e2) = p3 at *
  obtain ⟨ms, m3, l3, e3⟩ := q3
  obtain ⟨ms', n3, l3', e3'⟩ := p3
  dsimp only at c1 c2 ⊢
  subst c1
  obtain ⟨rfl, rfl⟩ := Prod.mk.inj c2
  have c1 := (uintR_v m3 l3 e3 2).trans (uintR_v n3 l3 e3 2).symm
  have c2 := (uintR_s m3 l3 e3 2).trans (uintR_s n3 l3 e3 2).symm
  generalize uintR (m3, l3, e3) 2 = q4 at *
  generalize uintR (n3, l3, e3) 2 = p4 at *
  obtain ⟨p, m4, l4, e4⟩ := q4
  obtain ⟨p', n4, l4', e4'⟩ := p4
  dsimp only at c1 c2 ⊢
  subst c1
  obtain ⟨rfl, rfl⟩ := Prod.mk.inj c2
  have c1 := (uintR_v m4 l4 e4 2).trans (uintR_v n4 l4 e4 2).symm
  have c2 := (uintR_s m4 l4 e4 2).trans (uintR_s n4 l4 e4 2).symm
  generalize uintR (m4, l4, e4) 2 = q5 at *
  generalize uintR (n4, l4, e4) 2 = p5 at *
  obtain ⟨a, m5, l5, e5⟩ := q5
  obtain ⟨a', n5, l5', e5'⟩ := p5
  dsimp only at c1 c2 ⊢
  subst c1
  obtain ⟨rfl, rfl⟩ := Prod.mk.inj c2
  have c1 := (countR_v m5 l5 e5 4).trans (countR_v n5 l5 e5 4).symm
  have c2 := (countR_s m5 l5 e5 4).trans (countR_s n5 l5 e5 4).symm
  generalize countR (m5, l5, e5) 4 = q6 at *
  generalize countR (n5, l5, e5) 4 = p6 at *
  obtain ⟨d, m6, l6, e6⟩ := q6
  obtain ⟨d', n6, l6', e6'⟩ := p6
  dsimp only at c1 c2 ⊢
  subst c1
  obtain ⟨rfl, rfl⟩ := Prod.mk.inj c2
  obtain ⟨c1, c2⟩ := readVs_v d.toNat m6 n6 l6 e6
  rw [c1]
  exact ⟨rfl, c2⟩
theorem readE_v (m n : Mark) (l : List UInt8) (e : Int) : (readE (m, l, e)).1 = (readE (n, l, e)).1 ∧ (readE (m, l, e)).2.2 = (readE (n, l, e)).2.2 := by
  obtain ⟨c1, c2⟩ := readE0_v m n l e
  unfold readE
  rw [c2]
  split
  · exact ⟨c1, c2⟩
  · exact ⟨rfl, c2⟩
theorem valueR_lt' (s : RS) : (valueR s).1 < 2 ^ 128 := valueR_lt s.1 s.2.1 s.2.2
theorem readM_ok (s : RS) : MOk (readM s).1 := by
  unfold readM
  split
  · exact ⟨valueR_lt' _, valueR_lt' _, valueR_lt' _⟩
  · exact ⟨Nat.two_pow_pos 128, Nat.two_pow_pos 128, Nat.two_pow_pos 128⟩
theorem readMs_ok : ∀ (k : Nat) (s : RS), ∀ m ∈ (readMs k s).1, MOk m
  | 0, s => by simp [readMs]
  | k + 1, s => fun m hm => by
    unfold readMs at hm
    rcases List.mem_cons.1 hm with rfl | hm
    · exact readM_ok s
    · exact readMs_ok k _ m hm
theorem readVs_ok : ∀ (k : Nat) (s : RS), ∀ m ∈ (readVs k s).1, m < 2 ^ 128
  | 0, s => by simp [readVs]
  | k + 1, s => fun m hm => by
    unfold readVs at hm
    rcases List.mem_cons.1 hm with rfl | hm
    · exact valueR_lt' s
    · exact readVs_ok k _ m hm
theorem readE_ok (s : RS) : COk (readE s).1 := by
  unfold readE
  split
  · unfold readE0
    dsimp only
    have h1 := countR_b (uintR s 2).2 4 (by decide)
    refine ⟨⟨?_, ?_, readMs_ok _ _⟩, readVs_ok _ _⟩
    · dsimp only; rw [readMs_n]; omega
    · dsimp only
      rw [readVs_n]
      have h2 := countR_b (uintR (uintR (readMs (countR (uintR s 2).2 4).1.toNat (countR (uintR s 2).2 4).2).2 2).2 2).2 4 (by decide)
      omega
  · exact ⟨⟨by simp, by simp, by simp⟩, by simp⟩
/-- the entries that the generator gives can be read back -/
theorem gMatch_no {b : List UInt8} {v : Nat} {w kind : Int} : (gMatch b v w kind).1.present = false → (gMatch b v w kind).1 = noMatch := by
  unfold gMatch
  dsimp only
  repeat' split
  all_goals first | (intro _; rfl) | (intro h; cases h)
theorem gMatches_no {S : Sch} {b : List UInt8} : ∀ (ks : List SKey) (v : Nat) (p : Int), ∀ m ∈ (gMatches S b ks v p).1.1, m.present = false → m = noMatch
  | [], v, p => by simp [gMatches]
  | k :: ks, v, p => fun m hm => by
    unfold gMatches at hm
    dsimp only at hm
    rcases List.mem_cons.1 hm with rfl | hm
    · exact gMatch_no
    · exact gMatches_no ks _ _ m hm
/-- what is written of the generated schema -/
structure SSm (S : Sch) : Prop where
  ti : ∀ t ∈ S.tables, 0 ≤ t.id ∧ t.id ≤ 65535
  ac : ∀ t ∈ S.tables, ∀ a ∈ t.actions, 0 ≤ a ∧ a ≤ 65535
  pl : ∀ a : Int, (actionL S.actions a).params.length ≤ 2
  k3 : ∀ t ∈ S.tables, t.keys.length ≤ 3
theorem ssm_ok (b : List UInt8) (v : Nat) : SSm (gSchema b v).1 where
  ti := fun t ht => by
    simp only [gSchema, gTables, List.mem_cons, List.not_mem_nil, or_false] at ht
    rcases ht with rfl | rfl | rfl | rfl <;> (simp only [gTable0, gTable1, gTable2, gTable3]; omega)
  ac := fun t ht a ha => by
    simp only [gSchema, gTables, List.mem_cons, List.not_mem_nil, or_false] at ht
    rcases ht with rfl | rfl | rfl | rfl <;> simp only [gTable0, gTable1, gTable2, gTable3, List.mem_cons, List.not_mem_nil, or_false] at ha <;> omega
  pl := fun a => by
    simp only [gSchema, gActions, actionL]
    repeat' split
    all_goals (simp only [yaz, yba]; omega)
  k3 := (tabS_ok b v).k4
theorem gEntry_wok {S : Sch} (hG : GenS S) (hS : SSm S) {b : List UInt8} {v : Nat} {n : Int} : WOk (gEntry S b v n).1 := by
  have hE := gEntry_ok hG (b := b) (v := v) (n := n)
  have ht := tableAt_mem (S := S) (n := n) hG.t1
  have h1 := hS.ti _ ht
  have h2 := hS.ac _ ht _ hE.am
  have h3 := hS.pl (gEntry S b v n).1.act
  have h4 := hS.k3 _ ht
  refine ⟨by rw [hE.tb]; exact h1.1, by rw [hE.tb]; exact h1.2, hE.p0, by have := hE.p1; omega, h2.1, h2.2, by have := hE.ml; omega, by have := hE.al; omega, fun m hm => ?_, fun x hx => Nat.lt_of_lt_of_le (hE.ao x hx) (by decide)⟩
  have g := hE.mo m hm
  exact ⟨⟨Nat.lt_of_lt_of_le g.v (by decide), Nat.lt_of_lt_of_le g.k (by decide), Nat.lt_of_lt_of_le g.h (by decide)⟩, g.p0, by have := g.p1; omega, gMatches_no _ _ _ m hm⟩
theorem wEntry_len2 (e : SEntry) : 8 ≤ (wEntry e).length := by
  have h : ∀ n, (wUint n 2).length = 2 := fun n => by
    have e : wUint n 2 = be n 2 := rfl
    rw [e]; simp [be, beHead]
  unfold wEntry
  simp only [List.length_append, h]
  omega
theorem wEntry_lenW {e : SEntry} (h : WOk e) : (wEntry e).length ≤ 400 := by
  have h1 : ∀ n, (wUint n 2).length ≤ 4 := fun n => wUint_len n 2
  have h2 : ∀ l : List SMatch, (∀ m ∈ l, MOk m) → (l.flatMap wMatch).length ≤ 60 * l.length := fun l => by
    induction l with
    | nil => intro _; simp
    | cons m l ih =>
      intro h
      rw [List.flatMap_cons, List.length_append, yaz]
      have := wMatch_len (h m List.mem_cons_self)
      have := ih fun x hx => h x (List.mem_cons_of_mem _ hx)
      omega
  have h3 : ∀ l : List Nat, (∀ m ∈ l, m < 2 ^ 128) → (l.flatMap wValue).length ≤ 17 * l.length := fun l => by
    induction l with
    | nil => intro _; simp
    | cons m l ih =>
      intro h
      rw [List.flatMap_cons, List.length_append, yaz]
      have := wValue_len (h m List.mem_cons_self)
      have := ih fun x hx => h x (List.mem_cons_of_mem _ hx)
      omega
  have a1 := h1 e.table
  have a2 := h1 e.ms.length
  have a3 := h1 e.prio
  have a4 := h1 e.act
  have a5 := h1 e.args.length
  have a6 := h2 e.ms fun m hm => (h.mo m hm).ok
  have a7 := h3 e.args h.ar
  have a8 := h.ml
  have a9 := h.al
  unfold wEntry
  simp only [List.length_append]
  omega
end Go.AL


open Go Go.AL Go.Proofs
namespace Go.AL
set_option linter.all false
set_option maxRecDepth 10000
theorem ti_zsbytes : ti Try.prog 54 = some ⟨.slice 22, 1, 24, .slice .nil 1 []⟩ := by kernel_rfl
attribute [go_sem] ti_zsbytes
theorem rows_junkE {l : List UInt8} {n k : Nat} (h : n = l.length) : rowsOf 1 n (bys l ++ List.replicate k AV.junk) = bys l := by
  subst h
  induction l with
  | nil => rfl
  | cons a l ih =>
    show rowsOf 1 (l.length + 1) (ofByte a :: (bys l ++ List.replicate k AV.junk)) = ofByte a :: bys l
    simp only [rowsOf, if_true, yao, yap, ih]
    rfl
theorem ltL_junkedE {n k : Nat} {l : List UInt8} : ltL n (bys l ++ List.replicate k AV.junk) := ltL_iff.2 fun j hj => by
  rw [List.getElem_append]
  split
  · exact ltL_iff.1 (of_eq_true zlv) j _
  · rw [List.getElem_replicate, AV.lt] <;> simp
def p_EntryCodes : List AV → AHeap → (AV → Prop) → Prop
  | [.slice _ 1 l1, .slice _ 1 l2, .slice _ 1 l3, .int .i64 n, .int .i64 at', .int .u8 by'], _, K => (isB l1 ∧ isB l2 ∧ isB l3 ∧ -9223372036854775808 ≤ n ∧ n < 9223372036854775808 ∧ -9223372036854775808 ≤ at' ∧ at' < 9223372036854775808 ∧ 0 ≤ by' ∧ by' ≤ 255) ∧ K (.bool true)
  | _, _, _ => False
set_option maxHeartbeats 8000000 in
theorem ok_EntryCodes : EntOk Try.prog 4 (Ent.pure p_EntryCodes) := by
  refine EntOk.pure fun args H K h => ?_
  unfold p_EntryCodes at h
  split at h
  rotate_left
  · exact h.elim
  rename_i m1 l1 m2 l2 m3 l3 n at' by'
  obtain ⟨⟨c1, c2, c3, hn1, hn2, ha1, ha2, hb1, hb2⟩, hK⟩ := h
  refine ⟨_, hK, ?_⟩
  clear hK
  obtain ⟨x1, rfl⟩ := isB_out c1
  obtain ⟨x2, rfl⟩ := isB_out c2
  obtain ⟨x3, rfl⟩ := isB_out c3
  clear c1 c2 c3
  obtain ⟨B1, hB1⟩ : ∃ B1, x1.take (min (x1.length : Int) 120).toNat = B1 := ⟨_, rfl⟩
  obtain ⟨B2, hB2⟩ : ∃ B2, x2.take (min (x2.length : Int) 30).toNat = B2 := ⟨_, rfl⟩
  obtain ⟨B3, hB3⟩ : ∃ B3, x3.take (min (x3.length : Int) 80).toNat = B3 := ⟨_, rfl⟩
  have hL1 : B1.length ≤ 1000000 := by rw [← hB1, List.length_take]; omega
  have hL2 : B2.length ≤ 1000000 := by rw [← hB2, List.length_take]; omega
  have hL3 : B3.length ≤ 80 := by rw [← hB3, List.length_take]; omega
  have hG := genS_ok B1 0
  have hSS := ssm_ok B1 0
  generalize hS : gSchema B1 0 = SS at *
  obtain ⟨S, w1⟩ := SS
  dsimp only at hG hSS
  have hz1 : zod B1 0 = codV B1 (cp 0 0) := zod_codV
  have hz2 : zod B2 0 = codV B2 (cp 0 0) := zod_codV
  have hE := gEntry_wok hG hSS (b := B2) (v := 0) (n := n)
  have hst : (gsEntry S n B2 0) = (entryAV (gEntry S B2 0 n).1, (gEntry S B2 0 n).2) := rfl
  generalize he : gEntry S B2 0 n = ee at *
  obtain ⟨e, w2⟩ := ee
  dsimp only at hE hst
  have hml := hE.ml
  have hal := hE.al
  have hw8 := wEntry_len2 e
  have hw4 := wEntry_lenW hE
  refine ACalls.of_aw (Ω := [(5, Ent.effect e_ZNew), (6, Ent.effect e_CSchema), (7, Ent.effect e_CEntry), (17, Ent.pure p_eAppend), (18, Ent.effect e_rAppend10), (19, Ent.pure p_ZMod), (20, Ent.effect e_New), (21, Ent.effect e_eRead), (22, Ent.effect e_rRead10), (23, Ent.pure p_rSame10), (24, Ent.pure p_RErr), (25, Ent.pure p_RLeft), (26, Ent.pure p_RFinish), (16, Ent.pure p_begun10)]) (T := assoc [(5, [[], [], [], [], [2, 3], [3, 4]]), (10, [[], [], [], [], [], [], [], [], [7], [], [], [7], [7, 8]]), (16, [[], [], [0, 1], [], [], [], [0, 1, 2], [], [], [], [2], [], [], [], [], [0, 1, 2, 6, 10], [], [], [], [2, 6]]), (8, [[0,3]]), (9, [[30]])]) mixed (TblOk.cons ok_ZNew (TblOk.cons ok_CSchema (TblOk.cons ok_CEntry (TblOk.cons ok_eAppend (TblOk.cons ok_rAppend10 (TblOk.cons ok_ZMod (TblOk.cons ok_New (TblOk.cons ok_eRead (TblOk.cons ok_rRead10 (TblOk.cons ok_rSame10 (TblOk.cons ok_RErr (TblOk.cons ok_RLeft (TblOk.cons ok_RFinish (TblOk.cons ok_begun10 TblOk.nil)))))))))))))) Try.func4 (by kernel_rfl) (by rfl) (rs := [.tmp 12]) (by rfl) (by kernel_rfl) (by simp only [Try.ntmps4, yaz, yba]; decide) (Nat.le_refl _) fun hcl hlt => ?_
  change aw _ _ _ (KI Try.prog [(5, Ent.effect e_ZNew), (6, Ent.effect e_CSchema), (7, Ent.effect e_CEntry), (17, Ent.pure p_eAppend), (18, Ent.effect e_rAppend10), (19, Ent.pure p_ZMod), (20, Ent.effect e_New), (21, Ent.effect e_eRead), (22, Ent.effect e_rRead10), (23, Ent.pure p_rSame10), (24, Ent.pure p_RErr), (25, Ent.pure p_RLeft), (26, Ent.pure p_RFinish), (16, Ent.pure p_begun10)] (aEnd Try.prog [.tmp 12] H.nx _ _ (assoc [(5, [[], [], [], [], [2, 3], [3, 4]]), (10, [[], [], [], [], [], [], [], [], [7], [], [], [7], [7, 8]]), (16, [[], [], [0, 1], [], [], [], [0, 1, 2], [], [], [], [2], [], [], [], [], [0, 1, 2, 6, 10], [], [], [], [2, 6]]), (8, [[0,3]]), (9, [[30]])])) []) _ _
  clear hlt
  have b9 : [AV.int .u8 9] = bys [9] := rfl
  simp only [go_sem, reduceCtorEq, Nat.reduceEqDiff, Nat.reduceAdd, Nat.reduceMul, Nat.reduceSub, Nat.reduceLeDiff, Nat.reduceLT, Int.reduceMul, Int.reduceAdd, Int.reduceSub, Int.reduceToNat, byq, e_ZNew, hB3, yap]
  refine ⟨by omega, x1, ⟨rfl, by omega⟩, ?_⟩
  rw [hB1, hz1]
  have hSch : e_CSchema = eG fun b v => (schAV (gSchema b v).1, (gSchema b v).2) := rfl
  simp only [blkE, blkP, bhq, Nat.reduceMod, Nat.reduceDiv, stepH, stepM, toMs1, toMs, toMs0, strK, pubK, pubF, pubV, yaq, yar, yao, yap, go_sem, reduceCtorEq, Nat.reduceEqDiff, Nat.reduceAdd, Nat.reduceMul, Nat.reduceSub, Nat.reduceLeDiff, Nat.reduceLT, Int.reduceMul, Int.reduceAdd, Int.reduceSub, Int.reduceToNat, byq, e_ZNew, hSch, eG, onC_cod hL1, Nat.zero_min, cp0, hS, schAV, schC]
  refine ⟨x2, ⟨rfl, by omega⟩, ?_⟩
  rw [hB2, hz2]
  simp only [blkE, blkP, bhq, Nat.reduceMod, Nat.reduceDiv, stepH, stepM, toMs1, toMs, toMs0, strK, pubK, pubF, pubV, yaq, yar, yao, yap, go_sem, reduceCtorEq, Nat.reduceEqDiff, Nat.reduceAdd, Nat.reduceMul, Nat.reduceSub, Nat.reduceLeDiff, Nat.reduceLT, Int.reduceMul, Int.reduceAdd, Int.reduceSub, Int.reduceToNat, byq, e_ZNew, hSch, eG, onC_cod hL1, Nat.zero_min, cp0, hS, schAV, schC]
  refine ⟨S, ⟨rfl, hG, hn1, hn2⟩, ?_⟩
  simp only [blkE, blkP, bhq, Nat.reduceMod, Nat.reduceDiv, stepH, stepM, toMs1, toMs, toMs0, strK, pubK, pubF, pubV, yaq, yar, yao, yap, go_sem, reduceCtorEq, Nat.reduceEqDiff, Nat.reduceAdd, Nat.reduceMul, Nat.reduceSub, Nat.reduceLeDiff, Nat.reduceLT, Int.reduceMul, Int.reduceAdd, Int.reduceSub, Int.reduceToNat, byq, onS_cod hL2 (st_entry _ _), onC_cod hL2, hst, entryAV, entryC, eG_onS, cp0, p_eAppend]
  refine ⟨e, [9], ⟨rfl, rfl, by decide, by omega, by omega, hE.cok⟩, ?_⟩
  simp only [blkE, blkP, bhq, Nat.reduceMod, Nat.reduceDiv, stepH, stepM, toMs1, toMs, toMs0, strK, pubK, pubF, pubV, yaq, yar, yao, yap, go_sem, reduceCtorEq, Nat.reduceEqDiff, Nat.reduceAdd, Nat.reduceMul, Nat.reduceSub, Nat.reduceLeDiff, Nat.reduceLT, Int.reduceMul, Int.reduceAdd, Int.reduceSub, Int.reduceToNat, byq, entryC, cp0, e_rAppend10]
  refine ⟨e, [9], ⟨rfl, rfl, by decide, by omega, by omega, hE.cok, rfl⟩, ?_⟩
  have hrb := readE_back hE []
  rw [yaj] at hrb
  obtain ⟨W, hW⟩ : ∃ W, wEntry e = W := ⟨_, rfl⟩
  rw [hW] at hw8 hw4 hrb
  have hne : W ≠ [] := fun h => by rw [h] at hw8; simp at hw8
  have hwb : W.isEmpty = false := by cases W <;> simp_all
  have hwn : bys W ≠ [] := fun e => hne (by rwa [zlz] at e)
  have d1 : (!([9] ++ W == [9] ++ W)) = false := by simp
  have d2 : decide ((([9] ++ W : List UInt8).length : Int) < 2) = false := by
    refine decide_eq_false ?_
    simp only [List.length_append, yaz, yba]; omega
  rw [hW, List.singleton_append] at *
  refine both_split (fun h => by simp at h) (fun _ => ?_)
  simp only [yaz]
  refine cond_split (fun h => by have := of_decide_eq_true h; omega) (fun _ => ?_)
  obtain ⟨Hb, hHb⟩ : ∃ Hb, (((((H.push (codV B1 w1)).push (codV B2 w2)).push (AObj.cells [AV.slice Mark.any 3 (List.map fieldAV S.fields), AV.slice Mark.any 3 (List.map headerAV S.headers), AV.slice Mark.any 5 (List.map stateAV S.states), AV.slice Mark.any 5 (List.map actionAV S.actions), AV.slice Mark.any 8 (List.map tableAV S.tables), AV.slice Mark.any 2 (List.map stageAV S.stages), AV.slice Mark.any 6 (List.map roleAV S.roles), AV.slice Mark.any 6 (List.map refAV S.refs), AV.int IntKind.i64 S.maxBatch, AV.int IntKind.i64 S.budget])).push (AObj.cells [AV.int IntKind.i64 e.table, AV.slice Mark.any 8 (List.map matchAV e.ms), AV.int IntKind.i64 e.prio, AV.int IntKind.i64 e.act, AV.slice Mark.any 2 (List.map vv e.args)])).push (AObj.buf 1 1)).push (AObj.buf 1 (W.length + 1)) = Hb := ⟨_, rfl⟩
  rw [hHb]
  have hb1' : Hb.nx = H.nx + 1 + 1 + 1 + 1 + 1 + 1 := by rw [← hHb]; rfl
  have hb2' : cellsOf? Hb (H.nx + 1 + 1 + 1) = some (entryC e) := by rw [← hHb]; simp only [go_sem, entryC]
  have hb3' : Hb.Closed := by
    rw [← hHb]
    exact closed_buf (closed_buf (closed_cells (closed_cells (closed_cells (closed_cells hcl codV_lt) codV_lt) (ltL_iff.2 fun j hj => AV.lt_cells (lt_sch S) j hj)) (ltL_iff.2 fun j hj => AV.lt_cells (lt_entry e) j hj)))
  have hb4' : H.Le Hb := by rw [← hHb]; repeat (first | exact AHeap.Le.refl _ | refine AHeap.Le.push ?_ _)
  clear hHb
  have htk : W.take W.length = W := List.take_length
  simp only [blkE, blkP, bhq, Nat.reduceMod, Nat.reduceDiv, stepH, stepM, toMs1, toMs, toMs0, strK, pubK, pubF, pubV, yaq, yar, yao, yap, go_sem, reduceCtorEq, Nat.reduceEqDiff, Nat.reduceAdd, Nat.reduceMul, Nat.reduceSub, Nat.reduceLeDiff, Nat.reduceLT, Int.reduceMul, Int.reduceAdd, Int.reduceSub, Int.reduceToNat, byq, hwb, htk, hb1', hb2', yaj, yao, yap, yaz, yaq, p_ZMod]
  have hpos : 0 < W.length := by omega
  obtain ⟨ia, hia⟩ : ∃ ia : Nat, at' % (W.length : Int) = (ia : Int) := ⟨(at' % (W.length : Int)).toNat, by have := Int.emod_nonneg at' (show ((W.length : Nat) : Int) ≠ 0 by omega); omega⟩
  have hial : ia < W.length := by have := Int.emod_lt_of_pos at' (show (0 : Int) < ((W.length : Nat) : Int) by omega); omega
  simp only [hia, Int.toNat_natCast]
  refine ⟨by omega, ⟨by omega, by omega⟩, hwn, fun kk => ⟨by omega, by omega, by rw [List.length_append, zkq]; omega, ?_⟩⟩
  have hgd : (bys W ++ List.replicate kk AV.junk).getD ia .junk = ofByte W[ia] := by
    rw [List.getD_eq_getElem?_getD, List.getElem?_append_left (by rw [zkq]; exact hial), ← List.getD_eq_getElem?_getD, bys_get hial]
    simp [List.getD_eq_getElem?_getD, hial]
  obtain ⟨eb, heb⟩ : ∃ eb : UInt8, AV.int .u8 (ixor .u8 ((W[ia].toNat : Nat) : Int) by') = ofByte eb := by unfold ixor; exact ⟨_, wrap_u8⟩
  have hsp : splice (bys W ++ List.replicate kk AV.junk) ia (bys [eb]) = bys (W.set ia eb) ++ List.replicate kk AV.junk := by
    show splice _ ia [ofByte eb] = _
    rw [splice_one, List.set_append_left _ _ (by rw [zkq]; exact hial)]
    congr 1
    unfold bys; rw [List.map_set]
  have hrw : rowsOf 1 W.length (bys (W.set ia eb) ++ List.replicate kk AV.junk) = bys (W.set ia eb) := rows_junkE (by rw [List.length_set])
  have hbl : (W.set ia eb).length = W.length := List.length_set
  generalize W[ia] = cc at *
  generalize W.set ia eb = Bd at *
  have hgd' : (bys W ++ List.replicate kk AV.junk).getD ia .junk = .int .u8 ((cc.toNat : Nat) : Int) := hgd
  have hlc : (bys W ++ List.replicate kk AV.junk).length = W.length + kk := by rw [List.length_append, zkq, List.length_replicate]
  have hle1 : (1 = 1 ∧ W.length ≤ W.length) = True := eq_true ⟨rfl, Nat.le_refl _⟩
  have hb3l : B3.length ≤ 140737488355328 := by omega
  simp only [blkE, blkP, bhq, Nat.reduceMod, Nat.reduceDiv, stepH, stepM, toMs1, toMs, toMs0, strK, pubK, pubF, pubV, yaq, yar, yao, yap, go_sem, reduceCtorEq, Nat.reduceEqDiff, Nat.reduceAdd, Nat.reduceMul, Nat.reduceSub, Nat.reduceLeDiff, Nat.reduceLT, Int.reduceMul, Int.reduceAdd, Int.reduceSub, Int.reduceToNat, byq, hgd', heb, hsp, hlc, zlj, zlk, hb1']
  refine ⟨by omega, by omega, 1, W.length, ?_⟩
  simp only [blkE, blkP, bhq, Nat.reduceMod, Nat.reduceDiv, stepH, stepM, toMs1, toMs, toMs0, strK, pubK, pubF, pubV, yaq, yar, yao, yap, go_sem, reduceCtorEq, Nat.reduceEqDiff, Nat.reduceAdd, Nat.reduceMul, Nat.reduceSub, Nat.reduceLeDiff, Nat.reduceLT, Int.reduceMul, Int.reduceAdd, Int.reduceSub, Int.reduceToNat, byq, hle1, hrw, Nat.le_refl, eq_self, hbl, znq, zlj, zlk, hb1', hb2', p_ZMod, hia]
  refine ⟨by omega, by omega, by omega, ?_⟩
  generalize hR : [AV.slice Mark.any 1 (bys B3), AV.slice Mark.any 1 (bys W), AV.slice (Mark.own (H.nx + 1 + 1 + 1 + 1 + 1 + 1 + 1)) 1 (bys Bd), AV.slice Mark.any 1 (bys (List.take ia W)), AV.slice (Mark.own (H.nx + 1 + 1 + 1 + 1 + 1 + 1 + 1)) 1 (bys (Bd ++ B3))] = R
  have hR5 : R.length = 5 := by rw [← hR]; rfl
  have hRb : ∀ i, i < 5 → ∃ m s, R.getD i .junk = .slice m 1 (bys s) ∧ s.length ≤ 1300 := by
    intro i hi
    rw [← hR]
    rcases (by omega : i = 0 ∨ i = 1 ∨ i = 2 ∨ i = 3 ∨ i = 4) with rfl | rfl | rfl | rfl | rfl
    · exact ⟨_, B3, rfl, by omega⟩
    · exact ⟨_, W, rfl, by omega⟩
    · exact ⟨_, Bd, rfl, by omega⟩
    · exact ⟨_, W.take ia, rfl, by rw [List.length_take]; omega⟩
    · exact ⟨_, Bd ++ B3, rfl, by rw [List.length_append]; omega⟩
  obtain ⟨Hx, hHx⟩ : ∃ Hx, ((((Hb.push (AObj.cells (bys Bd ++ List.replicate kk AV.junk))).del (H.nx + 1 + 1 + 1 + 1 + 1 + 1)).push (AObj.buf 1 (W.length + B3.length))).push (AObj.buf 1 5)) = Hx := ⟨_, rfl⟩
  rw [hHx]
  have hx1 : Hx.nx = H.nx + 1 + 1 + 1 + 1 + 1 + 1 + 1 + 1 + 1 := by rw [← hHx]; simp only [zkk, heap_nx_del, hb1']
  have hx2 : Hx.Closed := by rw [← hHx]; exact closed_buf (closed_buf (closed_del (closed_cells hb3' ltL_junkedE)))
  have hx0 : H.Le Hx := by rw [← hHx]; exact (((hb4'.push _).del (by omega)).push _).push _
  have hx4 : cellsOf? Hx (H.nx + 1 + 1 + 1) = some (entryC e) := by
    rw [← hHx]
    simp only [go_sem, bhq, Nat.reduceMod, Nat.reduceDiv, stepH, stepM, toMs1, toMs, toMs0, strK, pubK, pubF, pubV, yaq, yar, yao, yap, hb1', hb2']
  have hx3 : (AV.slice .any 1 R).lt Hx.nx := by
    rw [← hR, hx1]; simp (disch := first | assumption | omega | (simp; done) | (simp; omega) | (simp only [bt, and_true]; first | done | omega | (simp; done))) [↓zlu, beq, ybc, ybd, ybe, endOk, wk, wk2, wk1, wkM, wkL, wkLL, ybf, lt_sliceL, zkk, heap_nx_del, zlt]; try omega
  have lE : ∀ n, AV.lt n (.agg (entryC e)) := fun n => lt_entry e
  refine loop_introW (A := Nat) (fun j => [(15, .ptr (H.nx + 1 + 1 + 1) 0), (17, .slice .any 1 (bys W)), (83, .slice .any 1 R), (84, .int .i64 ((5 : Nat) : Int)), (85, .int .i64 (j : Int))]) (fun _ => Hx) (fun j => j ≤ 5) (fun j => 5 - j) 0 (by omega) ?_ fun j hj => ?_
  · refine ⟨by simp only [zjw, zkb, hx1]; omega, AHeap.Le.refl _, hx2, ?_, ?_⟩
    · simp [ltF, hx1, zmt, zml, zly]
      rw [hx1] at hx3
      exact hx3
    · simp [subW, wk2, wk1, wkM, Fr.get]
  simp only [go_sem, reduceCtorEq, Nat.reduceEqDiff, Nat.reduceAdd, Nat.reduceMul, Nat.reduceSub, Nat.reduceLeDiff, Nat.reduceLT, Int.reduceMul, Int.reduceAdd, Int.reduceSub, Int.reduceToNat, byq]
  refine cond_split (fun hc2 => ?_) (fun hc2 => ?_)
  · have hj5 : j < 5 := by simp at hc2; omega
    obtain ⟨ms, s, hRj, hsl⟩ := hRb j hj5
    have ej : IntKind.i64.wrap ((j : Int) + 1) = ((j + 1 : Nat) : Int) := by rw [wrap_i64] <;> omega
    have hs1 : s.length ≤ 100000 := by omega
    obtain ⟨v1, v2⟩ := readE_v (.own (H.nx + 1 + 1 + 1 + 1 + 1 + 1 + 1 + 1 + 1 + 1)) .any s 0
    have hok := readE_ok (.any, s, 0)
    have hm1 := readE0_m (.any, s, 0)
    have hl1 := readE0_l (.any, s, 0)
    rw [← readE_2] at hm1 hl1
    generalize hq1 : readE (.any, s, 0) = q1 at *
    generalize hq2 : readE (.own (H.nx + 1 + 1 + 1 + 1 + 1 + 1 + 1 + 1 + 1 + 1), s, 0) = q2 at *
    obtain ⟨a1, mq, lq, eq⟩ := q1
    obtain ⟨a2, mq2, lq2, eq2⟩ := q2
    dsimp only at v1 v2 hok hm1 hl1
    subst v1
    obtain ⟨rfl, rfl⟩ := Prod.mk.inj v2
    have hlq : lq2.length ≤ 100000 := by omega
    have hce : (cmpE a2 a2 == 0) = true := by rw [cmpE_eq.2 rfl]; rfl
    simp only [blkE, blkP, bhq, Nat.reduceMod, Nat.reduceDiv, stepH, stepM, toMs1, toMs, toMs0, strK, pubK, pubF, pubV, yaq, yar, yao, yap, go_sem, reduceCtorEq, Nat.reduceEqDiff, Nat.reduceAdd, Nat.reduceMul, Nat.reduceSub, Nat.reduceLeDiff, Nat.reduceLT, Int.reduceMul, Int.reduceAdd, Int.reduceSub, Int.reduceToNat, byq, Int.toNat_natCast, hR5, hRj, e_New, hx1, onR, onRo_some, onRo_nil, e_eRead, e_rRead10, hs1, hq1, hq2, cellR, hlq, p_RErr, p_RLeft, entryAV, entryC, p_rSame10]
    refine ⟨by omega, by omega, by omega, a2, a2, ⟨rfl, rfl, hok, hok⟩, ?_⟩
    simp only [blkE, blkP, bhq, Nat.reduceMod, Nat.reduceDiv, stepH, stepM, toMs1, toMs, toMs0, strK, pubK, pubF, pubV, yaq, yar, yao, yap, go_sem, reduceCtorEq, Nat.reduceEqDiff, Nat.reduceAdd, Nat.reduceMul, Nat.reduceSub, Nat.reduceLeDiff, Nat.reduceLT, Int.reduceMul, Int.reduceAdd, Int.reduceSub, Int.reduceToNat, zat, zau, byq, Int.toNat_natCast, hx1, onR, onRo_some, onRo_nil, hlq, p_RErr, p_RLeft, hce, bne_self_eq_false, ej, Bool.not_true]
    refine ⟨j + 1, by omega, by omega, by simp only [zkk, hx1]; omega, by repeat (first | exact AHeap.Le.refl _ | refine AHeap.Le.push ?_ _), hx2, ?_, ?_⟩
    · simp [ltF, hx1, zmt, zml, zly]
      rw [hx1] at hx3
      exact hx3
    · simp [subW, wk2, wk1, wkM, Fr.get]
  · have hw1 : W.length ≤ 100000 := by omega
    have hce : (cmpE e e == 0) = true := by rw [cmpE_eq.2 rfl]; rfl
    have hf0 : finishR (.any, [], 0) = 0 := rfl
    simp only [blkE, blkP, bhq, Nat.reduceMod, Nat.reduceDiv, stepH, stepM, toMs1, toMs, toMs0, strK, pubK, pubF, pubV, yaq, yar, yao, yap, go_sem, reduceCtorEq, Nat.reduceEqDiff, Nat.reduceAdd, Nat.reduceMul, Nat.reduceSub, Nat.reduceLeDiff, Nat.reduceLT, Int.reduceMul, Int.reduceAdd, Int.reduceSub, Int.reduceToNat, byq, Int.toNat_natCast, e_New, hx1, hx4, onR, onRo_some, onRo_nil, e_eRead, hw1, hrb, cellR, p_RFinish, hf0, entryAV, entryC, p_rSame10]
    refine ⟨by omega, e, e, ⟨rfl, rfl, hE.cok, hE.cok⟩, ?_⟩
    simp only [go_sem, reduceCtorEq, Nat.reduceEqDiff, Nat.reduceAdd, Nat.reduceMul, Nat.reduceSub, Nat.reduceLeDiff, Nat.reduceLT, Int.reduceMul, Int.reduceAdd, Int.reduceSub, Int.reduceToNat, hce, both, p_begun10, beq_self_eq_true]
    simp (disch := first | assumption | omega | (simp; done) | (simp; omega) | (simp only [bt, and_true]; first | done | omega | (simp; done))) [↓zlu, beq, ybc, ybd, ybe, endOk, wk, wk2, wk1, wkM, wkL, wkLL, ybf, hcl]
    repeat (first | exact hx0 | refine AHeap.Le.push ?_ _)
end Go.AL

