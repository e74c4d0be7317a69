/- Contracts and plain laws, a part of the proof; no condition of its own. -/
import Derived.Test.YtepgdamgklfnmaaLVal
/- Plain laws of readers. No program. -/
namespace Go.AL
set_option linter.all false

/-- the number that bytes make, the first the most significant -/
def beVal (l : List UInt8) : Nat := l.foldl (fun n b => n * 256 + b.toNat) 0
theorem beVal_nil : beVal [] = 0 := rfl
theorem beVal_snoc (l : List UInt8) (b : UInt8) : beVal (l ++ [b]) = beVal l * 256 + b.toNat := by simp [beVal]
theorem beVal_step (l : List UInt8) (k : Nat) (h : k < l.length) : beVal (l.take (k + 1)) = beVal (l.take k) * 256 + (l.getD k 0).toNat := by
  rw [List.take_succ_eq_append_getElem h, beVal_snoc]; simp [List.getD_eq_getElem?_getD, h]
theorem beVal_lt (l : List UInt8) : beVal l < 256 ^ l.length := by
  induction h : l.length generalizing l with
  | zero => have : l = [] := List.eq_nil_of_length_eq_zero h; subst this; simp [beVal]
  | succ n ih =>
    obtain ⟨l', b, rfl⟩ : ∃ l' b, l = l' ++ [b] := ⟨l.dropLast, l.getLast (by intro e; rw [e] at h; simp at h), (List.dropLast_concat_getLast _).symm⟩
    rw [beVal_snoc, Nat.pow_succ]
    have := ih l' (by simp at h; omega)
    have := UInt8.toNat_lt b
    simp only [List.length_append, List.length_singleton] at h
    have hl : l'.length = n := by omega
    have h2 : beVal l' + 1 ≤ 256 ^ n := by omega
    have h3 : (beVal l' + 1) * 256 ≤ 256 ^ n * 256 := Nat.mul_le_mul_right _ h2
    omega
theorem beVal_take_lt (l : List UInt8) (k n : Nat) (h : l.length ≤ n) : beVal (l.take k) < 256 ^ n := by
  refine Nat.lt_of_lt_of_le (beVal_lt _) (Nat.pow_le_pow_right (by decide) ?_)
  rw [List.length_take]; omega

theorem ofInt63 (a : Nat) (h : a < 2 ^ 63) : (BitVec.ofInt 64 (a : Int)).toNat = a := ofInt64 a (by omega)
theorem wrap_i64_nat (a : Nat) (h : a < 2 ^ 63) : IntKind.wrap .i64 (a : Int) = (a : Int) := by rw [wrap_i64] <;> omega
theorem ior_i64 (a b : Nat) (h : a < 2 ^ 63) (k : b < 2 ^ 63) : ior .i64 (a : Int) (b : Int) = ((a ||| b : Nat) : Int) := by
  have hx : a ||| b < 2 ^ 63 := Nat.or_lt_two_pow h k
  show IntKind.wrap .i64 ((BitVec.ofInt 64 (a : Int) ||| BitVec.ofInt 64 (b : Int)).toNat : Int) = _
  rw [BitVec.toNat_or, ofInt63 a h, ofInt63 b k, wrap_i64_nat _ hx]
theorem shl8_or (a b : Nat) (h : a < 2 ^ 54) (k : b < 256) : ior .i64 (ishl .i64 (a : Int) 8) (b : Int) = ((a * 256 + b : Nat) : Int) := by
  have e : ishl .i64 (a : Int) 8 = ((a * 256 : Nat) : Int) := by
    unfold ishl
    have : ((a : Int) * (2 : Int) ^ min (Int.toNat 8) IntKind.i64.bits) = ((a * 256 : Nat) : Int) := by
      have : min (Int.toNat 8) IntKind.i64.bits = 8 := by decide
      rw [this]; omega
    rw [this, wrap_i64_nat _ (by omega)]
  rw [e, ior_i64 _ _ (by omega) (by omega)]
  congr 1
  have := Nat.shiftLeft_add_eq_or_of_lt (b := b) (i := 8) k a
  rw [Nat.shiftLeft_eq, show (2 : Nat) ^ 8 = 256 from rfl] at this
  exact this.symm

/-- the first byte -/
def b0 (l : List UInt8) : UInt8 := l.getD 0 0
theorem b0_get (l : List UInt8) (k : Nat) (h : 1 ≤ l.length) (hk : 1 ≤ k) : (bys (l.take k)).getD 0 .junk = ofByte (b0 l) := by
  cases l with
  | nil => simp at h
  | cons a t =>
    cases k with
    | zero => omega
    | succ k => rfl
theorem b0_get' (l : List UInt8) (h : 1 ≤ l.length) : (bys l).getD 0 .junk = ofByte (b0 l) := bys_get h

/-- the state of a reader: what is known of its row, the rest, the error -/
abbrev RS := Mark × List UInt8 × Int
def cellR (s : RS) : List AV := [.slice s.1 1 (bys s.2.1), .int .i64 s.2.2]

def uintR (s : RS) (w : Int) : Int × RS :=
  if s.2.2 ≠ 0 then (0, s) else if w < 1 ∨ 4 < w then (0, (s.1, s.2.1, 4)) else if (s.2.1.length : Int) < w then (0, (s.1, s.2.1, 1))
  else ((beVal (s.2.1.take w.toNat) : Nat), (.any, s.2.1.drop w.toNat, 0))
def boolR (s : RS) : Bool × RS :=
  if s.2.2 ≠ 0 then (false, s) else if s.2.1.length < 1 then (false, (s.1, s.2.1, 1)) else if 1 < (b0 s.2.1).toNat then (false, (s.1, s.2.1, 2))
  else ((b0 s.2.1).toNat == 1, (.any, s.2.1.drop 1, 0))
/-- a value's bytes read: the value, the error -/
def parseV (l : List UInt8) : Nat × Int :=
  if l.length = 0 then (0, 1) else if 16 < l.length then (0, 3) else if 1 < l.length ∧ (b0 l).toNat = 0 then (0, 5) else (beVal l, 0)
def valueR (s : RS) : Nat × RS :=
  if s.2.2 ≠ 0 then (0, s) else if s.2.1.length < 1 then (0, (s.1, s.2.1, 1))
  else if (b0 s.2.1).toNat < 1 ∨ 16 < (b0 s.2.1).toNat then (0, (s.1, s.2.1, 2))
  else if s.2.1.length < 1 + (b0 s.2.1).toNat then (0, (s.1, s.2.1, 1))
  else if (parseV ((s.2.1.take (1 + (b0 s.2.1).toNat)).drop 1)).2 ≠ 0 then (0, (s.1, s.2.1, 5))
  else ((parseV ((s.2.1.take (1 + (b0 s.2.1).toNat)).drop 1)).1, (.any, s.2.1.drop (1 + (b0 s.2.1).toNat), 0))
def countR (s : RS) (most : Int) : Int × RS :=
  if s.2.2 ≠ 0 then (0, s) else if s.2.1.length < 2 then (0, (s.1, s.2.1, 1)) else if most < (beVal (s.2.1.take 2) : Nat) then (0, (s.1, s.2.1, 3))
  else ((beVal (s.2.1.take 2) : Nat), (.any, s.2.1.drop 2, 0))
def finishR (s : RS) : Int := if s.2.2 = 0 ∧ 0 < s.2.1.length then 2 else s.2.2

/-- a reader in memory -/
def onRo (o : Option AObj) (K : Mark → List UInt8 → Int → Prop) : Prop :=
  match o with
  | some (.cells [.slice m 1 l, .int .i64 e]) => (isB l ∧ l.length ≤ 100000) ∧ K m (unb l) e
  | _ => False
@[congr] theorem onRo_congr {o o' : Option AObj} {K : Mark → List UInt8 → Int → Prop} (h : o = o') : onRo o K = onRo o' K := by rw [h]
theorem onRo_some {m : Mark} {l : List UInt8} {e : Int} {K : Mark → List UInt8 → Int → Prop} : onRo (some (.cells [.slice m 1 (bys l), .int .i64 e])) K = (l.length ≤ 100000 ∧ K m l e) := by
  simp only [onRo, zlh, zkq, zlf, true_and]
theorem onRo_nil {m : Mark} {e : Int} {K : Mark → List UInt8 → Int → Prop} : onRo (some (.cells [.slice m 1 [], .int .i64 e])) K = K m [] e := by
  have := onRo_some (m := m) (l := []) (e := e) (K := K)
  rw [zkr] at this
  rw [this]
  simp
def onR (H : AHeap) (id : Nat) (K : Mark → List UInt8 → Int → Prop) : Prop := onRo (H.get id) K
theorem onR_out {H : AHeap} {id : Nat} {K : Mark → List UInt8 → Int → Prop} (h : onR H id K) : ∃ m l e, H.get id = some (.cells [.slice m 1 (bys l), .int .i64 e]) ∧ l.length ≤ 100000 ∧ K m l e := by
  unfold onR onRo at h
  split at h
  · rename_i m l e hg
    obtain ⟨⟨h1, h2⟩, h3⟩ := h
    obtain ⟨xs, rfl⟩ := isB_out h1
    rw [zlf] at h3
    rw [zkq] at h2
    exact ⟨m, xs, e, hg, h2, h3⟩
  · exact h.elim
theorem lt_slice_bys {n : Nat} {m : Mark} {l l' : List UInt8} (h : (AV.slice m 1 (bys l)).lt n) : (AV.slice m 1 (bys l')).lt n := by
  rw [zly] at h ⊢; exact h
theorem closedR {H : AHeap} {id : Nat} {m : Mark} {l : List UInt8} {e : Int} (hg : H.get id = some (.cells [.slice m 1 (bys l), .int .i64 e])) (h : H.Closed) (m' : Mark) (hm : m' = m ∨ m' = .any) (l' : List UInt8) (e' : Int) :
    (H.set id (.cells [.slice m' 1 (bys l'), .int .i64 e'])).Closed := by
  refine closed_set h ?_
  have h0 := h id _ hg 0 (by simp)
  simp only [ltL, and_true]
  refine ⟨?_, by rw [AV.lt] <;> simp⟩
  rcases hm with rfl | rfl
  · exact lt_slice_bys h0
  · rw [zly]; intro id e; cases e
theorem cells_set_same {H : AHeap} {id : Nat} {cs : List AV} (h : id < H.nx) : cellsOf? (H.set id (.cells cs)) id = some cs := by rw [cells_set h, if_pos rfl]
theorem get_set_same' {H : AHeap} {id : Nat} {o : AObj} (h : id < H.nx) : (H.set id o).get id = some o := by rw [heap_get_set, if_pos rfl, if_pos h]
end Go.AL

