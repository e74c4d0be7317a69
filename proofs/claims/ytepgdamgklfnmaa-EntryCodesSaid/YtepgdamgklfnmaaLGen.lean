/- Contracts and plain laws, a part of the proof; no condition of its own. -/
import Derived.Test.YtepgdamgklfnmaaLRead
/- Plain laws of a list of choices: what is taken from it, and where it stands behind that. No program. -/
namespace Go.AL
set_option linter.all false

/-- the choice at a place, of n -/
def cv (b : List UInt8) (v n : Nat) : Nat := (b.getD v 0).toNat % n
/-- a place, k further -/
def cp (v k : Nat) : Nat := v + k
/-- a list of choices in memory; behind its end the place does not move -/
def codV (b : List UInt8) (v : Nat) : AObj := .cells [.slice .any 1 (bys b), .int .i64 ((min v b.length : Nat) : Int)]
theorem cp0 (v : Nat) : cp v 0 = v := rfl
theorem cp_add {v k n : Nat} : cp v k + n = cp v (k + n) := by unfold cp; omega
theorem cv_past {b : List UInt8} {v n : Nat} (h : b.length ≤ v) : cv b v n = 0 := by
  unfold cv
  rw [List.getD_eq_getElem?_getD, List.getElem?_eq_none h]
  simp
theorem cv_min {b : List UInt8} {v n : Nat} : cv b (min v b.length) n = cv b v n := by
  rcases Nat.le_total v b.length with h | h
  · rw [Nat.min_eq_left h]
  · rw [Nat.min_eq_right h, cv_past h, cv_past (Nat.le_refl _)]
theorem cv_min_add {b : List UInt8} {v k n : Nat} : cv b (min v b.length + k) n = cv b (v + k) n := by
  rcases Nat.le_total v b.length with h | h
  · rw [Nat.min_eq_left h]
  · rw [Nat.min_eq_right h, cv_past (by omega), cv_past (by omega)]
theorem cv_lt {b : List UInt8} {v n : Nat} (h : 0 < n) : cv b v n < n := Nat.mod_lt _ h
theorem codV_min {b : List UInt8} {v n : Nat} : codV b (min v b.length + n) = codV b (v + n) := by
  unfold codV
  rw [show min (min v b.length + n) b.length = min (v + n) b.length by omega]
theorem codV_lt {b : List UInt8} {v n : Nat} : ltL n [.slice .any 1 (bys b), .int .i64 ((min v b.length : Nat) : Int)] := by
  simp [zna, znb, zml, zly]

def onC (o : Option AObj) (K : List UInt8 → Nat → Prop) : Prop :=
  match o with
  | some (.cells [.slice .any 1 l, .int .i64 a]) => (isB l ∧ l.length ≤ 1000000 ∧ 0 ≤ a ∧ a ≤ (l.length : Int)) ∧ K (unb l) a.toNat
  | _ => False
@[congr] theorem onC_congr {o o' : Option AObj} {K : List UInt8 → Nat → Prop} (h : o = o') : onC o K = onC o' K := by rw [h]
theorem onC_cod {b : List UInt8} {v : Nat} {K : List UInt8 → Nat → Prop} (hb : b.length ≤ 1000000) : onC (some (codV b v)) K = K b (min v b.length) := by
  unfold codV onC
  simp only [zlh, zkq, zlf, true_and, Int.toNat_natCast]
  refine propext ⟨fun h => h.2, fun h => ⟨⟨hb, by omega, by omega⟩, h⟩⟩
theorem onC_out {o : Option AObj} {K : List UInt8 → Nat → Prop} (h : onC o K) : ∃ b v, o = some (codV b (cp v 0)) ∧ b.length ≤ 1000000 ∧ v ≤ b.length ∧ K b v := by
  unfold onC at h
  split at h
  · rename_i l a
    obtain ⟨⟨h1, h2, h3, h4⟩, h5⟩ := h
    obtain ⟨xs, rfl⟩ := isB_out h1
    rw [zlf] at h5
    rw [zkq] at h2 h4
    refine ⟨xs, a.toNat, ?_, h2, by omega, h5⟩
    unfold codV cp
    rw [show ((min (a.toNat + 0) xs.length : Nat) : Int) = a by omega]
  · exact h.elim
end Go.AL

