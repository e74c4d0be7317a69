/- Contracts and plain laws, a part of the proof; no condition of its own. -/
import Derived.Test.YtepgdamgklfnmaaCJ
import Derived.Test.YtepgdamgklfnmaaLBack
open Go Go.AL Go.Proofs
namespace Go.AL
set_option linter.all false
set_option maxRecDepth 10000

theorem EntOk.eff {P : Program} {f : FuncId} {p : List AV → AHeap → (AV → Prop) → Prop} (h : EntOk P f (Ent.pure p)) : EntOk P f (Ent.effect fun args H K => p args H fun v => K (.ret v) H) :=
  EntOk.effect fun args H K hh => by
    obtain ⟨x, hx, hc⟩ := h.1 rfl args H (fun v => K (.ret v) H) hh
    exact ⟨_, _, hx, hc⟩
end Go.AL


open Go Go.AL Go.Proofs
namespace Go.AL
set_option linter.all false
set_option maxRecDepth 10000

theorem be_nat (m w : Nat) (hm : m < 2 ^ 63) (hw : w ≤ 8) : be (m : Int) w = beN m w := by
  unfold be beHead beN
  rw [Nat.sub_zero]
  refine List.map_congr_left fun i hi => ?_
  have hi := List.mem_range.1 hi
  unfold byteAt ishr
  have e : ((2 : Int) ^ min (8 * ((w - 1 - i : Nat) : Int)).toNat IntKind.i64.bits) = ((2 ^ (8 * (w - 1 - i)) : Nat) : Int) := by
    have h1 : (8 * ((w - 1 - i : Nat) : Int)).toNat = 8 * (w - 1 - i) := by omega
    have h2 : min (8 * (w - 1 - i)) IntKind.i64.bits = 8 * (w - 1 - i) := Nat.min_eq_left (by simp [IntKind.bits]; omega)
    rw [h1, h2]; push_cast; rfl
  rw [e, Int.fdiv_eq_ediv_of_nonneg _ (Int.natCast_nonneg _), ← Int.natCast_ediv, ← Nat.shiftRight_eq_div_pow]
  generalize m >>> (8 * (w - 1 - i)) = q
  rw [UInt8.ofNat_eq_iff_mod_eq_toNat, UInt8.toNat_ofNat']
  omega
theorem uintR_back (m w : Nat) (r : List UInt8) (h1 : 1 ≤ w) (h4 : w ≤ 4) (hm : m < 256 ^ w) : uintR (.any, be (m : Int) w ++ r, 0) (w : Int) = ((m : Int), .any, r, 0) := by
  have h63 : m < 2 ^ 63 := Nat.lt_of_lt_of_le hm (Nat.le_trans (Nat.pow_le_pow_right (by decide) h4) (by decide))
  rw [be_nat m w h63 (by omega)]
  have hl := beN_len m w
  unfold uintR
  dsimp only
  rw [if_neg (by simp), if_neg (by omega), if_neg (by simp; omega), Int.toNat_natCast, List.take_append_of_le_length (by omega), List.take_of_length_le (by omega), beVal_beN, Nat.mod_eq_of_lt hm, List.drop_append_of_le_length (by omega), List.drop_of_length_le (by omega)]
  rfl
theorem boolR_back (b : Bool) (r : List UInt8) : boolR (.any, [if b then 1 else 0] ++ r, 0) = (b, .any, r, 0) := by
  cases b <;> simp [boolR, b0]
theorem valueR_back (v : Nat) (r : List UInt8) (h : v < 2 ^ 128) : valueR (.any, wValue v ++ r, 0) = (v, .any, r, 0) := by
  have h16 := vLen_le h
  have h1 := vLen_pos v
  have hl := vBytes_len v
  have hb : (b0 (wValue v ++ r)).toNat = vLen v := by
    show (UInt8.ofNat (vLen v)).toNat = vLen v
    rw [UInt8.toNat_ofNat']; exact Nat.mod_eq_of_lt (by omega)
  have hd : ((wValue v ++ r).take (1 + vLen v)).drop 1 = vBytes v := by
    show ((UInt8.ofNat (vLen v) :: (vBytes v ++ r)).take (1 + vLen v)).drop 1 = _
    rw [Nat.add_comm, List.take_succ_cons, List.drop_succ_cons, List.drop_zero, List.take_append_of_le_length (by omega), List.take_of_length_le (by omega)]
  have hr : (wValue v ++ r).drop (1 + vLen v) = r := by
    show (UInt8.ofNat (vLen v) :: (vBytes v ++ r)).drop (1 + vLen v) = _
    rw [Nat.add_comm, List.drop_succ_cons, List.drop_append_of_le_length (by omega), List.drop_of_length_le (by omega)]; rfl
  have hlen : (wValue v ++ r).length = 1 + vLen v + r.length := by simp [wValue, hl]; omega
  unfold valueR
  dsimp only
  rw [if_neg (by simp), if_neg (by omega), hb, if_neg (by omega), if_neg (by omega), hd, parse_vBytes h, if_neg (by simp), hr]
end Go.AL

