/- Contracts and plain laws, a part of the proof; no condition of its own. -/
import Derived.Test.YtnhghceobhdaoaaCL
import Derived.Test.YtnhghceobhdaoaaLBack
open Go Go.AL Go.Proofs
namespace Go.AL
set_option linter.all false
set_option maxRecDepth 10000

theorem be_nat (m w : Nat) (hm : m < 2 ^ 63) (hw : w ≤ 8) : be (m : Int) w = beN m w := by
  unfold be beHead beN
  rw [Nat.sub_zero]
  refine List.map_congr_left fun i hi => ?_
  have hi := List.mem_range.1 hi
  unfold byteAt ishr
  have e : ((2 : Int) ^ min (8 * ((w - 1 - i : Nat) : Int)).toNat IntKind.i64.bits) = ((2 ^ (8 * (w - 1 - i)) : Nat) : Int) := by
    have h1 : (8 * ((w - 1 - i : Nat) : Int)).toNat = 8 * (w - 1 - i) := by omega
    have h2 : min (8 * (w - 1 - i)) IntKind.i64.bits = 8 * (w - 1 - i) := Nat.min_eq_left (by simp [IntKind.bits]; omega)
    rw [h1, h2]; push_cast; rfl
  rw [e, Int.fdiv_eq_ediv_of_nonneg _ (Int.natCast_nonneg _), ← Int.natCast_ediv, ← Nat.shiftRight_eq_div_pow]
  generalize m >>> (8 * (w - 1 - i)) = q
  rw [UInt8.ofNat_eq_iff_mod_eq_toNat, UInt8.toNat_ofNat']
  omega
theorem iand_low (n : Int) (k : Nat) (hk : k < 2 ^ 63) : ∃ m : Nat, iand .i64 n (k : Int) = (m : Int) ∧ m ≤ k := by
  refine ⟨(BitVec.ofInt 64 n &&& BitVec.ofInt 64 (k : Int)).toNat, ?_, ?_⟩
  · show IntKind.wrap .i64 (((BitVec.ofInt 64 n &&& BitVec.ofInt 64 (k : Int)).toNat : Nat) : Int) = _
    have : (BitVec.ofInt 64 n &&& BitVec.ofInt 64 (k : Int)).toNat ≤ k := by
      rw [BitVec.toNat_and, ofInt63 k hk]; exact Nat.and_le_right
    exact wrap_i64_nat _ (by omega)
  · rw [BitVec.toNat_and, ofInt63 k hk]; exact Nat.and_le_right
theorem uintR_back (m w : Nat) (r : List UInt8) (h1 : 1 ≤ w) (h4 : w ≤ 4) (hm : m < 256 ^ w) : uintR (.any, be (m : Int) w ++ r, 0) (w : Int) = ((m : Int), .any, r, 0) := by
  have h63 : m < 2 ^ 63 := Nat.lt_of_lt_of_le hm (Nat.le_trans (Nat.pow_le_pow_right (by decide) h4) (by decide))
  rw [be_nat m w h63 (by omega)]
  have hl := beN_len m w
  unfold uintR
  dsimp only
  rw [if_neg (by simp), if_neg (by omega), if_neg (by simp; omega), Int.toNat_natCast, List.take_append_of_le_length (by omega), List.take_of_length_le (by omega), beVal_beN, Nat.mod_eq_of_lt hm, List.drop_append_of_le_length (by omega), List.drop_of_length_le (by omega)]
  rfl
theorem boolR_back (b : Bool) (r : List UInt8) : boolR (.any, [if b then 1 else 0] ++ r, 0) = (b, .any, r, 0) := by
  cases b <;> simp [boolR, b0]
theorem valueR_back (v : Nat) (r : List UInt8) (h : v < 2 ^ 128) : valueR (.any, wValue v ++ r, 0) = (v, .any, r, 0) := by
  have h16 := vLen_le h
  have h1 := vLen_pos v
  have hl := vBytes_len v
  have hb : (b0 (wValue v ++ r)).toNat = vLen v := by
    show (UInt8.ofNat (vLen v)).toNat = vLen v
    rw [UInt8.toNat_ofNat']; exact Nat.mod_eq_of_lt (by omega)
  have hd : ((wValue v ++ r).take (1 + vLen v)).drop 1 = vBytes v := by
    show ((UInt8.ofNat (vLen v) :: (vBytes v ++ r)).take (1 + vLen v)).drop 1 = _
    rw [Nat.add_comm, List.take_succ_cons, List.drop_succ_cons, List.drop_zero, List.take_append_of_le_length (by omega), List.take_of_length_le (by omega)]
  have hr : (wValue v ++ r).drop (1 + vLen v) = r := by
    show (UInt8.ofNat (vLen v) :: (vBytes v ++ r)).drop (1 + vLen v) = _
    rw [Nat.add_comm, List.drop_succ_cons, List.drop_append_of_le_length (by omega), List.drop_of_length_le (by omega)]; rfl
  have hlen : (wValue v ++ r).length = 1 + vLen v + r.length := by simp [wValue, hl]; omega
  unfold valueR
  dsimp only
  rw [if_neg (by simp), if_neg (by omega), hb, if_neg (by omega), if_neg (by omega), hd, parse_vBytes h, if_neg (by simp), hr]
theorem bytesR_back (s r : List UInt8) (hs : s.length ≤ 40) : bytesR (.any, wBytes s ++ r, 0) 40 = (s, .any, r, 0) := by
  have hw : wBytes s = be ((s.length : Nat) : Int) 2 ++ s := by
    unfold wBytes
    have h1 : min (s.length : Int) 65535 = (s.length : Int) := by omega
    rw [h1, Int.toNat_natCast, List.take_length]
  have hl := be_len (s.length : Int) 2
  have ht : ((be ((s.length : Nat) : Int) 2 ++ s) ++ r).take 2 = beN s.length 2 := by
    rw [List.append_assoc, List.take_append_of_le_length (by omega), List.take_of_length_le (by omega), be_nat _ _ (by omega) (by omega)]
  have hv : beVal (beN s.length 2) = s.length := by rw [beVal_beN]; exact Nat.mod_eq_of_lt (by omega)
  have hlen : ((be ((s.length : Nat) : Int) 2 ++ s) ++ r).length = 2 + s.length + r.length := by simp [be_len]; omega
  unfold bytesR
  dsimp only
  rw [hw, if_neg (by simp), if_neg (by omega), ht, hv, if_neg (by omega), if_neg (by omega)]
  have h1 : (be ((s.length : Nat) : Int) 2 ++ s).length = 2 + s.length := by simp [be_len]
  rw [List.take_append_of_le_length (by omega), List.take_of_length_le (by omega), List.drop_append_of_le_length (by omega), List.drop_of_length_le (l := be _ _) (by omega), List.nil_append, List.drop_append_of_le_length (by omega), List.drop_of_length_le (l := be _ _ ++ s) (by omega), List.nil_append]

/-- what WireBack writes for an element -/
def opW (x : AV) : List UInt8 :=
  match x with
  | .agg [.int .i64 _, .int .i64 n, .int .i64 _, .int .u64 hi, .int .u64 lo, .slice _ 1 s] =>
    be (iand .i64 n 255) 1 ++ (be (iand .i64 n 65535) 2 ++ (be (iand .i64 n 4294967295) 4 ++ ([if (iand .i64 n 1 == 1) = true then 1 else 0] ++ (wValue (vOf hi.toNat lo.toNat) ++ wBytes ((unb s).take (min ((unb s).length : Int) 40).toNat)))))
  | _ => []
def accW (l : List AV) : List UInt8 := l.flatMap opW
theorem opW_len (x : AV) (hx : isOp x) : (opW x).length ≤ 70 := by
  obtain ⟨a, n, most, hi, lo, s, rfl, hv, _⟩ := hx
  have hvl := vLen_le (vOf_lt (hi := hi.toNat) (lo := lo.toNat) (by have := hv.2.1; have := hv.1; omega) (by have := hv.2.2.2; have := hv.2.2.1; omega))
  simp only [opW, List.length_append, be_len, List.length_singleton, wValue, List.length_cons, List.length_nil, vBytes_len, wBytes, List.length_take]
  omega
theorem accW_take (l : List AV) (k : Nat) (h : k < l.length) : accW (l.take (k + 1)) = accW (l.take k) ++ opW (l.getD k .junk) := by
  unfold accW
  rw [List.take_succ_eq_append_getElem h, List.flatMap_append]
  simp [List.getD_eq_getElem?_getD, h]
theorem accW_drop (l : List AV) (k : Nat) (h : k < l.length) : accW (l.drop k) = opW (l.getD k .junk) ++ accW (l.drop (k + 1)) := by
  unfold accW
  rw [List.drop_eq_getElem_cons h, List.flatMap_cons]
  simp [List.getD_eq_getElem?_getD, h]
theorem accW_len (l : List AV) (hl : ∀ x ∈ l, isOp x) : (accW l).length ≤ 70 * l.length := by
  induction l with
  | nil => simp [accW]
  | cons a t ih =>
    have h1 := opW_len a (hl a (by simp))
    have h2 := ih fun x hx => hl x (by simp [hx])
    have : accW (a :: t) = opW a ++ accW t := by simp [accW]
    rw [this, List.length_append, List.length_cons]; omega

end Go.AL
