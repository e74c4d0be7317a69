/- Whatever the elements: the functions of wire that write add the documented bytes: WireWrites returns true. No condition. -/
import Derived.Test.YtnikhifkngaleaaRows
import Derived.Test.YtnikhifkngaleaaCW
import Derived.Test.YtnikhifkngaleaaAlTop
open Go Go.AL Go.Proofs
namespace Go.AL
set_option linter.all false
set_option maxRecDepth 10000
theorem tyOp {d : Nat} {x : AV} (h : tyV Try.prog (d + 4) 28 x) : isOp x := by
  rw [ty_agg ti_op rfl] at h
  obtain ⟨cs, rfl, h⟩ := h
  rw [ty_struct ti_op] at h
  obtain ⟨a1, r1, rfl, _, h1, a2, r2, rfl, _, h2, a3, r3, rfl, _, h3, a4, r4, rfl, _, h4, a5, r5, rfl, _, h5, rfl⟩ := h
  rw [ty_int ti_int] at h1 h2 h3
  rw [ty_struct ti_val] at h4
  rw [ty_slice ti_bytes] at h5
  obtain ⟨k, rfl, _⟩ := h1
  obtain ⟨n, rfl, _⟩ := h2
  obtain ⟨most, rfl, _⟩ := h3
  obtain ⟨b1, q1, rfl, _, g1, b2, q2, rfl, _, g2, rfl⟩ := h4
  rw [ty_int ti_u64] at g1 g2
  obtain ⟨hi, rfl, i1, i2⟩ := g1
  obtain ⟨lo, rfl, i3, i4⟩ := g2
  obtain ⟨s, rfl, _, hs⟩ := h5
  refine ⟨k, n, most, hi, lo, s, ?_, ⟨by simpa [IntKind.min, IntKind.signed] using i1, by simp [IntKind.max, IntKind.signed, IntKind.bits] at i2; omega, by simpa [IntKind.min, IntKind.signed] using i3, by simp [IntKind.max, IntKind.signed, IntKind.bits] at i4; omega⟩, ?_⟩
  · rw [sizeT_of ti_u8]; rfl
  · refine isB_of fun x hx => ?_
    have := hs x hx
    rw [ty_one ti_u8 rfl, ty_int ti_u8] at this
    obtain ⟨_, m, e, m1, m2⟩ := this
    cases e
    exact ⟨m, rfl, by simpa [IntKind.min, IntKind.signed] using m1, by simp [IntKind.max, IntKind.signed, IntKind.bits] at m2; omega⟩

theorem wireWrites_calls (avs : List AV) (h : tyA Try.prog 6 [22] avs) : ACalls Try.prog 3 avs H0 (.ret (.bool true)) H0 := by
  match avs, h with
  | [x], h =>
    obtain ⟨h, _⟩ := h
    rw [ty_one ti_ops rfl, ty_slice ti_ops] at h
    obtain ⟨_, xs, e, _, hx⟩ := h
    cases e
    rw [sizeT_of ti_op]
    obtain ⟨v, hv, hc⟩ := ok_WireWrites.1 rfl [.slice .any 6 xs] H0 (fun v => v = .bool true) ⟨fun x hm => tyOp (d := 1) (hx x hm), rfl⟩
    subst hv
    exact hc
  | [], h => exact h.elim
  | _ :: _ :: _, h => exact h.2.elim
end Go.AL
namespace Go.Proofs.Ytnikhifkngaleaa
open Go.AL
theorem Try.own : ownKnob Try.prog.godebug = none := by kernel_rfl
theorem Try.laidOut : laidOutB Try.prog = true := by kernel_rfl
set_option maxRecDepth 100000 in
theorem wireWrites_lifted (os : Os) (started : os.Started) (H : Type) (enc : TypeId × Value → H) :
    ReturnsInHanded {} Try.checked os 3 .any (Rows.wireWritesSpec.pre6 enc Try.prog Try.f3 Rows.wireWritesRow.domain false) (Rows.wireWritesSpec.post enc Try.prog Try.f3 false true false false) :=
  law_of_acalls (C := Try.checked) (d := 6) Try.own started (by kernel_rfl) Try.func3 (by rfl) (by rfl) Try.laidOut (by kernel_rfl) (by kernel_rfl) rfl (by kernel_rfl) rfl
    (fun ds h => match ds, h with | [_], _ => ⟨rfl, rfl, rfl⟩)
    (ChangeSpec.witness6 (enc := enc) (C := Try.checked) false ⟨#[], #[.slice none 0 0], []⟩ 8 (by kernel_rfl) (by kernel_rfl) (by kernel_rfl) (by kernel_rfl))
    (fun avs h => wireWrites_calls avs h)
theorem wireWrites_holds : Rows.WireWritesSaid :=
  OpenClaim.holds_of_wide 3 Try.f3 rfl rfl rfl rfl rfl rfl rfl ⟨rfl, rfl, rfl, rfl, rfl⟩ rfl rfl rfl rfl rfl (by kernel_rfl) Try.func3 (by kernel_rfl)
    (of_decide_eq_true (by kernel_rfl)) (by unfold Func.isWrapper; first | (rw [if_pos (by decide +kernel)]; kernel_rfl) | (rw [if_neg (by decide +kernel)]; exact ⟨rfl, rfl⟩))
    (fun os started H enc _ => wireWrites_lifted os started H enc)
#print axioms wireWrites_holds
end Go.Proofs.Ytnikhifkngaleaa
