/- Contracts and plain laws, a part of the proof; no condition of its own. -/
import Derived.Test.YtepgdamgklfnmaaRows
import Derived.Test.YtepgdamgklfnmaaS11m
import Derived.Test.YtepgdamgklfnmaaTY11
/- Whatever the codes, the entry, the numbers and the value: Compare orders entries as the reference does, it is antisymmetric and transitive, and Same and SameKey agree with it: EntryOrders returns true. No condition. -/
open Go Go.AL Go.Proofs
namespace Go.AL
set_option linter.all false
set_option maxRecDepth 10000
theorem ok_EntryOrders : EntOk Try.prog 3 (Ent.pure p_EntryOrders) := ok_EntryOrders0 ok_bent10
theorem entryOrders_calls (avs : List AV) (h : tyA Try.prog 6 [22, 22, 26, 3, 3, 29] avs) : ACalls Try.prog 3 avs H0 (.ret (.bool true)) H0 := by
  match avs, h with
  | [x0, x1, x2, x3, x4, x5], h =>
    obtain ⟨h0, h1, h2, h3, h4, h5, _⟩ := h
    obtain ⟨l1, rfl, hl1⟩ := tyBytes (d := 3) h0
    obtain ⟨l2, rfl, hl2⟩ := tyBytes (d := 3) h1
    obtain ⟨e0, rfl, he0⟩ := tyEntry (d := 1) h2
    obtain ⟨n, rfl, hn0, hn1⟩ := tyInt (d := 5) h3
    obtain ⟨c, rfl, hc0, hc1⟩ := tyInt (d := 5) h4
    obtain ⟨hi, lo, rfl, hv⟩ := tyVal (d := 4) h5
    obtain ⟨v, hv, hc⟩ := ok_EntryOrders.1 rfl [.slice .any 1 l1, .slice .any 1 l2, .agg (entryC e0), .int .i64 n, .int .i64 c, .agg [.int .u64 hi, .int .u64 lo]] H0 (fun v => v = .bool true) ⟨e0, ⟨hl1, hl2, rfl, ⟨⟨he0.ok, he0.ar⟩, he0.bm, he0.ba⟩, hn0, hn1, hv⟩, rfl⟩
    subst hv
    exact hc
  | [], h => exact h.elim
  | [_], h => exact h.2.elim
  | [_, _], h => exact h.2.2.elim
  | [_, _, _], h => exact h.2.2.2.elim
  | [_, _, _, _], h => exact h.2.2.2.2.elim
  | [_, _, _, _, _], h => exact h.2.2.2.2.2.elim
  | _ :: _ :: _ :: _ :: _ :: _ :: _ :: _, h => exact h.2.2.2.2.2.2.elim
end Go.AL
namespace Go.Proofs.Ytepgdamgklfnmaa
open Go.AL
theorem Try.own : ownKnob Try.prog.godebug = none := by kernel_rfl
theorem Try.laidOut : laidOutB Try.prog = true := by kernel_rfl
set_option maxRecDepth 100000 in
theorem entryOrders_lifted (os : Os) (started : os.Started) (H : Type) (enc : TypeId × Value → H) :
    ReturnsInHanded {} Try.checked os 3 .any (Rows.entryOrdersSpec.pre6 enc Try.prog Try.f3 Rows.entryOrdersRow.domain false) (Rows.entryOrdersSpec.post enc Try.prog Try.f3 false true false false) :=
  law_of_acalls (C := Try.checked) (d := 6) Try.own started (by kernel_rfl) Try.func3 (by rfl) (by rfl) Try.laidOut (by kernel_rfl) (by kernel_rfl) rfl (by kernel_rfl) rfl
    (fun ds h => match ds, h with | [_, _, _, _, _, _], _ => ⟨rfl, rfl, rfl⟩)
    (ChangeSpec.witness6 (enc := enc) (C := Try.checked) false ⟨#[], #[.slice none 0 0, .slice none 0 0, .agg #[.int .i64 0, .slice none 0 0, .int .i64 0, .int .i64 0, .slice none 0 0], .int .i64 0, .int .i64 0, .agg #[.int .u64 0, .int .u64 0]], []⟩ 8 (by kernel_rfl) (by kernel_rfl) (by kernel_rfl) (by kernel_rfl))
    (fun avs h => entryOrders_calls avs h)
theorem entryOrders_holds : Rows.EntryOrdersSaid :=
  OpenClaim.holds_of_wide 3 Try.f3 rfl rfl rfl rfl rfl rfl rfl ⟨rfl, rfl, rfl, rfl, rfl⟩ rfl rfl rfl rfl rfl (by kernel_rfl) Try.func3 (by kernel_rfl)
    (of_decide_eq_true (by kernel_rfl)) (by unfold Func.isWrapper; first | (rw [if_pos (by decide +kernel)]; kernel_rfl) | (rw [if_neg (by decide +kernel)]; exact ⟨rfl, rfl⟩))
    (fun os started H enc _ => entryOrders_lifted os started H enc)
#print axioms entryOrders_holds
end Go.Proofs.Ytepgdamgklfnmaa

