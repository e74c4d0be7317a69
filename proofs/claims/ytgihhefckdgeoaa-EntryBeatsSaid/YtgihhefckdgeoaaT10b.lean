/- Contracts and plain laws, a part of the proof; no condition of its own. -/
import Derived.Test.YtgihhefckdgeoaaRows
import Derived.Test.YtgihhefckdgeoaaS10x
import Derived.Test.YtgihhefckdgeoaaTY11
/- Whatever the codes, the numbers and the installed entry: Beats orders installed entries by priority, prefix length and age, as the reference does: EntryBeats returns true. No condition. -/
open Go Go.AL Go.Proofs
namespace Go.AL
set_option linter.all false
set_option maxRecDepth 10000
theorem entryBeats_calls (avs : List AV) (h : tyA Try.prog 6 [22, 22, 3, 3, 3, 67] avs) : ACalls Try.prog 5 avs H0 (.ret (.bool true)) H0 := by
  match avs, h with
  | [x0, x1, x2, x3, x4, x5], h =>
    obtain ⟨h0, h1, h2, h3, h4, h5, _⟩ := h
    obtain ⟨l1, rfl, hl1⟩ := tyBytes (d := 3) h0
    obtain ⟨l2, rfl, hl2⟩ := tyBytes (d := 3) h1
    obtain ⟨n, rfl, hn0, hn1⟩ := tyInt (d := 5) h2
    obtain ⟨a, rfl, ha0, ha1⟩ := tyInt (d := 5) h3
    obtain ⟨b, rfl, hb0, hb1⟩ := tyInt (d := 5) h4
    obtain ⟨e0, n0, r0, rfl, he0⟩ := tyInst (d := 0) h5
    obtain ⟨v, hv, hc⟩ := ok_EntryBeats.1 rfl [.slice .any 1 l1, .slice .any 1 l2, .int .i64 n, .int .i64 a, .int .i64 b, .agg (instC e0 n0 r0)] H0 (fun v => v = .bool true) ⟨e0, n0, r0, ⟨hl1, hl2, hn0, hn1, rfl, he0.ok.ml⟩, rfl⟩
    subst hv
    exact hc
  | [], h => exact h.elim
  | [_], h => exact h.2.elim
  | [_, _], h => exact h.2.2.elim
  | [_, _, _], h => exact h.2.2.2.elim
  | [_, _, _, _], h => exact h.2.2.2.2.elim
  | [_, _, _, _, _], h => exact h.2.2.2.2.2.elim
  | _ :: _ :: _ :: _ :: _ :: _ :: _ :: _, h => exact h.2.2.2.2.2.2.elim
end Go.AL
namespace Go.Proofs.Ytgihhefckdgeoaa
open Go.AL
theorem Try.own : ownKnob Try.prog.godebug = none := by kernel_rfl
theorem Try.laidOut : laidOutB Try.prog = true := by kernel_rfl
set_option maxRecDepth 100000 in
theorem entryBeats_lifted (os : Os) (started : os.Started) (H : Type) (enc : TypeId × Value → H) :
    ReturnsInHanded {} Try.checked os 5 .any (Rows.entryBeatsSpec.pre6 enc Try.prog Try.f5 Rows.entryBeatsRow.domain false) (Rows.entryBeatsSpec.post enc Try.prog Try.f5 false true false false) :=
  law_of_acalls (C := Try.checked) (d := 6) Try.own started (by kernel_rfl) Try.func5 (by rfl) (by rfl) Try.laidOut (by kernel_rfl) (by kernel_rfl) rfl (by kernel_rfl) rfl
    (fun ds h => match ds, h with | [_, _, _, _, _, _], _ => ⟨rfl, rfl, rfl⟩)
    (ChangeSpec.witness6 (enc := enc) (C := Try.checked) false ⟨#[], #[.slice none 0 0, .slice none 0 0, .int .i64 0, .int .i64 0, .int .i64 0, .agg #[.int .i64 0, .slice none 0 0, .int .i64 0, .int .i64 0, .slice none 0 0, .int .i64 0, .int .i64 0]], []⟩ 8 (by kernel_rfl) (by kernel_rfl) (by kernel_rfl) (by kernel_rfl))
    (fun avs h => entryBeats_calls avs h)
theorem entryBeats_holds : Rows.EntryBeatsSaid :=
  OpenClaim.holds_of_wide 5 Try.f5 rfl rfl rfl rfl rfl rfl rfl ⟨rfl, rfl, rfl, rfl, rfl⟩ rfl rfl rfl rfl rfl (by kernel_rfl) Try.func5 (by kernel_rfl)
    (of_decide_eq_true (by kernel_rfl)) (by unfold Func.isWrapper; first | (rw [if_pos (by decide +kernel)]; kernel_rfl) | (rw [if_neg (by decide +kernel)]; exact ⟨rfl, rfl⟩))
    (fun os started H enc _ => entryBeats_lifted os started H enc)
#print axioms entryBeats_holds
end Go.Proofs.Ytgihhefckdgeoaa

