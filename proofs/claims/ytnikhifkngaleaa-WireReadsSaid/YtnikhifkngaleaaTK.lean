/- Whatever the bytes and the elements: the reader gives what the document says, its errors and what is left: WireReads returns true. No condition. -/
import Derived.Test.YtnikhifkngaleaaRows
import Derived.Test.YtnikhifkngaleaaCK
import Derived.Test.YtnikhifkngaleaaTY
open Go Go.AL Go.Proofs
namespace Go.AL
set_option linter.all false
set_option maxRecDepth 10000
theorem wireReads_calls (avs : List AV) (h : tyA Try.prog 6 [23, 22] avs) : ACalls Try.prog 6 avs H0 (.ret (.bool true)) H0 := by
  match avs, h with
  | [x, y], h =>
    obtain ⟨h1, h2, _⟩ := h
    obtain ⟨b, rfl, hb⟩ := tyBytes (d := 3) h1
    obtain ⟨l, rfl, hl⟩ := tyOps (d := 0) h2
    obtain ⟨v, hv, hc⟩ := ok_WireReads.1 rfl [.slice .any 1 b, .slice .any 6 l] H0 (fun v => v = .bool true) ⟨⟨hb, hl⟩, rfl⟩
    subst hv
    exact hc
end Go.AL
namespace Go.Proofs.Ytnikhifkngaleaa
open Go.AL
theorem Try.own : ownKnob Try.prog.godebug = none := by kernel_rfl
theorem Try.laidOut : laidOutB Try.prog = true := by kernel_rfl
set_option maxRecDepth 100000 in
theorem wireReads_lifted (os : Os) (started : os.Started) (H : Type) (enc : TypeId × Value → H) :
    ReturnsInHanded {} Try.checked os 6 .any (Rows.wireReadsSpec.pre6 enc Try.prog Try.f6 Rows.wireReadsRow.domain false) (Rows.wireReadsSpec.post enc Try.prog Try.f6 false true false false) :=
  law_of_acalls (C := Try.checked) (d := 6) Try.own started (by kernel_rfl) Try.func6 (by rfl) (by rfl) Try.laidOut (by kernel_rfl) (by kernel_rfl) rfl (by kernel_rfl) rfl
    (fun ds h => match ds, h with | [_, _], _ => ⟨rfl, rfl, rfl⟩)
    (ChangeSpec.witness6 (enc := enc) (C := Try.checked) false ⟨#[], #[.slice none 0 0, .slice none 0 0], []⟩ 8 (by kernel_rfl) (by kernel_rfl) (by kernel_rfl) (by kernel_rfl))
    (fun avs h => wireReads_calls avs h)
theorem wireReads_holds : Rows.WireReadsSaid :=
  OpenClaim.holds_of_wide 6 Try.f6 rfl rfl rfl rfl rfl rfl rfl ⟨rfl, rfl, rfl, rfl, rfl⟩ rfl rfl rfl rfl rfl (by kernel_rfl) Try.func6 (by kernel_rfl)
    (of_decide_eq_true (by kernel_rfl)) (by unfold Func.isWrapper; first | (rw [if_pos (by decide +kernel)]; kernel_rfl) | (rw [if_neg (by decide +kernel)]; exact ⟨rfl, rfl⟩))
    (fun os started H enc _ => wireReads_lifted os started H enc)
#print axioms wireReads_holds
end Go.Proofs.Ytnikhifkngaleaa
