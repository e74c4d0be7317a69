/-
  No cell of these rows narrows 'for every input' (looked for: loops, veiled, ifaces, maps, wideKeys, modest, calm, conditions, laid).
  DERIVED. THE GIVEN ROWS OF THIS SEAT. 3 by the template 'for every input the law returns true; each argument reads behind the call as it read before'; 0 by the template 'total and deterministic' (their statements: YtokjjhidigoodaaTotals.lean).
  GIVEN WITH THE SEED: the statements are not yours to turn. If you find one false, say at which input.
  Laid BY PROGRAM, IN A SANDBOX (cutbox-rows.mjs): the forced cells as the released guide's own fill.sh prints them over the translation 6147b9bd2867f8f5… (all of the seat's roots in one cut). By AI agents, Wed Nov 11 2026. No macro, syntax, notation, axiom, sorry.
-/
import Derived.Test.YtokjjhidigoodaaChecked
import GoSem.Claim
import GoSem.ClaimJoined
import GoSem.ClaimMapViews
import Derived.JoinedTies
import Derived.KernelRfl
namespace Go.Proofs.Ytokjjhidigoodaa
/- THE CELL 'sum', in the pinned program and in every row, IS THE sha256 OF THE DUMP (.gsa) THAT YtokjjhidigoodaaProg.lean LOADS. Nothing in Lean hashes anything: it is a label: what it is worth is what the hold of that sum in a sandbox is worth. -/
noncomputable def Try.pinned : Pinned := { name := "ytokjjhidigoodaa", sum := "6147b9bd2867f8f52178066f796b36ef43b6bf920fd6ecbae85460c3df520051", checked := Try.checked }
namespace Rows
def none {H : Type} : Left H := { results := [], args := [] }

/-- 'matchguardlaw09.EvalLogic': WHATEVER THE INPUT: true; the input reads as it did. -/
def evalLogicSpec : ChangeSpec := { name := "evalLogic", fn := fun _ => fun
  | [d1, d2, d3] => { results := [.lit (.bool true)], args := [d1, d2, d3] }
  | _ => none }
def evalLogicRow : OpenClaim := { program := "ytokjjhidigoodaa", sum := "6147b9bd2867f8f52178066f796b36ef43b6bf920fd6ecbae85460c3df520051", func := "matchguard/matchguardlaw09.EvalLogic", spec := "evalLogic", inPlace := ["math/bits.Add64"], unfollowed := true, recurses := true, plainKeys := false, apart := false }
def EvalLogicSaid : Prop := evalLogicRow.holds Try.pinned (OpenSpec.ofChange evalLogicSpec)

/-- ITS FALSE NEIGHBOUR: 'it returns false'. Refute it at one input. -/
def evalLogicWrong : ChangeSpec := { name := "evalLogic", fn := fun _ => fun
  | [d1, d2, d3] => { results := [.lit (.bool false)], args := [d1, d2, d3] }
  | _ => none }
def EvalLogicWrongFalsely : Prop := evalLogicRow.holds Try.pinned (OpenSpec.ofChange evalLogicWrong)

/-- 'matchguardlaw09.EvalOrder': WHATEVER THE INPUT: true; the input reads as it did. -/
def evalOrderSpec : ChangeSpec := { name := "evalOrder", fn := fun _ => fun
  | [d1, d2] => { results := [.lit (.bool true)], args := [d1, d2] }
  | _ => none }
def evalOrderRow : OpenClaim := { program := "ytokjjhidigoodaa", sum := "6147b9bd2867f8f52178066f796b36ef43b6bf920fd6ecbae85460c3df520051", func := "matchguard/matchguardlaw09.EvalOrder", spec := "evalOrder", inPlace := ["math/bits.Add64"], unfollowed := true, recurses := true, plainKeys := false, apart := false }
def EvalOrderSaid : Prop := evalOrderRow.holds Try.pinned (OpenSpec.ofChange evalOrderSpec)

/-- ITS FALSE NEIGHBOUR: 'it returns false'. Refute it at one input. -/
def evalOrderWrong : ChangeSpec := { name := "evalOrder", fn := fun _ => fun
  | [d1, d2] => { results := [.lit (.bool false)], args := [d1, d2] }
  | _ => none }
def EvalOrderWrongFalsely : Prop := evalOrderRow.holds Try.pinned (OpenSpec.ofChange evalOrderWrong)

/-- 'matchguardlaw09.EvalBinds': WHATEVER THE INPUT: true; the input reads as it did. -/
def evalBindsSpec : ChangeSpec := { name := "evalBinds", fn := fun _ => fun
  | [d1, d2, d3, d4, d5] => { results := [.lit (.bool true)], args := [d1, d2, d3, d4, d5] }
  | _ => none }
def evalBindsRow : OpenClaim := { program := "ytokjjhidigoodaa", sum := "6147b9bd2867f8f52178066f796b36ef43b6bf920fd6ecbae85460c3df520051", func := "matchguard/matchguardlaw09.EvalBinds", spec := "evalBinds", inPlace := ["math/bits.Add64"], unfollowed := true, recurses := true, plainKeys := false, apart := false }
def EvalBindsSaid : Prop := evalBindsRow.holds Try.pinned (OpenSpec.ofChange evalBindsSpec)

/-- ITS FALSE NEIGHBOUR: 'it returns false'. Refute it at one input. -/
def evalBindsWrong : ChangeSpec := { name := "evalBinds", fn := fun _ => fun
  | [d1, d2, d3, d4, d5] => { results := [.lit (.bool false)], args := [d1, d2, d3, d4, d5] }
  | _ => none }
def EvalBindsWrongFalsely : Prop := evalBindsRow.holds Try.pinned (OpenSpec.ofChange evalBindsWrong)

/- THE SECOND FORM. 'bulk': how many values and letters a reading holds, each counted each time it is reached (what is shared counts as often as it is met; a slice's spare places count too). A statement '..UptoSaid' is the law's where the arguments, and the package variables that the reading takes, are together of bulk at most 1048576: NARROWER than '..Said'. Prove '..Said' where nothing that the law and all that it calls make is longer than what came in: it says more and counts as full. Else prove '..UptoSaid'. A law counts once. -/
mutual
def uptoBulk {H : Type} : DataW H → Nat
  | .lit (.string bytes) => bytes.length + 1
  | .lit _ => 1
  | .nil => 1
  | .ptr d => uptoBulk d + 1
  | .slice elems spare => uptoBulkAll elems + uptoBulkAll spare + 1
  | .agg parts => uptoBulkAll parts + 1
  | .iface _ d => uptoBulk d + 1
  | .map entries => uptoBulkEntries entries + 1
  | .held _ => 1
def uptoBulkAll {H : Type} : List (DataW H) → Nat
  | [] => 0
  | d :: r => uptoBulk d + uptoBulkAll r
def uptoBulkEntries {H : Type} : List (Lit × DataW H) → Nat
  | [] => 0
  | x :: r => uptoBulkEntry x + uptoBulkEntries r
def uptoBulkEntry {H : Type} : Lit × DataW H → Nat
  | (.string bytes, d) => bytes.length + uptoBulk d + 1
  | (_, d) => uptoBulk d + 1
 end
def uptoSmall : (H : Type) → List (DataW H) → Bool := fun _ ds => decide (uptoBulkAll ds ≤ 1048576)
def OpenSpec.upto (s : _root_.Go.ChangeSpec) : _root_.Go.OpenSpec := { _root_.Go.OpenSpec.ofChange s with cond := some uptoSmall }

/-- 'matchguardlaw09.EvalLogic', WHERE WHAT IT READS IS OF BULK AT MOST 1048576: true; the input reads as it did. -/
def evalLogicUptoRow : OpenClaim := { program := "ytokjjhidigoodaa", sum := "6147b9bd2867f8f52178066f796b36ef43b6bf920fd6ecbae85460c3df520051", func := "matchguard/matchguardlaw09.EvalLogic", spec := "evalLogic", inPlace := ["math/bits.Add64"], unfollowed := true, recurses := true, plainKeys := false, apart := false, narrowed := true }
def EvalLogicUptoSaid : Prop := evalLogicUptoRow.holds Try.pinned (OpenSpec.upto evalLogicSpec)

/-- 'matchguardlaw09.EvalOrder', WHERE WHAT IT READS IS OF BULK AT MOST 1048576: true; the input reads as it did. -/
def evalOrderUptoRow : OpenClaim := { program := "ytokjjhidigoodaa", sum := "6147b9bd2867f8f52178066f796b36ef43b6bf920fd6ecbae85460c3df520051", func := "matchguard/matchguardlaw09.EvalOrder", spec := "evalOrder", inPlace := ["math/bits.Add64"], unfollowed := true, recurses := true, plainKeys := false, apart := false, narrowed := true }
def EvalOrderUptoSaid : Prop := evalOrderUptoRow.holds Try.pinned (OpenSpec.upto evalOrderSpec)

/-- 'matchguardlaw09.EvalBinds', WHERE WHAT IT READS IS OF BULK AT MOST 1048576: true; the input reads as it did. -/
def evalBindsUptoRow : OpenClaim := { program := "ytokjjhidigoodaa", sum := "6147b9bd2867f8f52178066f796b36ef43b6bf920fd6ecbae85460c3df520051", func := "matchguard/matchguardlaw09.EvalBinds", spec := "evalBinds", inPlace := ["math/bits.Add64"], unfollowed := true, recurses := true, plainKeys := false, apart := false, narrowed := true }
def EvalBindsUptoSaid : Prop := evalBindsUptoRow.holds Try.pinned (OpenSpec.upto evalBindsSpec)

end Rows
end Go.Proofs.Ytokjjhidigoodaa
