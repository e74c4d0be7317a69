/-
  No cell of these rows narrows 'for every input' (looked for: loops, veiled, ifaces, maps, wideKeys, modest, calm, conditions, laid).
  DERIVED. THE GIVEN ROWS OF THIS SEAT. 9 by the template 'for every input the law returns true; each argument reads behind the call as it read before'; 0 by the template 'total and deterministic' (their statements: YtnhghceobhdaoaaTotals.lean).
  GIVEN WITH THE SEED: the statements are not yours to turn. If you find one false, say at which input.
  Laid BY PROGRAM, IN A SANDBOX (cutbox-rows.mjs): the forced cells as the released guide's own fill.sh prints them over the translation 753e9717ca00b9b4… (all of the seat's roots in one cut). By AI agents, Wed Nov 11 2026. No macro, syntax, notation, axiom, sorry.
-/
import Derived.Test.YtnhghceobhdaoaaChecked
import GoSem.Claim
import GoSem.ClaimJoined
import GoSem.ClaimMapViews
import Derived.JoinedTies
import Derived.KernelRfl
namespace Go.Proofs.Ytnhghceobhdaoaa
/- THE CELL 'sum', in the pinned program and in every row, IS THE sha256 OF THE DUMP (.gsa) THAT YtnhghceobhdaoaaProg.lean LOADS. Nothing in Lean hashes anything: it is a label: what it is worth is what the hold of that sum in a sandbox is worth. -/
noncomputable def Try.pinned : Pinned := { name := "ytnhghceobhdaoaa", sum := "753e9717ca00b9b42e704ee3ed8c5a1800d718cd12920360f1e151ea80fe3595", checked := Try.checked }
namespace Rows
def none {H : Type} : Left H := { results := [], args := [] }

/-- 'matchguardlaw06.LexerScans': WHATEVER THE INPUT: true; the input reads as it did. -/
def lexerScansSpec : ChangeSpec := { name := "lexerScans", fn := fun _ => fun
  | [d1, d2, d3, d4] => { results := [.lit (.bool true)], args := [d1, d2, d3, d4] }
  | _ => none }
def lexerScansRow : OpenClaim := { program := "ytnhghceobhdaoaa", sum := "753e9717ca00b9b42e704ee3ed8c5a1800d718cd12920360f1e151ea80fe3595", func := "matchguard/matchguardlaw06.LexerScans", spec := "lexerScans", inPlace := ["math/bits.Add64"], apart := false }
def LexerScansSaid : Prop := lexerScansRow.holds Try.pinned (OpenSpec.ofChange lexerScansSpec)

/-- ITS FALSE NEIGHBOUR: 'it returns false'. Refute it at one input. -/
def lexerScansWrong : ChangeSpec := { name := "lexerScans", fn := fun _ => fun
  | [d1, d2, d3, d4] => { results := [.lit (.bool false)], args := [d1, d2, d3, d4] }
  | _ => none }
def LexerScansWrongFalsely : Prop := lexerScansRow.holds Try.pinned (OpenSpec.ofChange lexerScansWrong)

/-- 'matchguardlaw06.LexerPlaces': WHATEVER THE INPUT: true; the input reads as it did. -/
def lexerPlacesSpec : ChangeSpec := { name := "lexerPlaces", fn := fun _ => fun
  | [d] => { results := [.lit (.bool true)], args := [d] }
  | _ => none }
def lexerPlacesRow : OpenClaim := { program := "ytnhghceobhdaoaa", sum := "753e9717ca00b9b42e704ee3ed8c5a1800d718cd12920360f1e151ea80fe3595", func := "matchguard/matchguardlaw06.LexerPlaces", spec := "lexerPlaces", inPlace := ["math/bits.Add64"], apart := false }
def LexerPlacesSaid : Prop := lexerPlacesRow.holds Try.pinned (OpenSpec.ofChange lexerPlacesSpec)

/-- ITS FALSE NEIGHBOUR: 'it returns false'. Refute it at one input. -/
def lexerPlacesWrong : ChangeSpec := { name := "lexerPlaces", fn := fun _ => fun
  | [d] => { results := [.lit (.bool false)], args := [d] }
  | _ => none }
def LexerPlacesWrongFalsely : Prop := lexerPlacesRow.holds Try.pinned (OpenSpec.ofChange lexerPlacesWrong)

/-- 'matchguardlaw06.LexerLimits': WHATEVER THE INPUT: true; the input reads as it did. -/
def lexerLimitsSpec : ChangeSpec := { name := "lexerLimits", fn := fun _ => fun
  | [d] => { results := [.lit (.bool true)], args := [d] }
  | _ => none }
def lexerLimitsRow : OpenClaim := { program := "ytnhghceobhdaoaa", sum := "753e9717ca00b9b42e704ee3ed8c5a1800d718cd12920360f1e151ea80fe3595", func := "matchguard/matchguardlaw06.LexerLimits", spec := "lexerLimits", inPlace := ["math/bits.Add64"], apart := false }
def LexerLimitsSaid : Prop := lexerLimitsRow.holds Try.pinned (OpenSpec.ofChange lexerLimitsSpec)

/-- ITS FALSE NEIGHBOUR: 'it returns false'. Refute it at one input. -/
def lexerLimitsWrong : ChangeSpec := { name := "lexerLimits", fn := fun _ => fun
  | [d] => { results := [.lit (.bool false)], args := [d] }
  | _ => none }
def LexerLimitsWrongFalsely : Prop := lexerLimitsRow.holds Try.pinned (OpenSpec.ofChange lexerLimitsWrong)

/-- 'matchguardlaw06.LexerJoins': WHATEVER THE INPUT: true; the input reads as it did. -/
def lexerJoinsSpec : ChangeSpec := { name := "lexerJoins", fn := fun _ => fun
  | [d] => { results := [.lit (.bool true)], args := [d] }
  | _ => none }
def lexerJoinsRow : OpenClaim := { program := "ytnhghceobhdaoaa", sum := "753e9717ca00b9b42e704ee3ed8c5a1800d718cd12920360f1e151ea80fe3595", func := "matchguard/matchguardlaw06.LexerJoins", spec := "lexerJoins", inPlace := ["math/bits.Add64", "internal/abi.NoEscape", "internal/bytealg.MakeNoZero"], apart := false }
def LexerJoinsSaid : Prop := lexerJoinsRow.holds Try.pinned (OpenSpec.ofChange lexerJoinsSpec)

/-- ITS FALSE NEIGHBOUR: 'it returns false'. Refute it at one input. -/
def lexerJoinsWrong : ChangeSpec := { name := "lexerJoins", fn := fun _ => fun
  | [d] => { results := [.lit (.bool false)], args := [d] }
  | _ => none }
def LexerJoinsWrongFalsely : Prop := lexerJoinsRow.holds Try.pinned (OpenSpec.ofChange lexerJoinsWrong)

/-- 'matchguardlaw02.WireNear': WHATEVER THE INPUT: true; the input reads as it did. -/
def wireNearSpec : ChangeSpec := { name := "wireNear", fn := fun _ => fun
  | [d1, d2, d3, d4, d5] => { results := [.lit (.bool true)], args := [d1, d2, d3, d4, d5] }
  | _ => none }
def wireNearRow : OpenClaim := { program := "ytnhghceobhdaoaa", sum := "753e9717ca00b9b42e704ee3ed8c5a1800d718cd12920360f1e151ea80fe3595", func := "matchguard/matchguardlaw02.WireNear", spec := "wireNear", unfollowed := true, recurses := true, apart := false }
def WireNearSaid : Prop := wireNearRow.holds Try.pinned (OpenSpec.ofChange wireNearSpec)

/-- ITS FALSE NEIGHBOUR: 'it returns false'. Refute it at one input. -/
def wireNearWrong : ChangeSpec := { name := "wireNear", fn := fun _ => fun
  | [d1, d2, d3, d4, d5] => { results := [.lit (.bool false)], args := [d1, d2, d3, d4, d5] }
  | _ => none }
def WireNearWrongFalsely : Prop := wireNearRow.holds Try.pinned (OpenSpec.ofChange wireNearWrong)

/-- 'matchguardlaw07.SyntaxParses': WHATEVER THE INPUT: true; the input reads as it did. -/
def syntaxParsesSpec : ChangeSpec := { name := "syntaxParses", fn := fun _ => fun
  | [d1, d2, d3, d4, d5] => { results := [.lit (.bool true)], args := [d1, d2, d3, d4, d5] }
  | _ => none }
def syntaxParsesRow : OpenClaim := { program := "ytnhghceobhdaoaa", sum := "753e9717ca00b9b42e704ee3ed8c5a1800d718cd12920360f1e151ea80fe3595", func := "matchguard/matchguardlaw07.SyntaxParses", spec := "syntaxParses", inPlace := ["math/bits.Add64"], unfollowed := true, recurses := true, apart := false }
def SyntaxParsesSaid : Prop := syntaxParsesRow.holds Try.pinned (OpenSpec.ofChange syntaxParsesSpec)

/-- ITS FALSE NEIGHBOUR: 'it returns false'. Refute it at one input. -/
def syntaxParsesWrong : ChangeSpec := { name := "syntaxParses", fn := fun _ => fun
  | [d1, d2, d3, d4, d5] => { results := [.lit (.bool false)], args := [d1, d2, d3, d4, d5] }
  | _ => none }
def SyntaxParsesWrongFalsely : Prop := syntaxParsesRow.holds Try.pinned (OpenSpec.ofChange syntaxParsesWrong)

/-- 'matchguardlaw07.SyntaxLimits': WHATEVER THE INPUT: true; the input reads as it did. -/
def syntaxLimitsSpec : ChangeSpec := { name := "syntaxLimits", fn := fun _ => fun
  | [d] => { results := [.lit (.bool true)], args := [d] }
  | _ => none }
def syntaxLimitsRow : OpenClaim := { program := "ytnhghceobhdaoaa", sum := "753e9717ca00b9b42e704ee3ed8c5a1800d718cd12920360f1e151ea80fe3595", func := "matchguard/matchguardlaw07.SyntaxLimits", spec := "syntaxLimits", inPlace := ["math/bits.Add64"], unfollowed := true, recurses := true, apart := false }
def SyntaxLimitsSaid : Prop := syntaxLimitsRow.holds Try.pinned (OpenSpec.ofChange syntaxLimitsSpec)

/-- ITS FALSE NEIGHBOUR: 'it returns false'. Refute it at one input. -/
def syntaxLimitsWrong : ChangeSpec := { name := "syntaxLimits", fn := fun _ => fun
  | [d] => { results := [.lit (.bool false)], args := [d] }
  | _ => none }
def SyntaxLimitsWrongFalsely : Prop := syntaxLimitsRow.holds Try.pinned (OpenSpec.ofChange syntaxLimitsWrong)

/-- 'matchguardlaw07.SyntaxParentheses': WHATEVER THE INPUT: true; the input reads as it did. -/
def syntaxParenthesesSpec : ChangeSpec := { name := "syntaxParentheses", fn := fun _ => fun
  | [d1, d2] => { results := [.lit (.bool true)], args := [d1, d2] }
  | _ => none }
def syntaxParenthesesRow : OpenClaim := { program := "ytnhghceobhdaoaa", sum := "753e9717ca00b9b42e704ee3ed8c5a1800d718cd12920360f1e151ea80fe3595", func := "matchguard/matchguardlaw07.SyntaxParentheses", spec := "syntaxParentheses", inPlace := ["math/bits.Add64"], unfollowed := true, recurses := true, apart := false }
def SyntaxParenthesesSaid : Prop := syntaxParenthesesRow.holds Try.pinned (OpenSpec.ofChange syntaxParenthesesSpec)

/-- ITS FALSE NEIGHBOUR: 'it returns false'. Refute it at one input. -/
def syntaxParenthesesWrong : ChangeSpec := { name := "syntaxParentheses", fn := fun _ => fun
  | [d1, d2] => { results := [.lit (.bool false)], args := [d1, d2] }
  | _ => none }
def SyntaxParenthesesWrongFalsely : Prop := syntaxParenthesesRow.holds Try.pinned (OpenSpec.ofChange syntaxParenthesesWrong)

/-- 'matchguardlaw07.SyntaxSame': WHATEVER THE INPUT: true; the input reads as it did. -/
def syntaxSameSpec : ChangeSpec := { name := "syntaxSame", fn := fun _ => fun
  | [d1, d2, d3, d4] => { results := [.lit (.bool true)], args := [d1, d2, d3, d4] }
  | _ => none }
def syntaxSameRow : OpenClaim := { program := "ytnhghceobhdaoaa", sum := "753e9717ca00b9b42e704ee3ed8c5a1800d718cd12920360f1e151ea80fe3595", func := "matchguard/matchguardlaw07.SyntaxSame", spec := "syntaxSame", inPlace := ["math/bits.Add64"], unfollowed := true, recurses := true, apart := false }
def SyntaxSameSaid : Prop := syntaxSameRow.holds Try.pinned (OpenSpec.ofChange syntaxSameSpec)

/-- ITS FALSE NEIGHBOUR: 'it returns false'. Refute it at one input. -/
def syntaxSameWrong : ChangeSpec := { name := "syntaxSame", fn := fun _ => fun
  | [d1, d2, d3, d4] => { results := [.lit (.bool false)], args := [d1, d2, d3, d4] }
  | _ => none }
def SyntaxSameWrongFalsely : Prop := syntaxSameRow.holds Try.pinned (OpenSpec.ofChange syntaxSameWrong)

/- THE SECOND FORM. 'bulk': how many values and letters a reading holds, each counted each time it is reached (what is shared counts as often as it is met; a slice's spare places count too). A statement '..UptoSaid' is the law's where the arguments, and the package variables that the reading takes, are together of bulk at most 1048576: NARROWER than '..Said'. Prove '..Said' where nothing that the law and all that it calls make is longer than what came in: it says more and counts as full. Else prove '..UptoSaid'. A law counts once. -/
mutual
def uptoBulk {H : Type} : DataW H → Nat
  | .lit (.string bytes) => bytes.length + 1
  | .lit _ => 1
  | .nil => 1
  | .ptr d => uptoBulk d + 1
  | .slice elems spare => uptoBulkAll elems + uptoBulkAll spare + 1
  | .agg parts => uptoBulkAll parts + 1
  | .iface _ d => uptoBulk d + 1
  | .map entries => uptoBulkEntries entries + 1
  | .held _ => 1
def uptoBulkAll {H : Type} : List (DataW H) → Nat
  | [] => 0
  | d :: r => uptoBulk d + uptoBulkAll r
def uptoBulkEntries {H : Type} : List (Lit × DataW H) → Nat
  | [] => 0
  | x :: r => uptoBulkEntry x + uptoBulkEntries r
def uptoBulkEntry {H : Type} : Lit × DataW H → Nat
  | (.string bytes, d) => bytes.length + uptoBulk d + 1
  | (_, d) => uptoBulk d + 1
 end
def uptoSmall : (H : Type) → List (DataW H) → Bool := fun _ ds => decide (uptoBulkAll ds ≤ 1048576)
def OpenSpec.upto (s : _root_.Go.ChangeSpec) : _root_.Go.OpenSpec := { _root_.Go.OpenSpec.ofChange s with cond := some uptoSmall }

/-- 'matchguardlaw06.LexerScans', WHERE WHAT IT READS IS OF BULK AT MOST 1048576: true; the input reads as it did. -/
def lexerScansUptoRow : OpenClaim := { program := "ytnhghceobhdaoaa", sum := "753e9717ca00b9b42e704ee3ed8c5a1800d718cd12920360f1e151ea80fe3595", func := "matchguard/matchguardlaw06.LexerScans", spec := "lexerScans", inPlace := ["math/bits.Add64"], apart := false, narrowed := true }
def LexerScansUptoSaid : Prop := lexerScansUptoRow.holds Try.pinned (OpenSpec.upto lexerScansSpec)

/-- 'matchguardlaw06.LexerPlaces', WHERE WHAT IT READS IS OF BULK AT MOST 1048576: true; the input reads as it did. -/
def lexerPlacesUptoRow : OpenClaim := { program := "ytnhghceobhdaoaa", sum := "753e9717ca00b9b42e704ee3ed8c5a1800d718cd12920360f1e151ea80fe3595", func := "matchguard/matchguardlaw06.LexerPlaces", spec := "lexerPlaces", inPlace := ["math/bits.Add64"], apart := false, narrowed := true }
def LexerPlacesUptoSaid : Prop := lexerPlacesUptoRow.holds Try.pinned (OpenSpec.upto lexerPlacesSpec)

/-- 'matchguardlaw06.LexerLimits', WHERE WHAT IT READS IS OF BULK AT MOST 1048576: true; the input reads as it did. -/
def lexerLimitsUptoRow : OpenClaim := { program := "ytnhghceobhdaoaa", sum := "753e9717ca00b9b42e704ee3ed8c5a1800d718cd12920360f1e151ea80fe3595", func := "matchguard/matchguardlaw06.LexerLimits", spec := "lexerLimits", inPlace := ["math/bits.Add64"], apart := false, narrowed := true }
def LexerLimitsUptoSaid : Prop := lexerLimitsUptoRow.holds Try.pinned (OpenSpec.upto lexerLimitsSpec)

/-- 'matchguardlaw06.LexerJoins', WHERE WHAT IT READS IS OF BULK AT MOST 1048576: true; the input reads as it did. -/
def lexerJoinsUptoRow : OpenClaim := { program := "ytnhghceobhdaoaa", sum := "753e9717ca00b9b42e704ee3ed8c5a1800d718cd12920360f1e151ea80fe3595", func := "matchguard/matchguardlaw06.LexerJoins", spec := "lexerJoins", inPlace := ["math/bits.Add64", "internal/abi.NoEscape", "internal/bytealg.MakeNoZero"], apart := false, narrowed := true }
def LexerJoinsUptoSaid : Prop := lexerJoinsUptoRow.holds Try.pinned (OpenSpec.upto lexerJoinsSpec)

/-- 'matchguardlaw02.WireNear', WHERE WHAT IT READS IS OF BULK AT MOST 1048576: true; the input reads as it did. -/
def wireNearUptoRow : OpenClaim := { program := "ytnhghceobhdaoaa", sum := "753e9717ca00b9b42e704ee3ed8c5a1800d718cd12920360f1e151ea80fe3595", func := "matchguard/matchguardlaw02.WireNear", spec := "wireNear", unfollowed := true, recurses := true, apart := false, narrowed := true }
def WireNearUptoSaid : Prop := wireNearUptoRow.holds Try.pinned (OpenSpec.upto wireNearSpec)

/-- 'matchguardlaw07.SyntaxParses', WHERE WHAT IT READS IS OF BULK AT MOST 1048576: true; the input reads as it did. -/
def syntaxParsesUptoRow : OpenClaim := { program := "ytnhghceobhdaoaa", sum := "753e9717ca00b9b42e704ee3ed8c5a1800d718cd12920360f1e151ea80fe3595", func := "matchguard/matchguardlaw07.SyntaxParses", spec := "syntaxParses", inPlace := ["math/bits.Add64"], unfollowed := true, recurses := true, apart := false, narrowed := true }
def SyntaxParsesUptoSaid : Prop := syntaxParsesUptoRow.holds Try.pinned (OpenSpec.upto syntaxParsesSpec)

/-- 'matchguardlaw07.SyntaxLimits', WHERE WHAT IT READS IS OF BULK AT MOST 1048576: true; the input reads as it did. -/
def syntaxLimitsUptoRow : OpenClaim := { program := "ytnhghceobhdaoaa", sum := "753e9717ca00b9b42e704ee3ed8c5a1800d718cd12920360f1e151ea80fe3595", func := "matchguard/matchguardlaw07.SyntaxLimits", spec := "syntaxLimits", inPlace := ["math/bits.Add64"], unfollowed := true, recurses := true, apart := false, narrowed := true }
def SyntaxLimitsUptoSaid : Prop := syntaxLimitsUptoRow.holds Try.pinned (OpenSpec.upto syntaxLimitsSpec)

/-- 'matchguardlaw07.SyntaxParentheses', WHERE WHAT IT READS IS OF BULK AT MOST 1048576: true; the input reads as it did. -/
def syntaxParenthesesUptoRow : OpenClaim := { program := "ytnhghceobhdaoaa", sum := "753e9717ca00b9b42e704ee3ed8c5a1800d718cd12920360f1e151ea80fe3595", func := "matchguard/matchguardlaw07.SyntaxParentheses", spec := "syntaxParentheses", inPlace := ["math/bits.Add64"], unfollowed := true, recurses := true, apart := false, narrowed := true }
def SyntaxParenthesesUptoSaid : Prop := syntaxParenthesesUptoRow.holds Try.pinned (OpenSpec.upto syntaxParenthesesSpec)

/-- 'matchguardlaw07.SyntaxSame', WHERE WHAT IT READS IS OF BULK AT MOST 1048576: true; the input reads as it did. -/
def syntaxSameUptoRow : OpenClaim := { program := "ytnhghceobhdaoaa", sum := "753e9717ca00b9b42e704ee3ed8c5a1800d718cd12920360f1e151ea80fe3595", func := "matchguard/matchguardlaw07.SyntaxSame", spec := "syntaxSame", inPlace := ["math/bits.Add64"], unfollowed := true, recurses := true, apart := false, narrowed := true }
def SyntaxSameUptoSaid : Prop := syntaxSameUptoRow.holds Try.pinned (OpenSpec.upto syntaxSameSpec)

end Rows
end Go.Proofs.Ytnhghceobhdaoaa
