/-
  No cell of these rows narrows 'for every input' (looked for: loops, veiled, ifaces, maps, wideKeys, modest, calm, conditions, laid).
  DERIVED. THE GIVEN ROWS OF THIS SEAT. 4 by the template 'for every input the law returns true; each argument reads behind the call as it read before'; 0 by the template 'total and deterministic' (their statements: YtiiiljghmilepaaTotals.lean).
  GIVEN WITH THE SEED: the statements are not yours to turn. If you find one false, say at which input.
  Laid BY PROGRAM, IN A SANDBOX (cutbox-rows.mjs): the forced cells as the released guide's own fill.sh prints them over the translation 555f8fdf6efac43f… (all of the seat's roots in one cut). By AI agents, Wed Nov 11 2026. No macro, syntax, notation, axiom, sorry.
-/
import Derived.Test.YtiiiljghmilepaaChecked
import GoSem.Claim
import GoSem.ClaimJoined
import GoSem.ClaimMapViews
import Derived.JoinedTies
import Derived.KernelRfl
namespace Go.Proofs.Ytiiiljghmilepaa
/- THE CELL 'sum', in the pinned program and in every row, IS THE sha256 OF THE DUMP (.gsa) THAT YtiiiljghmilepaaProg.lean LOADS. Nothing in Lean hashes anything: it is a label: what it is worth is what the hold of that sum in a sandbox is worth. -/
noncomputable def Try.pinned : Pinned := { name := "ytiiiljghmilepaa", sum := "555f8fdf6efac43fdfef72fe5da7a9f107fde9a9f10223a634e4623262f8c038", checked := Try.checked }
namespace Rows
def none {H : Type} : Left H := { results := [], args := [] }

/-- 'matchguardlaw08.TypesChecks': WHATEVER THE INPUT: true; the input reads as it did. -/
def typesChecksSpec : ChangeSpec := { name := "typesChecks", fn := fun _ => fun
  | [d1, d2, d3] => { results := [.lit (.bool true)], args := [d1, d2, d3] }
  | _ => none }
def typesChecksRow : OpenClaim := { program := "ytiiiljghmilepaa", sum := "555f8fdf6efac43fdfef72fe5da7a9f107fde9a9f10223a634e4623262f8c038", func := "matchguard/matchguardlaw08.TypesChecks", spec := "typesChecks", inPlace := ["math/bits.Add64"], unfollowed := true, recurses := true, plainKeys := false, apart := false }
def TypesChecksSaid : Prop := typesChecksRow.holds Try.pinned (OpenSpec.ofChange typesChecksSpec)

/-- ITS FALSE NEIGHBOUR: 'it returns false'. Refute it at one input. -/
def typesChecksWrong : ChangeSpec := { name := "typesChecks", fn := fun _ => fun
  | [d1, d2, d3] => { results := [.lit (.bool false)], args := [d1, d2, d3] }
  | _ => none }
def TypesChecksWrongFalsely : Prop := typesChecksRow.holds Try.pinned (OpenSpec.ofChange typesChecksWrong)

/-- 'matchguardlaw08.TypesCompiles': WHATEVER THE INPUT: true; the input reads as it did. -/
def typesCompilesSpec : ChangeSpec := { name := "typesCompiles", fn := fun _ => fun
  | [d1, d2, d3, d4] => { results := [.lit (.bool true)], args := [d1, d2, d3, d4] }
  | _ => none }
def typesCompilesRow : OpenClaim := { program := "ytiiiljghmilepaa", sum := "555f8fdf6efac43fdfef72fe5da7a9f107fde9a9f10223a634e4623262f8c038", func := "matchguard/matchguardlaw08.TypesCompiles", spec := "typesCompiles", inPlace := ["math/bits.Add64"], unfollowed := true, recurses := true, plainKeys := false, apart := false }
def TypesCompilesSaid : Prop := typesCompilesRow.holds Try.pinned (OpenSpec.ofChange typesCompilesSpec)

/-- ITS FALSE NEIGHBOUR: 'it returns false'. Refute it at one input. -/
def typesCompilesWrong : ChangeSpec := { name := "typesCompiles", fn := fun _ => fun
  | [d1, d2, d3, d4] => { results := [.lit (.bool false)], args := [d1, d2, d3, d4] }
  | _ => none }
def TypesCompilesWrongFalsely : Prop := typesCompilesRow.holds Try.pinned (OpenSpec.ofChange typesCompilesWrong)

/-- 'matchguardlaw08.TypesOrder': WHATEVER THE INPUT: true; the input reads as it did. -/
def typesOrderSpec : ChangeSpec := { name := "typesOrder", fn := fun _ => fun
  | [d1, d2, d3] => { results := [.lit (.bool true)], args := [d1, d2, d3] }
  | _ => none }
def typesOrderRow : OpenClaim := { program := "ytiiiljghmilepaa", sum := "555f8fdf6efac43fdfef72fe5da7a9f107fde9a9f10223a634e4623262f8c038", func := "matchguard/matchguardlaw08.TypesOrder", spec := "typesOrder", inPlace := ["math/bits.Add64"], unfollowed := true, recurses := true, plainKeys := false, apart := false }
def TypesOrderSaid : Prop := typesOrderRow.holds Try.pinned (OpenSpec.ofChange typesOrderSpec)

/-- ITS FALSE NEIGHBOUR: 'it returns false'. Refute it at one input. -/
def typesOrderWrong : ChangeSpec := { name := "typesOrder", fn := fun _ => fun
  | [d1, d2, d3] => { results := [.lit (.bool false)], args := [d1, d2, d3] }
  | _ => none }
def TypesOrderWrongFalsely : Prop := typesOrderRow.holds Try.pinned (OpenSpec.ofChange typesOrderWrong)

/-- 'matchguardlaw08.TypesVars': WHATEVER THE INPUT: true; the input reads as it did. -/
def typesVarsSpec : ChangeSpec := { name := "typesVars", fn := fun _ => fun
  | [d1, d2, d3] => { results := [.lit (.bool true)], args := [d1, d2, d3] }
  | _ => none }
def typesVarsRow : OpenClaim := { program := "ytiiiljghmilepaa", sum := "555f8fdf6efac43fdfef72fe5da7a9f107fde9a9f10223a634e4623262f8c038", func := "matchguard/matchguardlaw08.TypesVars", spec := "typesVars", inPlace := ["math/bits.Add64"], unfollowed := true, recurses := true, plainKeys := false, apart := false }
def TypesVarsSaid : Prop := typesVarsRow.holds Try.pinned (OpenSpec.ofChange typesVarsSpec)

/-- ITS FALSE NEIGHBOUR: 'it returns false'. Refute it at one input. -/
def typesVarsWrong : ChangeSpec := { name := "typesVars", fn := fun _ => fun
  | [d1, d2, d3] => { results := [.lit (.bool false)], args := [d1, d2, d3] }
  | _ => none }
def TypesVarsWrongFalsely : Prop := typesVarsRow.holds Try.pinned (OpenSpec.ofChange typesVarsWrong)

/- THE SECOND FORM. 'bulk': how many values and letters a reading holds, each counted each time it is reached (what is shared counts as often as it is met; a slice's spare places count too). A statement '..UptoSaid' is the law's where the arguments, and the package variables that the reading takes, are together of bulk at most 1048576: NARROWER than '..Said'. Prove '..Said' where nothing that the law and all that it calls make is longer than what came in: it says more and counts as full. Else prove '..UptoSaid'. A law counts once. -/
mutual
def uptoBulk {H : Type} : DataW H → Nat
  | .lit (.string bytes) => bytes.length + 1
  | .lit _ => 1
  | .nil => 1
  | .ptr d => uptoBulk d + 1
  | .slice elems spare => uptoBulkAll elems + uptoBulkAll spare + 1
  | .agg parts => uptoBulkAll parts + 1
  | .iface _ d => uptoBulk d + 1
  | .map entries => uptoBulkEntries entries + 1
  | .held _ => 1
def uptoBulkAll {H : Type} : List (DataW H) → Nat
  | [] => 0
  | d :: r => uptoBulk d + uptoBulkAll r
def uptoBulkEntries {H : Type} : List (Lit × DataW H) → Nat
  | [] => 0
  | x :: r => uptoBulkEntry x + uptoBulkEntries r
def uptoBulkEntry {H : Type} : Lit × DataW H → Nat
  | (.string bytes, d) => bytes.length + uptoBulk d + 1
  | (_, d) => uptoBulk d + 1
 end
def uptoSmall : (H : Type) → List (DataW H) → Bool := fun _ ds => decide (uptoBulkAll ds ≤ 1048576)
def OpenSpec.upto (s : _root_.Go.ChangeSpec) : _root_.Go.OpenSpec := { _root_.Go.OpenSpec.ofChange s with cond := some uptoSmall }

/-- 'matchguardlaw08.TypesChecks', WHERE WHAT IT READS IS OF BULK AT MOST 1048576: true; the input reads as it did. -/
def typesChecksUptoRow : OpenClaim := { program := "ytiiiljghmilepaa", sum := "555f8fdf6efac43fdfef72fe5da7a9f107fde9a9f10223a634e4623262f8c038", func := "matchguard/matchguardlaw08.TypesChecks", spec := "typesChecks", inPlace := ["math/bits.Add64"], unfollowed := true, recurses := true, plainKeys := false, apart := false, narrowed := true }
def TypesChecksUptoSaid : Prop := typesChecksUptoRow.holds Try.pinned (OpenSpec.upto typesChecksSpec)

/-- 'matchguardlaw08.TypesCompiles', WHERE WHAT IT READS IS OF BULK AT MOST 1048576: true; the input reads as it did. -/
def typesCompilesUptoRow : OpenClaim := { program := "ytiiiljghmilepaa", sum := "555f8fdf6efac43fdfef72fe5da7a9f107fde9a9f10223a634e4623262f8c038", func := "matchguard/matchguardlaw08.TypesCompiles", spec := "typesCompiles", inPlace := ["math/bits.Add64"], unfollowed := true, recurses := true, plainKeys := false, apart := false, narrowed := true }
def TypesCompilesUptoSaid : Prop := typesCompilesUptoRow.holds Try.pinned (OpenSpec.upto typesCompilesSpec)

/-- 'matchguardlaw08.TypesOrder', WHERE WHAT IT READS IS OF BULK AT MOST 1048576: true; the input reads as it did. -/
def typesOrderUptoRow : OpenClaim := { program := "ytiiiljghmilepaa", sum := "555f8fdf6efac43fdfef72fe5da7a9f107fde9a9f10223a634e4623262f8c038", func := "matchguard/matchguardlaw08.TypesOrder", spec := "typesOrder", inPlace := ["math/bits.Add64"], unfollowed := true, recurses := true, plainKeys := false, apart := false, narrowed := true }
def TypesOrderUptoSaid : Prop := typesOrderUptoRow.holds Try.pinned (OpenSpec.upto typesOrderSpec)

/-- 'matchguardlaw08.TypesVars', WHERE WHAT IT READS IS OF BULK AT MOST 1048576: true; the input reads as it did. -/
def typesVarsUptoRow : OpenClaim := { program := "ytiiiljghmilepaa", sum := "555f8fdf6efac43fdfef72fe5da7a9f107fde9a9f10223a634e4623262f8c038", func := "matchguard/matchguardlaw08.TypesVars", spec := "typesVars", inPlace := ["math/bits.Add64"], unfollowed := true, recurses := true, plainKeys := false, apart := false, narrowed := true }
def TypesVarsUptoSaid : Prop := typesVarsUptoRow.holds Try.pinned (OpenSpec.upto typesVarsSpec)

end Rows
end Go.Proofs.Ytiiiljghmilepaa
