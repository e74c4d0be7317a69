/-
  No cell of these rows narrows 'for every input' (looked for: loops, veiled, ifaces, maps, wideKeys, modest, calm, conditions, laid).
  DERIVED. THE GIVEN ROWS OF THIS SEAT. 9 by the template 'for every input the law returns true; each argument reads behind the call as it read before'; 0 by the template 'total and deterministic' (their statements: YtgihhefckdgeoaaTotals.lean).
  GIVEN WITH THE SEED: the statements are not yours to turn. If you find one false, say at which input.
  Laid BY PROGRAM, IN A SANDBOX (cutbox-rows.mjs): the forced cells as the released guide's own fill.sh prints them over the translation a74949f4af04cb42… (all of the seat's roots in one cut). By AI agents, Wed Nov 11 2026. No macro, syntax, notation, axiom, sorry.
-/
import Derived.Test.YtgihhefckdgeoaaChecked
import GoSem.Claim
import GoSem.ClaimJoined
import GoSem.ClaimMapViews
import Derived.JoinedTies
import Derived.KernelRfl
namespace Go.Proofs.Ytgihhefckdgeoaa
/- THE CELL 'sum', in the pinned program and in every row, IS THE sha256 OF THE DUMP (.gsa) THAT YtgihhefckdgeoaaProg.lean LOADS. Nothing in Lean hashes anything: it is a label: what it is worth is what the hold of that sum in a sandbox is worth. -/
noncomputable def Try.pinned : Pinned := { name := "ytgihhefckdgeoaa", sum := "a74949f4af04cb424f7401e9f4449481bc0e99a5d2752b815058949884790cd7", checked := Try.checked }
namespace Rows
def none {H : Type} : Left H := { results := [], args := [] }

/-- 'matchguardlaw10.EntryCubes': WHATEVER THE INPUT: true; the input reads as it did. -/
def entryCubesSpec : ChangeSpec := { name := "entryCubes", fn := fun _ => fun
  | [d1, d2, d3, d4] => { results := [.lit (.bool true)], args := [d1, d2, d3, d4] }
  | _ => none }
def entryCubesRow : OpenClaim := { program := "ytgihhefckdgeoaa", sum := "a74949f4af04cb424f7401e9f4449481bc0e99a5d2752b815058949884790cd7", func := "matchguard/matchguardlaw10.EntryCubes", spec := "entryCubes", unfollowed := true, recurses := true, plainKeys := false, apart := false }
def EntryCubesSaid : Prop := entryCubesRow.holds Try.pinned (OpenSpec.ofChange entryCubesSpec)

/-- ITS FALSE NEIGHBOUR: 'it returns false'. Refute it at one input. -/
def entryCubesWrong : ChangeSpec := { name := "entryCubes", fn := fun _ => fun
  | [d1, d2, d3, d4] => { results := [.lit (.bool false)], args := [d1, d2, d3, d4] }
  | _ => none }
def EntryCubesWrongFalsely : Prop := entryCubesRow.holds Try.pinned (OpenSpec.ofChange entryCubesWrong)

/-- 'matchguardlaw10.EntryCovers': WHATEVER THE INPUT: true; the input reads as it did. -/
def entryCoversSpec : ChangeSpec := { name := "entryCovers", fn := fun _ => fun
  | [d1, d2, d3, d4, d5, d6, d7, d8] => { results := [.lit (.bool true)], args := [d1, d2, d3, d4, d5, d6, d7, d8] }
  | _ => none }
def entryCoversRow : OpenClaim := { program := "ytgihhefckdgeoaa", sum := "a74949f4af04cb424f7401e9f4449481bc0e99a5d2752b815058949884790cd7", func := "matchguard/matchguardlaw10.EntryCovers", spec := "entryCovers", unfollowed := true, recurses := true, plainKeys := false, apart := false }
def EntryCoversSaid : Prop := entryCoversRow.holds Try.pinned (OpenSpec.ofChange entryCoversSpec)

/-- ITS FALSE NEIGHBOUR: 'it returns false'. Refute it at one input. -/
def entryCoversWrong : ChangeSpec := { name := "entryCovers", fn := fun _ => fun
  | [d1, d2, d3, d4, d5, d6, d7, d8] => { results := [.lit (.bool false)], args := [d1, d2, d3, d4, d5, d6, d7, d8] }
  | _ => none }
def EntryCoversWrongFalsely : Prop := entryCoversRow.holds Try.pinned (OpenSpec.ofChange entryCoversWrong)

/-- 'matchguardlaw10.EntryBeats': WHATEVER THE INPUT: true; the input reads as it did. -/
def entryBeatsSpec : ChangeSpec := { name := "entryBeats", fn := fun _ => fun
  | [d1, d2, d3, d4, d5, d6] => { results := [.lit (.bool true)], args := [d1, d2, d3, d4, d5, d6] }
  | _ => none }
def entryBeatsRow : OpenClaim := { program := "ytgihhefckdgeoaa", sum := "a74949f4af04cb424f7401e9f4449481bc0e99a5d2752b815058949884790cd7", func := "matchguard/matchguardlaw10.EntryBeats", spec := "entryBeats", unfollowed := true, recurses := true, plainKeys := false, apart := false }
def EntryBeatsSaid : Prop := entryBeatsRow.holds Try.pinned (OpenSpec.ofChange entryBeatsSpec)

/-- ITS FALSE NEIGHBOUR: 'it returns false'. Refute it at one input. -/
def entryBeatsWrong : ChangeSpec := { name := "entryBeats", fn := fun _ => fun
  | [d1, d2, d3, d4, d5, d6] => { results := [.lit (.bool false)], args := [d1, d2, d3, d4, d5, d6] }
  | _ => none }
def EntryBeatsWrongFalsely : Prop := entryBeatsRow.holds Try.pinned (OpenSpec.ofChange entryBeatsWrong)

/-- 'matchguardlaw10.EntryOrders': WHATEVER THE INPUT: true; the input reads as it did. -/
def entryOrdersSpec : ChangeSpec := { name := "entryOrders", fn := fun _ => fun
  | [d1, d2, d3, d4, d5, d6] => { results := [.lit (.bool true)], args := [d1, d2, d3, d4, d5, d6] }
  | _ => none }
def entryOrdersRow : OpenClaim := { program := "ytgihhefckdgeoaa", sum := "a74949f4af04cb424f7401e9f4449481bc0e99a5d2752b815058949884790cd7", func := "matchguard/matchguardlaw10.EntryOrders", spec := "entryOrders", unfollowed := true, recurses := true, plainKeys := false, apart := false }
def EntryOrdersSaid : Prop := entryOrdersRow.holds Try.pinned (OpenSpec.ofChange entryOrdersSpec)

/-- ITS FALSE NEIGHBOUR: 'it returns false'. Refute it at one input. -/
def entryOrdersWrong : ChangeSpec := { name := "entryOrders", fn := fun _ => fun
  | [d1, d2, d3, d4, d5, d6] => { results := [.lit (.bool false)], args := [d1, d2, d3, d4, d5, d6] }
  | _ => none }
def EntryOrdersWrongFalsely : Prop := entryOrdersRow.holds Try.pinned (OpenSpec.ofChange entryOrdersWrong)

/-- 'matchguardlaw10.EntryCodes': WHATEVER THE INPUT: true; the input reads as it did. -/
def entryCodesSpec : ChangeSpec := { name := "entryCodes", fn := fun _ => fun
  | [d1, d2, d3, d4, d5, d6] => { results := [.lit (.bool true)], args := [d1, d2, d3, d4, d5, d6] }
  | _ => none }
def entryCodesRow : OpenClaim := { program := "ytgihhefckdgeoaa", sum := "a74949f4af04cb424f7401e9f4449481bc0e99a5d2752b815058949884790cd7", func := "matchguard/matchguardlaw10.EntryCodes", spec := "entryCodes", unfollowed := true, recurses := true, plainKeys := false, apart := false }
def EntryCodesSaid : Prop := entryCodesRow.holds Try.pinned (OpenSpec.ofChange entryCodesSpec)

/-- ITS FALSE NEIGHBOUR: 'it returns false'. Refute it at one input. -/
def entryCodesWrong : ChangeSpec := { name := "entryCodes", fn := fun _ => fun
  | [d1, d2, d3, d4, d5, d6] => { results := [.lit (.bool false)], args := [d1, d2, d3, d4, d5, d6] }
  | _ => none }
def EntryCodesWrongFalsely : Prop := entryCodesRow.holds Try.pinned (OpenSpec.ofChange entryCodesWrong)

/-- 'matchguardlaw08.TypesChecks': WHATEVER THE INPUT: true; the input reads as it did. -/
def typesChecksSpec : ChangeSpec := { name := "typesChecks", fn := fun _ => fun
  | [d1, d2, d3] => { results := [.lit (.bool true)], args := [d1, d2, d3] }
  | _ => none }
def typesChecksRow : OpenClaim := { program := "ytgihhefckdgeoaa", sum := "a74949f4af04cb424f7401e9f4449481bc0e99a5d2752b815058949884790cd7", func := "matchguard/matchguardlaw08.TypesChecks", spec := "typesChecks", inPlace := ["math/bits.Add64"], unfollowed := true, recurses := true, plainKeys := false, apart := false }
def TypesChecksSaid : Prop := typesChecksRow.holds Try.pinned (OpenSpec.ofChange typesChecksSpec)

/-- ITS FALSE NEIGHBOUR: 'it returns false'. Refute it at one input. -/
def typesChecksWrong : ChangeSpec := { name := "typesChecks", fn := fun _ => fun
  | [d1, d2, d3] => { results := [.lit (.bool false)], args := [d1, d2, d3] }
  | _ => none }
def TypesChecksWrongFalsely : Prop := typesChecksRow.holds Try.pinned (OpenSpec.ofChange typesChecksWrong)

/-- 'matchguardlaw08.TypesCompiles': WHATEVER THE INPUT: true; the input reads as it did. -/
def typesCompilesSpec : ChangeSpec := { name := "typesCompiles", fn := fun _ => fun
  | [d1, d2, d3, d4] => { results := [.lit (.bool true)], args := [d1, d2, d3, d4] }
  | _ => none }
def typesCompilesRow : OpenClaim := { program := "ytgihhefckdgeoaa", sum := "a74949f4af04cb424f7401e9f4449481bc0e99a5d2752b815058949884790cd7", func := "matchguard/matchguardlaw08.TypesCompiles", spec := "typesCompiles", inPlace := ["math/bits.Add64"], unfollowed := true, recurses := true, plainKeys := false, apart := false }
def TypesCompilesSaid : Prop := typesCompilesRow.holds Try.pinned (OpenSpec.ofChange typesCompilesSpec)

/-- ITS FALSE NEIGHBOUR: 'it returns false'. Refute it at one input. -/
def typesCompilesWrong : ChangeSpec := { name := "typesCompiles", fn := fun _ => fun
  | [d1, d2, d3, d4] => { results := [.lit (.bool false)], args := [d1, d2, d3, d4] }
  | _ => none }
def TypesCompilesWrongFalsely : Prop := typesCompilesRow.holds Try.pinned (OpenSpec.ofChange typesCompilesWrong)

/-- 'matchguardlaw08.TypesOrder': WHATEVER THE INPUT: true; the input reads as it did. -/
def typesOrderSpec : ChangeSpec := { name := "typesOrder", fn := fun _ => fun
  | [d1, d2, d3] => { results := [.lit (.bool true)], args := [d1, d2, d3] }
  | _ => none }
def typesOrderRow : OpenClaim := { program := "ytgihhefckdgeoaa", sum := "a74949f4af04cb424f7401e9f4449481bc0e99a5d2752b815058949884790cd7", func := "matchguard/matchguardlaw08.TypesOrder", spec := "typesOrder", inPlace := ["math/bits.Add64"], unfollowed := true, recurses := true, plainKeys := false, apart := false }
def TypesOrderSaid : Prop := typesOrderRow.holds Try.pinned (OpenSpec.ofChange typesOrderSpec)

/-- ITS FALSE NEIGHBOUR: 'it returns false'. Refute it at one input. -/
def typesOrderWrong : ChangeSpec := { name := "typesOrder", fn := fun _ => fun
  | [d1, d2, d3] => { results := [.lit (.bool false)], args := [d1, d2, d3] }
  | _ => none }
def TypesOrderWrongFalsely : Prop := typesOrderRow.holds Try.pinned (OpenSpec.ofChange typesOrderWrong)

/-- 'matchguardlaw08.TypesVars': WHATEVER THE INPUT: true; the input reads as it did. -/
def typesVarsSpec : ChangeSpec := { name := "typesVars", fn := fun _ => fun
  | [d1, d2, d3] => { results := [.lit (.bool true)], args := [d1, d2, d3] }
  | _ => none }
def typesVarsRow : OpenClaim := { program := "ytgihhefckdgeoaa", sum := "a74949f4af04cb424f7401e9f4449481bc0e99a5d2752b815058949884790cd7", func := "matchguard/matchguardlaw08.TypesVars", spec := "typesVars", inPlace := ["math/bits.Add64"], unfollowed := true, recurses := true, plainKeys := false, apart := false }
def TypesVarsSaid : Prop := typesVarsRow.holds Try.pinned (OpenSpec.ofChange typesVarsSpec)

/-- ITS FALSE NEIGHBOUR: 'it returns false'. Refute it at one input. -/
def typesVarsWrong : ChangeSpec := { name := "typesVars", fn := fun _ => fun
  | [d1, d2, d3] => { results := [.lit (.bool false)], args := [d1, d2, d3] }
  | _ => none }
def TypesVarsWrongFalsely : Prop := typesVarsRow.holds Try.pinned (OpenSpec.ofChange typesVarsWrong)

/- THE SECOND FORM. 'bulk': how many values and letters a reading holds, each counted each time it is reached (what is shared counts as often as it is met; a slice's spare places count too). A statement '..UptoSaid' is the law's where the arguments, and the package variables that the reading takes, are together of bulk at most 1048576: NARROWER than '..Said'. Prove '..Said' where nothing that the law and all that it calls make is longer than what came in: it says more and counts as full. Else prove '..UptoSaid'. A law counts once. -/
mutual
def uptoBulk {H : Type} : DataW H → Nat
  | .lit (.string bytes) => bytes.length + 1
  | .lit _ => 1
  | .nil => 1
  | .ptr d => uptoBulk d + 1
  | .slice elems spare => uptoBulkAll elems + uptoBulkAll spare + 1
  | .agg parts => uptoBulkAll parts + 1
  | .iface _ d => uptoBulk d + 1
  | .map entries => uptoBulkEntries entries + 1
  | .held _ => 1
def uptoBulkAll {H : Type} : List (DataW H) → Nat
  | [] => 0
  | d :: r => uptoBulk d + uptoBulkAll r
def uptoBulkEntries {H : Type} : List (Lit × DataW H) → Nat
  | [] => 0
  | x :: r => uptoBulkEntry x + uptoBulkEntries r
def uptoBulkEntry {H : Type} : Lit × DataW H → Nat
  | (.string bytes, d) => bytes.length + uptoBulk d + 1
  | (_, d) => uptoBulk d + 1
 end
def uptoSmall : (H : Type) → List (DataW H) → Bool := fun _ ds => decide (uptoBulkAll ds ≤ 1048576)
def OpenSpec.upto (s : _root_.Go.ChangeSpec) : _root_.Go.OpenSpec := { _root_.Go.OpenSpec.ofChange s with cond := some uptoSmall }

/-- 'matchguardlaw10.EntryCubes', WHERE WHAT IT READS IS OF BULK AT MOST 1048576: true; the input reads as it did. -/
def entryCubesUptoRow : OpenClaim := { program := "ytgihhefckdgeoaa", sum := "a74949f4af04cb424f7401e9f4449481bc0e99a5d2752b815058949884790cd7", func := "matchguard/matchguardlaw10.EntryCubes", spec := "entryCubes", unfollowed := true, recurses := true, plainKeys := false, apart := false, narrowed := true }
def EntryCubesUptoSaid : Prop := entryCubesUptoRow.holds Try.pinned (OpenSpec.upto entryCubesSpec)

/-- 'matchguardlaw10.EntryCovers', WHERE WHAT IT READS IS OF BULK AT MOST 1048576: true; the input reads as it did. -/
def entryCoversUptoRow : OpenClaim := { program := "ytgihhefckdgeoaa", sum := "a74949f4af04cb424f7401e9f4449481bc0e99a5d2752b815058949884790cd7", func := "matchguard/matchguardlaw10.EntryCovers", spec := "entryCovers", unfollowed := true, recurses := true, plainKeys := false, apart := false, narrowed := true }
def EntryCoversUptoSaid : Prop := entryCoversUptoRow.holds Try.pinned (OpenSpec.upto entryCoversSpec)

/-- 'matchguardlaw10.EntryBeats', WHERE WHAT IT READS IS OF BULK AT MOST 1048576: true; the input reads as it did. -/
def entryBeatsUptoRow : OpenClaim := { program := "ytgihhefckdgeoaa", sum := "a74949f4af04cb424f7401e9f4449481bc0e99a5d2752b815058949884790cd7", func := "matchguard/matchguardlaw10.EntryBeats", spec := "entryBeats", unfollowed := true, recurses := true, plainKeys := false, apart := false, narrowed := true }
def EntryBeatsUptoSaid : Prop := entryBeatsUptoRow.holds Try.pinned (OpenSpec.upto entryBeatsSpec)

/-- 'matchguardlaw10.EntryOrders', WHERE WHAT IT READS IS OF BULK AT MOST 1048576: true; the input reads as it did. -/
def entryOrdersUptoRow : OpenClaim := { program := "ytgihhefckdgeoaa", sum := "a74949f4af04cb424f7401e9f4449481bc0e99a5d2752b815058949884790cd7", func := "matchguard/matchguardlaw10.EntryOrders", spec := "entryOrders", unfollowed := true, recurses := true, plainKeys := false, apart := false, narrowed := true }
def EntryOrdersUptoSaid : Prop := entryOrdersUptoRow.holds Try.pinned (OpenSpec.upto entryOrdersSpec)

/-- 'matchguardlaw10.EntryCodes', WHERE WHAT IT READS IS OF BULK AT MOST 1048576: true; the input reads as it did. -/
def entryCodesUptoRow : OpenClaim := { program := "ytgihhefckdgeoaa", sum := "a74949f4af04cb424f7401e9f4449481bc0e99a5d2752b815058949884790cd7", func := "matchguard/matchguardlaw10.EntryCodes", spec := "entryCodes", unfollowed := true, recurses := true, plainKeys := false, apart := false, narrowed := true }
def EntryCodesUptoSaid : Prop := entryCodesUptoRow.holds Try.pinned (OpenSpec.upto entryCodesSpec)

/-- 'matchguardlaw08.TypesChecks', WHERE WHAT IT READS IS OF BULK AT MOST 1048576: true; the input reads as it did. -/
def typesChecksUptoRow : OpenClaim := { program := "ytgihhefckdgeoaa", sum := "a74949f4af04cb424f7401e9f4449481bc0e99a5d2752b815058949884790cd7", func := "matchguard/matchguardlaw08.TypesChecks", spec := "typesChecks", inPlace := ["math/bits.Add64"], unfollowed := true, recurses := true, plainKeys := false, apart := false, narrowed := true }
def TypesChecksUptoSaid : Prop := typesChecksUptoRow.holds Try.pinned (OpenSpec.upto typesChecksSpec)

/-- 'matchguardlaw08.TypesCompiles', WHERE WHAT IT READS IS OF BULK AT MOST 1048576: true; the input reads as it did. -/
def typesCompilesUptoRow : OpenClaim := { program := "ytgihhefckdgeoaa", sum := "a74949f4af04cb424f7401e9f4449481bc0e99a5d2752b815058949884790cd7", func := "matchguard/matchguardlaw08.TypesCompiles", spec := "typesCompiles", inPlace := ["math/bits.Add64"], unfollowed := true, recurses := true, plainKeys := false, apart := false, narrowed := true }
def TypesCompilesUptoSaid : Prop := typesCompilesUptoRow.holds Try.pinned (OpenSpec.upto typesCompilesSpec)

/-- 'matchguardlaw08.TypesOrder', WHERE WHAT IT READS IS OF BULK AT MOST 1048576: true; the input reads as it did. -/
def typesOrderUptoRow : OpenClaim := { program := "ytgihhefckdgeoaa", sum := "a74949f4af04cb424f7401e9f4449481bc0e99a5d2752b815058949884790cd7", func := "matchguard/matchguardlaw08.TypesOrder", spec := "typesOrder", inPlace := ["math/bits.Add64"], unfollowed := true, recurses := true, plainKeys := false, apart := false, narrowed := true }
def TypesOrderUptoSaid : Prop := typesOrderUptoRow.holds Try.pinned (OpenSpec.upto typesOrderSpec)

/-- 'matchguardlaw08.TypesVars', WHERE WHAT IT READS IS OF BULK AT MOST 1048576: true; the input reads as it did. -/
def typesVarsUptoRow : OpenClaim := { program := "ytgihhefckdgeoaa", sum := "a74949f4af04cb424f7401e9f4449481bc0e99a5d2752b815058949884790cd7", func := "matchguard/matchguardlaw08.TypesVars", spec := "typesVars", inPlace := ["math/bits.Add64"], unfollowed := true, recurses := true, plainKeys := false, apart := false, narrowed := true }
def TypesVarsUptoSaid : Prop := typesVarsUptoRow.holds Try.pinned (OpenSpec.upto typesVarsSpec)

end Rows
end Go.Proofs.Ytgihhefckdgeoaa
