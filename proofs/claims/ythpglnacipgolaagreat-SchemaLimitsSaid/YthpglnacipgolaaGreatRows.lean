/-
  No cell of these rows narrows 'for every input' (looked for: loops, veiled, ifaces, maps, wideKeys, modest, calm, conditions, laid).
  DERIVED. THE GIVEN ROWS OF THIS SEAT. 9 by the template 'for every input the law returns true; each argument reads behind the call as it read before'; 0 by the template 'total and deterministic' (their statements: YthpglnacipgolaaGreatTotals.lean).
  GIVEN WITH THE SEED: the statements are not yours to turn. If you find one false, say at which input.
  Laid BY PROGRAM, IN A SANDBOX (cutbox-rows.mjs): the forced cells as the released guide's own fill.sh prints them over the translation 228bc56d24df759a… (all of the seat's roots in one cut). By AI agents, Wed Nov 11 2026. No macro, syntax, notation, axiom, sorry.
-/
import Derived.Test.YthpglnacipgolaaGreatChecked
import GoSem.Claim
import GoSem.ClaimJoined
import GoSem.ClaimMapViews
import Derived.JoinedTies
import Derived.KernelRfl
namespace Go.Proofs.YthpglnacipgolaaGreat
/- THE CELL 'sum', in the pinned program and in every row, IS THE sha256 OF THE DUMP (.gsa) THAT YthpglnacipgolaaGreatProg.lean LOADS. Nothing in Lean hashes anything: it is a label: what it is worth is what the hold of that sum in a sandbox is worth. -/
noncomputable def Tryz.pinned : Pinned := { name := "ythpglnacipgolaagreat", sum := "228bc56d24df759ae8da574680ad528ce7c09516eea48baf21a49d475b32fd3c", checked := Tryz.checked }
namespace Rows
def none {H : Type} : Left H := { results := [], args := [] }

/-- 'matchguardlaw03.SchemaEncodes': WHATEVER THE INPUT: true; the input reads as it did. -/
def schemaEncodesSpec : ChangeSpec := { name := "schemaEncodes", fn := fun _ => fun
  | [d1, d2, d3, d4, d5] => { results := [.lit (.bool true)], args := [d1, d2, d3, d4, d5] }
  | _ => none }
def schemaEncodesRow : OpenClaim := { program := "ythpglnacipgolaagreat", sum := "228bc56d24df759ae8da574680ad528ce7c09516eea48baf21a49d475b32fd3c", func := "matchguard/matchguardlaw03.SchemaEncodes", spec := "schemaEncodes", unfollowed := true, recurses := true, apart := false }
def SchemaEncodesSaid : Prop := schemaEncodesRow.holds Tryz.pinned (OpenSpec.ofChange schemaEncodesSpec)

/-- ITS FALSE NEIGHBOUR: 'it returns false'. Refute it at one input. -/
def schemaEncodesWrong : ChangeSpec := { name := "schemaEncodes", fn := fun _ => fun
  | [d1, d2, d3, d4, d5] => { results := [.lit (.bool false)], args := [d1, d2, d3, d4, d5] }
  | _ => none }
def SchemaEncodesWrongFalsely : Prop := schemaEncodesRow.holds Tryz.pinned (OpenSpec.ofChange schemaEncodesWrong)

/-- 'matchguardlaw03.SchemaLong': WHATEVER THE INPUT: true; the input reads as it did. -/
def schemaLongSpec : ChangeSpec := { name := "schemaLong", fn := fun _ => fun
  | [d] => { results := [.lit (.bool true)], args := [d] }
  | _ => none }
def schemaLongRow : OpenClaim := { program := "ythpglnacipgolaagreat", sum := "228bc56d24df759ae8da574680ad528ce7c09516eea48baf21a49d475b32fd3c", func := "matchguard/matchguardlaw03.SchemaLong", spec := "schemaLong", unfollowed := true, recurses := true, apart := false }
def SchemaLongSaid : Prop := schemaLongRow.holds Tryz.pinned (OpenSpec.ofChange schemaLongSpec)

/-- ITS FALSE NEIGHBOUR: 'it returns false'. Refute it at one input. -/
def schemaLongWrong : ChangeSpec := { name := "schemaLong", fn := fun _ => fun
  | [d] => { results := [.lit (.bool false)], args := [d] }
  | _ => none }
def SchemaLongWrongFalsely : Prop := schemaLongRow.holds Tryz.pinned (OpenSpec.ofChange schemaLongWrong)

/-- 'matchguardlaw19.MessageResponses': WHATEVER THE INPUT: true; the input reads as it did. -/
def messageResponsesSpec : ChangeSpec := { name := "messageResponses", fn := fun _ => fun
  | [d1, d2, d3, d4, d5, d6] => { results := [.lit (.bool true)], args := [d1, d2, d3, d4, d5, d6] }
  | _ => none }
def messageResponsesRow : OpenClaim := { program := "ythpglnacipgolaagreat", sum := "228bc56d24df759ae8da574680ad528ce7c09516eea48baf21a49d475b32fd3c", func := "matchguard/matchguardlaw19.MessageResponses", spec := "messageResponses", unfollowed := true, recurses := true, apart := false }
def MessageResponsesSaid : Prop := messageResponsesRow.holds Tryz.pinned (OpenSpec.ofChange messageResponsesSpec)

/-- ITS FALSE NEIGHBOUR: 'it returns false'. Refute it at one input. -/
def messageResponsesWrong : ChangeSpec := { name := "messageResponses", fn := fun _ => fun
  | [d1, d2, d3, d4, d5, d6] => { results := [.lit (.bool false)], args := [d1, d2, d3, d4, d5, d6] }
  | _ => none }
def MessageResponsesWrongFalsely : Prop := messageResponsesRow.holds Tryz.pinned (OpenSpec.ofChange messageResponsesWrong)

/-- 'matchguardlaw03.SchemaDecodes': WHATEVER THE INPUT: true; the input reads as it did. -/
def schemaDecodesSpec : ChangeSpec := { name := "schemaDecodes", fn := fun _ => fun
  | [d1, d2, d3, d4] => { results := [.lit (.bool true)], args := [d1, d2, d3, d4] }
  | _ => none }
def schemaDecodesRow : OpenClaim := { program := "ythpglnacipgolaagreat", sum := "228bc56d24df759ae8da574680ad528ce7c09516eea48baf21a49d475b32fd3c", func := "matchguard/matchguardlaw03.SchemaDecodes", spec := "schemaDecodes", unfollowed := true, recurses := true, apart := false }
def SchemaDecodesSaid : Prop := schemaDecodesRow.holds Tryz.pinned (OpenSpec.ofChange schemaDecodesSpec)

/-- ITS FALSE NEIGHBOUR: 'it returns false'. Refute it at one input. -/
def schemaDecodesWrong : ChangeSpec := { name := "schemaDecodes", fn := fun _ => fun
  | [d1, d2, d3, d4] => { results := [.lit (.bool false)], args := [d1, d2, d3, d4] }
  | _ => none }
def SchemaDecodesWrongFalsely : Prop := schemaDecodesRow.holds Tryz.pinned (OpenSpec.ofChange schemaDecodesWrong)

/-- 'matchguardlaw03.SchemaLimits': WHATEVER THE INPUT: true; the input reads as it did. -/
def schemaLimitsSpec : ChangeSpec := { name := "schemaLimits", fn := fun _ => fun
  | [d1, d2] => { results := [.lit (.bool true)], args := [d1, d2] }
  | _ => none }
def schemaLimitsRow : OpenClaim := { program := "ythpglnacipgolaagreat", sum := "228bc56d24df759ae8da574680ad528ce7c09516eea48baf21a49d475b32fd3c", func := "matchguard/matchguardlaw03.SchemaLimits", spec := "schemaLimits", unfollowed := true, recurses := true, apart := false }
def SchemaLimitsSaid : Prop := schemaLimitsRow.holds Tryz.pinned (OpenSpec.ofChange schemaLimitsSpec)

/-- ITS FALSE NEIGHBOUR: 'it returns false'. Refute it at one input. -/
def schemaLimitsWrong : ChangeSpec := { name := "schemaLimits", fn := fun _ => fun
  | [d1, d2] => { results := [.lit (.bool false)], args := [d1, d2] }
  | _ => none }
def SchemaLimitsWrongFalsely : Prop := schemaLimitsRow.holds Tryz.pinned (OpenSpec.ofChange schemaLimitsWrong)

/-- 'matchguardlaw03.SchemaSame': WHATEVER THE INPUT: true; the input reads as it did. -/
def schemaSameSpec : ChangeSpec := { name := "schemaSame", fn := fun _ => fun
  | [d1, d2, d3, d4, d5, d6] => { results := [.lit (.bool true)], args := [d1, d2, d3, d4, d5, d6] }
  | _ => none }
def schemaSameRow : OpenClaim := { program := "ythpglnacipgolaagreat", sum := "228bc56d24df759ae8da574680ad528ce7c09516eea48baf21a49d475b32fd3c", func := "matchguard/matchguardlaw03.SchemaSame", spec := "schemaSame", unfollowed := true, recurses := true, apart := false }
def SchemaSameSaid : Prop := schemaSameRow.holds Tryz.pinned (OpenSpec.ofChange schemaSameSpec)

/-- ITS FALSE NEIGHBOUR: 'it returns false'. Refute it at one input. -/
def schemaSameWrong : ChangeSpec := { name := "schemaSame", fn := fun _ => fun
  | [d1, d2, d3, d4, d5, d6] => { results := [.lit (.bool false)], args := [d1, d2, d3, d4, d5, d6] }
  | _ => none }
def SchemaSameWrongFalsely : Prop := schemaSameRow.holds Tryz.pinned (OpenSpec.ofChange schemaSameWrong)

/-- 'matchguardlaw19.MessageBack': WHATEVER THE INPUT: true; the input reads as it did. -/
def messageBackSpec : ChangeSpec := { name := "messageBack", fn := fun _ => fun
  | [d1, d2, d3, d4] => { results := [.lit (.bool true)], args := [d1, d2, d3, d4] }
  | _ => none }
def messageBackRow : OpenClaim := { program := "ythpglnacipgolaagreat", sum := "228bc56d24df759ae8da574680ad528ce7c09516eea48baf21a49d475b32fd3c", func := "matchguard/matchguardlaw19.MessageBack", spec := "messageBack", unfollowed := true, recurses := true, apart := false }
def MessageBackSaid : Prop := messageBackRow.holds Tryz.pinned (OpenSpec.ofChange messageBackSpec)

/-- ITS FALSE NEIGHBOUR: 'it returns false'. Refute it at one input. -/
def messageBackWrong : ChangeSpec := { name := "messageBack", fn := fun _ => fun
  | [d1, d2, d3, d4] => { results := [.lit (.bool false)], args := [d1, d2, d3, d4] }
  | _ => none }
def MessageBackWrongFalsely : Prop := messageBackRow.holds Tryz.pinned (OpenSpec.ofChange messageBackWrong)

/-- 'matchguardlaw03.SchemaBack': WHATEVER THE INPUT: true; the input reads as it did. -/
def schemaBackSpec : ChangeSpec := { name := "schemaBack", fn := fun _ => fun
  | [d1, d2, d3] => { results := [.lit (.bool true)], args := [d1, d2, d3] }
  | _ => none }
def schemaBackRow : OpenClaim := { program := "ythpglnacipgolaagreat", sum := "228bc56d24df759ae8da574680ad528ce7c09516eea48baf21a49d475b32fd3c", func := "matchguard/matchguardlaw03.SchemaBack", spec := "schemaBack", unfollowed := true, recurses := true, apart := false }
def SchemaBackSaid : Prop := schemaBackRow.holds Tryz.pinned (OpenSpec.ofChange schemaBackSpec)

/-- ITS FALSE NEIGHBOUR: 'it returns false'. Refute it at one input. -/
def schemaBackWrong : ChangeSpec := { name := "schemaBack", fn := fun _ => fun
  | [d1, d2, d3] => { results := [.lit (.bool false)], args := [d1, d2, d3] }
  | _ => none }
def SchemaBackWrongFalsely : Prop := schemaBackRow.holds Tryz.pinned (OpenSpec.ofChange schemaBackWrong)

/-- 'matchguardlaw07.SyntaxBack': WHATEVER THE INPUT: true; the input reads as it did. -/
def syntaxBackSpec : ChangeSpec := { name := "syntaxBack", fn := fun _ => fun
  | [d] => { results := [.lit (.bool true)], args := [d] }
  | _ => none }
def syntaxBackRow : OpenClaim := { program := "ythpglnacipgolaagreat", sum := "228bc56d24df759ae8da574680ad528ce7c09516eea48baf21a49d475b32fd3c", func := "matchguard/matchguardlaw07.SyntaxBack", spec := "syntaxBack", inPlace := ["math/bits.Add64"], unfollowed := true, recurses := true, named := ["math/bits.divideError", "math/bits.overflowError"], apart := false }
def SyntaxBackSaid : Prop := syntaxBackRow.holds Tryz.pinned (OpenSpec.ofChange syntaxBackSpec)

/-- ITS FALSE NEIGHBOUR: 'it returns false'. Refute it at one input. -/
def syntaxBackWrong : ChangeSpec := { name := "syntaxBack", fn := fun _ => fun
  | [d] => { results := [.lit (.bool false)], args := [d] }
  | _ => none }
def SyntaxBackWrongFalsely : Prop := syntaxBackRow.holds Tryz.pinned (OpenSpec.ofChange syntaxBackWrong)

/- THE SECOND FORM. 'bulk': how many values and letters a reading holds, each counted each time it is reached (what is shared counts as often as it is met; a slice's spare places count too). A statement '..UptoSaid' is the law's where the arguments, and the package variables that the reading takes, are together of bulk at most 1048576: NARROWER than '..Said'. Prove '..Said' where nothing that the law and all that it calls make is longer than what came in: it says more and counts as full. Else prove '..UptoSaid'. A law counts once. -/
mutual
def uptoBulk {H : Type} : DataW H → Nat
  | .lit (.string bytes) => bytes.length + 1
  | .lit _ => 1
  | .nil => 1
  | .ptr d => uptoBulk d + 1
  | .slice elems spare => uptoBulkAll elems + uptoBulkAll spare + 1
  | .agg parts => uptoBulkAll parts + 1
  | .iface _ d => uptoBulk d + 1
  | .map entries => uptoBulkEntries entries + 1
  | .held _ => 1
def uptoBulkAll {H : Type} : List (DataW H) → Nat
  | [] => 0
  | d :: r => uptoBulk d + uptoBulkAll r
def uptoBulkEntries {H : Type} : List (Lit × DataW H) → Nat
  | [] => 0
  | x :: r => uptoBulkEntry x + uptoBulkEntries r
def uptoBulkEntry {H : Type} : Lit × DataW H → Nat
  | (.string bytes, d) => bytes.length + uptoBulk d + 1
  | (_, d) => uptoBulk d + 1
 end
def uptoSmall : (H : Type) → List (DataW H) → Bool := fun _ ds => decide (uptoBulkAll ds ≤ 1048576)
def OpenSpec.upto (s : _root_.Go.ChangeSpec) : _root_.Go.OpenSpec := { _root_.Go.OpenSpec.ofChange s with cond := some uptoSmall }

/-- 'matchguardlaw03.SchemaEncodes', WHERE WHAT IT READS IS OF BULK AT MOST 1048576: true; the input reads as it did. -/
def schemaEncodesUptoRow : OpenClaim := { program := "ythpglnacipgolaagreat", sum := "228bc56d24df759ae8da574680ad528ce7c09516eea48baf21a49d475b32fd3c", func := "matchguard/matchguardlaw03.SchemaEncodes", spec := "schemaEncodes", unfollowed := true, recurses := true, apart := false, narrowed := true }
def SchemaEncodesUptoSaid : Prop := schemaEncodesUptoRow.holds Tryz.pinned (OpenSpec.upto schemaEncodesSpec)

/-- 'matchguardlaw03.SchemaLong', WHERE WHAT IT READS IS OF BULK AT MOST 1048576: true; the input reads as it did. -/
def schemaLongUptoRow : OpenClaim := { program := "ythpglnacipgolaagreat", sum := "228bc56d24df759ae8da574680ad528ce7c09516eea48baf21a49d475b32fd3c", func := "matchguard/matchguardlaw03.SchemaLong", spec := "schemaLong", unfollowed := true, recurses := true, apart := false, narrowed := true }
def SchemaLongUptoSaid : Prop := schemaLongUptoRow.holds Tryz.pinned (OpenSpec.upto schemaLongSpec)

/-- 'matchguardlaw19.MessageResponses', WHERE WHAT IT READS IS OF BULK AT MOST 1048576: true; the input reads as it did. -/
def messageResponsesUptoRow : OpenClaim := { program := "ythpglnacipgolaagreat", sum := "228bc56d24df759ae8da574680ad528ce7c09516eea48baf21a49d475b32fd3c", func := "matchguard/matchguardlaw19.MessageResponses", spec := "messageResponses", unfollowed := true, recurses := true, apart := false, narrowed := true }
def MessageResponsesUptoSaid : Prop := messageResponsesUptoRow.holds Tryz.pinned (OpenSpec.upto messageResponsesSpec)

/-- 'matchguardlaw03.SchemaDecodes', WHERE WHAT IT READS IS OF BULK AT MOST 1048576: true; the input reads as it did. -/
def schemaDecodesUptoRow : OpenClaim := { program := "ythpglnacipgolaagreat", sum := "228bc56d24df759ae8da574680ad528ce7c09516eea48baf21a49d475b32fd3c", func := "matchguard/matchguardlaw03.SchemaDecodes", spec := "schemaDecodes", unfollowed := true, recurses := true, apart := false, narrowed := true }
def SchemaDecodesUptoSaid : Prop := schemaDecodesUptoRow.holds Tryz.pinned (OpenSpec.upto schemaDecodesSpec)

/-- 'matchguardlaw03.SchemaLimits', WHERE WHAT IT READS IS OF BULK AT MOST 1048576: true; the input reads as it did. -/
def schemaLimitsUptoRow : OpenClaim := { program := "ythpglnacipgolaagreat", sum := "228bc56d24df759ae8da574680ad528ce7c09516eea48baf21a49d475b32fd3c", func := "matchguard/matchguardlaw03.SchemaLimits", spec := "schemaLimits", unfollowed := true, recurses := true, apart := false, narrowed := true }
def SchemaLimitsUptoSaid : Prop := schemaLimitsUptoRow.holds Tryz.pinned (OpenSpec.upto schemaLimitsSpec)

/-- 'matchguardlaw03.SchemaSame', WHERE WHAT IT READS IS OF BULK AT MOST 1048576: true; the input reads as it did. -/
def schemaSameUptoRow : OpenClaim := { program := "ythpglnacipgolaagreat", sum := "228bc56d24df759ae8da574680ad528ce7c09516eea48baf21a49d475b32fd3c", func := "matchguard/matchguardlaw03.SchemaSame", spec := "schemaSame", unfollowed := true, recurses := true, apart := false, narrowed := true }
def SchemaSameUptoSaid : Prop := schemaSameUptoRow.holds Tryz.pinned (OpenSpec.upto schemaSameSpec)

/-- 'matchguardlaw19.MessageBack', WHERE WHAT IT READS IS OF BULK AT MOST 1048576: true; the input reads as it did. -/
def messageBackUptoRow : OpenClaim := { program := "ythpglnacipgolaagreat", sum := "228bc56d24df759ae8da574680ad528ce7c09516eea48baf21a49d475b32fd3c", func := "matchguard/matchguardlaw19.MessageBack", spec := "messageBack", unfollowed := true, recurses := true, apart := false, narrowed := true }
def MessageBackUptoSaid : Prop := messageBackUptoRow.holds Tryz.pinned (OpenSpec.upto messageBackSpec)

/-- 'matchguardlaw03.SchemaBack', WHERE WHAT IT READS IS OF BULK AT MOST 1048576: true; the input reads as it did. -/
def schemaBackUptoRow : OpenClaim := { program := "ythpglnacipgolaagreat", sum := "228bc56d24df759ae8da574680ad528ce7c09516eea48baf21a49d475b32fd3c", func := "matchguard/matchguardlaw03.SchemaBack", spec := "schemaBack", unfollowed := true, recurses := true, apart := false, narrowed := true }
def SchemaBackUptoSaid : Prop := schemaBackUptoRow.holds Tryz.pinned (OpenSpec.upto schemaBackSpec)

/-- 'matchguardlaw07.SyntaxBack', WHERE WHAT IT READS IS OF BULK AT MOST 1048576: true; the input reads as it did. -/
def syntaxBackUptoRow : OpenClaim := { program := "ythpglnacipgolaagreat", sum := "228bc56d24df759ae8da574680ad528ce7c09516eea48baf21a49d475b32fd3c", func := "matchguard/matchguardlaw07.SyntaxBack", spec := "syntaxBack", inPlace := ["math/bits.Add64"], unfollowed := true, recurses := true, named := ["math/bits.divideError", "math/bits.overflowError"], apart := false, narrowed := true }
def SyntaxBackUptoSaid : Prop := syntaxBackUptoRow.holds Tryz.pinned (OpenSpec.upto syntaxBackSpec)

end Rows
end Go.Proofs.YthpglnacipgolaaGreat
