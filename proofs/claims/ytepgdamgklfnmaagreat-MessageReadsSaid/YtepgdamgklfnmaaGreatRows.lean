/-
  No cell of these rows narrows 'for every input' (looked for: loops, veiled, ifaces, maps, wideKeys, modest, calm, conditions, laid).
  DERIVED. THE GIVEN ROWS OF THIS SEAT. 6 by the template 'for every input the law returns true; each argument reads behind the call as it read before'; 0 by the template 'total and deterministic' (their statements: YtepgdamgklfnmaaGreatTotals.lean).
  GIVEN WITH THE SEED: the statements are not yours to turn. If you find one false, say at which input.
  Laid BY PROGRAM, IN A SANDBOX (cutbox-rows.mjs): the forced cells as the released guide's own fill.sh prints them over the translation b71b8bf3488fba70… (all of the seat's roots in one cut). By AI agents, Wed Nov 11 2026. No macro, syntax, notation, axiom, sorry.
-/
import Derived.Test.YtepgdamgklfnmaaGreatChecked
import GoSem.Claim
import GoSem.ClaimJoined
import GoSem.ClaimMapViews
import Derived.JoinedTies
import Derived.KernelRfl
namespace Go.Proofs.YtepgdamgklfnmaaGreat
/- THE CELL 'sum', in the pinned program and in every row, IS THE sha256 OF THE DUMP (.gsa) THAT YtepgdamgklfnmaaGreatProg.lean LOADS. Nothing in Lean hashes anything: it is a label: what it is worth is what the hold of that sum in a sandbox is worth. -/
noncomputable def Tryz.pinned : Pinned := { name := "ytepgdamgklfnmaagreat", sum := "b71b8bf3488fba70732f7d44ec668a3a5a6ceb8a1978d74544fc8b93ffe0ab4c", checked := Tryz.checked }
namespace Rows
def none {H : Type} : Left H := { results := [], args := [] }

/-- 'matchguardlaw19.MessageRequests': WHATEVER THE INPUT: true; the input reads as it did. -/
def messageRequestsSpec : ChangeSpec := { name := "messageRequests", fn := fun _ => fun
  | [d1, d2, d3, d4, d5, d6, d7] => { results := [.lit (.bool true)], args := [d1, d2, d3, d4, d5, d6, d7] }
  | _ => none }
def messageRequestsRow : OpenClaim := { program := "ytepgdamgklfnmaagreat", sum := "b71b8bf3488fba70732f7d44ec668a3a5a6ceb8a1978d74544fc8b93ffe0ab4c", func := "matchguard/matchguardlaw19.MessageRequests", spec := "messageRequests", unfollowed := true, recurses := true, apart := false }
def MessageRequestsSaid : Prop := messageRequestsRow.holds Tryz.pinned (OpenSpec.ofChange messageRequestsSpec)

/-- ITS FALSE NEIGHBOUR: 'it returns false'. Refute it at one input. -/
def messageRequestsWrong : ChangeSpec := { name := "messageRequests", fn := fun _ => fun
  | [d1, d2, d3, d4, d5, d6, d7] => { results := [.lit (.bool false)], args := [d1, d2, d3, d4, d5, d6, d7] }
  | _ => none }
def MessageRequestsWrongFalsely : Prop := messageRequestsRow.holds Tryz.pinned (OpenSpec.ofChange messageRequestsWrong)

/-- 'matchguardlaw19.MessageSame': WHATEVER THE INPUT: true; the input reads as it did. -/
def messageSameSpec : ChangeSpec := { name := "messageSame", fn := fun _ => fun
  | [d1, d2, d3, d4, d5, d6, d7] => { results := [.lit (.bool true)], args := [d1, d2, d3, d4, d5, d6, d7] }
  | _ => none }
def messageSameRow : OpenClaim := { program := "ytepgdamgklfnmaagreat", sum := "b71b8bf3488fba70732f7d44ec668a3a5a6ceb8a1978d74544fc8b93ffe0ab4c", func := "matchguard/matchguardlaw19.MessageSame", spec := "messageSame", unfollowed := true, recurses := true, apart := false }
def MessageSameSaid : Prop := messageSameRow.holds Tryz.pinned (OpenSpec.ofChange messageSameSpec)

/-- ITS FALSE NEIGHBOUR: 'it returns false'. Refute it at one input. -/
def messageSameWrong : ChangeSpec := { name := "messageSame", fn := fun _ => fun
  | [d1, d2, d3, d4, d5, d6, d7] => { results := [.lit (.bool false)], args := [d1, d2, d3, d4, d5, d6, d7] }
  | _ => none }
def MessageSameWrongFalsely : Prop := messageSameRow.holds Tryz.pinned (OpenSpec.ofChange messageSameWrong)

/-- 'matchguardlaw19.MessageReads': WHATEVER THE INPUT: true; the input reads as it did. -/
def messageReadsSpec : ChangeSpec := { name := "messageReads", fn := fun _ => fun
  | [d1, d2, d3, d4, d5] => { results := [.lit (.bool true)], args := [d1, d2, d3, d4, d5] }
  | _ => none }
def messageReadsRow : OpenClaim := { program := "ytepgdamgklfnmaagreat", sum := "b71b8bf3488fba70732f7d44ec668a3a5a6ceb8a1978d74544fc8b93ffe0ab4c", func := "matchguard/matchguardlaw19.MessageReads", spec := "messageReads", unfollowed := true, recurses := true, apart := false }
def MessageReadsSaid : Prop := messageReadsRow.holds Tryz.pinned (OpenSpec.ofChange messageReadsSpec)

/-- ITS FALSE NEIGHBOUR: 'it returns false'. Refute it at one input. -/
def messageReadsWrong : ChangeSpec := { name := "messageReads", fn := fun _ => fun
  | [d1, d2, d3, d4, d5] => { results := [.lit (.bool false)], args := [d1, d2, d3, d4, d5] }
  | _ => none }
def MessageReadsWrongFalsely : Prop := messageReadsRow.holds Tryz.pinned (OpenSpec.ofChange messageReadsWrong)

/-- 'matchguardlaw19.MessageLimits': WHATEVER THE INPUT: true; the input reads as it did. -/
def messageLimitsSpec : ChangeSpec := { name := "messageLimits", fn := fun _ => fun
  | [d1, d2] => { results := [.lit (.bool true)], args := [d1, d2] }
  | _ => none }
def messageLimitsRow : OpenClaim := { program := "ytepgdamgklfnmaagreat", sum := "b71b8bf3488fba70732f7d44ec668a3a5a6ceb8a1978d74544fc8b93ffe0ab4c", func := "matchguard/matchguardlaw19.MessageLimits", spec := "messageLimits", unfollowed := true, recurses := true, apart := false }
def MessageLimitsSaid : Prop := messageLimitsRow.holds Tryz.pinned (OpenSpec.ofChange messageLimitsSpec)

/-- ITS FALSE NEIGHBOUR: 'it returns false'. Refute it at one input. -/
def messageLimitsWrong : ChangeSpec := { name := "messageLimits", fn := fun _ => fun
  | [d1, d2] => { results := [.lit (.bool false)], args := [d1, d2] }
  | _ => none }
def MessageLimitsWrongFalsely : Prop := messageLimitsRow.holds Tryz.pinned (OpenSpec.ofChange messageLimitsWrong)

/-- 'matchguardlaw19.MessageResponses': WHATEVER THE INPUT: true; the input reads as it did. -/
def messageResponsesSpec : ChangeSpec := { name := "messageResponses", fn := fun _ => fun
  | [d1, d2, d3, d4, d5, d6] => { results := [.lit (.bool true)], args := [d1, d2, d3, d4, d5, d6] }
  | _ => none }
def messageResponsesRow : OpenClaim := { program := "ytepgdamgklfnmaagreat", sum := "b71b8bf3488fba70732f7d44ec668a3a5a6ceb8a1978d74544fc8b93ffe0ab4c", func := "matchguard/matchguardlaw19.MessageResponses", spec := "messageResponses", unfollowed := true, recurses := true, apart := false }
def MessageResponsesSaid : Prop := messageResponsesRow.holds Tryz.pinned (OpenSpec.ofChange messageResponsesSpec)

/-- ITS FALSE NEIGHBOUR: 'it returns false'. Refute it at one input. -/
def messageResponsesWrong : ChangeSpec := { name := "messageResponses", fn := fun _ => fun
  | [d1, d2, d3, d4, d5, d6] => { results := [.lit (.bool false)], args := [d1, d2, d3, d4, d5, d6] }
  | _ => none }
def MessageResponsesWrongFalsely : Prop := messageResponsesRow.holds Tryz.pinned (OpenSpec.ofChange messageResponsesWrong)

/-- 'matchguardlaw19.MessageBack': WHATEVER THE INPUT: true; the input reads as it did. -/
def messageBackSpec : ChangeSpec := { name := "messageBack", fn := fun _ => fun
  | [d1, d2, d3, d4] => { results := [.lit (.bool true)], args := [d1, d2, d3, d4] }
  | _ => none }
def messageBackRow : OpenClaim := { program := "ytepgdamgklfnmaagreat", sum := "b71b8bf3488fba70732f7d44ec668a3a5a6ceb8a1978d74544fc8b93ffe0ab4c", func := "matchguard/matchguardlaw19.MessageBack", spec := "messageBack", unfollowed := true, recurses := true, apart := false }
def MessageBackSaid : Prop := messageBackRow.holds Tryz.pinned (OpenSpec.ofChange messageBackSpec)

/-- ITS FALSE NEIGHBOUR: 'it returns false'. Refute it at one input. -/
def messageBackWrong : ChangeSpec := { name := "messageBack", fn := fun _ => fun
  | [d1, d2, d3, d4] => { results := [.lit (.bool false)], args := [d1, d2, d3, d4] }
  | _ => none }
def MessageBackWrongFalsely : Prop := messageBackRow.holds Tryz.pinned (OpenSpec.ofChange messageBackWrong)

/- THE SECOND FORM. 'bulk': how many values and letters a reading holds, each counted each time it is reached (what is shared counts as often as it is met; a slice's spare places count too). A statement '..UptoSaid' is the law's where the arguments, and the package variables that the reading takes, are together of bulk at most 1048576: NARROWER than '..Said'. Prove '..Said' where nothing that the law and all that it calls make is longer than what came in: it says more and counts as full. Else prove '..UptoSaid'. A law counts once. -/
mutual
def uptoBulk {H : Type} : DataW H → Nat
  | .lit (.string bytes) => bytes.length + 1
  | .lit _ => 1
  | .nil => 1
  | .ptr d => uptoBulk d + 1
  | .slice elems spare => uptoBulkAll elems + uptoBulkAll spare + 1
  | .agg parts => uptoBulkAll parts + 1
  | .iface _ d => uptoBulk d + 1
  | .map entries => uptoBulkEntries entries + 1
  | .held _ => 1
def uptoBulkAll {H : Type} : List (DataW H) → Nat
  | [] => 0
  | d :: r => uptoBulk d + uptoBulkAll r
def uptoBulkEntries {H : Type} : List (Lit × DataW H) → Nat
  | [] => 0
  | x :: r => uptoBulkEntry x + uptoBulkEntries r
def uptoBulkEntry {H : Type} : Lit × DataW H → Nat
  | (.string bytes, d) => bytes.length + uptoBulk d + 1
  | (_, d) => uptoBulk d + 1
 end
def uptoSmall : (H : Type) → List (DataW H) → Bool := fun _ ds => decide (uptoBulkAll ds ≤ 1048576)
def OpenSpec.upto (s : _root_.Go.ChangeSpec) : _root_.Go.OpenSpec := { _root_.Go.OpenSpec.ofChange s with cond := some uptoSmall }

/-- 'matchguardlaw19.MessageRequests', WHERE WHAT IT READS IS OF BULK AT MOST 1048576: true; the input reads as it did. -/
def messageRequestsUptoRow : OpenClaim := { program := "ytepgdamgklfnmaagreat", sum := "b71b8bf3488fba70732f7d44ec668a3a5a6ceb8a1978d74544fc8b93ffe0ab4c", func := "matchguard/matchguardlaw19.MessageRequests", spec := "messageRequests", unfollowed := true, recurses := true, apart := false, narrowed := true }
def MessageRequestsUptoSaid : Prop := messageRequestsUptoRow.holds Tryz.pinned (OpenSpec.upto messageRequestsSpec)

/-- 'matchguardlaw19.MessageSame', WHERE WHAT IT READS IS OF BULK AT MOST 1048576: true; the input reads as it did. -/
def messageSameUptoRow : OpenClaim := { program := "ytepgdamgklfnmaagreat", sum := "b71b8bf3488fba70732f7d44ec668a3a5a6ceb8a1978d74544fc8b93ffe0ab4c", func := "matchguard/matchguardlaw19.MessageSame", spec := "messageSame", unfollowed := true, recurses := true, apart := false, narrowed := true }
def MessageSameUptoSaid : Prop := messageSameUptoRow.holds Tryz.pinned (OpenSpec.upto messageSameSpec)

/-- 'matchguardlaw19.MessageReads', WHERE WHAT IT READS IS OF BULK AT MOST 1048576: true; the input reads as it did. -/
def messageReadsUptoRow : OpenClaim := { program := "ytepgdamgklfnmaagreat", sum := "b71b8bf3488fba70732f7d44ec668a3a5a6ceb8a1978d74544fc8b93ffe0ab4c", func := "matchguard/matchguardlaw19.MessageReads", spec := "messageReads", unfollowed := true, recurses := true, apart := false, narrowed := true }
def MessageReadsUptoSaid : Prop := messageReadsUptoRow.holds Tryz.pinned (OpenSpec.upto messageReadsSpec)

/-- 'matchguardlaw19.MessageLimits', WHERE WHAT IT READS IS OF BULK AT MOST 1048576: true; the input reads as it did. -/
def messageLimitsUptoRow : OpenClaim := { program := "ytepgdamgklfnmaagreat", sum := "b71b8bf3488fba70732f7d44ec668a3a5a6ceb8a1978d74544fc8b93ffe0ab4c", func := "matchguard/matchguardlaw19.MessageLimits", spec := "messageLimits", unfollowed := true, recurses := true, apart := false, narrowed := true }
def MessageLimitsUptoSaid : Prop := messageLimitsUptoRow.holds Tryz.pinned (OpenSpec.upto messageLimitsSpec)

/-- 'matchguardlaw19.MessageResponses', WHERE WHAT IT READS IS OF BULK AT MOST 1048576: true; the input reads as it did. -/
def messageResponsesUptoRow : OpenClaim := { program := "ytepgdamgklfnmaagreat", sum := "b71b8bf3488fba70732f7d44ec668a3a5a6ceb8a1978d74544fc8b93ffe0ab4c", func := "matchguard/matchguardlaw19.MessageResponses", spec := "messageResponses", unfollowed := true, recurses := true, apart := false, narrowed := true }
def MessageResponsesUptoSaid : Prop := messageResponsesUptoRow.holds Tryz.pinned (OpenSpec.upto messageResponsesSpec)

/-- 'matchguardlaw19.MessageBack', WHERE WHAT IT READS IS OF BULK AT MOST 1048576: true; the input reads as it did. -/
def messageBackUptoRow : OpenClaim := { program := "ytepgdamgklfnmaagreat", sum := "b71b8bf3488fba70732f7d44ec668a3a5a6ceb8a1978d74544fc8b93ffe0ab4c", func := "matchguard/matchguardlaw19.MessageBack", spec := "messageBack", unfollowed := true, recurses := true, apart := false, narrowed := true }
def MessageBackUptoSaid : Prop := messageBackUptoRow.holds Tryz.pinned (OpenSpec.upto messageBackSpec)

end Rows
end Go.Proofs.YtepgdamgklfnmaaGreat
