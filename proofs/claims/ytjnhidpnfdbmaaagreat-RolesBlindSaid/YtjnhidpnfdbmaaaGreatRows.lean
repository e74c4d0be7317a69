/-
  No cell of these rows narrows 'for every input' (looked for: loops, veiled, ifaces, maps, wideKeys, modest, calm, conditions, laid).
  DERIVED. THE GIVEN ROWS OF THIS SEAT. 4 by the template 'for every input the law returns true; each argument reads behind the call as it read before'; 0 by the template 'total and deterministic' (their statements: YtjnhidpnfdbmaaaGreatTotals.lean).
  GIVEN WITH THE SEED: the statements are not yours to turn. If you find one false, say at which input.
  Laid BY PROGRAM, IN A SANDBOX (cutbox-rows.mjs): the forced cells as the released guide's own fill.sh prints them over the translation cb846f2be0502ef3… (all of the seat's roots in one cut). By AI agents, Wed Nov 11 2026. No macro, syntax, notation, axiom, sorry.
-/
import Derived.Test.YtjnhidpnfdbmaaaGreatChecked
import GoSem.Claim
import GoSem.ClaimJoined
import GoSem.ClaimMapViews
import Derived.JoinedTies
import Derived.KernelRfl
namespace Go.Proofs.YtjnhidpnfdbmaaaGreat
/- THE CELL 'sum', in the pinned program and in every row, IS THE sha256 OF THE DUMP (.gsa) THAT YtjnhidpnfdbmaaaGreatProg.lean LOADS. Nothing in Lean hashes anything: it is a label: what it is worth is what the hold of that sum in a sandbox is worth. -/
noncomputable def Tryz.pinned : Pinned := { name := "ytjnhidpnfdbmaaagreat", sum := "cb846f2be0502ef3199d1083c21b6a951ce1c667a919e01aed1a4b1da42a949c", checked := Tryz.checked }
namespace Rows
def none {H : Type} : Left H := { results := [], args := [] }

/-- 'matchguardlaw21.RolesPermits': WHATEVER THE INPUT: true; the input reads as it did. -/
def rolesPermitsSpec : ChangeSpec := { name := "rolesPermits", fn := fun _ => fun
  | [d1, d2, d3, d4, d5, d6, d7] => { results := [.lit (.bool true)], args := [d1, d2, d3, d4, d5, d6, d7] }
  | _ => none }
def rolesPermitsRow : OpenClaim := { program := "ytjnhidpnfdbmaaagreat", sum := "cb846f2be0502ef3199d1083c21b6a951ce1c667a919e01aed1a4b1da42a949c", func := "matchguard/matchguardlaw21.RolesPermits", spec := "rolesPermits", inPlace := ["math/bits.Add64"], unfollowed := true, recurses := true, plainKeys := false, apart := false }
def RolesPermitsSaid : Prop := rolesPermitsRow.holds Tryz.pinned (OpenSpec.ofChange rolesPermitsSpec)

/-- ITS FALSE NEIGHBOUR: 'it returns false'. Refute it at one input. -/
def rolesPermitsWrong : ChangeSpec := { name := "rolesPermits", fn := fun _ => fun
  | [d1, d2, d3, d4, d5, d6, d7] => { results := [.lit (.bool false)], args := [d1, d2, d3, d4, d5, d6, d7] }
  | _ => none }
def RolesPermitsWrongFalsely : Prop := rolesPermitsRow.holds Tryz.pinned (OpenSpec.ofChange rolesPermitsWrong)

/-- 'matchguardlaw21.RolesSees': WHATEVER THE INPUT: true; the input reads as it did. -/
def rolesSeesSpec : ChangeSpec := { name := "rolesSees", fn := fun _ => fun
  | [d1, d2, d3, d4] => { results := [.lit (.bool true)], args := [d1, d2, d3, d4] }
  | _ => none }
def rolesSeesRow : OpenClaim := { program := "ytjnhidpnfdbmaaagreat", sum := "cb846f2be0502ef3199d1083c21b6a951ce1c667a919e01aed1a4b1da42a949c", func := "matchguard/matchguardlaw21.RolesSees", spec := "rolesSees", inPlace := ["math/bits.Add64"], unfollowed := true, recurses := true, plainKeys := false, apart := false }
def RolesSeesSaid : Prop := rolesSeesRow.holds Tryz.pinned (OpenSpec.ofChange rolesSeesSpec)

/-- ITS FALSE NEIGHBOUR: 'it returns false'. Refute it at one input. -/
def rolesSeesWrong : ChangeSpec := { name := "rolesSees", fn := fun _ => fun
  | [d1, d2, d3, d4] => { results := [.lit (.bool false)], args := [d1, d2, d3, d4] }
  | _ => none }
def RolesSeesWrongFalsely : Prop := rolesSeesRow.holds Tryz.pinned (OpenSpec.ofChange rolesSeesWrong)

/-- 'matchguardlaw21.RolesBlind': WHATEVER THE INPUT: true; the input reads as it did. -/
def rolesBlindSpec : ChangeSpec := { name := "rolesBlind", fn := fun _ => fun
  | [d1, d2] => { results := [.lit (.bool true)], args := [d1, d2] }
  | _ => none }
def rolesBlindRow : OpenClaim := { program := "ytjnhidpnfdbmaaagreat", sum := "cb846f2be0502ef3199d1083c21b6a951ce1c667a919e01aed1a4b1da42a949c", func := "matchguard/matchguardlaw21.RolesBlind", spec := "rolesBlind", inPlace := ["math/bits.Add64"], unfollowed := true, recurses := true, plainKeys := false, apart := false }
def RolesBlindSaid : Prop := rolesBlindRow.holds Tryz.pinned (OpenSpec.ofChange rolesBlindSpec)

/-- ITS FALSE NEIGHBOUR: 'it returns false'. Refute it at one input. -/
def rolesBlindWrong : ChangeSpec := { name := "rolesBlind", fn := fun _ => fun
  | [d1, d2] => { results := [.lit (.bool false)], args := [d1, d2] }
  | _ => none }
def RolesBlindWrongFalsely : Prop := rolesBlindRow.holds Tryz.pinned (OpenSpec.ofChange rolesBlindWrong)

/-- 'matchguardlaw21.RolesNone': WHATEVER THE INPUT: true; the input reads as it did. -/
def rolesNoneSpec : ChangeSpec := { name := "rolesNone", fn := fun _ => fun
  | [d1, d2, d3, d4, d5] => { results := [.lit (.bool true)], args := [d1, d2, d3, d4, d5] }
  | _ => none }
def rolesNoneRow : OpenClaim := { program := "ytjnhidpnfdbmaaagreat", sum := "cb846f2be0502ef3199d1083c21b6a951ce1c667a919e01aed1a4b1da42a949c", func := "matchguard/matchguardlaw21.RolesNone", spec := "rolesNone", inPlace := ["math/bits.Add64"], unfollowed := true, recurses := true, plainKeys := false, apart := false }
def RolesNoneSaid : Prop := rolesNoneRow.holds Tryz.pinned (OpenSpec.ofChange rolesNoneSpec)

/-- ITS FALSE NEIGHBOUR: 'it returns false'. Refute it at one input. -/
def rolesNoneWrong : ChangeSpec := { name := "rolesNone", fn := fun _ => fun
  | [d1, d2, d3, d4, d5] => { results := [.lit (.bool false)], args := [d1, d2, d3, d4, d5] }
  | _ => none }
def RolesNoneWrongFalsely : Prop := rolesNoneRow.holds Tryz.pinned (OpenSpec.ofChange rolesNoneWrong)

/- THE SECOND FORM. 'bulk': how many values and letters a reading holds, each counted each time it is reached (what is shared counts as often as it is met; a slice's spare places count too). A statement '..UptoSaid' is the law's where the arguments, and the package variables that the reading takes, are together of bulk at most 1048576: NARROWER than '..Said'. Prove '..Said' where nothing that the law and all that it calls make is longer than what came in: it says more and counts as full. Else prove '..UptoSaid'. A law counts once. -/
mutual
def uptoBulk {H : Type} : DataW H → Nat
  | .lit (.string bytes) => bytes.length + 1
  | .lit _ => 1
  | .nil => 1
  | .ptr d => uptoBulk d + 1
  | .slice elems spare => uptoBulkAll elems + uptoBulkAll spare + 1
  | .agg parts => uptoBulkAll parts + 1
  | .iface _ d => uptoBulk d + 1
  | .map entries => uptoBulkEntries entries + 1
  | .held _ => 1
def uptoBulkAll {H : Type} : List (DataW H) → Nat
  | [] => 0
  | d :: r => uptoBulk d + uptoBulkAll r
def uptoBulkEntries {H : Type} : List (Lit × DataW H) → Nat
  | [] => 0
  | x :: r => uptoBulkEntry x + uptoBulkEntries r
def uptoBulkEntry {H : Type} : Lit × DataW H → Nat
  | (.string bytes, d) => bytes.length + uptoBulk d + 1
  | (_, d) => uptoBulk d + 1
 end
def uptoSmall : (H : Type) → List (DataW H) → Bool := fun _ ds => decide (uptoBulkAll ds ≤ 1048576)
def OpenSpec.upto (s : _root_.Go.ChangeSpec) : _root_.Go.OpenSpec := { _root_.Go.OpenSpec.ofChange s with cond := some uptoSmall }

/-- 'matchguardlaw21.RolesPermits', WHERE WHAT IT READS IS OF BULK AT MOST 1048576: true; the input reads as it did. -/
def rolesPermitsUptoRow : OpenClaim := { program := "ytjnhidpnfdbmaaagreat", sum := "cb846f2be0502ef3199d1083c21b6a951ce1c667a919e01aed1a4b1da42a949c", func := "matchguard/matchguardlaw21.RolesPermits", spec := "rolesPermits", inPlace := ["math/bits.Add64"], unfollowed := true, recurses := true, plainKeys := false, apart := false, narrowed := true }
def RolesPermitsUptoSaid : Prop := rolesPermitsUptoRow.holds Tryz.pinned (OpenSpec.upto rolesPermitsSpec)

/-- 'matchguardlaw21.RolesSees', WHERE WHAT IT READS IS OF BULK AT MOST 1048576: true; the input reads as it did. -/
def rolesSeesUptoRow : OpenClaim := { program := "ytjnhidpnfdbmaaagreat", sum := "cb846f2be0502ef3199d1083c21b6a951ce1c667a919e01aed1a4b1da42a949c", func := "matchguard/matchguardlaw21.RolesSees", spec := "rolesSees", inPlace := ["math/bits.Add64"], unfollowed := true, recurses := true, plainKeys := false, apart := false, narrowed := true }
def RolesSeesUptoSaid : Prop := rolesSeesUptoRow.holds Tryz.pinned (OpenSpec.upto rolesSeesSpec)

/-- 'matchguardlaw21.RolesBlind', WHERE WHAT IT READS IS OF BULK AT MOST 1048576: true; the input reads as it did. -/
def rolesBlindUptoRow : OpenClaim := { program := "ytjnhidpnfdbmaaagreat", sum := "cb846f2be0502ef3199d1083c21b6a951ce1c667a919e01aed1a4b1da42a949c", func := "matchguard/matchguardlaw21.RolesBlind", spec := "rolesBlind", inPlace := ["math/bits.Add64"], unfollowed := true, recurses := true, plainKeys := false, apart := false, narrowed := true }
def RolesBlindUptoSaid : Prop := rolesBlindUptoRow.holds Tryz.pinned (OpenSpec.upto rolesBlindSpec)

/-- 'matchguardlaw21.RolesNone', WHERE WHAT IT READS IS OF BULK AT MOST 1048576: true; the input reads as it did. -/
def rolesNoneUptoRow : OpenClaim := { program := "ytjnhidpnfdbmaaagreat", sum := "cb846f2be0502ef3199d1083c21b6a951ce1c667a919e01aed1a4b1da42a949c", func := "matchguard/matchguardlaw21.RolesNone", spec := "rolesNone", inPlace := ["math/bits.Add64"], unfollowed := true, recurses := true, plainKeys := false, apart := false, narrowed := true }
def RolesNoneUptoSaid : Prop := rolesNoneUptoRow.holds Tryz.pinned (OpenSpec.upto rolesNoneSpec)

end Rows
end Go.Proofs.YtjnhidpnfdbmaaaGreat
