/- Plain laws of decimal digits, the lowest one first. -/
namespace Go.AL
def isD (l:List Nat):Prop:=∀ d∈l,d<10
/-- digit i -/
def dig (n i:Nat):Nat:=n/10^i % 10
/-- the lowest k digits -/
def first (k n:Nat):List Nat:=(List.range k).map (dig n)
/-! one cR of a sum, of a difference -/
/-! the order -/
end Go.AL
