/- Contracts and plain laws, a part of the proof; no condition of its own. -/
import Derived.Test.YtokjjhidigoodaaLSch2
import Derived.Test.YtokjjhidigoodaaLSyn
/- Entries and points as data, and those that a list of choices gives. No program. -/
namespace Go.AL
set_option linter.all false
structure SMatch where
 present:Bool
 value:Nat
 mask:Nat
 pfx:Int
 high:Nat
 deriving DecidableEq
def ic (x:SMatch):List AV:=.bool x.present::(vc x.value++vc x.mask++[.int .i64 x.pfx]++vc x.high)
def eZ (x:SMatch):AV:=.agg (ic x)
/-- the bits of a field -/
def il:List SField→Int→Int
 |[],_=>0
 |f::fs,id=>if f.id=id then f.bits else il fs id
def da:SMatch:=⟨false,0,0,0,0⟩
end Go.AL
/- Plain laws of bits: combinations of values, ones, comparisons. No program. -/
namespace Go.AL
set_option linter.all false
/-- a number of bits of a value -/
def gq (n:Int):Nat:=(min (max 0 n) 128).toNat
theorem ut (n:Int):gq n≤128:=by unfold gq;omega
/-- the first n bits -/
def tJ (n:Int):Nat:=2^gq n - 1
theorem gL (w j:Nat):(2^w - 1).testBit j=decide (j<w):=Nat.testBit_two_pow_sub_one w j
theorem rW {w:Nat} (h:w≤128):(2^128 - 1) >>> (128 - w)=2^w - 1:=by
 refine Nat.eq_of_testBit_eq fun j=>?_
 rw [Nat.testBit_shiftRight,gL,gL,decide_eq_decide];omega
end Go.AL
