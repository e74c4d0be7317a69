/- Lemmas of the proof; no condition. -/
import Derived.Test.YthhmookokgiemaaGreatLSch2
import Derived.Test.YthhmookokgiemaaGreatLSyn
set_option linter.all false
namespace Go.AL
structure SMatch where
 present:Bool
 value:Nat
 mask:Nat
 pfx:Int
 high:Nat
 deriving DecidableEq
structure SEntry where
 table:Int
 ms:List SMatch
 prio:Int
 act:Int
 args:List Nat
def um:List SAction→Int→SAction
 |[],_=>⟨0,[],[],[],[]⟩
 |a::ar,id=>if a.id=id then a else um ar id
theorem Ia (a b c d:Nat) (h:b<2^64) (k:d<2^64):vOf a b &&& vOf c d=vOf (a &&& c) (b &&& d):=by
 refine Nat.eq_of_testBit_eq fun j=>?_
 rw [Nat.testBit_and,pD h,pD k,pD (Nat.and_lt_two_pow _ k)]
 split<;>rw [Nat.testBit_and]
end Go.AL
