/- Lemmas of the proof; no condition. -/
import Derived.Test.YthnlhjalhflgfaaGreatLSch2
import Derived.Test.YthnlhjalhflgfaaGreatLSyn
set_option linter.all false
namespace Go.AL
structure SMatch where
 present:Bool
 value:Nat
 mask:Nat
 pfx:Int
 high:Nat
 deriving DecidableEq
structure SEntry where
 table:Int
 ms:List SMatch
 prio:Int
 act:Int
 args:List Nat
def uU:List SAction→Int→SAction
 |[],_=>⟨0,[],[],[],[]⟩
 |a::ar,id=>if a.id=id then a else uU ar id
theorem Kz (a b c d:Nat) (h:b<2^64) (k:d<2^64):vOf a b &&& vOf c d=vOf (a &&& c) (b &&& d):=by
 refine Nat.eq_of_testBit_eq fun j=>?_
 rw [Nat.testBit_and,qP h,qP k,qP (Nat.and_lt_two_pow _ k)]
 split<;>rw [Nat.testBit_and]
end Go.AL
