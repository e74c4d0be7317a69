/- Contracts and plain laws, a part of the proof; no condition of its own. -/
import Derived.Test.YtokjjhidigoodaaGreatS10j
open Go Go.AL Go.Proofs
namespace Go.AL
set_option linter.all false
set_option maxRecDepth 10000
structure MOk (m:SMatch):Prop where
 v:m.value<2^128
 k:m.mask<2^128
 h:m.high<2^128
theorem Ig {a b:Int} (h:isV a b):∃ x:Nat,x<2^128∧a=((x/2^64:Nat):Int)∧b=((x % 2^64:Nat):Int)∧vOf a.toNat b.toNat=x:=by
 obtain ⟨h0,h1,h2,h3⟩:=h
 obtain ⟨x,rfl⟩:=cf h0
 obtain ⟨y,rfl⟩:=cf h2
 have hy:y<2^64:=by omega
 refine ⟨vOf x y,qR (by omega) hy,by rw [qT hy],by rw [wX hy],by simp only [Int.toNat_natCast]⟩
end Go.AL
open Go Go.AL Go.Proofs
namespace Go.AL
set_option linter.all false
set_option maxRecDepth 10000
/-- entries and points as functions take them -/
structure EOk (e:SEntry):Prop where
 ml:e.ms.length≤140737488355328
 al:e.args.length≤140737488355328
 mo:∀ m∈e.ms,MOk m
end Go.AL
open Go Go.AL Go.Proofs
namespace Go.AL
set_option linter.all false
set_option maxRecDepth 10000
end Go.AL
open Go Go.AL Go.Proofs
namespace Go.AL
set_option linter.all false
set_option maxRecDepth 10000
end Go.AL
