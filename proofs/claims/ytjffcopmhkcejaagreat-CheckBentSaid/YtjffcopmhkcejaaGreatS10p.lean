/- Lemmas of the proof; no condition. -/
import Derived.Test.YtjffcopmhkcejaaGreatS12a
set_option linter.all false
set_option maxRecDepth 10000
open Go Go.AL Go.Proofs
namespace Go.AL
def e0:SEntry:=⟨2,[⟨true,167772161,0,8,0⟩],0,0,[]⟩
structure GM(m:SMatch):Prop where
 v:m.value<2^32
 k:m.mask<2^32
 h:m.high<2^32
 p0:0≤m.pfx
 p1:m.pfx≤32
structure GE(S:Sch)(t:STable)(e:SEntry):Prop where
 tb:e.table=t.id
 ml:e.ms.length=t.keys.length
 mo:∀ m∈e.ms,GM m
 p0:0≤e.prio
 p1:e.prio≤5
 am:e.act∈t.actions
 al:e.args.length=(zf S.actions e.act).params.length
 ao:∀ x∈e.args,x<256
theorem GE.ok{S:Sch}{t:STable}{e:SEntry}(h:GE S t e)(h1:t.keys.length≤100)(h2:∀ a:Int,(zf S.actions a).params.length≤100):EOk e :=
 ⟨by have:=h.ml;omega,by have:=h.al;have:=h2 e.act;omega,fun m hm=>by have:=h.mo m hm;exact⟨Nat.lt_of_lt_of_le this.v Xb,Nat.lt_of_lt_of_le this.k Xb,Nat.lt_of_lt_of_le this.h Xb⟩⟩
end Go.AL
