/- Contracts and plain laws, a part of the proof; no condition of its own. -/
import Derived.Test.YtiiiljghmilepaaM00
import Derived.Test.YtiiiljghmilepaaAlByte
import Derived.Test.YtiiiljghmilepaaAlBun
import Derived.Test.YtiiiljghmilepaaLN192
open Go Go.AL Go.Proofs
namespace Go.AL
set_option linter.all false
set_option maxRecDepth 10000
theorem kA:ti Try.prog 3=some ⟨.int .i64,1,8,.int .i64 0⟩:=by kernel_rfl
theorem vo:ti Try.prog 56=some ⟨.struct [(0,54,false),(1,54,false)],2,16,.agg [.int .u64 0,.int .u64 0]⟩:=by kernel_rfl
theorem xT:ti Try.prog 54=some ⟨.int .u64,1,8,.int .u64 0⟩:=by kernel_rfl
theorem sn:ti Try.prog 101=some ⟨.struct [(0,99,false)],3,24,.agg [.int .u64 0,.int .u64 0,.int .u64 0]⟩:=by kernel_rfl
theorem ut:ti Try.prog 99=some ⟨.array 3 54,3,24,.agg [.int .u64 0,.int .u64 0,.int .u64 0]⟩:=by kernel_rfl
attribute [go_sem] kA vo xT sn ut
def jP:List AV→AHeap→(AV→Prop)→Prop
 |[.int .u64 x,.int .u64 y,.int .u64 c],_,K=>(0≤x∧0≤y∧0≤c∧c≤1)∧K (.tup [.int .u64 ((x+y+c) % 18446744073709551616),.int .u64 ((x+y+c)/18446744073709551616)])
 |_,_,_=>False
theorem uR:EntOk Try.prog 77 (Ent.pure jP):=by
 refine EntOk.pure fun args H K h=>?_
 unfold jP at h
 split at h
 rotate_left
 ·exact h.elim
 obtain ⟨⟨h1,h2,h3,h4⟩,hK⟩:=h
 exact ⟨_,hK,nT Try.func77 (by kernel_rfl) (by kernel_rfl) (by kernel_rfl) (by kernel_rfl) h1 h2 h3 h4⟩
/-- the numbers of which the sign is bn -/
def isN (a:Int):Prop := -(2^191)≤a∧a<2^191
end Go.AL
