/- Contracts and plain laws, a part of the proof; no condition of its own. -/
import Derived.Test.YtiiiljghmilepaaGreatM00
import Derived.Test.YtiiiljghmilepaaGreatAlByte
import Derived.Test.YtiiiljghmilepaaGreatAlBun
import Derived.Test.YtiiiljghmilepaaGreatLN192
open Go Go.AL Go.Proofs
namespace Go.AL
set_option linter.all false
set_option maxRecDepth 10000
theorem vp:ti Tryz.prog 3=some ⟨.int .i64,1,8,.int .i64 0⟩:=by kernel_rfl
theorem Bp:ti Tryz.prog 212=some ⟨.struct [(0,210,false),(1,210,false)],2,16,.agg [.int .u64 0,.int .u64 0]⟩:=by kernel_rfl
theorem DM:ti Tryz.prog 210=some ⟨.int .u64,1,8,.int .u64 0⟩:=by kernel_rfl
theorem y7:ti Tryz.prog 234=some ⟨.struct [(0,232,false)],3,24,.agg [.int .u64 0,.int .u64 0,.int .u64 0]⟩:=by kernel_rfl
theorem BJ:ti Tryz.prog 232=some ⟨.array 3 210,3,24,.agg [.int .u64 0,.int .u64 0,.int .u64 0]⟩:=by kernel_rfl
attribute [go_sem] vp Bp DM y7 BJ
def mE:List AV→AHeap→(AV→Prop)→Prop
 |[.int .u64 x,.int .u64 y,.int .u64 c],_,K=>(0≤x∧0≤y∧0≤c∧c≤1)∧K (.tup [.int .u64 ((x+y+c) % 18446744073709551616),.int .u64 ((x+y+c)/18446744073709551616)])
 |_,_,_=>False
theorem Aa:EntOk Tryz.prog 271 (Ent.pure mE):=by
 refine EntOk.pure fun args H K h=>?_
 unfold mE at h
 split at h
 rotate_left
 ·exact h.elim
 obtain ⟨⟨h1,h2,h3,h4⟩,hK⟩:=h
 exact ⟨_,hK,sn Tryz.func271 (by kernel_rfl) (by kernel_rfl) (by kernel_rfl) (by kernel_rfl) h1 h2 h3 h4⟩
/-- the numbers of which the sign is aV -/
def isN (a:Int):Prop := -(2^191)≤a∧a<2^191
end Go.AL
