/- Contracts and plain laws, a part of the proof; no condition of its own. -/
import Derived.Test.YtiiiljghmilepaaM00
import Derived.Test.YtiiiljghmilepaaAlBun
import Derived.Test.YtiiiljghmilepaaLSch2
open Go Go.AL Go.Proofs
namespace Go.AL
set_option linter.all false
set_option maxRecDepth 10000
theorem qL:ti Try.prog 92=some ⟨.struct [(0,22,false),(1,3,false)],2,32,.agg [.slice .nil 1 [],.int .i64 0]⟩:=by kernel_rfl
theorem oC:ti Try.prog 23=some ⟨.ptr 92,1,8,.nilp⟩:=by kernel_rfl
theorem qb:ti Try.prog 22=some ⟨.slice 5,1,24,.slice .nil 1 []⟩:=by kernel_rfl
theorem vE:ti Try.prog 5=some ⟨.int .u8,1,1,.int .u8 0⟩:=by kernel_rfl
theorem ut:ti Try.prog 54=some ⟨.int .u64,1,8,.int .u64 0⟩:=by kernel_rfl
theorem rD:ti Try.prog 120=some ⟨.int .u64,1,8,.int .u64 0⟩:=by kernel_rfl
theorem uh:ti Try.prog 3=some ⟨.int .i64,1,8,.int .i64 0⟩:=by kernel_rfl
theorem sx:ti Try.prog 4=some ⟨.bool,1,1,.bool false⟩:=by kernel_rfl
theorem oq:ti Try.prog 9=some ⟨.string,1,16,.str []⟩:=by kernel_rfl
theorem qA:ti Try.prog 56=some ⟨.struct [(0,54,false),(1,54,false)],2,16,.agg [.int .u64 0,.int .u64 0]⟩:=by kernel_rfl
attribute [go_sem] qL oC qb vE ut rD uh sx oq qA
theorem t8 {H H1:AHeap} {i:Nat} {o:AObj} (h:∀ j x,j≠i→H.get j=some x→H1.get j=some x) (hg:H1.get i=some o) (hn:H.nx≤H1.nx):(H.set i o).Le H1:=⟨hn,fun j x hj=>by
 rcases AHeap.get_set_inv _ _ hj with ⟨rfl,rfl,_⟩|⟨h1,h2⟩
 ·exact hg
 ·exact h j x h1 h2⟩
theorem ld {n sz:Nat} {l:List AV} (h:∀ x∈l,AV.lt n x):AV.lt n (.slice .any sz l):=by
 rw [AV.lt]
 exact ⟨fun id e=>(by cases e),fun j hj=>h _ (List.getElem_mem hj)⟩
end Go.AL
