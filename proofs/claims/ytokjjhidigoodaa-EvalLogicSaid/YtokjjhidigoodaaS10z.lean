/- Contracts and plain laws, a part of the proof; no condition of its own. -/
import Derived.Test.YtokjjhidigoodaaLVal
import Derived.Test.YtokjjhidigoodaaAlBun
import Derived.Test.YtokjjhidigoodaaLSch2
open Go Go.AL Go.Proofs
namespace Go.AL
set_option linter.all false
set_option maxRecDepth 10000
theorem vU:ti Try.prog 67=some ⟨.struct [(0,22,false),(1,3,false)],2,32,.agg [.slice .nil 1 [],.int .i64 0]⟩:=by kernel_rfl
theorem sU:ti Try.prog 24=some ⟨.ptr 67,1,8,.nilp⟩:=by kernel_rfl
theorem uv:ti Try.prog 22=some ⟨.slice 5,1,24,.slice .nil 1 []⟩:=by kernel_rfl
theorem Au:ti Try.prog 5=some ⟨.int .u8,1,1,.int .u8 0⟩:=by kernel_rfl
theorem zF:ti Try.prog 93=some ⟨.int .u64,1,8,.int .u64 0⟩:=by kernel_rfl
theorem xc:ti Try.prog 177=some ⟨.int .u64,1,8,.int .u64 0⟩:=by kernel_rfl
theorem y5:ti Try.prog 3=some ⟨.int .i64,1,8,.int .i64 0⟩:=by kernel_rfl
theorem wu:ti Try.prog 4=some ⟨.bool,1,1,.bool false⟩:=by kernel_rfl
theorem sN:ti Try.prog 9=some ⟨.string,1,16,.str []⟩:=by kernel_rfl
theorem vw:ti Try.prog 95=some ⟨.struct [(0,93,false),(1,93,false)],2,16,.agg [.int .u64 0,.int .u64 0]⟩:=by kernel_rfl
attribute [go_sem] vU sU uv Au zF xc y5 wu sN vw
theorem zf {H H1:AHeap} {i:Nat} {o:AObj} (h:∀ j x,j≠i→H.get j=some x→H1.get j=some x) (hg:H1.get i=some o) (hn:H.nx≤H1.nx):(H.set i o).Le H1:=⟨hn,fun j x hj=>by
 rcases AHeap.get_set_inv _ _ hj with ⟨rfl,rfl,_⟩|⟨h1,h2⟩
 ·exact hg
 ·exact h j x h1 h2⟩
end Go.AL
