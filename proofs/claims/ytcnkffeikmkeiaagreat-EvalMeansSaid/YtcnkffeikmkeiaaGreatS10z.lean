/- Contracts and plain laws, a part of the proof; no condition of its own. -/
import Derived.Test.YtcnkffeikmkeiaaGreatLVal
import Derived.Test.YtcnkffeikmkeiaaGreatAlBun
import Derived.Test.YtcnkffeikmkeiaaGreatLSch2
open Go Go.AL Go.Proofs
namespace Go.AL
set_option linter.all false
set_option maxRecDepth 10000
theorem yn:ti Tryz.prog 73=some ⟨.struct [(0,22,false),(1,3,false)],2,32,.agg [.slice .nil 1 [],.int .i64 0]⟩:=by kernel_rfl
theorem vR:ti Tryz.prog 30=some ⟨.ptr 73,1,8,.nilp⟩:=by kernel_rfl
theorem yi:ti Tryz.prog 22=some ⟨.slice 5,1,24,.slice .nil 1 []⟩:=by kernel_rfl
theorem DF:ti Tryz.prog 5=some ⟨.int .u8,1,1,.int .u8 0⟩:=by kernel_rfl
theorem C9:ti Tryz.prog 65=some ⟨.int .u64,1,8,.int .u64 0⟩:=by kernel_rfl
theorem Ai:ti Tryz.prog 230=some ⟨.int .u64,1,8,.int .u64 0⟩:=by kernel_rfl
theorem Cr:ti Tryz.prog 3=some ⟨.int .i64,1,8,.int .i64 0⟩:=by kernel_rfl
theorem zX:ti Tryz.prog 4=some ⟨.bool,1,1,.bool false⟩:=by kernel_rfl
theorem u9:ti Tryz.prog 9=some ⟨.string,1,16,.str []⟩:=by kernel_rfl
theorem xA:ti Tryz.prog 67=some ⟨.struct [(0,65,false),(1,65,false)],2,16,.agg [.int .u64 0,.int .u64 0]⟩:=by kernel_rfl
attribute [go_sem] yn vR yi DF C9 Ai Cr zX u9 xA
theorem B7 {H H1:AHeap} {i:Nat} {o:AObj} (h:∀ j x,j≠i→H.get j=some x→H1.get j=some x) (hg:H1.get i=some o) (hn:H.nx≤H1.nx):(H.set i o).Le H1:=⟨hn,fun j x hj=>by
 rcases AHeap.get_set_inv _ _ hj with ⟨rfl,rfl,_⟩|⟨h1,h2⟩
 ·exact hg
 ·exact h j x h1 h2⟩
end Go.AL
