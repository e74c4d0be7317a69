/- Contracts and plain laws, a part of the proof; no condition of its own. -/
import Derived.Test.YtiiiljghmilepaaS07w
import Derived.Test.YtiiiljghmilepaaE06
open Go Go.AL Go.Proofs
namespace Go.AL
set_option linter.all false
set_option maxRecDepth 10000
theorem ub:Try.prog.eqGuardType Try.prog.depth 59=false:=by kernel_rfl
theorem um {a b c hi lo:Int} {n m:List UInt8}:teq Try.prog 9 59 (.agg [.int .i64 a,.int .i64 b,.int .i64 c,.str n,.str m,.int .u64 hi,.int .u64 lo]) (.agg [.int .i64 a,.int .i64 b,.int .i64 c,.str n,.str m,.int .u64 hi,.int .u64 lo])=some true:=by
 have g1:Try.prog.stoodInHeld 59=false:=by kernel_rfl
 have g2:Try.prog.stoodInHeld 56=false:=by kernel_rfl
 simp [qx,rt,teq,teq.go,teq.part,wu,qm,fF,ceq,g1,g2,TD.agg]
end Go.AL
