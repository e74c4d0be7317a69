/- Contracts and plain laws, a part of the proof; no condition of its own. -/
import Derived.Test.YtnhghceobhdaoaaCI
import Derived.Test.YtnhghceobhdaoaaLRd2
open Go Go.AL Go.Proofs
namespace Go.AL
set_option linter.all false
set_option maxRecDepth 10000

theorem eqg_val : Try.prog.eqGuardType Try.prog.depth 46 = false := by kernel_rfl
theorem teq_val {a b c d : Int} : teq Try.prog 9 46 (.agg [.int .u64 a, .int .u64 b]) (.agg [.int .u64 c, .int .u64 d]) = some ((a == c) && ((b == d) && true)) := by
  have g2 : Try.prog.stoodInHeld 46 = false := by kernel_rfl
  simp [ti_val, teq, teq.go, teq.part, ti_u64, ceq, g2, TD.agg]

end Go.AL
