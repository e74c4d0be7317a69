/- Contracts and plain laws, a part of the proof; no condition of its own. -/
import Derived.Test.YtepgdamgklfnmaaGreatS10l
open Go Go.AL Go.Proofs
namespace Go.AL
set_option linter.all false
set_option maxRecDepth 10000

theorem eqg_matchV : Tryz.prog.eqGuardType Tryz.prog.depth 67 = false := by kernel_rfl
theorem teq_matchV {m n : SMatch} : teq Tryz.prog 9 67 (.agg [.bool m.present, .int .u64 ((m.value / 2 ^ 64 : Nat) : Int), .int .u64 ((m.value % 2 ^ 64 : Nat) : Int), .int .u64 ((m.mask / 2 ^ 64 : Nat) : Int), .int .u64 ((m.mask % 2 ^ 64 : Nat) : Int), .int .i64 m.pfx, .int .u64 ((m.high / 2 ^ 64 : Nat) : Int), .int .u64 ((m.high % 2 ^ 64 : Nat) : Int)])
    (.agg [.bool n.present, .int .u64 ((n.value / 2 ^ 64 : Nat) : Int), .int .u64 ((n.value % 2 ^ 64 : Nat) : Int), .int .u64 ((n.mask / 2 ^ 64 : Nat) : Int), .int .u64 ((n.mask % 2 ^ 64 : Nat) : Int), .int .i64 n.pfx, .int .u64 ((n.high / 2 ^ 64 : Nat) : Int), .int .u64 ((n.high % 2 ^ 64 : Nat) : Int)]) = some (decide (m = n)) := by
  have g1 : Tryz.prog.stoodInHeld 67 = false := by kernel_rfl
  have g2 : Tryz.prog.stoodInHeld 24 = false := by kernel_rfl
  by_cases h : m = n
  · subst h
    simp [ti_smatch, ti_zvalue, teq, teq.go, teq.part, ti_zu64, ti_zint, ti_zbool, ceq, g1, g2, TD.agg]
  · rw [decide_eq_false h]
    obtain ⟨p, v, k, f, hh⟩ := m
    obtain ⟨p', v', k', f', h'⟩ := n
    dsimp only
    generalize h1 : v / 2 ^ 64 = a1
    generalize h2 : v % 2 ^ 64 = a2
    generalize h3 : v' / 2 ^ 64 = b1
    generalize h4 : v' % 2 ^ 64 = b2
    generalize h5 : k / 2 ^ 64 = a3
    generalize h6 : k % 2 ^ 64 = a4
    generalize h7 : k' / 2 ^ 64 = b3
    generalize h8 : k' % 2 ^ 64 = b4
    generalize h9 : hh / 2 ^ 64 = a5
    generalize h10 : hh % 2 ^ 64 = a6
    generalize h11 : h' / 2 ^ 64 = b5
    generalize h12 : h' % 2 ^ 64 = b6
    simp [ti_smatch, ti_zvalue, teq, teq.go, teq.part, ti_zu64, ti_zint, ti_zbool, ceq, g1, g2, TD.agg]
    intro q1 q2 q3 q4 q5 q6 q7 q8
    apply h
    rw [q1, q6, show v = v' by omega, show k = k' by omega, show hh = h' by omega]
end Go.AL


open Go Go.AL Go.Proofs
namespace Go.AL
set_option linter.all false
set_option maxRecDepth 10000

end Go.AL


open Go Go.AL Go.Proofs
namespace Go.AL
set_option linter.all false
set_option maxRecDepth 10000

def e0 : SEntry := ⟨2, [⟨true, 167772161, 0, 8, 0⟩], 0, 0, []⟩
end Go.AL

