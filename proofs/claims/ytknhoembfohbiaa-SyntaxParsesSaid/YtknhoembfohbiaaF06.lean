/- Contracts and plain laws, a part of the proof; no condition of its own. -/
import Derived.Test.YtknhoembfohbiaaE06
open Go Go.AL Go.Proofs
namespace Go.AL
set_option linter.all false
set_option maxRecDepth 10000
theorem rows_junk {l : List UInt8} {n k : Nat} (h : n = l.length) : rowsOf 1 n (bys l ++ List.replicate k AV.junk) = bys l := by
  subst h
  induction l with
  | nil => rfl
  | cons a l ih =>
    show rowsOf 1 (l.length + 1) (ofByte a :: (bys l ++ List.replicate k AV.junk)) = ofByte a :: bys l
    simp only [rowsOf, if_true, List.drop_succ_cons, List.drop_zero, ih]
    rfl
theorem u8_byte (n : Int) : ∃ e : UInt8, AV.int .u8 (IntKind.u8.wrap n) = ofByte e := ⟨_, wrap_u8⟩
end Go.AL

