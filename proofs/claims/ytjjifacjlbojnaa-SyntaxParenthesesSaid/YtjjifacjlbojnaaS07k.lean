/- Contracts and plain laws, a part of the proof; no condition of its own. -/
import Derived.Test.YtjjifacjlbojnaaS07n
import Derived.Test.YtjjifacjlbojnaaS07w
open Go Go.AL Go.Proofs
namespace Go.AL
set_option linter.all false
theorem ok_SyntaxParentheses : EntOk Try.prog 5 (Ent.pure p_SyntaxParentheses) := ok_SyntaxParentheses0 ok_zVal
end Go.AL

