/- Lemmas of the proof; no condition. -/
import Derived.Test.YtjffcopmhkcejaaGreatTY3
set_option linter.all false
set_option maxRecDepth 10000
open Go Go.AL Go.Proofs
namespace Go.AL
def Oq{d:Nat}{x:AV}(h:tyV Tryz.prog (d+3) 23 x):∃ l:List Int,x=.slice .any 1 (inL l)∧∀ n∈l,-9223372036854775808≤n∧n<9223372036854775808:=by
 rw[wN vM rfl,AR vM]at h
 obtain⟨_,xs,e,_,hx⟩:=h
 cases e
 obtain⟨l,rfl,hl⟩:=yk (f:=.int .i64) (q:=fun n => -9223372036854775808≤n∧n<9223372036854775808) xs fun x hm=>DJ (d:=d+1) (hx x hm)
 exact⟨l,by rw[AW uP];rfl,hl⟩
end Go.AL
