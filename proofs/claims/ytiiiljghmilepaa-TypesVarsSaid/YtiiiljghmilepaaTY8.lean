/- Contracts and plain laws, a part of the proof; no condition of its own. -/
import Derived.Test.YtiiiljghmilepaaE06
import Derived.Test.YtiiiljghmilepaaAlTop
open Go Go.AL Go.Proofs
namespace Go.AL
set_option linter.all false
set_option maxRecDepth 10000
theorem wI {d:Nat} {x:AV} (h:tyV Try.prog (d+3) 22 x):∃ s,x=.slice .any 1 s∧isB s:=by
 rw [u9 mf rfl,gb mf] at h
 obtain ⟨_,xs,e,_,hx⟩:=h
 cases e
 refine ⟨xs,by rw [lR r8],yc fun x hm=>?_⟩
 have:=hx x hm
 rw [u9 r8 rfl,kj r8] at this
 obtain ⟨_,m,e,m1,m2⟩:=this
 cases e
 exact ⟨m,rfl,by simpa [IntKind.min,IntKind.signed] using m1,by simp [IntKind.max,IntKind.signed,IntKind.bits] at m2;omega⟩
end Go.AL
open Go Go.AL Go.Proofs
namespace Go.AL
set_option linter.all false
set_option maxRecDepth 10000
theorem vZ:ti Try.prog 4=some ⟨.bool,1,1,.bool false⟩:=by kernel_rfl
attribute [go_sem] vZ
end Go.AL
