/- Contracts and plain laws, a part of the proof; no condition of its own. -/
import Derived.Test.YtiiiljghmilepaaE06
import Derived.Test.YtiiiljghmilepaaAlTop
open Go Go.AL Go.Proofs
namespace Go.AL
set_option linter.all false
set_option maxRecDepth 10000
theorem uO {d:Nat} {x:AV} (h:tyV Try.prog (d+1) 3 x):∃ n,x=.int .i64 n ∧ -9223372036854775808≤n∧n<9223372036854775808:=by
 rw [oD oz rfl,sg oz] at h
 obtain ⟨_,n,e,n1,n2⟩:=h
 cases e
 exact ⟨n,rfl,by simp [IntKind.min,IntKind.signed,IntKind.bits] at n1;omega,by simp [IntKind.max,IntKind.signed,IntKind.bits] at n2;omega⟩
theorem uw {d:Nat} {x:AV} (h:tyV Try.prog (d+3) 22 x):∃ s,x=.slice .any 1 s∧isB s:=by
 rw [oD ka rfl,sk ka] at h
 obtain ⟨_,xs,e,_,hx⟩:=h
 cases e
 refine ⟨xs,by rw [tu pG],vw fun x hm=>?_⟩
 have:=hx x hm
 rw [oD pG rfl,sg pG] at this
 obtain ⟨_,m,e,m1,m2⟩:=this
 cases e
 exact ⟨m,rfl,by simpa [IntKind.min,IntKind.signed] using m1,by simp [IntKind.max,IntKind.signed,IntKind.bits] at m2;omega⟩
end Go.AL
open Go Go.AL Go.Proofs
namespace Go.AL
set_option linter.all false
set_option maxRecDepth 10000
theorem tC:ti Try.prog 4=some ⟨.bool,1,1,.bool false⟩:=by kernel_rfl
attribute [go_sem] tC
end Go.AL
