/- Contracts and plain laws, a part of the proof; no condition of its own. -/
import Derived.Test.YtiiiljghmilepaaE06
import Derived.Test.YtiiiljghmilepaaAlTop
open Go Go.AL Go.Proofs
namespace Go.AL
set_option linter.all false
set_option maxRecDepth 10000
theorem AP {d:Nat} {x:AV} (h:tyV Try.prog (d+1) 3 x):∃ n,x=.int .i64 n ∧ -9223372036854775808≤n∧n<9223372036854775808:=by
 rw [mU qm rfl,w4 qm] at h
 obtain ⟨_,n,e,n1,n2⟩:=h
 cases e
 exact ⟨n,rfl,by simp [IntKind.min,IntKind.signed,IntKind.bits] at n1;omega,by simp [IntKind.max,IntKind.signed,IntKind.bits] at n2;omega⟩
theorem Ay {d:Nat} {x:AV} (h:tyV Try.prog (d+1) 9 x):∃ s,x=.str s∧s.length≤140737488351232:=by
 rw [mU fF rfl,uu fF] at h
 obtain ⟨_,s,e,hl⟩:=h
 cases e
 exact ⟨s,rfl,hl⟩
theorem yC {d:Nat} {x:AV} (h:tyV Try.prog (d+3) 22 x):∃ s,x=.slice .any 1 s∧isB s:=by
 rw [mU m8 rfl,v6 m8] at h
 obtain ⟨_,xs,e,_,hx⟩:=h
 cases e
 refine ⟨xs,by rw [wT tG],Ac fun x hm=>?_⟩
 have:=hx x hm
 rw [mU tG rfl,w4 tG] at this
 obtain ⟨_,m,e,m1,m2⟩:=this
 cases e
 exact ⟨m,rfl,by simpa [IntKind.min,IntKind.signed] using m1,by simp [IntKind.max,IntKind.signed,IntKind.bits] at m2;omega⟩
end Go.AL
open Go Go.AL Go.Proofs
namespace Go.AL
set_option linter.all false
set_option maxRecDepth 10000
theorem nw:ti Try.prog 4=some ⟨.bool,1,1,.bool false⟩:=by kernel_rfl
attribute [go_sem] nw
theorem Ag {d:Nat} {x:AV} (h:tyV Try.prog (d+1) 4 x):∃ b,x=.bool b:=by
 rw [mU nw rfl,yy nw] at h
 obtain ⟨_,b,e⟩:=h
 cases e
 exact ⟨b,rfl⟩
end Go.AL
