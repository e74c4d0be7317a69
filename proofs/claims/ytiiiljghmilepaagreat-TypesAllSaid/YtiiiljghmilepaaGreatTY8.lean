/- Contracts and plain laws, a part of the proof; no condition of its own. -/
import Derived.Test.YtiiiljghmilepaaGreatE06
import Derived.Test.YtiiiljghmilepaaGreatAlTop
open Go Go.AL Go.Proofs
namespace Go.AL
set_option linter.all false
set_option maxRecDepth 10000
theorem Ej {d:Nat} {x:AV} (h:tyV Tryz.prog (d+1) 3 x):∃ n,x=.int .i64 n ∧ -9223372036854775808≤n∧n<9223372036854775808:=by
 rw [oT vp rfl,Au vp] at h
 obtain ⟨_,n,e,n1,n2⟩:=h
 cases e
 exact ⟨n,rfl,by simp [IntKind.min,IntKind.signed,IntKind.bits] at n1;omega,by simp [IntKind.max,IntKind.signed,IntKind.bits] at n2;omega⟩
theorem Eb {d:Nat} {x:AV} (h:tyV Tryz.prog (d+1) 9 x):∃ s,x=.str s∧s.length≤140737488351232:=by
 rw [oT jf rfl,yv jf] at h
 obtain ⟨_,s,e,hl⟩:=h
 cases e
 exact ⟨s,rfl,hl⟩
theorem wH {d:Nat} {x:AV} (h:tyV Tryz.prog (d+3) 22 x):∃ s,x=.slice .any 1 s∧isB s:=by
 rw [oT pp rfl,zT pp] at h
 obtain ⟨_,xs,e,_,hx⟩:=h
 cases e
 refine ⟨xs,by rw [zu wO],Do fun x hm=>?_⟩
 have:=hx x hm
 rw [oT wO rfl,Au wO] at this
 obtain ⟨_,m,e,m1,m2⟩:=this
 cases e
 exact ⟨m,rfl,by simpa [IntKind.min,IntKind.signed] using m1,by simp [IntKind.max,IntKind.signed,IntKind.bits] at m2;omega⟩
end Go.AL
open Go Go.AL Go.Proofs
namespace Go.AL
set_option linter.all false
set_option maxRecDepth 10000
theorem oV:ti Tryz.prog 4=some ⟨.bool,1,1,.bool false⟩:=by kernel_rfl
attribute [go_sem] oV
theorem Dz {d:Nat} {x:AV} (h:tyV Tryz.prog (d+1) 4 x):∃ b,x=.bool b:=by
 rw [oT oV rfl,CB oV] at h
 obtain ⟨_,b,e⟩:=h
 cases e
 exact ⟨b,rfl⟩
end Go.AL
