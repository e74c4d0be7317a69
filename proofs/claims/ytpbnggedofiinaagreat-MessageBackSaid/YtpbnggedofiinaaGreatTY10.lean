/- Lemmas of the proof; no condition. -/
import Derived.Test.YtpbnggedofiinaaGreatS10v
import Derived.Test.YtpbnggedofiinaaGreatAlTop
set_option linter.all false
set_option maxRecDepth 10000
open Go Go.AL Go.Proofs
namespace Go.AL
theorem HA {d:Nat} {x:AV} (h:tyV Tryz.prog (d+1) 3 x):∃ n,x=.int .i64 n ∧ -9223372036854775808≤n∧n<9223372036854775808:=by
 rw [wo nY rfl,Ak nY] at h
 obtain ⟨_,n,e,n1,n2⟩:=h
 cases e
 exact ⟨n,rfl,by simp [IntKind.min,IntKind.signed,IntKind.bits] at n1;omega,by simp [IntKind.max,IntKind.signed,IntKind.bits] at n2;omega⟩
theorem Ie {d:Nat} {x:AV} (h:tyV Tryz.prog (d+1) 5 x):∃ n,x=.int .u8 n∧0≤n∧n≤255:=by
 rw [wo qH rfl,Ak qH] at h
 obtain ⟨_,n,e,n1,n2⟩:=h
 cases e
 exact ⟨n,rfl,by simpa [IntKind.min,IntKind.signed] using n1,by simp [IntKind.max,IntKind.signed,IntKind.bits] at n2;omega⟩
theorem Bx {d:Nat} {x:AV} (h:tyV Tryz.prog (d+3) 22 x):∃ s,x=.slice .any 1 s∧isB s:=by
 rw [wo qM rfl,EO qM] at h
 obtain ⟨_,xs,e,_,hx⟩:=h
 cases e
 refine ⟨xs,by rw [Eo qH],GY fun x hm=>?_⟩
 have:=hx x hm
 rw [wo qH rfl,Ak qH] at this
 obtain ⟨_,m,e,m1,m2⟩:=this
 cases e
 exact ⟨m,rfl,by simpa [IntKind.min,IntKind.signed] using m1,by simp [IntKind.max,IntKind.signed,IntKind.bits] at m2;omega⟩
end Go.AL
