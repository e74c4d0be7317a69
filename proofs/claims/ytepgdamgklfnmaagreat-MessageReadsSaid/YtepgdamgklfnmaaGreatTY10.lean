/- Contracts and plain laws, a part of the proof; no condition of its own. -/
import Derived.Test.YtepgdamgklfnmaaGreatS10v
import Derived.Test.YtepgdamgklfnmaaGreatAlTop
open Go Go.AL Go.Proofs
namespace Go.AL
set_option linter.all false
set_option maxRecDepth 10000
theorem tyInt {d:Nat} {x:AV} (h:tyV Tryz.prog (d+1) 3 x):∃ n,x=.int .i64 n ∧ -9223372036854775808≤n∧n<9223372036854775808:=by
  rw [ty_one ti_zint rfl,ty_int ti_zint] at h
  obtain ⟨_,n,e,n1,n2⟩:=h
  cases e
  exact ⟨n,rfl,by simp [IntKind.min,IntKind.signed,IntKind.bits] at n1;omega,by simp [IntKind.max,IntKind.signed,IntKind.bits] at n2;omega⟩
theorem tyU8 {d:Nat} {x:AV} (h:tyV Tryz.prog (d+1) 5 x):∃ n,x=.int .u8 n∧0≤n∧n≤255:=by
  rw [ty_one ti_zu8 rfl,ty_int ti_zu8] at h
  obtain ⟨_,n,e,n1,n2⟩:=h
  cases e
  exact ⟨n,rfl,by simpa [IntKind.min,IntKind.signed] using n1,by simp [IntKind.max,IntKind.signed,IntKind.bits] at n2;omega⟩
theorem tyBytes {d:Nat} {x:AV} (h:tyV Tryz.prog (d+3) 26 x):∃ s,x=.slice .any 1 s∧isB s:=by
  rw [ty_one ti_zbytes rfl,ty_slice ti_zbytes] at h
  obtain ⟨_,xs,e,_,hx⟩:=h
  cases e
  refine ⟨xs,by rw [sizeT_of ti_zu8],isB_of fun x hm=>?_⟩
  have:=hx x hm
  rw [ty_one ti_zu8 rfl,ty_int ti_zu8] at this
  obtain ⟨_,m,e,m1,m2⟩:=this
  cases e
  exact ⟨m,rfl,by simpa [IntKind.min,IntKind.signed] using m1,by simp [IntKind.max,IntKind.signed,IntKind.bits] at m2;omega⟩
end Go.AL

