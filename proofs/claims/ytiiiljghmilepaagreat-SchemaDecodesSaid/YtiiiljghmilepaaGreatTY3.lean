/- Contracts and plain laws, a part of the proof; no condition of its own. -/
import Derived.Test.YtiiiljghmilepaaGreatW03p
import Derived.Test.YtiiiljghmilepaaGreatAlTop
open Go Go.AL Go.Proofs
namespace Go.AL
set_option linter.all false
set_option maxRecDepth 10000
theorem uQ:ti Tryz.prog 3=some ⟨.int .i64,1,8,.int .i64 0⟩:=by kernel_rfl
theorem Fh:ti Tryz.prog 9=some ⟨.string,1,16,.str []⟩:=by kernel_rfl
theorem Cc:ti Tryz.prog 4=some ⟨.bool,1,1,.bool false⟩:=by kernel_rfl
theorem pg:ti Tryz.prog 5=some ⟨.int .u8,1,1,.int .u8 0⟩:=by kernel_rfl
theorem EH:ti Tryz.prog 210=some ⟨.int .u64,1,8,.int .u64 0⟩:=by kernel_rfl
theorem pr:ti Tryz.prog 22=some ⟨.slice 5,1,24,.slice .nil 1 []⟩:=by kernel_rfl
theorem FL:ti Tryz.prog 212=some ⟨.struct [(0,210,false),(1,210,false)],2,16,.agg [.int .u64 0,.int .u64 0]⟩:=by kernel_rfl
theorem BV:ti Tryz.prog 52=some ⟨.slice 212,1,24,.slice .nil 1 []⟩:=by kernel_rfl
theorem Dc:ti Tryz.prog 51=some ⟨.slice 3,1,24,.slice .nil 1 []⟩:=by kernel_rfl
theorem A2:ti Tryz.prog 167=some ⟨.slice 4,1,24,.slice .nil 1 []⟩:=by kernel_rfl
theorem FU:ti Tryz.prog 95=some ⟨.struct [(0,3,false),(1,9,false),(2,3,false)],3,32,.agg [.int .i64 0,.str [],.int .i64 0]⟩:=by kernel_rfl
theorem CM:ti Tryz.prog 26=some ⟨.slice 95,1,24,.slice .nil 1 []⟩:=by kernel_rfl
theorem EI:ti Tryz.prog 97=some ⟨.struct [(0,3,false),(1,9,false),(2,51,false)],3,48,.agg [.int .i64 0,.str [],.slice .nil 1 []]⟩:=by kernel_rfl
theorem Bx:ti Tryz.prog 27=some ⟨.slice 97,1,24,.slice .nil 1 []⟩:=by kernel_rfl
theorem FI:ti Tryz.prog 244=some ⟨.struct [(0,212,false),(2,212,false),(4,3,false)],5,40,.agg [.int .u64 0,.int .u64 0,.int .u64 0,.int .u64 0,.int .i64 0]⟩:=by kernel_rfl
theorem Cz:ti Tryz.prog 117=some ⟨.slice 244,1,24,.slice .nil 1 []⟩:=by kernel_rfl
theorem EZ:ti Tryz.prog 119=some ⟨.struct [(0,3,false),(1,3,false),(2,3,false),(3,117,false),(4,3,false)],5,56,.agg [.int .i64 0,.int .i64 0,.int .i64 0,.slice .nil 1 [],.int .i64 0]⟩:=by kernel_rfl
theorem Bs:ti Tryz.prog 28=some ⟨.slice 119,1,24,.slice .nil 1 []⟩:=by kernel_rfl
theorem FT:ti Tryz.prog 249=some ⟨.struct [(0,3,false),(1,3,false),(2,212,false)],4,32,.agg [.int .i64 0,.int .i64 0,.int .u64 0,.int .u64 0]⟩:=by kernel_rfl
theorem FR:ti Tryz.prog 251=some ⟨.struct [(0,3,false),(1,3,false),(2,249,false)],6,48,.agg [.int .i64 0,.int .i64 0,.int .i64 0,.int .i64 0,.int .u64 0,.int .u64 0]⟩:=by kernel_rfl
theorem D3:ti Tryz.prog 56=some ⟨.slice 251,1,24,.slice .nil 1 []⟩:=by kernel_rfl
theorem Fy:ti Tryz.prog 247=some ⟨.struct [(0,9,false),(1,3,false)],2,24,.agg [.str [],.int .i64 0]⟩:=by kernel_rfl
theorem Dg:ti Tryz.prog 55=some ⟨.slice 247,1,24,.slice .nil 1 []⟩:=by kernel_rfl
theorem F3:ti Tryz.prog 58=some ⟨.struct [(0,3,false),(1,9,false),(2,55,false),(3,56,false),(4,9,false)],5,88,.agg [.int .i64 0,.str [],.slice .nil 1 [],.slice .nil 1 [],.str []]⟩:=by kernel_rfl
theorem DK:ti Tryz.prog 29=some ⟨.slice 58,1,24,.slice .nil 1 []⟩:=by kernel_rfl
theorem Gj:ti Tryz.prog 204=some ⟨.struct [(0,9,false),(1,3,false),(2,3,false)],3,32,.agg [.str [],.int .i64 0,.int .i64 0]⟩:=by kernel_rfl
theorem C5:ti Tryz.prog 50=some ⟨.slice 204,1,24,.slice .nil 1 []⟩:=by kernel_rfl
theorem Gr:ti Tryz.prog 54=some ⟨.struct [(0,3,false),(1,9,false),(2,50,false),(3,51,false),(4,3,false),(5,52,false),(6,3,false),(7,9,false)],8,128,.agg [.int .i64 0,.str [],.slice .nil 1 [],.slice .nil 1 [],.int .i64 0,.slice .nil 1 [],.int .i64 0,.str []]⟩:=by kernel_rfl
theorem Eb:ti Tryz.prog 30=some ⟨.slice 54,1,24,.slice .nil 1 []⟩:=by kernel_rfl
theorem ER:ti Tryz.prog 84=some ⟨.struct [(0,3,false),(1,3,false)],2,16,.agg [.int .i64 0,.int .i64 0]⟩:=by kernel_rfl
theorem BN:ti Tryz.prog 31=some ⟨.slice 84,1,24,.slice .nil 1 []⟩:=by kernel_rfl
theorem Gp:ti Tryz.prog 169=some ⟨.struct [(0,3,false),(1,4,false),(2,4,false),(3,167,false)],4,40,.agg [.int .i64 0,.bool false,.bool false,.slice .nil 1 []]⟩:=by kernel_rfl
theorem DY:ti Tryz.prog 85=some ⟨.slice 169,1,24,.slice .nil 1 []⟩:=by kernel_rfl
theorem F4:ti Tryz.prog 87=some ⟨.struct [(0,3,false),(1,9,false),(2,85,false),(3,51,false),(4,3,false),(5,4,false)],6,88,.agg [.int .i64 0,.str [],.slice .nil 1 [],.slice .nil 1 [],.int .i64 0,.bool false]⟩:=by kernel_rfl
theorem DD:ti Tryz.prog 32=some ⟨.slice 87,1,24,.slice .nil 1 []⟩:=by kernel_rfl
theorem Fj:ti Tryz.prog 90=some ⟨.struct [(0,3,false),(1,3,false),(2,3,false),(3,3,false),(4,3,false),(5,3,false)],6,48,.agg [.int .i64 0,.int .i64 0,.int .i64 0,.int .i64 0,.int .i64 0,.int .i64 0]⟩:=by kernel_rfl
theorem Cp:ti Tryz.prog 33=some ⟨.slice 90,1,24,.slice .nil 1 []⟩:=by kernel_rfl
theorem Fm:ti Tryz.prog 35=some ⟨.struct [(0,26,false),(1,27,false),(2,28,false),(3,29,false),(4,30,false),(5,31,false),(6,32,false),(7,33,false),(8,3,false),(9,3,false)],10,208,.agg [.slice .nil 1 [],.slice .nil 1 [],.slice .nil 1 [],.slice .nil 1 [],.slice .nil 1 [],.slice .nil 1 [],.slice .nil 1 [],.slice .nil 1 [],.int .i64 0,.int .i64 0]⟩:=by kernel_rfl
attribute [go_sem] uQ Fh Cc pg EH pr FL BV Dc A2 FU CM EI Bx FI Cz EZ Bs FT FR D3 Fy Dg F3 DK Gj C5 Gr Eb ER BN Gp DY F4 DD Fj Cp Fm
theorem HF {d:Nat} {x:AV} (h:tyV Tryz.prog (d+1) 3 x):∃ n,x=.int .i64 n ∧ -9223372036854775808≤n∧n<9223372036854775808:=by
 rw [t7 uQ rfl,xQ uQ] at h
 obtain ⟨_,n,e,n1,n2⟩:=h
 cases e
 exact ⟨n,rfl,by simp [IntKind.min,IntKind.signed,IntKind.bits] at n1;omega,by simp [IntKind.max,IntKind.signed,IntKind.bits] at n2;omega⟩
theorem Il {d:Nat} {x:AV} (h:tyV Tryz.prog (d+1) 5 x):∃ n,x=.int .u8 n∧0≤n∧n≤255:=by
 rw [t7 pg rfl,xQ pg] at h
 obtain ⟨_,n,e,n1,n2⟩:=h
 cases e
 exact ⟨n,rfl,by simpa [IntKind.min,IntKind.signed] using n1,by simp [IntKind.max,IntKind.signed,IntKind.bits] at n2;omega⟩
theorem yQ {d:Nat} {x:AV} (h:tyV Tryz.prog (d+3) 22 x):∃ s,x=.slice .any 1 s∧isB s:=by
 rw [t7 pr rfl,Cm pr] at h
 obtain ⟨_,xs,e,_,hx⟩:=h
 cases e
 refine ⟨xs,by rw [Er pg],GK fun x hm=>?_⟩
 have:=hx x hm
 rw [t7 pg rfl,xQ pg] at this
 obtain ⟨_,m,e,m1,m2⟩:=this
 cases e
 exact ⟨m,rfl,by simpa [IntKind.min,IntKind.signed] using m1,by simp [IntKind.max,IntKind.signed,IntKind.bits] at m2;omega⟩
end Go.AL
