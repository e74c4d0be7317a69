/- Lemmas of the proof; no condition. -/
import Derived.Test.YthnlhjalhflgfaaGreatW03p
import Derived.Test.YthnlhjalhflgfaaGreatAlTop
set_option linter.all false
set_option maxRecDepth 10000
open Go Go.AL Go.Proofs
namespace Go.AL
theorem uw:ti Tryz.prog 3=some ⟨.int .i64,1,8,.int .i64 0⟩:=by kernel_rfl
theorem Lq:ti Tryz.prog 9=some ⟨.string,1,16,.str []⟩:=by kernel_rfl
theorem Ec:ti Tryz.prog 4=some ⟨.bool,1,1,.bool false⟩:=by kernel_rfl
theorem uK:ti Tryz.prog 5=some ⟨.int .u8,1,1,.int .u8 0⟩:=by kernel_rfl
theorem Ka:ti Tryz.prog 104=some ⟨.int .u64,1,8,.int .u64 0⟩:=by kernel_rfl
theorem p9:ti Tryz.prog 22=some ⟨.slice 5,1,24,.slice .nil 1 []⟩:=by kernel_rfl
theorem Lh:ti Tryz.prog 106=some ⟨.struct [(0,104,false),(1,104,false)],2,16,.agg [.int .u64 0,.int .u64 0]⟩:=by kernel_rfl
theorem GY:ti Tryz.prog 55=some ⟨.slice 106,1,24,.slice .nil 1 []⟩:=by kernel_rfl
theorem Fd:ti Tryz.prog 23=some ⟨.slice 3,1,24,.slice .nil 1 []⟩:=by kernel_rfl
theorem BD:ti Tryz.prog 117=some ⟨.slice 4,1,24,.slice .nil 1 []⟩:=by kernel_rfl
theorem Kr:ti Tryz.prog 45=some ⟨.struct [(0,3,false),(1,9,false),(2,3,false)],3,32,.agg [.int .i64 0,.str [],.int .i64 0]⟩:=by kernel_rfl
theorem G5:ti Tryz.prog 25=some ⟨.slice 45,1,24,.slice .nil 1 []⟩:=by kernel_rfl
theorem Kl:ti Tryz.prog 69=some ⟨.struct [(0,3,false),(1,9,false),(2,23,false)],3,48,.agg [.int .i64 0,.str [],.slice .nil 1 []]⟩:=by kernel_rfl
theorem Dc:ti Tryz.prog 26=some ⟨.slice 69,1,24,.slice .nil 1 []⟩:=by kernel_rfl
theorem Jz:ti Tryz.prog 108=some ⟨.struct [(0,106,false),(2,106,false),(4,3,false)],5,40,.agg [.int .u64 0,.int .u64 0,.int .u64 0,.int .u64 0,.int .i64 0]⟩:=by kernel_rfl
theorem Db:ti Tryz.prog 79=some ⟨.slice 108,1,24,.slice .nil 1 []⟩:=by kernel_rfl
theorem IW:ti Tryz.prog 81=some ⟨.struct [(0,3,false),(1,3,false),(2,3,false),(3,79,false),(4,3,false)],5,56,.agg [.int .i64 0,.int .i64 0,.int .i64 0,.slice .nil 1 [],.int .i64 0]⟩:=by kernel_rfl
theorem Df:ti Tryz.prog 27=some ⟨.slice 81,1,24,.slice .nil 1 []⟩:=by kernel_rfl
theorem Jt:ti Tryz.prog 110=some ⟨.struct [(0,3,false),(1,3,false),(2,106,false)],4,32,.agg [.int .i64 0,.int .i64 0,.int .u64 0,.int .u64 0]⟩:=by kernel_rfl
theorem IG:ti Tryz.prog 112=some ⟨.struct [(0,3,false),(1,3,false),(2,110,false)],6,48,.agg [.int .i64 0,.int .i64 0,.int .i64 0,.int .i64 0,.int .u64 0,.int .u64 0]⟩:=by kernel_rfl
theorem GI:ti Tryz.prog 84=some ⟨.slice 112,1,24,.slice .nil 1 []⟩:=by kernel_rfl
theorem JE:ti Tryz.prog 114=some ⟨.struct [(0,9,false),(1,3,false)],2,24,.agg [.str [],.int .i64 0]⟩:=by kernel_rfl
theorem E6:ti Tryz.prog 83=some ⟨.slice 114,1,24,.slice .nil 1 []⟩:=by kernel_rfl
theorem Lf:ti Tryz.prog 86=some ⟨.struct [(0,3,false),(1,9,false),(2,83,false),(3,84,false),(4,9,false)],5,88,.agg [.int .i64 0,.str [],.slice .nil 1 [],.slice .nil 1 [],.str []]⟩:=by kernel_rfl
theorem C8:ti Tryz.prog 28=some ⟨.slice 86,1,24,.slice .nil 1 []⟩:=by kernel_rfl
theorem Lb:ti Tryz.prog 53=some ⟨.struct [(0,9,false),(1,3,false),(2,3,false)],3,32,.agg [.str [],.int .i64 0,.int .i64 0]⟩:=by kernel_rfl
theorem CB:ti Tryz.prog 54=some ⟨.slice 53,1,24,.slice .nil 1 []⟩:=by kernel_rfl
theorem JK:ti Tryz.prog 57=some ⟨.struct [(0,3,false),(1,9,false),(2,54,false),(3,23,false),(4,3,false),(5,55,false),(6,3,false),(7,9,false)],8,128,.agg [.int .i64 0,.str [],.slice .nil 1 [],.slice .nil 1 [],.int .i64 0,.slice .nil 1 [],.int .i64 0,.str []]⟩:=by kernel_rfl
theorem Eo:ti Tryz.prog 29=some ⟨.slice 57,1,24,.slice .nil 1 []⟩:=by kernel_rfl
theorem Kx:ti Tryz.prog 75=some ⟨.struct [(0,3,false),(1,3,false)],2,16,.agg [.int .i64 0,.int .i64 0]⟩:=by kernel_rfl
theorem HY:ti Tryz.prog 30=some ⟨.slice 75,1,24,.slice .nil 1 []⟩:=by kernel_rfl
theorem IZ:ti Tryz.prog 119=some ⟨.struct [(0,3,false),(1,4,false),(2,4,false),(3,117,false)],4,40,.agg [.int .i64 0,.bool false,.bool false,.slice .nil 1 []]⟩:=by kernel_rfl
theorem C6:ti Tryz.prog 46=some ⟨.slice 119,1,24,.slice .nil 1 []⟩:=by kernel_rfl
theorem KA:ti Tryz.prog 48=some ⟨.struct [(0,3,false),(1,9,false),(2,46,false),(3,23,false),(4,3,false),(5,4,false)],6,88,.agg [.int .i64 0,.str [],.slice .nil 1 [],.slice .nil 1 [],.int .i64 0,.bool false]⟩:=by kernel_rfl
theorem GL:ti Tryz.prog 31=some ⟨.slice 48,1,24,.slice .nil 1 []⟩:=by kernel_rfl
theorem K8:ti Tryz.prog 50=some ⟨.struct [(0,3,false),(1,3,false),(2,3,false),(3,3,false),(4,3,false),(5,3,false)],6,48,.agg [.int .i64 0,.int .i64 0,.int .i64 0,.int .i64 0,.int .i64 0,.int .i64 0]⟩:=by kernel_rfl
theorem E0:ti Tryz.prog 32=some ⟨.slice 50,1,24,.slice .nil 1 []⟩:=by kernel_rfl
theorem KV:ti Tryz.prog 34=some ⟨.struct [(0,25,false),(1,26,false),(2,27,false),(3,28,false),(4,29,false),(5,30,false),(6,31,false),(7,32,false),(8,3,false),(9,3,false)],10,208,.agg [.slice .nil 1 [],.slice .nil 1 [],.slice .nil 1 [],.slice .nil 1 [],.slice .nil 1 [],.slice .nil 1 [],.slice .nil 1 [],.slice .nil 1 [],.int .i64 0,.int .i64 0]⟩:=by kernel_rfl
attribute [go_sem] uw Lq Ec uK Ka p9 Lh GY Fd BD Kr G5 Kl Dc Jz Db IW Df Jt IG GI JE E6 Lf C8 Lb CB JK Eo Kx HY IZ C6 KA GL K8 E0 KV
theorem Gj {d:Nat} {x:AV} (h:tyV Tryz.prog (d+1) 3 x):∃ n,x=.int .i64 n ∧ -9223372036854775808≤n∧n<9223372036854775808:=by
 rw [yq uw rfl,HE uw] at h
 obtain ⟨_,n,e,n1,n2⟩:=h
 cases e
 exact ⟨n,rfl,by simp [IntKind.min,IntKind.signed,IntKind.bits] at n1;omega,by simp [IntKind.max,IntKind.signed,IntKind.bits] at n2;omega⟩
theorem JH {d:Nat} {x:AV} (h:tyV Tryz.prog (d+3) 22 x):∃ s,x=.slice .any 1 s∧isB s:=by
 rw [yq p9 rfl,Ek p9] at h
 obtain ⟨_,xs,e,_,hx⟩:=h
 cases e
 refine ⟨xs,by rw [D8 uK],Nj fun x hm=>?_⟩
 have:=hx x hm
 rw [yq uK rfl,HE uK] at this
 obtain ⟨_,m,e,m1,m2⟩:=this
 cases e
 exact ⟨m,rfl,by simpa [IntKind.min,IntKind.signed] using m1,by simp [IntKind.max,IntKind.signed,IntKind.bits] at m2;omega⟩
end Go.AL
