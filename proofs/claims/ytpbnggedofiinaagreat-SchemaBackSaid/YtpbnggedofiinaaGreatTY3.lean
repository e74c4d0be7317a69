/- Lemmas of the proof; no condition. -/
import Derived.Test.YtpbnggedofiinaaGreatW03p
import Derived.Test.YtpbnggedofiinaaGreatAlTop
set_option linter.all false
set_option maxRecDepth 10000
open Go Go.AL Go.Proofs
namespace Go.AL
theorem uE:ti Tryz.prog 3=some ⟨.int .i64,1,8,.int .i64 0⟩:=by kernel_rfl
theorem Ga:ti Tryz.prog 9=some ⟨.string,1,16,.str []⟩:=by kernel_rfl
theorem D1:ti Tryz.prog 4=some ⟨.bool,1,1,.bool false⟩:=by kernel_rfl
theorem pK:ti Tryz.prog 5=some ⟨.int .u8,1,1,.int .u8 0⟩:=by kernel_rfl
theorem E8:ti Tryz.prog 36=some ⟨.int .u64,1,8,.int .u64 0⟩:=by kernel_rfl
theorem py:ti Tryz.prog 22=some ⟨.slice 5,1,24,.slice .nil 1 []⟩:=by kernel_rfl
theorem FC:ti Tryz.prog 38=some ⟨.struct [(0,36,false),(1,36,false)],2,16,.agg [.int .u64 0,.int .u64 0]⟩:=by kernel_rfl
theorem Er:ti Tryz.prog 85=some ⟨.slice 38,1,24,.slice .nil 1 []⟩:=by kernel_rfl
theorem DB:ti Tryz.prog 73=some ⟨.slice 3,1,24,.slice .nil 1 []⟩:=by kernel_rfl
theorem Bh:ti Tryz.prog 201=some ⟨.slice 4,1,24,.slice .nil 1 []⟩:=by kernel_rfl
theorem Fm:ti Tryz.prog 72=some ⟨.struct [(0,3,false),(1,9,false),(2,3,false)],3,32,.agg [.int .i64 0,.str [],.int .i64 0]⟩:=by kernel_rfl
theorem Ce:ti Tryz.prog 23=some ⟨.slice 72,1,24,.slice .nil 1 []⟩:=by kernel_rfl
theorem FM:ti Tryz.prog 75=some ⟨.struct [(0,3,false),(1,9,false),(2,73,false)],3,48,.agg [.int .i64 0,.str [],.slice .nil 1 []]⟩:=by kernel_rfl
theorem Dq:ti Tryz.prog 24=some ⟨.slice 75,1,24,.slice .nil 1 []⟩:=by kernel_rfl
theorem Fs:ti Tryz.prog 217=some ⟨.struct [(0,38,false),(2,38,false),(4,3,false)],5,40,.agg [.int .u64 0,.int .u64 0,.int .u64 0,.int .u64 0,.int .i64 0]⟩:=by kernel_rfl
theorem EG:ti Tryz.prog 145=some ⟨.slice 217,1,24,.slice .nil 1 []⟩:=by kernel_rfl
theorem FX:ti Tryz.prog 147=some ⟨.struct [(0,3,false),(1,3,false),(2,3,false),(3,145,false),(4,3,false)],5,56,.agg [.int .i64 0,.int .i64 0,.int .i64 0,.slice .nil 1 [],.int .i64 0]⟩:=by kernel_rfl
theorem DW:ti Tryz.prog 25=some ⟨.slice 147,1,24,.slice .nil 1 []⟩:=by kernel_rfl
theorem FA:ti Tryz.prog 219=some ⟨.struct [(0,3,false),(1,3,false),(2,38,false)],4,32,.agg [.int .i64 0,.int .i64 0,.int .u64 0,.int .u64 0]⟩:=by kernel_rfl
theorem FO:ti Tryz.prog 221=some ⟨.struct [(0,3,false),(1,3,false),(2,219,false)],6,48,.agg [.int .i64 0,.int .i64 0,.int .i64 0,.int .i64 0,.int .u64 0,.int .u64 0]⟩:=by kernel_rfl
theorem BR:ti Tryz.prog 155=some ⟨.slice 221,1,24,.slice .nil 1 []⟩:=by kernel_rfl
theorem FE:ti Tryz.prog 223=some ⟨.struct [(0,9,false),(1,3,false)],2,24,.agg [.str [],.int .i64 0]⟩:=by kernel_rfl
theorem El:ti Tryz.prog 154=some ⟨.slice 223,1,24,.slice .nil 1 []⟩:=by kernel_rfl
theorem Fh:ti Tryz.prog 157=some ⟨.struct [(0,3,false),(1,9,false),(2,154,false),(3,155,false),(4,9,false)],5,88,.agg [.int .i64 0,.str [],.slice .nil 1 [],.slice .nil 1 [],.str []]⟩:=by kernel_rfl
theorem Co:ti Tryz.prog 26=some ⟨.slice 157,1,24,.slice .nil 1 []⟩:=by kernel_rfl
theorem FR:ti Tryz.prog 225=some ⟨.struct [(0,9,false),(1,3,false),(2,3,false)],3,32,.agg [.str [],.int .i64 0,.int .i64 0]⟩:=by kernel_rfl
theorem Dv:ti Tryz.prog 84=some ⟨.slice 225,1,24,.slice .nil 1 []⟩:=by kernel_rfl
theorem Gg:ti Tryz.prog 87=some ⟨.struct [(0,3,false),(1,9,false),(2,84,false),(3,73,false),(4,3,false),(5,85,false),(6,3,false),(7,9,false)],8,128,.agg [.int .i64 0,.str [],.slice .nil 1 [],.slice .nil 1 [],.int .i64 0,.slice .nil 1 [],.int .i64 0,.str []]⟩:=by kernel_rfl
theorem Ea:ti Tryz.prog 27=some ⟨.slice 87,1,24,.slice .nil 1 []⟩:=by kernel_rfl
theorem Gm:ti Tryz.prog 81=some ⟨.struct [(0,3,false),(1,3,false)],2,16,.agg [.int .i64 0,.int .i64 0]⟩:=by kernel_rfl
theorem Cz:ti Tryz.prog 28=some ⟨.slice 81,1,24,.slice .nil 1 []⟩:=by kernel_rfl
theorem EU:ti Tryz.prog 203=some ⟨.struct [(0,3,false),(1,4,false),(2,4,false),(3,201,false)],4,40,.agg [.int .i64 0,.bool false,.bool false,.slice .nil 1 []]⟩:=by kernel_rfl
theorem B8:ti Tryz.prog 176=some ⟨.slice 203,1,24,.slice .nil 1 []⟩:=by kernel_rfl
theorem FI:ti Tryz.prog 178=some ⟨.struct [(0,3,false),(1,9,false),(2,176,false),(3,73,false),(4,3,false),(5,4,false)],6,88,.agg [.int .i64 0,.str [],.slice .nil 1 [],.slice .nil 1 [],.int .i64 0,.bool false]⟩:=by kernel_rfl
theorem ER:ti Tryz.prog 29=some ⟨.slice 178,1,24,.slice .nil 1 []⟩:=by kernel_rfl
theorem Fb:ti Tryz.prog 83=some ⟨.struct [(0,3,false),(1,3,false),(2,3,false),(3,3,false),(4,3,false),(5,3,false)],6,48,.agg [.int .i64 0,.int .i64 0,.int .i64 0,.int .i64 0,.int .i64 0,.int .i64 0]⟩:=by kernel_rfl
theorem Cd:ti Tryz.prog 30=some ⟨.slice 83,1,24,.slice .nil 1 []⟩:=by kernel_rfl
theorem EW:ti Tryz.prog 32=some ⟨.struct [(0,23,false),(1,24,false),(2,25,false),(3,26,false),(4,27,false),(5,28,false),(6,29,false),(7,30,false),(8,3,false),(9,3,false)],10,208,.agg [.slice .nil 1 [],.slice .nil 1 [],.slice .nil 1 [],.slice .nil 1 [],.slice .nil 1 [],.slice .nil 1 [],.slice .nil 1 [],.slice .nil 1 [],.int .i64 0,.int .i64 0]⟩:=by kernel_rfl
attribute [go_sem] uE Ga D1 pK E8 py FC Er DB Bh Fm Ce FM Dq Fs EG FX DW FA FO BR FE El Fh Co FR Dv Gg Ea Gm Cz EU B8 FI ER Fb Cd EW
theorem Id {d:Nat} {x:AV} (h:tyV Tryz.prog (d+1) 3 x):∃ n,x=.int .i64 n ∧ -9223372036854775808≤n∧n<9223372036854775808:=by
 rw [ua uE rfl,xH uE] at h
 obtain ⟨_,n,e,n1,n2⟩:=h
 cases e
 exact ⟨n,rfl,by simp [IntKind.min,IntKind.signed,IntKind.bits] at n1;omega,by simp [IntKind.max,IntKind.signed,IntKind.bits] at n2;omega⟩
theorem Ix {d:Nat} {x:AV} (h:tyV Tryz.prog (d+1) 5 x):∃ n,x=.int .u8 n∧0≤n∧n≤255:=by
 rw [ua pK rfl,xH pK] at h
 obtain ⟨_,n,e,n1,n2⟩:=h
 cases e
 exact ⟨n,rfl,by simpa [IntKind.min,IntKind.signed] using n1,by simp [IntKind.max,IntKind.signed,IntKind.bits] at n2;omega⟩
theorem F3 {d:Nat} {x:AV} (h:tyV Tryz.prog (d+3) 22 x):∃ s,x=.slice .any 1 s∧isB s:=by
 rw [ua py rfl,C3 py] at h
 obtain ⟨_,xs,e,_,hx⟩:=h
 cases e
 refine ⟨xs,by rw [Ev pK],GY fun x hm=>?_⟩
 have:=hx x hm
 rw [ua pK rfl,xH pK] at this
 obtain ⟨_,m,e,m1,m2⟩:=this
 cases e
 exact ⟨m,rfl,by simpa [IntKind.min,IntKind.signed] using m1,by simp [IntKind.max,IntKind.signed,IntKind.bits] at m2;omega⟩
end Go.AL
