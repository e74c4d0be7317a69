/- Contracts and plain laws, a part of the proof; no condition of its own. -/
import Derived.Test.YtcnkffeikmkeiaaGreatS10z
import Derived.Test.YtcnkffeikmkeiaaGreatLVal
import Derived.Test.YtcnkffeikmkeiaaGreatLSch2
open Go Go.AL Go.Proofs
namespace Go.AL
set_option linter.all false
set_option maxRecDepth 10000
theorem Cx:ti Tryz.prog 3=some ⟨.int .i64,1,8,.int .i64 0⟩:=by kernel_rfl
theorem yR:ti Tryz.prog 116=some ⟨.struct [(0,3,false),(1,9,false),(2,3,false)],3,32,.agg [.int .i64 0,.str [],.int .i64 0]⟩:=by kernel_rfl
theorem uP:ti Tryz.prog 118=some ⟨.struct [(0,3,false),(1,9,false),(2,110,false)],3,48,.agg [.int .i64 0,.str [],.slice .nil 1 []]⟩:=by kernel_rfl
theorem BB:ti Tryz.prog 184=some ⟨.struct [(0,67,false),(2,67,false),(4,3,false)],5,40,.agg [.int .u64 0,.int .u64 0,.int .u64 0,.int .u64 0,.int .i64 0]⟩:=by kernel_rfl
theorem xW:ti Tryz.prog 182=some ⟨.struct [(0,3,false),(1,3,false),(2,3,false),(3,180,false),(4,3,false)],5,56,.agg [.int .i64 0,.int .i64 0,.int .i64 0,.slice .nil 1 [],.int .i64 0]⟩:=by kernel_rfl
theorem AZ:ti Tryz.prog 188=some ⟨.struct [(0,3,false),(1,3,false),(2,186,false)],6,48,.agg [.int .i64 0,.int .i64 0,.int .i64 0,.int .i64 0,.int .u64 0,.int .u64 0]⟩:=by kernel_rfl
theorem uk:ti Tryz.prog 186=some ⟨.struct [(0,3,false),(1,3,false),(2,67,false)],4,32,.agg [.int .i64 0,.int .i64 0,.int .u64 0,.int .u64 0]⟩:=by kernel_rfl
theorem yV:ti Tryz.prog 190=some ⟨.struct [(0,9,false),(1,3,false)],2,24,.agg [.str [],.int .i64 0]⟩:=by kernel_rfl
theorem vy:ti Tryz.prog 132=some ⟨.struct [(0,3,false),(1,9,false),(2,129,false),(3,130,false),(4,9,false)],5,88,.agg [.int .i64 0,.str [],.slice .nil 1 [],.slice .nil 1 [],.str []]⟩:=by kernel_rfl
theorem Ci:ti Tryz.prog 108=some ⟨.struct [(0,9,false),(1,3,false),(2,3,false)],3,32,.agg [.str [],.int .i64 0,.int .i64 0]⟩:=by kernel_rfl
theorem yq:ti Tryz.prog 112=some ⟨.struct [(0,3,false),(1,9,false),(2,109,false),(3,110,false),(4,3,false),(5,23,false),(6,3,false),(7,9,false)],8,128,.agg [.int .i64 0,.str [],.slice .nil 1 [],.slice .nil 1 [],.int .i64 0,.slice .nil 1 [],.int .i64 0,.str []]⟩:=by kernel_rfl
theorem xu:ti Tryz.prog 124=some ⟨.struct [(0,3,false),(1,3,false)],2,16,.agg [.int .i64 0,.int .i64 0]⟩:=by kernel_rfl
theorem yI:ti Tryz.prog 197=some ⟨.struct [(0,3,false),(1,4,false),(2,4,false),(3,195,false)],4,40,.agg [.int .i64 0,.bool false,.bool false,.slice .nil 1 []]⟩:=by kernel_rfl
theorem BK:ti Tryz.prog 194=some ⟨.struct [(0,3,false),(1,9,false),(2,192,false),(3,110,false),(4,3,false),(5,4,false)],6,88,.agg [.int .i64 0,.str [],.slice .nil 1 [],.slice .nil 1 [],.int .i64 0,.bool false]⟩:=by kernel_rfl
theorem Ck:ti Tryz.prog 126=some ⟨.struct [(0,3,false),(1,3,false),(2,3,false),(3,3,false),(4,3,false),(5,3,false)],6,48,.agg [.int .i64 0,.int .i64 0,.int .i64 0,.int .i64 0,.int .i64 0,.int .i64 0]⟩:=by kernel_rfl
theorem vg:ti Tryz.prog 56=some ⟨.struct [(0,47,false),(1,48,false),(2,49,false),(3,50,false),(4,51,false),(5,52,false),(6,53,false),(7,54,false),(8,3,false),(9,3,false)],10,208,.agg [.slice .nil 1 [],.slice .nil 1 [],.slice .nil 1 [],.slice .nil 1 [],.slice .nil 1 [],.slice .nil 1 [],.slice .nil 1 [],.slice .nil 1 [],.int .i64 0,.int .i64 0]⟩:=by kernel_rfl
theorem ye:ti Tryz.prog 177=some ⟨.struct [(0,4,false),(1,67,false),(3,67,false),(5,3,false),(6,67,false)],8,64,.agg [.bool false,.int .u64 0,.int .u64 0,.int .u64 0,.int .u64 0,.int .i64 0,.int .u64 0,.int .u64 0]⟩:=by kernel_rfl
theorem yt:ti Tryz.prog 46=some ⟨.struct [(0,3,false),(1,44,false),(2,3,false),(3,3,false),(4,23,false)],5,72,.agg [.int .i64 0,.slice .nil 1 [],.int .i64 0,.int .i64 0,.slice .nil 1 []]⟩:=by kernel_rfl
theorem xr:ti Tryz.prog 47=some ⟨.slice 116,1,24,.slice .nil 1 []⟩:=by kernel_rfl
theorem vQ:ti Tryz.prog 48=some ⟨.slice 118,1,24,.slice .nil 1 []⟩:=by kernel_rfl
theorem BJ:ti Tryz.prog 180=some ⟨.slice 184,1,24,.slice .nil 1 []⟩:=by kernel_rfl
theorem x8:ti Tryz.prog 49=some ⟨.slice 182,1,24,.slice .nil 1 []⟩:=by kernel_rfl
theorem BG:ti Tryz.prog 130=some ⟨.slice 188,1,24,.slice .nil 1 []⟩:=by kernel_rfl
theorem zl:ti Tryz.prog 129=some ⟨.slice 190,1,24,.slice .nil 1 []⟩:=by kernel_rfl
theorem wc:ti Tryz.prog 50=some ⟨.slice 132,1,24,.slice .nil 1 []⟩:=by kernel_rfl
theorem B3:ti Tryz.prog 109=some ⟨.slice 108,1,24,.slice .nil 1 []⟩:=by kernel_rfl
theorem yM:ti Tryz.prog 51=some ⟨.slice 112,1,24,.slice .nil 1 []⟩:=by kernel_rfl
theorem xT:ti Tryz.prog 52=some ⟨.slice 124,1,24,.slice .nil 1 []⟩:=by kernel_rfl
theorem yz:ti Tryz.prog 192=some ⟨.slice 197,1,24,.slice .nil 1 []⟩:=by kernel_rfl
theorem As:ti Tryz.prog 53=some ⟨.slice 194,1,24,.slice .nil 1 []⟩:=by kernel_rfl
theorem Cd:ti Tryz.prog 54=some ⟨.slice 126,1,24,.slice .nil 1 []⟩:=by kernel_rfl
theorem zd:ti Tryz.prog 44=some ⟨.slice 177,1,24,.slice .nil 1 []⟩:=by kernel_rfl
theorem yv:ti Tryz.prog 58=some ⟨.slice 46,1,24,.slice .nil 1 []⟩:=by kernel_rfl
theorem CZ:ti Tryz.prog 23=some ⟨.slice 67,1,24,.slice .nil 1 []⟩:=by kernel_rfl
theorem C4:ti Tryz.prog 110=some ⟨.slice 3,1,24,.slice .nil 1 []⟩:=by kernel_rfl
theorem zU:ti Tryz.prog 195=some ⟨.slice 4,1,24,.slice .nil 1 []⟩:=by kernel_rfl
attribute [go_sem] Cx yR uP BB xW AZ uk yV vy Ci yq xu yI BK Ck vg ye yt xr vQ BJ x8 BG zl wc B3 yM xT yz As Cd zd yv CZ C4 zU
end Go.AL
open Go Go.AL Go.Proofs
namespace Go.AL
set_option linter.all false
set_option maxRecDepth 10000
theorem vN:ti Tryz.prog 75=some ⟨.slice 9,1,24,.slice .nil 1 []⟩:=by kernel_rfl
theorem tX:ti Tryz.prog 191=some ⟨.slice 75,1,24,.slice .nil 1 []⟩:=by kernel_rfl
attribute [go_sem] vN tX
/-- nothing but one object was changed -/
structure But (id:Nat) (H Hc:AHeap):Prop where
 nx:H.nx≤Hc.nx
 get:∀ j x,j≠id→H.get j=some x→Hc.get j=some x
theorem But.push {id:Nat} {H Hc:AHeap} (h:But id H Hc) (o:AObj):But id H (Hc.push o):=⟨by rw [zla];exact Nat.le_succ_of_le h.nx,fun j x hj hx=>by
 have:=h.get j x hj hx
 rw [AHeap.get_push_lt _ _ (AHeap.get_lt this)];exact this⟩
theorem But.set {id i:Nat} {H Hc:AHeap} (h:But id H Hc) (o:AObj) (hi:i=id∨H.nx≤i):But id H (Hc.set i o):=⟨by rw [zlb];exact h.nx,fun j x hj hx=>by
 have hlt:=AHeap.get_lt hx
 rw [AHeap.get_set_ne _ _ (by rcases hi with rfl|hi<;>omega)]
 exact h.get j x hj hx⟩
theorem But.del {id i:Nat} {H Hc:AHeap} (h:But id H Hc) (hi:H.nx≤i):But id H (Hc.del i):=⟨by rw [fY];exact h.nx,fun j x hj hx=>by
 have hlt:=AHeap.get_lt hx
 rw [jf,if_neg (by omega)]
 exact h.get j x hj hx⟩
theorem But.le {id:Nat} {H Hc:AHeap} {o:AObj} (h:But id H Hc) (hg:Hc.get id=some o):(H.set id o).Le Hc:=B7 h.get hg h.nx
end Go.AL
open Go Go.AL Go.Proofs
namespace Go.AL
set_option linter.all false
set_option maxRecDepth 10000
end Go.AL
