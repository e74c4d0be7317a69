/- Contracts and plain laws, a part of the proof; no condition of its own. -/
import Derived.Test.YtokjjhidigoodaaS10z
import Derived.Test.YtokjjhidigoodaaLVal
import Derived.Test.YtokjjhidigoodaaLSch2
open Go Go.AL Go.Proofs
namespace Go.AL
set_option linter.all false
set_option maxRecDepth 10000
theorem zD:ti Try.prog 3=some ⟨.int .i64,1,8,.int .i64 0⟩:=by kernel_rfl
theorem uX:ti Try.prog 82=some ⟨.struct [(0,3,false),(1,9,false),(2,3,false)],3,32,.agg [.int .i64 0,.str [],.int .i64 0]⟩:=by kernel_rfl
theorem r8:ti Try.prog 84=some ⟨.struct [(0,3,false),(1,9,false),(2,36,false)],3,48,.agg [.int .i64 0,.str [],.slice .nil 1 []]⟩:=by kernel_rfl
theorem xL:ti Try.prog 139=some ⟨.struct [(0,95,false),(2,95,false),(4,3,false)],5,40,.agg [.int .u64 0,.int .u64 0,.int .u64 0,.int .u64 0,.int .i64 0]⟩:=by kernel_rfl
theorem vV:ti Try.prog 137=some ⟨.struct [(0,3,false),(1,3,false),(2,3,false),(3,135,false),(4,3,false)],5,56,.agg [.int .i64 0,.int .i64 0,.int .i64 0,.slice .nil 1 [],.int .i64 0]⟩:=by kernel_rfl
theorem xT:ti Try.prog 143=some ⟨.struct [(0,3,false),(1,3,false),(2,141,false)],6,48,.agg [.int .i64 0,.int .i64 0,.int .i64 0,.int .i64 0,.int .u64 0,.int .u64 0]⟩:=by kernel_rfl
theorem qI:ti Try.prog 141=some ⟨.struct [(0,3,false),(1,3,false),(2,95,false)],4,32,.agg [.int .i64 0,.int .i64 0,.int .u64 0,.int .u64 0]⟩:=by kernel_rfl
theorem uO:ti Try.prog 109=some ⟨.struct [(0,9,false),(1,3,false)],2,24,.agg [.str [],.int .i64 0]⟩:=by kernel_rfl
theorem sj:ti Try.prog 45=some ⟨.struct [(0,3,false),(1,9,false),(2,42,false),(3,43,false),(4,9,false)],5,88,.agg [.int .i64 0,.str [],.slice .nil 1 [],.slice .nil 1 [],.str []]⟩:=by kernel_rfl
theorem zV:ti Try.prog 79=some ⟨.struct [(0,9,false),(1,3,false),(2,3,false)],3,32,.agg [.str [],.int .i64 0,.int .i64 0]⟩:=by kernel_rfl
theorem uA:ti Try.prog 38=some ⟨.struct [(0,3,false),(1,9,false),(2,35,false),(3,36,false),(4,3,false),(5,23,false),(6,3,false),(7,9,false)],8,128,.agg [.int .i64 0,.str [],.slice .nil 1 [],.slice .nil 1 [],.int .i64 0,.slice .nil 1 [],.int .i64 0,.str []]⟩:=by kernel_rfl
theorem vP:ti Try.prog 90=some ⟨.struct [(0,3,false),(1,3,false)],2,16,.agg [.int .i64 0,.int .i64 0]⟩:=by kernel_rfl
theorem uF:ti Try.prog 150=some ⟨.struct [(0,3,false),(1,4,false),(2,4,false),(3,148,false)],4,40,.agg [.int .i64 0,.bool false,.bool false,.slice .nil 1 []]⟩:=by kernel_rfl
theorem xm:ti Try.prog 147=some ⟨.struct [(0,3,false),(1,9,false),(2,145,false),(3,36,false),(4,3,false),(5,4,false)],6,88,.agg [.int .i64 0,.str [],.slice .nil 1 [],.slice .nil 1 [],.int .i64 0,.bool false]⟩:=by kernel_rfl
theorem yy:ti Try.prog 92=some ⟨.struct [(0,3,false),(1,3,false),(2,3,false),(3,3,false),(4,3,false),(5,3,false)],6,48,.agg [.int .i64 0,.int .i64 0,.int .i64 0,.int .i64 0,.int .i64 0,.int .i64 0]⟩:=by kernel_rfl
theorem sK:ti Try.prog 55=some ⟨.struct [(0,46,false),(1,47,false),(2,48,false),(3,49,false),(4,50,false),(5,51,false),(6,52,false),(7,53,false),(8,3,false),(9,3,false)],10,208,.agg [.slice .nil 1 [],.slice .nil 1 [],.slice .nil 1 [],.slice .nil 1 [],.slice .nil 1 [],.slice .nil 1 [],.slice .nil 1 [],.slice .nil 1 [],.int .i64 0,.int .i64 0]⟩:=by kernel_rfl
theorem u7:ti Try.prog 100=some ⟨.struct [(0,4,false),(1,95,false),(3,95,false),(5,3,false),(6,95,false)],8,64,.agg [.bool false,.int .u64 0,.int .u64 0,.int .u64 0,.int .u64 0,.int .i64 0,.int .u64 0,.int .u64 0]⟩:=by kernel_rfl
theorem vz:ti Try.prog 41=some ⟨.struct [(0,3,false),(1,39,false),(2,3,false),(3,3,false),(4,23,false)],5,72,.agg [.int .i64 0,.slice .nil 1 [],.int .i64 0,.int .i64 0,.slice .nil 1 []]⟩:=by kernel_rfl
theorem uT:ti Try.prog 46=some ⟨.slice 82,1,24,.slice .nil 1 []⟩:=by kernel_rfl
theorem tc:ti Try.prog 47=some ⟨.slice 84,1,24,.slice .nil 1 []⟩:=by kernel_rfl
theorem yd:ti Try.prog 135=some ⟨.slice 139,1,24,.slice .nil 1 []⟩:=by kernel_rfl
theorem uo:ti Try.prog 48=some ⟨.slice 137,1,24,.slice .nil 1 []⟩:=by kernel_rfl
theorem xr:ti Try.prog 43=some ⟨.slice 143,1,24,.slice .nil 1 []⟩:=by kernel_rfl
theorem vp:ti Try.prog 42=some ⟨.slice 109,1,24,.slice .nil 1 []⟩:=by kernel_rfl
theorem rO:ti Try.prog 49=some ⟨.slice 45,1,24,.slice .nil 1 []⟩:=by kernel_rfl
theorem zW:ti Try.prog 35=some ⟨.slice 79,1,24,.slice .nil 1 []⟩:=by kernel_rfl
theorem vC:ti Try.prog 50=some ⟨.slice 38,1,24,.slice .nil 1 []⟩:=by kernel_rfl
theorem vN:ti Try.prog 51=some ⟨.slice 90,1,24,.slice .nil 1 []⟩:=by kernel_rfl
theorem ux:ti Try.prog 145=some ⟨.slice 150,1,24,.slice .nil 1 []⟩:=by kernel_rfl
theorem wj:ti Try.prog 52=some ⟨.slice 147,1,24,.slice .nil 1 []⟩:=by kernel_rfl
theorem zg:ti Try.prog 53=some ⟨.slice 92,1,24,.slice .nil 1 []⟩:=by kernel_rfl
theorem vg:ti Try.prog 39=some ⟨.slice 100,1,24,.slice .nil 1 []⟩:=by kernel_rfl
theorem yM:ti Try.prog 23=some ⟨.slice 95,1,24,.slice .nil 1 []⟩:=by kernel_rfl
theorem zG:ti Try.prog 36=some ⟨.slice 3,1,24,.slice .nil 1 []⟩:=by kernel_rfl
theorem xO:ti Try.prog 148=some ⟨.slice 4,1,24,.slice .nil 1 []⟩:=by kernel_rfl
attribute [go_sem] zD uX r8 xL vV xT qI uO sj zV uA vP uF xm yy sK u7 vz uT tc yd uo xr vp rO zW vC vN ux wj zg vg yM zG xO
end Go.AL
open Go Go.AL Go.Proofs
namespace Go.AL
set_option linter.all false
set_option maxRecDepth 10000
theorem sc:ti Try.prog 33=some ⟨.slice 9,1,24,.slice .nil 1 []⟩:=by kernel_rfl
theorem rp:ti Try.prog 144=some ⟨.slice 33,1,24,.slice .nil 1 []⟩:=by kernel_rfl
attribute [go_sem] sc rp
/-- nothing but one object was changed -/
structure But (id:Nat) (H Hc:AHeap):Prop where
 nx:H.nx≤Hc.nx
 get:∀ j x,j≠id→H.get j=some x→Hc.get j=some x
theorem But.push {id:Nat} {H Hc:AHeap} (h:But id H Hc) (o:AObj):But id H (Hc.push o):=⟨by rw [zla];exact Nat.le_succ_of_le h.nx,fun j x hj hx=>by
 have:=h.get j x hj hx
 rw [AHeap.get_push_lt _ _ (AHeap.get_lt this)];exact this⟩
theorem But.set {id i:Nat} {H Hc:AHeap} (h:But id H Hc) (o:AObj) (hi:i=id∨H.nx≤i):But id H (Hc.set i o):=⟨by rw [zlb];exact h.nx,fun j x hj hx=>by
 have hlt:=AHeap.get_lt hx
 rw [AHeap.get_set_ne _ _ (by rcases hi with rfl|hi<;>omega)]
 exact h.get j x hj hx⟩
theorem But.del {id i:Nat} {H Hc:AHeap} (h:But id H Hc) (hi:H.nx≤i):But id H (Hc.del i):=⟨by rw [eO];exact h.nx,fun j x hj hx=>by
 have hlt:=AHeap.get_lt hx
 rw [gp,if_neg (by omega)]
 exact h.get j x hj hx⟩
theorem But.le {id:Nat} {H Hc:AHeap} {o:AObj} (h:But id H Hc) (hg:Hc.get id=some o):(H.set id o).Le Hc:=zf h.get hg h.nx
end Go.AL
open Go Go.AL Go.Proofs
namespace Go.AL
set_option linter.all false
set_option maxRecDepth 10000
end Go.AL
