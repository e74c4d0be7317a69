/- Contracts and plain laws, a part of the proof; no condition of its own. -/
import Derived.Test.YtiiiljghmilepaaS10z
import Derived.Test.YtiiiljghmilepaaLVal
import Derived.Test.YtiiiljghmilepaaLSch2
open Go Go.AL Go.Proofs
namespace Go.AL
set_option linter.all false
set_option maxRecDepth 10000
theorem uD:ti Try.prog 3=some ⟨.int .i64,1,8,.int .i64 0⟩:=by kernel_rfl
theorem qa:ti Try.prog 134=some ⟨.struct [(0,3,false),(1,9,false),(2,3,false)],3,32,.agg [.int .i64 0,.str [],.int .i64 0]⟩:=by kernel_rfl
theorem oQ:ti Try.prog 136=some ⟨.struct [(0,3,false),(1,9,false),(2,66,false)],3,48,.agg [.int .i64 0,.str [],.slice .nil 1 []]⟩:=by kernel_rfl
theorem tr:ti Try.prog 170=some ⟨.struct [(0,56,false),(2,56,false),(4,3,false)],5,40,.agg [.int .u64 0,.int .u64 0,.int .u64 0,.int .u64 0,.int .i64 0]⟩:=by kernel_rfl
theorem q8:ti Try.prog 168=some ⟨.struct [(0,3,false),(1,3,false),(2,3,false),(3,166,false),(4,3,false)],5,56,.agg [.int .i64 0,.int .i64 0,.int .i64 0,.slice .nil 1 [],.int .i64 0]⟩:=by kernel_rfl
theorem sb:ti Try.prog 174=some ⟨.struct [(0,3,false),(1,3,false),(2,172,false)],6,48,.agg [.int .i64 0,.int .i64 0,.int .i64 0,.int .i64 0,.int .u64 0,.int .u64 0]⟩:=by kernel_rfl
theorem nt:ti Try.prog 172=some ⟨.struct [(0,3,false),(1,3,false),(2,56,false)],4,32,.agg [.int .i64 0,.int .i64 0,.int .u64 0,.int .u64 0]⟩:=by kernel_rfl
theorem re:ti Try.prog 132=some ⟨.struct [(0,9,false),(1,3,false)],2,24,.agg [.str [],.int .i64 0]⟩:=by kernel_rfl
theorem ow:ti Try.prog 73=some ⟨.struct [(0,3,false),(1,9,false),(2,70,false),(3,71,false),(4,9,false)],5,88,.agg [.int .i64 0,.str [],.slice .nil 1 [],.slice .nil 1 [],.str []]⟩:=by kernel_rfl
theorem t7:ti Try.prog 119=some ⟨.struct [(0,9,false),(1,3,false),(2,3,false)],3,32,.agg [.str [],.int .i64 0,.int .i64 0]⟩:=by kernel_rfl
theorem qw:ti Try.prog 69=some ⟨.struct [(0,3,false),(1,9,false),(2,65,false),(3,66,false),(4,3,false),(5,67,false),(6,3,false),(7,9,false)],8,128,.agg [.int .i64 0,.str [],.slice .nil 1 [],.slice .nil 1 [],.int .i64 0,.slice .nil 1 [],.int .i64 0,.str []]⟩:=by kernel_rfl
theorem qF:ti Try.prog 142=some ⟨.struct [(0,3,false),(1,3,false)],2,16,.agg [.int .i64 0,.int .i64 0]⟩:=by kernel_rfl
theorem qv:ti Try.prog 181=some ⟨.struct [(0,3,false),(1,4,false),(2,4,false),(3,179,false)],4,40,.agg [.int .i64 0,.bool false,.bool false,.slice .nil 1 []]⟩:=by kernel_rfl
theorem tt:ti Try.prog 178=some ⟨.struct [(0,3,false),(1,9,false),(2,176,false),(3,66,false),(4,3,false),(5,4,false)],6,88,.agg [.int .i64 0,.str [],.slice .nil 1 [],.slice .nil 1 [],.int .i64 0,.bool false]⟩:=by kernel_rfl
theorem tP:ti Try.prog 144=some ⟨.struct [(0,3,false),(1,3,false),(2,3,false),(3,3,false),(4,3,false),(5,3,false)],6,48,.agg [.int .i64 0,.int .i64 0,.int .i64 0,.int .i64 0,.int .i64 0,.int .i64 0]⟩:=by kernel_rfl
theorem pj:ti Try.prog 88=some ⟨.struct [(0,79,false),(1,80,false),(2,81,false),(3,82,false),(4,83,false),(5,84,false),(6,85,false),(7,86,false),(8,3,false),(9,3,false)],10,208,.agg [.slice .nil 1 [],.slice .nil 1 [],.slice .nil 1 [],.slice .nil 1 [],.slice .nil 1 [],.slice .nil 1 [],.slice .nil 1 [],.slice .nil 1 [],.int .i64 0,.int .i64 0]⟩:=by kernel_rfl
theorem qV:ti Try.prog 79=some ⟨.slice 134,1,24,.slice .nil 1 []⟩:=by kernel_rfl
theorem oB:ti Try.prog 80=some ⟨.slice 136,1,24,.slice .nil 1 []⟩:=by kernel_rfl
theorem sj:ti Try.prog 166=some ⟨.slice 170,1,24,.slice .nil 1 []⟩:=by kernel_rfl
theorem qG:ti Try.prog 81=some ⟨.slice 168,1,24,.slice .nil 1 []⟩:=by kernel_rfl
theorem tg:ti Try.prog 71=some ⟨.slice 174,1,24,.slice .nil 1 []⟩:=by kernel_rfl
theorem q6:ti Try.prog 70=some ⟨.slice 132,1,24,.slice .nil 1 []⟩:=by kernel_rfl
theorem pg:ti Try.prog 82=some ⟨.slice 73,1,24,.slice .nil 1 []⟩:=by kernel_rfl
theorem tG:ti Try.prog 65=some ⟨.slice 119,1,24,.slice .nil 1 []⟩:=by kernel_rfl
theorem rj:ti Try.prog 83=some ⟨.slice 69,1,24,.slice .nil 1 []⟩:=by kernel_rfl
theorem qU:ti Try.prog 84=some ⟨.slice 142,1,24,.slice .nil 1 []⟩:=by kernel_rfl
theorem qW:ti Try.prog 176=some ⟨.slice 181,1,24,.slice .nil 1 []⟩:=by kernel_rfl
theorem sn:ti Try.prog 85=some ⟨.slice 178,1,24,.slice .nil 1 []⟩:=by kernel_rfl
theorem uC:ti Try.prog 86=some ⟨.slice 144,1,24,.slice .nil 1 []⟩:=by kernel_rfl
theorem tT:ti Try.prog 67=some ⟨.slice 56,1,24,.slice .nil 1 []⟩:=by kernel_rfl
theorem t9:ti Try.prog 66=some ⟨.slice 3,1,24,.slice .nil 1 []⟩:=by kernel_rfl
theorem su:ti Try.prog 179=some ⟨.slice 4,1,24,.slice .nil 1 []⟩:=by kernel_rfl
attribute [go_sem] uD qa oQ tr q8 sb nt re ow t7 qw qF qv tt tP pj qV oB sj qG tg q6 pg tG rj qU qW sn uC tT t9 su
end Go.AL
open Go Go.AL Go.Proofs
namespace Go.AL
set_option linter.all false
set_option maxRecDepth 10000
theorem pb:ti Try.prog 49=some ⟨.slice 9,1,24,.slice .nil 1 []⟩:=by kernel_rfl
theorem nz:ti Try.prog 175=some ⟨.slice 49,1,24,.slice .nil 1 []⟩:=by kernel_rfl
attribute [go_sem] pb nz
/-- nothing but one object was changed -/
structure But (id:Nat) (H Hc:AHeap):Prop where
 nx:H.nx≤Hc.nx
 get:∀ j x,j≠id→H.get j=some x→Hc.get j=some x
theorem But.push {id:Nat} {H Hc:AHeap} (h:But id H Hc) (o:AObj):But id H (Hc.push o):=⟨by rw [zky];exact Nat.le_succ_of_le h.nx,fun j x hj hx=>by
 have:=h.get j x hj hx
 rw [AHeap.get_push_lt _ _ (AHeap.get_lt this)];exact this⟩
theorem But.set {id i:Nat} {H Hc:AHeap} (h:But id H Hc) (o:AObj) (hi:i=id∨H.nx≤i):But id H (Hc.set i o):=⟨by rw [zkz];exact h.nx,fun j x hj hx=>by
 have hlt:=AHeap.get_lt hx
 rw [AHeap.get_set_ne _ _ (by rcases hi with rfl|hi<;>omega)]
 exact h.get j x hj hx⟩
theorem But.del {id i:Nat} {H Hc:AHeap} (h:But id H Hc) (hi:H.nx≤i):But id H (Hc.del i):=⟨by rw [dW];exact h.nx,fun j x hj hx=>by
 have hlt:=AHeap.get_lt hx
 rw [fB,if_neg (by omega)]
 exact h.get j x hj hx⟩
theorem But.le {id:Nat} {H Hc:AHeap} {o:AObj} (h:But id H Hc) (hg:Hc.get id=some o):(H.set id o).Le Hc:=t8 h.get hg h.nx
end Go.AL
open Go Go.AL Go.Proofs
namespace Go.AL
set_option linter.all false
set_option maxRecDepth 10000
end Go.AL
