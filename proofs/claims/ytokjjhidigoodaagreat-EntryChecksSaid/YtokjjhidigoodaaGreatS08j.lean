/- Lemmas of the proof; no condition. -/
import Derived.Test.YtokjjhidigoodaaGreatS08i
set_option linter.all false
set_option maxRecDepth 10000
open Go Go.AL Go.Proofs
namespace Go.AL
theorem CY:ti Tryz.prog 31=some ⟨.slice 67,1,24,.slice .nil 1 []⟩:=by kernel_rfl
theorem A4:ti Tryz.prog 30=some ⟨.slice 103,1,24,.slice .nil 1 []⟩:=by kernel_rfl
theorem Db:ti Tryz.prog 36=some ⟨.struct [(0,27,false),(1,28,false),(2,29,false),(3,30,false),(4,31,false),(5,32,false),(6,33,false),(7,34,false),(8,3,false),(9,3,false)],10,208,.agg [.slice .nil 1 [],.slice .nil 1 [],.slice .nil 1 [],.slice .nil 1 [],.slice .nil 1 [],.slice .nil 1 [],.slice .nil 1 [],.slice .nil 1 [],.int .i64 0,.int .i64 0]⟩:=by kernel_rfl
attribute [go_sem] CY A4 Db
def Ex (t:STable):Prop:=t.keys.length≤400∧(∀ k∈t.keys,k.name.length≤1000)∧t.restr.length≤140737488355328
def KP (a:SAction):Prop:=a.params.length≤400∧(∀ k∈a.params,k.name.length≤1000)∧a.restr.length≤140737488355328
theorem Bo {k:Int}:∀ a∈dK k,a.length≤1000:=by
 unfold dK
 split
 ·decide
 ·split
  ·decide
  ·split
   ·decide
   ·split
    ·decide
    ·intro a h;cases h
theorem AX {t:STable} (h:Ex t):Cx (mK t.keys):=by
 obtain ⟨h1,h2,_⟩:=h
 constructor
 ·have:=lv (l:=t.keys) (k:=t.keys.length)
  rw [List.take_length] at this
  unfold mK
  rw [lAq]
  simp only [List.length_cons,List.length_nil]
  omega
 ·intro v hv
  rcases List.mem_append.1 hv with h|h
  ·obtain ⟨k,hk,hv⟩:=List.mem_flatMap.1 h
   obtain ⟨a,ha,rfl⟩:=List.mem_map.1 hv
   exact ⟨h2 k hk,Bo a ha⟩
  ·rw [List.mem_singleton.1 h];decide
theorem B3 {a:SAction} (h:KP a):Cx (eC a.params):=by
 obtain ⟨h1,h2,_⟩:=h
 refine ⟨by unfold eC;rw [List.length_map];omega,fun v hv=>?_⟩
 obtain ⟨p,hp,rfl⟩:=List.mem_map.1 hv
 exact ⟨h2 p hp,Nat.zero_le _⟩
end Go.AL
