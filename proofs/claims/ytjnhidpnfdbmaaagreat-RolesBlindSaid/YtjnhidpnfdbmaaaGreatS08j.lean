/- Lemmas of the proof; no condition. -/
import Derived.Test.YtjnhidpnfdbmaaaGreatS08i
set_option linter.all false
set_option maxRecDepth 10000
open Go Go.AL Go.Proofs
namespace Go.AL
theorem A9:ti Tryz.prog 34=some ⟨.slice 91,1,24,.slice .nil 1 []⟩:=by kernel_rfl
theorem yi:ti Tryz.prog 33=some ⟨.slice 107,1,24,.slice .nil 1 []⟩:=by kernel_rfl
theorem zJ:ti Tryz.prog 39=some ⟨.struct [(0,30,false),(1,31,false),(2,32,false),(3,33,false),(4,34,false),(5,35,false),(6,36,false),(7,37,false),(8,3,false),(9,3,false)],10,208,.agg [.slice .nil 1 [],.slice .nil 1 [],.slice .nil 1 [],.slice .nil 1 [],.slice .nil 1 [],.slice .nil 1 [],.slice .nil 1 [],.slice .nil 1 [],.int .i64 0,.int .i64 0]⟩:=by kernel_rfl
attribute [go_sem] A9 yi zJ
def BQ (t:STable):Prop:=t.keys.length≤400∧(∀ k∈t.keys,k.name.length≤1000)∧t.restr.length≤140737488355328
def E1 (a:SAction):Prop:=a.params.length≤400∧(∀ k∈a.params,k.name.length≤1000)∧a.restr.length≤140737488355328
theorem yK {k:Int}:∀ a∈mV k,a.length≤1000:=by
 unfold mV
 split
 ·decide
 ·split
  ·decide
  ·split
   ·decide
   ·split
    ·decide
    ·intro a h;cases h
theorem F1 {t:STable} (h:BQ t):Iq (nM t.keys):=by
 obtain ⟨h1,h2,_⟩:=h
 constructor
 ·have:=mc (l:=t.keys) (k:=t.keys.length)
  rw [List.take_length] at this
  unfold nM
  rw [lAq]
  simp only [List.length_cons,List.length_nil]
  omega
 ·intro v hv
  rcases List.mem_append.1 hv with h|h
  ·obtain ⟨k,hk,hv⟩:=List.mem_flatMap.1 h
   obtain ⟨a,ha,rfl⟩:=List.mem_map.1 hv
   exact ⟨h2 k hk,yK a ha⟩
  ·rw [List.mem_singleton.1 h];decide
theorem Fa {a:SAction} (h:E1 a):Iq (gq a.params):=by
 obtain ⟨h1,h2,_⟩:=h
 refine ⟨by unfold gq;rw [List.length_map];omega,fun v hv=>?_⟩
 obtain ⟨p,hp,rfl⟩:=List.mem_map.1 hv
 exact ⟨h2 p hp,Nat.zero_le _⟩
end Go.AL
