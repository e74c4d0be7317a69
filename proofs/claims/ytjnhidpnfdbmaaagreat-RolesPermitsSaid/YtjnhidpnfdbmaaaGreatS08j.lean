/- Lemmas of the proof; no condition. -/
import Derived.Test.YtjnhidpnfdbmaaaGreatS08i
set_option linter.all false
set_option maxRecDepth 10000
open Go Go.AL Go.Proofs
namespace Go.AL
theorem EX:tSl Tryz.prog 34 91:=kSl
theorem DQ:tSl Tryz.prog 33 107:=kSl
theorem FY:ti Tryz.prog 39=some ⟨.struct [(0,30,false),(1,31,false),(2,32,false),(3,33,false),(4,34,false),(5,35,false),(6,36,false),(7,37,false),(8,3,false),(9,3,false)],10,208,.agg [.slice .nil 1 [],.slice .nil 1 [],.slice .nil 1 [],.slice .nil 1 [],.slice .nil 1 [],.slice .nil 1 [],.slice .nil 1 [],.slice .nil 1 [],.int .i64 0,.int .i64 0]⟩:=krf
attribute [go_sem] EX DQ FY
def Gx(t:STable):Prop:=t.keys.length≤400∧(∀ k∈t.keys,k.name.length≤1000)∧t.restr.length≤140737488355328
def JW(a:SAction):Prop:=a.params.length≤400∧(∀ k∈a.params,k.name.length≤1000)∧a.restr.length≤140737488355328
theorem DS{k:Int}:∀ a∈dX k,a.length≤1000:=by
 unfold dX
 split
 ·decide
 ·split
  ·decide
  ·split
   ·decide
   ·split
    ·decide
    ·intro a h;cases h
theorem Dk{t:STable}(h:Gx t):DF (nM t.keys):=by
 obtain⟨h1,h2,_⟩:=h
 constructor
 ·have:=lZ (l:=t.keys) (k:=t.keys.length)
  rw[List.take_length]at this
  unfold nM
  rw[lAq]
  simp only[List.length_cons,List.length_nil]
  omega
 ·intro v hv
  rcases List.mem_append.1 hv with h|h
  ·obtain⟨k,hk,hv⟩:=List.mem_flatMap.1 h
   obtain⟨a,ha,rfl⟩:=List.mem_map.1 hv
   exact⟨h2 k hk,DS a ha⟩
  ·rw[List.mem_singleton.1 h];decide
theorem D2{a:SAction}(h:JW a):DF (eR a.params):=by
 obtain⟨h1,h2,_⟩:=h
 refine⟨by unfold eR;rw[List.length_map];omega,fun v hv=>?_⟩
 obtain⟨p,hp,rfl⟩:=List.mem_map.1 hv
 exact⟨h2 p hp,Nat.zero_le _⟩
end Go.AL
