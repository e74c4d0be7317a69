/- Lemmas of the proof; no condition. -/
import Derived.Test.YtjffcopmhkcejaaGreatS07c
import Derived.Test.YtjffcopmhkcejaaGreatAlDefer
set_option linter.all false
set_option maxRecDepth 10000
open Go Go.AL Go.Proofs
namespace Go.AL
theorem Sx:ti Tryz.prog 20=some ⟨.iface 0,1,16,.nili⟩:=krf
attribute [go_sem] Sx
theorem JF{n0:Nat}{H2 H:AHeap}{T:Nat→List (List Nat)}{fr:Fr}:(C8 n0 H2 T).n fr H=(H2.Le H∧H2.Closed∧n0≤H2.nx):=rfl
theorem Ko{n0:Nat}{H2 H:AHeap}{T:Nat→List (List Nat)}{fr:Fr}:(C8 n0 H2 T).r fr H=(H2.Le H∧H2.Closed∧n0≤H2.nx):=rfl
theorem Im{n0:Nat}{H2:AHeap}{T:Nat→List (List Nat)}:(C8 n0 H2 T).T=T:=rfl
section
variable {P:Program} {Ω:Tbl} {C:Code} {rs:List ResultVar} {H1 H:AHeap} {x v:AV} {g:FuncId} {d n0:Nat} {caps:Wz} {cs:List Nat} {T:Nat→List (List Nat)} {fr:Fr}
theorem OG:(wL P rs H1 x g caps n0 T).r fr H=Be P rs H1 x g caps none fr H:=rfl
theorem Ox:(wL P rs H1 x g caps n0 T).p fr v H=Be P rs H1 x g caps (some v) fr H:=rfl
theorem sx:(wL P rs H1 x g caps n0 T).T=T:=rfl
theorem At:(wL P rs H1 x g caps n0 T).n0=n0:=rfl
theorem PZ:(DG P Ω C rs H1 x g d cs n0 T).T=T:=rfl
theorem Ps:(DG P Ω C rs H1 x g d cs n0 T).n fr H=aw P Ω C (KI P Ω (wL P rs H1 x g (cs.map (Fr.get fr)) H.nx T) []) ((d,.func (.func g) [] (cs.map (Fr.get fr)))::fr) H:=rfl
end
end Go.AL
