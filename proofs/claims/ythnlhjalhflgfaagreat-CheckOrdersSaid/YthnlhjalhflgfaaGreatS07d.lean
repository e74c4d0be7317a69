/- Lemmas of the proof; no condition. -/
import Derived.Test.YthnlhjalhflgfaaGreatS07c
import Derived.Test.YthnlhjalhflgfaaGreatAlDefer
set_option linter.all false
set_option maxRecDepth 10000
open Go Go.AL Go.Proofs
namespace Go.AL
theorem Qg:ti Tryz.prog 20=some ⟨.iface 0,1,16,.nili⟩:=krf
attribute [go_sem] Qg
theorem Kh {n0:Nat} {H2 H:AHeap} {T:Nat→List (List Nat)} {fr:Fr}:(AW n0 H2 T).n fr H=(H2.Le H∧H2.Closed∧n0≤H2.nx):=rfl
theorem Fw {n0:Nat} {H2 H:AHeap} {T:Nat→List (List Nat)} {fr:Fr}:(AW n0 H2 T).r fr H=(H2.Le H∧H2.Closed∧n0≤H2.nx):=rfl
theorem FF {n0:Nat} {H2:AHeap} {T:Nat→List (List Nat)}:(AW n0 H2 T).T=T:=rfl
section
variable {P:Program} {Ω:Tbl} {C:Code} {rs:List ResultVar} {H1 H:AHeap} {x v:AV} {g:FuncId} {d n0:Nat} {caps:List AV} {cs:List Nat} {T:Nat→List (List Nat)} {fr:Fr}
theorem Ni:(uW P rs H1 x g caps n0 T).r fr H=yR P rs H1 x g caps none fr H:=rfl
theorem NK:(uW P rs H1 x g caps n0 T).p fr v H=yR P rs H1 x g caps (some v) fr H:=rfl
theorem rp:(uW P rs H1 x g caps n0 T).T=T:=rfl
theorem zN:(uW P rs H1 x g caps n0 T).n0=n0:=rfl
theorem OR:(Cn P Ω C rs H1 x g d cs n0 T).T=T:=rfl
theorem Nb:(Cn P Ω C rs H1 x g d cs n0 T).n fr H=aw P Ω C (KI P Ω (uW P rs H1 x g (cs.map (Fr.get fr)) H.nx T) []) ((d,.func (.func g) [] (cs.map (Fr.get fr)))::fr) H:=rfl
end
end Go.AL
