/- Lemmas of the proof; no condition. -/
import Derived.Test.YthnlhjalhflgfaaGreatS07c
import Derived.Test.YthnlhjalhflgfaaGreatAlDefer
set_option linter.all false
set_option maxRecDepth 10000
open Go Go.AL Go.Proofs
namespace Go.AL
theorem MZ:ti Tryz.prog 20=some ⟨.iface 0,1,16,.nili⟩:=by kernel_rfl
attribute [go_sem] MZ
theorem Dg {n0:Nat} {H2 H:AHeap} {T:Nat→List (List Nat)} {fr:Fr}:(yG n0 H2 T).n fr H=(H2.Le H∧H2.Closed∧n0≤H2.nx):=rfl
theorem EG {n0:Nat} {H2 H:AHeap} {T:Nat→List (List Nat)} {fr:Fr}:(yG n0 H2 T).r fr H=(H2.Le H∧H2.Closed∧n0≤H2.nx):=rfl
theorem GT {n0:Nat} {H2:AHeap} {T:Nat→List (List Nat)}:(yG n0 H2 T).T=T:=rfl
section
variable {P:Program} {Ω:Tbl} {C:Code} {rs:List ResultVar} {H1 H:AHeap} {x v:AV} {g:FuncId} {d n0:Nat} {caps:List AV} {cs:List Nat} {T:Nat→List (List Nat)} {fr:Fr}
theorem KN:(se P rs H1 x g caps n0 T).r fr H=xf P rs H1 x g caps none fr H:=rfl
theorem Li:(se P rs H1 x g caps n0 T).p fr v H=xf P rs H1 x g caps (some v) fr H:=rfl
theorem oD:(se P rs H1 x g caps n0 T).T=T:=rfl
theorem w6:(se P rs H1 x g caps n0 T).n0=n0:=rfl
theorem K4:(zb P Ω C rs H1 x g d cs n0 T).T=T:=rfl
theorem IP:(zb P Ω C rs H1 x g d cs n0 T).n fr H=aw P Ω C (KI P Ω (se P rs H1 x g (cs.map (Fr.get fr)) H.nx T) []) ((d,.func (.func g) [] (cs.map (Fr.get fr)))::fr) H:=rfl
end
end Go.AL
