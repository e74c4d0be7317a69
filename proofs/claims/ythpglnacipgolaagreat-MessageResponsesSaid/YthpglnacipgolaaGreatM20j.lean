/- Contracts and plain laws, a part of the proof; no condition of its own. -/
import Derived.Test.YthpglnacipgolaaGreatM19j
import Derived.Test.YthpglnacipgolaaGreatAlDefer
import Derived.Test.YthpglnacipgolaaGreatM19m
import Derived.Test.YthpglnacipgolaaGreatM19r
open Go Go.AL Go.Proofs
namespace Go.AL
set_option linter.all false
set_option maxRecDepth 10000
theorem ti_unex:ti Tryz.prog 392=some ⟨.struct [],0,0,.agg []⟩:=by kernel_rfl
theorem ti_any:ti Tryz.prog 20=some ⟨.iface 0,1,16,.nili⟩:=by kernel_rfl
attribute [go_sem] ti_unex ti_any
def panicK (v:AV) (Kp:AV→AHeap→Prop) (H:AHeap):Prop:=match v with
  | .iface t v=>Kp (.iface t v) H
  | _=>False
@[congr] theorem panicK_congr {v v':AV} {Kp:AV→AHeap→Prop} {H:AHeap} (h:v=v'):panicK v Kp H=panicK v' Kp H:=by rw [h]
section
variable {P:Program} {Ω:Tbl} {C:Code} {rs:List ResultVar} {H1 H:AHeap} {x v:AV} {g:FuncId} {d n0:Nat} {caps:List AV} {cs:List Nat} {T:Nat→List (List Nat)} {fr:Fr}
end
end Go.AL


open Go Go.AL Go.Proofs
namespace Go.AL
set_option linter.all false
set_option maxRecDepth 10000

end Go.AL


open Go Go.AL Go.Proofs
namespace Go.AL
set_option linter.all false
set_option maxRecDepth 10000

end Go.AL


open Go Go.AL Go.Proofs
namespace Go.AL
set_option linter.all false
set_option maxRecDepth 10000

end Go.AL


open Go Go.AL Go.Proofs
namespace Go.AL
set_option linter.all false
set_option maxRecDepth 10000

end Go.AL


open Go Go.AL Go.Proofs
namespace Go.AL
set_option linter.all false
set_option maxRecDepth 10000

end Go.AL


open Go Go.AL Go.Proofs
namespace Go.AL
set_option linter.all false
set_option maxRecDepth 10000

end Go.AL


open Go Go.AL Go.Proofs
namespace Go.AL
set_option linter.all false
set_option maxRecDepth 10000

end Go.AL


open Go Go.AL Go.Proofs
namespace Go.AL
set_option linter.all false
set_option maxRecDepth 10000

end Go.AL


open Go Go.AL Go.Proofs
namespace Go.AL
set_option linter.all false
set_option maxRecDepth 10000

theorem any_of {m:Mark} (h:mkOk .any m):m=.any:=by
  rcases h with h | h
  · exact h
  · exact h
theorem uintR_m' {m m':Mark} {l l':List UInt8} {e w v e':Int} (h:uintR (m,l,e) w=(v,m',l',e')):mkOk m m':=by
  have a1:=uintR_m m l e w
  rw [h] at a1;exact a1
theorem countR_m' {m m':Mark} {l l':List UInt8} {e w v e':Int} (h:countR (m,l,e) w=(v,m',l',e')):mkOk m m':=by
  have a1:=countR_m m l e w
  rw [h] at a1;exact a1
end Go.AL


open Go Go.AL Go.Proofs
namespace Go.AL
set_option linter.all false
set_option maxRecDepth 10000

end Go.AL


open Go Go.AL Go.Proofs
namespace Go.AL
set_option linter.all false
set_option maxRecDepth 10000

theorem rg_cv {b:List UInt8} {u n:Nat}:rg ((cv b u n:Nat):Int) 2=true:=by
  have:=cv_256 (b:=b) (v:=u) (n:=n)
  exact decide_eq_true ⟨by omega,by show ((cv b u n:Nat):Int)<65536;omega⟩
theorem wok_rgE {e:SEntry} (h:WOk e):rgE e=true:=by
  have r2:∀ n:Int,0≤n→n≤65535→rg n 2=true:=fun n h1 h2=>decide_eq_true ⟨h1,by show n<65536;omega⟩
  unfold rgE
  rw [r2 _ h.t0 h.t1,r2 _ h.p0 h.p1,r2 _ h.a0 h.a1,decide_eq_true h.ml,decide_eq_true h.al]
  simp only [Bool.true_and]
  rw [List.all_eq_true]
  intro m hm
  have w:=h.mo m hm
  unfold rgM
  rw [show rg m.pfx 1=true from decide_eq_true ⟨w.p0,by show m.pfx<256;have:=w.p1;omega⟩]
  cases hp:m.present
  · rw [w.no hp];rfl
  · rfl
end Go.AL

