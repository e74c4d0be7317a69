/- Contracts and plain laws, a part of the proof; no condition of its own. -/
import Derived.Test.YtokjjhidigoodaaS09c
open Go Go.AL Go.Proofs
namespace Go.AL
set_option linter.all false
set_option maxRecDepth 10000
theorem wQ:ti Try.prog 98=some ⟨.struct [(0,9,false),(1,9,false),(2,95,false)],4,48,.agg [.str [],.str [],.int .u64 0,.int .u64 0]⟩:=by kernel_rfl
theorem uJ:ti Try.prog 61=some ⟨.slice 98,1,24,.slice .nil 1 []⟩:=by kernel_rfl
attribute [go_sem] wQ uJ
end Go.AL
open Go Go.AL Go.Proofs
namespace Go.AL
set_option linter.all false
set_option maxRecDepth 10000
def qw (n:Nd):Prop:=n.op=2→n.v≤1
/-- what compiling accepts -/
def okC (t:List Nd):Prop:=t≠[]∧okW t∧tz t∧AllN qw t∧fa t (t.length - 1)=false
def wy (e:List (VN × Nat)) (t:List Nd):Bool:=(val e t (t.length - 1)).bo
/-- the program's walk of such a tree -/
theorem Ak {t:List Nd} {e:List (VN × Nat)} (h:okC t) (he:wL e):okH e t∧ow e t=val e t (t.length - 1):=by
 obtain ⟨hne,hW,hT,hB,hN⟩:=h
 have hl:0<t.length:=List.length_pos_iff.2 hne
 have hl2:=hW.2.2
 have hve:∀ x∈e,x.2<2^128:=he.2
 refine ⟨⟨by omega,fun i hi=>?_⟩,?_⟩
 ·obtain ⟨g1,g2,g3,g4⟩:=jR hW.1 hi
  refine ⟨g1,g2,by omega,fun h3=>?_⟩
  obtain ⟨ga,gb⟩:=g4.resolve_left (by omega)
  rw [lK ga (by omega),lK gb (by omega)]
  have b1:=wv hve hW (i:=t[i].a) (by omega)
  have b2:=wv hve hW (i:=t[i].b) (by omega)
  unfold isN
  omega
 ·unfold ow jQ
  rw [if_neg (by omega),show ((t.length:Int) - 1).toNat=t.length - 1 by omega]
  rfl
end Go.AL
