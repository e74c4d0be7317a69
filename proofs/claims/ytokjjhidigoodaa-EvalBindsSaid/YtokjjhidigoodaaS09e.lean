/- Contracts and plain laws, a part of the proof; no condition of its own. -/
import Derived.Test.YtokjjhidigoodaaS09c
open Go Go.AL Go.Proofs
namespace Go.AL
set_option linter.all false
set_option maxRecDepth 10000
theorem sO:ti Try.prog 98=some ⟨.struct [(0,9,false),(1,9,false),(2,95,false)],4,48,.agg [.str [],.str [],.int .u64 0,.int .u64 0]⟩:=by kernel_rfl
theorem xg:ti Try.prog 61=some ⟨.slice 98,1,24,.slice .nil 1 []⟩:=by kernel_rfl
attribute [go_sem] sO xg
end Go.AL
open Go Go.AL Go.Proofs
namespace Go.AL
set_option linter.all false
set_option maxRecDepth 10000
def tD (n:Nd):Prop:=n.op=2→n.v≤1
/-- what compiling accepts -/
def okC (t:List Nd):Prop:=t≠[]∧okW t∧wy t∧AllN tD t∧gP t (t.length - 1)=false
/-- the program's walk of such a tree -/
theorem D9 {t:List Nd} {e:List (VN × Nat)} (h:okC t) (he:Cg e):okH e t∧sZ e t=val e t (t.length - 1):=by
 obtain ⟨hne,hW,hT,hB,hN⟩:=h
 have hl:0<t.length:=List.length_pos_iff.2 hne
 have hl2:=hW.2.2
 have hve:∀ x∈e,x.2<2^128:=he.2
 refine ⟨⟨by omega,fun i hi=>?_⟩,?_⟩
 ·obtain ⟨g1,g2,g3,g4⟩:=lP hW.1 hi
  refine ⟨g1,g2,by omega,fun h3=>?_⟩
  obtain ⟨ga,gb⟩:=g4.resolve_left (by omega)
  rw [nO ga (by omega),nO gb (by omega)]
  have b1:=zd hve hW (i:=t[i].a) (by omega)
  have b2:=zd hve hW (i:=t[i].b) (by omega)
  unfold isN
  omega
 ·unfold sZ lD
  rw [if_neg (by omega),show ((t.length:Int) - 1).toNat=t.length - 1 by omega]
  rfl
end Go.AL
