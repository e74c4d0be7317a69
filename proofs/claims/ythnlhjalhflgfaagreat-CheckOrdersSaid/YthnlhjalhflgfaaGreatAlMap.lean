/- Lemmas of the proof; no condition. -/
import Derived.Test.YthnlhjalhflgfaaGreatAlTop
import Derived.Test.YthnlhjalhflgfaaGreatLTyp
set_option linter.all false
open Go Go.AL
namespace Go.AL
def kN (v:VN):AV:=.agg [.str v.1,.str v.2]
theorem dH {H:AHeap} {es:List (AV × AV)} (h:H.Closed):(H.push (.mapo es)).Closed:=by
 intro i cs hi j hj
 rw [zlh] at hi
 split at hi
 ·cases hi
 ·exact AV.lt_mono (by rw [zle];omega) _ (h i cs hi j hj)
theorem aS {H:AHeap} {i:Nat} {es:List (AV × AV)} (h:H.Closed):(H.set i (.mapo es)).Closed:=by
 intro k cs hi j hj
 rw [aI] at hi
 split at hi
 ·split at hi<;>cases hi
 ·exact h k cs hi j hj
theorem MR {v x:VN}:feq (kN v) (kN x)=decide (v=x):=by
 obtain ⟨a,b⟩:=v
 obtain ⟨c,d⟩:=x
 simp [feq,kN,zP,pZ]
theorem zn {x:VN}:∀ (l:List VN),jC (l.map fun v=>(kN v,AV.bool true)) (kN x)=if l.contains x then some (.bool true) else none
 |[]=>rfl
 |v::l=>by
  rw [List.map_cons,jC,MR,zn l,List.contains_cons]
  by_cases h:v=x
  ·subst h;simp
  ·have h':(x==v)=false:=by simp;exact fun e=>h e.symm
   rw [h',Bool.false_or]
   simp [h]
end Go.AL
