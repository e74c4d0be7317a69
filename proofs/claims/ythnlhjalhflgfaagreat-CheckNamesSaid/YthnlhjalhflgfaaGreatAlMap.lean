/- Lemmas of the proof; no condition. -/
import Derived.Test.YthnlhjalhflgfaaGreatAlTop
import Derived.Test.YthnlhjalhflgfaaGreatLTyp
set_option linter.all false
open Go Go.AL
namespace Go.AL
def iV (v:VN):AV:=.agg [.str v.1,.str v.2]
theorem cq {H:AHeap} {es:List (AV × AV)} (h:H.Closed):(H.push (.mapo es)).Closed:=by
 intro i cs hi j hj
 rw [zlh] at hi
 split at hi
 ·cases hi
 ·exact AV.lt_mono (by rw [zle];omega) _ (h i cs hi j hj)
theorem aB {H:AHeap} {i:Nat} {es:List (AV × AV)} (h:H.Closed):(H.set i (.mapo es)).Closed:=by
 intro k cs hi j hj
 rw [aG] at hi
 split at hi
 ·split at hi<;>cases hi
 ·exact h k cs hi j hj
theorem IY {v x:VN}:feq (iV v) (iV x)=decide (v=x):=by
 obtain ⟨a,b⟩:=v
 obtain ⟨c,d⟩:=x
 simp [feq,iV,vI,nn]
theorem wW {x:VN}:∀ (l:List VN),gJ (l.map fun v=>(iV v,AV.bool true)) (iV x)=if l.contains x then some (.bool true) else none
 |[]=>rfl
 |v::l=>by
  rw [List.map_cons,gJ,IY,wW l,List.contains_cons]
  by_cases h:v=x
  ·subst h;simp
  ·have h':(x==v)=false:=by simp;exact fun e=>h e.symm
   rw [h',Bool.false_or]
   simp [h]
end Go.AL
