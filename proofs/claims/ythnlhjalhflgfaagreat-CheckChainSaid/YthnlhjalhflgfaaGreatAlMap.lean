/- Lemmas of the proof; no condition. -/
import Derived.Test.YthnlhjalhflgfaaGreatAlTop
import Derived.Test.YthnlhjalhflgfaaGreatLTyp
set_option linter.all false
open Go Go.AL
namespace Go.AL
def gR (v:VN):AV:=.agg [.str v.1,.str v.2]
theorem bU {H:AHeap} {es:List (AV × AV)} (h:H.Closed):(H.push (.mapo es)).Closed:=by
 intro i cs hi j hj
 rw [zlh] at hi
 split at hi
 ·cases hi
 ·exact AV.lt_mono (by rw [zle];omega) _ (h i cs hi j hj)
theorem au {H:AHeap} {i:Nat} {es:List (AV × AV)} (h:H.Closed):(H.set i (.mapo es)).Closed:=by
 intro k cs hi j hj
 rw [aG] at hi
 split at hi
 ·split at hi<;>cases hi
 ·exact h k cs hi j hj
theorem IE {v x:VN}:feq (gR v) (gR x)=decide (v=x):=by
 obtain ⟨a,b⟩:=v
 obtain ⟨c,d⟩:=x
 simp [feq,gR,tR,lS]
theorem u5 {x:VN}:∀ (l:List VN),fG (l.map fun v=>(gR v,AV.bool true)) (gR x)=if l.contains x then some (.bool true) else none
 |[]=>rfl
 |v::l=>by
  rw [List.map_cons,fG,IE,u5 l,List.contains_cons]
  by_cases h:v=x
  ·subst h;simp
  ·have h':(x==v)=false:=by simp;exact fun e=>h e.symm
   rw [h',Bool.false_or]
   simp [h]
end Go.AL
