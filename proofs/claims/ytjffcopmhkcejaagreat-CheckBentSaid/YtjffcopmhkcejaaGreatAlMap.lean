/- Lemmas of the proof; no condition. -/
import Derived.Test.YtjffcopmhkcejaaGreatAlTop
import Derived.Test.YtjffcopmhkcejaaGreatLTyp
set_option linter.all false
open Go Go.AL
namespace Go.AL
def lL(v:VN):AV:=.agg [.str v.1,.str v.2]
def dV{H:AHeap}{es:List (AV × AV)}(h:H.Closed):(H.push (.mapo es)).Closed:=by
 intro i cs hi j hj
 rw[zlf]at hi
 split at hi
 ·cases hi
 ·exact AV.lt_mono (by rw[zlc];omega) _ (h i cs hi j hj)
def aV{H:AHeap}{i:Nat}{es:List (AV × AV)}(h:H.Closed):(H.set i (.mapo es)).Closed:=by
 intro k cs hi j hj
 rw[aF]at hi
 split at hi
 ·split at hi<;>cases hi
 ·exact h k cs hi j hj
def PD{v x:VN}:feq (lL v) (lL x)=decide (v=x):=by
 obtain⟨a,b⟩:=v
 obtain⟨c,d⟩:=x
 simp[feq,lL,Bg,rq]
theorem A0{x:VN}:∀(l:List VN),ki (l.map fun v=>(lL v,AV.bool true)) (lL x)=if l.contains x then some (.bool true)else none
 |[]=>rfl
 |v::l=>by
  rw[List.map_cons,ki,PD,A0 l,List.contains_cons]
  by_cases h:v=x
  ·subst h;simp
  ·have h':(x==v)=false:=by simp;exact fun e=>h e.symm
   rw[h',Bool.false_or]
   simp[h]
end Go.AL
