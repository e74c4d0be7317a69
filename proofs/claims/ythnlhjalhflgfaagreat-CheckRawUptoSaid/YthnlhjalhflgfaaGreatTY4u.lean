/- Lemmas of the proof; no condition. -/
import Derived.Test.YthnlhjalhflgfaaGreatTY3
import Derived.Test.YthnlhjalhflgfaaGreatAlTopU
import Derived.Test.YthnlhjalhflgfaaGreatE06b
set_option linter.all false
set_option maxRecDepth 10000
open Go Go.AL Go.Proofs
namespace Go.AL
theorem oh {R:Nat} {cs:List AV}:AV.cnt R (.agg cs)↔∀ x∈cs,AV.cnt R x:=by
 rw [AV.cnt]
 constructor
 ·intro h x hx
  obtain ⟨j,hj,rfl⟩:=List.getElem_of_mem hx
  exact h j hj
 ·intro h j hj
  exact h _ (gMq hj)
theorem Ev {R sz:Nat} {m:Mark} {xs:List AV}:AV.cnt R (.slice m sz xs)↔xs.length≤R∧∀ x∈xs,AV.cnt R x:=by
 rw [AV.cnt]
 constructor
 ·rintro ⟨h0,h⟩
  refine ⟨h0,fun x hx=>?_⟩
  obtain ⟨j,hj,rfl⟩:=List.getElem_of_mem hx
  exact h j hj
 ·rintro ⟨h0,h⟩
  exact ⟨h0,fun j hj=>h _ (gMq hj)⟩
theorem qh {α:Type} {R sz:Nat} {m:Mark} {f:α→AV} {l:List α}:AV.cnt R (.slice m sz (l.map f))↔l.length≤R∧∀ a∈l,AV.cnt R (f a):=by
 rw [Ev,List.length_map]
 refine and_congr_right fun _=>⟨fun h a ha=>h _ (List.mem_map_of_mem ha),fun h x hx=>?_⟩
 obtain ⟨a,ha,rfl⟩:=List.mem_map.1 hx
 exact h a ha
theorem pU {R:Nat} {s:List UInt8}:AV.cnt R (.str s)↔s.length≤R:=by rw [AV.cnt]
theorem n9 {R:Nat} {k:IntKind} {n:Int}:AV.cnt R (.int k n)↔True:=by rw [AV.cnt]<;>simp
theorem GR {R:Nat} {b:Bool}:AV.cnt R (.bool b)↔True:=by rw [AV.cnt]<;>simp
theorem kE {s:List UInt8} (h:s.length≤1048576):oR s:=by unfold oR;rw [bL];omega
theorem Kc {x:Sch} (hv:VSch x) (hc:AV.cnt 1048576 (.agg (aS x))) (hl:CH x):SmP 50 1048576 x:=by
 rw [oh] at hc
 simp only [aS,List.forall_mem_cons,qh,n9,List.forall_mem_nil,and_true] at hc
 obtain ⟨⟨f1,f2⟩,⟨h1,h2⟩,⟨s1,s2⟩,⟨a1,a2⟩,⟨t1,t2⟩,⟨g1,g2⟩,⟨r1,r2⟩,hx,_⟩:=hc
 obtain ⟨x1,x2⟩:=hx
 obtain ⟨l1,l2,l3,l4,l5,l6⟩:=hl
 refine ⟨⟨by omega,fun a ha=>?_⟩,⟨by omega,fun a ha=>?_⟩,⟨by omega,fun a ha=>?_⟩,⟨by omega,fun a ha=>?_⟩,⟨by omega,fun a ha=>?_⟩,by omega,⟨by omega,fun a ha=>?_⟩,by omega⟩
 ·have:=f2 a ha
  simp only [aH,oh,List.forall_mem_cons,pU,n9,true_and] at this
  exact kE this.1
 ·have:=h2 a ha
  simp only [az,inL,oh,List.forall_mem_cons,pU,n9,qh,true_and] at this
  exact ⟨kE this.1,this.2.1.1⟩
 ·have:=s2 a ha
  simp only [aB,oh,List.forall_mem_cons,pU,n9,qh,true_and] at this
  exact ⟨this.1.1,hv.s a ha⟩
 ·have:=a2 a ha
  simp only [ap,aK,oh,List.forall_mem_cons,pU,n9,qh,true_and] at this
  obtain ⟨k1,⟨k2,k3⟩,⟨k4,_⟩,k5,_⟩:=this
  exact ⟨⟨kE k1,fun p hp=>kE (k3 p hp).1,hv.a a ha,kE k5⟩,k2,k4⟩
 ·have:=t2 a ha
  simp only [ax,aY,inL,oh,List.forall_mem_cons,pU,n9,qh,true_and] at this
  obtain ⟨k1,⟨k2,k3⟩,⟨k4,_⟩,⟨k6,_⟩,k5,_⟩:=this
  exact ⟨⟨kE k1,fun p hp=>kE (k3 p hp).1,hv.t a ha,kE k5⟩,k2,k4,k6⟩
 ·have:=r2 a ha
  simp only [aN,aJ,inL,boL,oh,List.forall_mem_cons,pU,n9,GR,qh,true_and] at this
  obtain ⟨k1,⟨k2,k3⟩,⟨k4,_⟩,_⟩:=this
  exact ⟨kE k1,k2,k4,fun q hq=>(k3 q hq).1.1⟩
theorem Dm {x:Sch} (hv:VSch x) (hc:AV.cnt 1048576 (.agg (aS x))) (hl:CH x):SmP 50 1100000 x:=(Kc hv hc hl).mono (by decide) (by decide)
end Go.AL
