/- Contracts and plain laws, a part of the proof; no condition of its own. -/
import Derived.Test.YtokjjhidigoodaaLEval
/- Plain laws of order: what the twelve texts of EvalOrder compile to, and that the two of a pair mean the same. No program. -/
open Go Go.AL
namespace Go.AL
set_option linter.all false
set_option maxRecDepth 10000
/-- an operator's text, by its number less 8 -/
def f9:Nat→List UInt8
 |0=>[61,61]
 |1=>[33,61]
 |2=>[60]
 |3=>[60,61]
 |4=>[62]
 |_=>[62,61]
/-- the complement's number -/
def ln:Nat→Nat
 |0=>1
 |1=>0
 |2=>5
 |3=>4
 |4=>3
 |_=>2
def txL:Nat→Nat→List UInt8
 |0,c=>[97]++f9 c++[98]
 |1,c=>[97,32,43,32,98]++f9 c++[120]
 |2,c=>[97,32,45,32,98]++f9 c++[120]
 |3,c=>[45,97]++f9 c++[45,98]
 |4,c=>[97,32,43,32,120]++f9 c++[98,32,43,32,120]
 |_,c=>[97,32,45,32,40,98,32,45,32,120,41]++f9 c++[112,114,105,111,114,105,116,121]
def txR:Nat→Nat→List UInt8
 |0,c=>[33,40,97]++f9 (ln c)++[98,41]
 |1,c=>[97]++f9 c++[120,32,45,32,98]
 |2,c=>[97]++f9 c++[120,32,43,32,98]
 |3,c=>[98]++f9 c++[97]
 |4,c=>[97]++f9 c++[98]
 |_,c=>[97,32,43,32,120]++f9 c++[112,114,105,111,114,105,116,121,32,43,32,98]
def nV (s:List UInt8):Nd:=⟨3,0,0,s,[],0⟩
def nP:Nd:=nV [112,114,105,111,114,105,116,121]
def trL:Nat→Nat→List Nd
 |0,c=>[nV [97],nV [98],nd2 (8+c) 0 1]
 |1,c=>[nV [97],nV [98],nd2 6 0 1,nV [120],nd2 (8+c) 2 3]
 |2,c=>[nV [97],nV [98],nd2 7 0 1,nV [120],nd2 (8+c) 2 3]
 |3,c=>[nV [97],nd2 4 0 0,nV [98],nd2 4 2 0,nd2 (8+c) 1 3]
 |4,c=>[nV [97],nV [120],nd2 6 0 1,nV [98],nV [120],nd2 6 3 4,nd2 (8+c) 2 5]
 |_,c=>[nV [97],nV [98],nV [120],nd2 7 1 2,nd2 7 0 3,nP,nd2 (8+c) 4 5]
def trR:Nat→Nat→List Nd
 |0,c=>[nV [97],nV [98],nd2 (8+ln c) 0 1,nd2 5 2 0]
 |1,c=>[nV [97],nV [120],nV [98],nd2 7 1 2,nd2 (8+c) 0 3]
 |2,c=>[nV [97],nV [120],nV [98],nd2 6 1 2,nd2 (8+c) 0 3]
 |3,c=>[nV [98],nV [97],nd2 (8+c) 0 1]
 |4,c=>[nV [97],nV [98],nd2 (8+c) 0 1]
 |_,c=>[nV [97],nV [120],nd2 6 0 1,nP,nV [98],nd2 6 3 4,nd2 (8+c) 2 5]
def xm (vs:List VN) (s:List UInt8) (t:List Nd):Bool :=
 !s.isEmpty&&((a8 s).2.2==0)&&match run (a8 s).1 60 .imp 0 [] with
  |some r=>decide (bG (a8 s).1 r=(t,0))&&decide (chk (aU vs) t=(0,0))
  |none=>false
theorem mK {vs:List VN} {s:List UInt8} {t:List Nd} (h:xm vs s t=true):ey (aU vs) s=(t,0):=by
 unfold xm at h
 rw [Bool.and_eq_true,Bool.and_eq_true] at h
 obtain ⟨⟨h1,h2⟩,h3⟩:=h
 split at h3
 ·rename_i r hr
  rw [Bool.and_eq_true,decide_eq_true_eq,decide_eq_true_eq] at h3
  unfold ey
  rw [if_neg (by intro e;rw [e] at h1;cases h1),uv hr,h3.1]
  unfold m7
  rw [if_neg (by rw [beq_iff_eq.1 h2];decide)]
  dsimp only
  rw [if_neg (by decide),h3.2,if_neg (by decide)]
 ·cases h3
def vs7:List VN:=[([97],[]),([98],[]),([100],[112,114,101,102,105,120,95,108,101,110,103,116,104]),([101],[109,97,115,107]),([102],[104,105,103,104]),([112,114,105,111,114,105,116,121],[]),([120],[])]
theorem rM:((List.range 6).all fun k=>(List.range 6).all fun c=>xm vs7 (txL k c) (trL k c)&&xm vs7 (txR k c) (trR k c))=true:=by decide +kernel
theorem vz {k c:Nat} (hk:k<6) (hc:c<6):ey (aU vs7) (txL k c)=(trL k c,0):=by
 have h:=List.all_eq_true.1 (List.all_eq_true.1 rM k (List.mem_range.2 hk)) c (List.mem_range.2 hc)
 rw [Bool.and_eq_true] at h
 exact mK h.1
theorem uP {k c:Nat} (hk:k<6) (hc:c<6):ey (aU vs7) (txR k c)=(trR k c,0):=by
 have h:=List.all_eq_true.1 (List.all_eq_true.1 rM k (List.mem_range.2 hk)) c (List.mem_range.2 hc)
 rw [Bool.and_eq_true] at h
 exact mK h.2
theorem rW {c:Nat} (hc:c<6) {x y:Int}:(opV (8+c) (.i x) (.i y)).bo=(if c=0 then decide (x=y) else if c=1 then !decide (x=y) else if c=2 then decide (x<y) else if c=3 then decide (x≤y) else if c=4 then decide (y<x) else decide (y≤x)):=by
 rcases (by omega:c=0∨c=1∨c=2∨c=3∨c=4∨c=5) with rfl|rfl|rfl|rfl|rfl|rfl<;>rfl
theorem xg {e:List (VN × Nat)} {k c:Nat} (hk:k<6) (hc:c<6):(val e (trL k c) ((trL k c).length - 1)).bo=(val e (trR k c) ((trR k c).length - 1)).bo:=by
 have n5:∀ x:Mv,opV 5 x (.b false)=.b (!x.bo):=fun x=>rfl
 have n4:∀ x y:Mv,opV 4 x y=.i (-x.num):=fun x y=>rfl
 have hn5:∀ x y:Mv,opV 5 x y=.b (!x.bo):=fun x y=>rfl
 have hk':=hk
 rcases (by omega:k=0∨k=1∨k=2∨k=3∨k=4∨k=5) with rfl|rfl|rfl|rfl|rfl|rfl
 all_goals
  generalize hA:ef e ([97],[])=A
  generalize hB:ef e ([98],[])=B
  generalize hX:ef e ([120],[])=X
  generalize hP:ef e ([112,114,105,111,114,105,116,121],[])=P
  have h1:8+c≠1:=by omega
  have h2:8+c≠2:=by omega
  have h3:8+c≠3:=by omega
  simp only [val,trL,trR,cm,eB,nV,nP,nd2,List.length_cons,List.length_nil,List.getD_cons_zero,List.getD_cons_succ,List.nil_append,List.cons_append,Nat.reduceAdd,Nat.reduceSub,Nat.reduceEqDiff,if_true,if_false,hA,hB,hX,hP,h1,h2,h3,yj,yb,n4,kV,hn5]
 ·have hd:ln c<6:=by rcases (by omega:c=0∨c=1∨c=2∨c=3∨c=4∨c=5) with rfl|rfl|rfl|rfl|rfl|rfl<;>decide
  have g1:8+ln c≠1:=by omega
  have g2:8+ln c≠2:=by omega
  have g3:8+ln c≠3:=by omega
  simp only [g1,g2,g3,if_false]
  show _=!(opV (8+ln c) (.i A) (.i B)).bo
  rw [rW hc,rW hd]
  rcases (by omega:c=0∨c=1∨c=2∨c=3∨c=4∨c=5) with rfl|rfl|rfl|rfl|rfl|rfl<;>simp [ln]<;>rw [Bool.eq_iff_iff]<;>simp<;>omega
 all_goals
  rw [rW hc,rW hc]
  repeat' split
  all_goals first|rfl|(simp only [decide_eq_decide];omega)|(congr 1;simp only [decide_eq_decide];omega)
end Go.AL
