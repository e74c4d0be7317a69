/- Lemmas of the proof; no condition. -/
import Derived.Test.YtokjjhidigoodaaGreatAlTop
import Derived.Test.YtokjjhidigoodaaGreatLTyp
set_option linter.all false
open Go Go.AL
namespace Go.AL
def gg (v:VN):AV:=.agg [.str v.1,.str v.2]
def bz (l:List VN):List AV:=l.map gg
theorem Hp {P:Program} {t s:TypeId} {n:Nat} (ht:(ti P t).map TI.desc=some (.struct [(0,s,false),(1,s,false)])) (hs:(ti P s).map TI.desc=some .string) (hk:P.keyType t=true) (hn:P.types.size=n+1)
 (hc:P.cellsOf t=2) (hcs:P.cellsOf s=1) {v:VN} (h1:v.1.length≤1000) (h2:v.2.length≤1000):jq P t (gg v):=by
 obtain ⟨a,b⟩:=v
 obtain ⟨d,i,hu,_,hd⟩:=gf ht
 obtain ⟨ds,is,hus,_,hds⟩:=gf hs
 cases d<;>simp [dw] at hd
 rename_i fs
 cases ds<;>simp [dw] at hds
 obtain ⟨l⟩:=fs
 match l,hd with
 |[],hd=>simp at hd
 |[_],hd=>simp at hd
 |_::_::_::_,hd=>simp at hd
 |[f,g],hd =>
  simp at hd
  obtain ⟨⟨f1,f2,f3⟩,g1,g2,g3⟩:=hd
  have hm:(1000:Nat)≤maxLen:=by decide
  dsimp only at h1 h2
  unfold jq keyOf
  rw [hu,hn]
  have e1:(Value.agg #[Value.string ⟨a.toArray⟩,Value.string ⟨b.toArray⟩]).formed P t=true:=by
   simp [Value.formed,hu,hc]
  have la:(⟨a.toArray⟩:ByteArray).size≤maxLen:=by simp only [ByteArray.size,List.size_toArray];omega
  have lb:(⟨b.toArray⟩:ByteArray).size≤maxLen:=by simp only [ByteArray.size,List.size_toArray];omega
  have e2:P.keyLits (n+1+1) t [Value.string ⟨a.toArray⟩,Value.string ⟨b.toArray⟩]=some [.string a,.string b]:=by
   have k1:P.keyLits (n+1) s [Value.string ⟨a.toArray⟩]=some [.string a]:=by
    unfold Program.keyLits;simp only [hus,if_pos la]
   have k2:P.keyLits (n+1) s [Value.string ⟨b.toArray⟩]=some [.string b]:=by
    unfold Program.keyLits;simp only [hus,if_pos lb]
   unfold Program.keyLits
   simp [hu,hc,f1,f2,f3,g1,g2,g3,hcs,k1,k2]
  refine ⟨.string (keyBytes [.string a,.string b]),?_⟩
  have e3:dH (gg (a,b))=Value.agg #[Value.string ⟨a.toArray⟩,Value.string ⟨b.toArray⟩]:=rfl
  rw [e3]
  simp only [hk,e1,Bool.and_self,if_true]
  show (P.keyLits (n+1+1) t [Value.string ⟨a.toArray⟩,Value.string ⟨b.toArray⟩]).map _=_
  rw [e2];rfl
theorem vU {H:AHeap} {es:List (AV × AV)} (h:H.Closed):(H.push (.mapo es)).Closed:=by
 intro i cs hi j hj
 rw [zld] at hi
 split at hi
 ·cases hi
 ·exact AV.lt_mono (by rw [zla];omega) _ (h i cs hi j hj)
theorem oO {H:AHeap} {i:Nat} {es:List (AV × AV)} (h:H.Closed):(H.set i (.mapo es)).Closed:=by
 intro k cs hi j hj
 rw [aB] at hi
 split at hi
 ·split at hi<;>cases hi
 ·exact h k cs hi j hj
def qX (l:List VN):List (AV × AV):=l.foldl (fun es v=>(gg v,.bool true)::es) []
theorem Fy {l:List VN} {v:VN}:qX (l++[v])=(gg v,.bool true)::qX l:=by simp [qX]
theorem Ft {l:List VN} {k:Nat} (h:k<l.length):qX (l.take (k+1))=(gg l[k],.bool true)::qX (l.take k):=by
 rw [← Fy,List.take_append_getElem h]
theorem qA:∀ (l:List VN) (es:List (AV × AV)),l.foldl (fun es v=>(gg v,.bool true)::es) es=(l.reverse.map fun v=>(gg v,AV.bool true))++es
 |[],es=>rfl
 |v::l,es=>by rw [List.foldl_cons,qA l];simp
theorem Km {l:List VN} {p:AV × AV} (h:p∈qX l):∃ v∈l,p=(gg v,.bool true):=by
 unfold qX at h
 rw [qA,List.append_nil] at h
 obtain ⟨v,hv,e⟩:=List.mem_map.1 h
 exact ⟨v,List.mem_reverse.1 hv,e.symm⟩
theorem MM {v x:VN}:feq (gg v) (gg x)=decide (v=x):=by
 obtain ⟨a,b⟩:=v
 obtain ⟨c,d⟩:=x
 simp [feq,gg,BD,xz]
theorem A6 {x:VN}:∀ (l:List VN),nu (l.map fun v=>(gg v,AV.bool true)) (gg x)=if l.contains x then some (.bool true) else none
 |[]=>rfl
 |v::l=>by
  rw [List.map_cons,nu,MM,A6 l,List.contains_cons]
  by_cases h:v=x
  ·subst h;simp
  ·have h':(x==v)=false:=by simp;exact fun e=>h e.symm
   rw [h',Bool.false_or]
   simp [h]
theorem Gy {l:List VN} {x:VN}:nu (qX l) (gg x)=if bV l x then some (.bool true) else none:=by
 unfold qX
 rw [qA,List.append_nil,A6]
 unfold bV
 rw [show l.reverse.contains x=l.contains x by rw [Bool.eq_iff_iff];simp]
theorem bH {l:List VN}:(bz l).length=l.length:=by simp [bz]
theorem jR {l:List VN} {k:Nat} (h:k<l.length):(bz l).getD k .junk=.agg [.str l[k].1,.str l[k].2]:=by
 simp [bz,gg,gEq,h]
theorem aH {n:Nat} {m:Mark} {l:List VN}:AV.lt n (.slice m 2 (bz l))=∀ id,m=.own id→id<n:=by
 rw [AV.lt]
 refine propext ⟨fun h=>h.1,fun h=>⟨h,fun j hj=>?_⟩⟩
 simp only [bz,List.getElem_map,gg]
 simp [znn,znq,znr,znd]
theorem ol {l:List VN} {v:VN}:bz l++[.agg [.str v.1,.str v.2]]=bz (l++[v]):=by simp [bz,gg]
end Go.AL
