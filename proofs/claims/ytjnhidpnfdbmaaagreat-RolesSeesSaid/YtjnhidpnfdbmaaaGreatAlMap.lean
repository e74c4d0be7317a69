/- Lemmas of the proof; no condition. -/
import Derived.Test.YtjnhidpnfdbmaaaGreatAlTop
import Derived.Test.YtjnhidpnfdbmaaaGreatLTyp
set_option linter.all false
open Go Go.AL
namespace Go.AL
def gh (v:VN):AV:=.agg [.str v.1,.str v.2]
def bY (l:List VN):List AV:=l.map gh
theorem En {P:Program} {t s:TypeId} {n:Nat} (ht:(ti P t).map TI.desc=some (.struct [(0,s,false),(1,s,false)])) (hs:(ti P s).map TI.desc=some .string) (hk:P.keyType t=true) (hn:P.types.size=n+1)
 (hc:P.cellsOf t=2) (hcs:P.cellsOf s=1) {v:VN} (h1:v.1.length≤1000) (h2:v.2.length≤1000):fN P t (gh v):=by
 obtain ⟨a,b⟩:=v
 obtain ⟨d,i,hu,_,hd⟩:=eT ht
 obtain ⟨ds,is,hus,_,hds⟩:=eT hs
 cases d<;>simp [cM] at hd
 rename_i fs
 cases ds<;>simp [cM] at hds
 obtain ⟨l⟩:=fs
 match l,hd with
 |[],hd=>simp at hd
 |[_],hd=>simp at hd
 |_::_::_::_,hd=>simp at hd
 |[f,g],hd =>
  simp at hd
  obtain ⟨⟨f1,f2,f3⟩,g1,g2,g3⟩:=hd
  have hm:(1000:Nat)≤maxLen:=by decide
  dsimp only at h1 h2
  unfold fN keyOf
  rw [hu,hn]
  have e1:(Value.agg #[Value.string ⟨a.toArray⟩,Value.string ⟨b.toArray⟩]).formed P t=true:=by
   simp [Value.formed,hu,hc]
  have la:(⟨a.toArray⟩:ByteArray).size≤maxLen:=by simp only [ByteArray.size,List.size_toArray];omega
  have lb:(⟨b.toArray⟩:ByteArray).size≤maxLen:=by simp only [ByteArray.size,List.size_toArray];omega
  have e2:P.keyLits (n+1+1) t [Value.string ⟨a.toArray⟩,Value.string ⟨b.toArray⟩]=some [.string a,.string b]:=by
   have k1:P.keyLits (n+1) s [Value.string ⟨a.toArray⟩]=some [.string a]:=by
    unfold Program.keyLits;simp only [hus,if_pos la]
   have k2:P.keyLits (n+1) s [Value.string ⟨b.toArray⟩]=some [.string b]:=by
    unfold Program.keyLits;simp only [hus,if_pos lb]
   unfold Program.keyLits
   simp [hu,hc,f1,f2,f3,g1,g2,g3,hcs,k1,k2]
  refine ⟨.string (keyBytes [.string a,.string b]),?_⟩
  have e3:bP (gh (a,b))=Value.agg #[Value.string ⟨a.toArray⟩,Value.string ⟨b.toArray⟩]:=rfl
  rw [e3]
  simp only [hk,e1,Bool.and_self,if_true]
  show (P.keyLits (n+1+1) t [Value.string ⟨a.toArray⟩,Value.string ⟨b.toArray⟩]).map _=_
  rw [e2];rfl
theorem tA {H:AHeap} {es:List (AV × AV)} (h:H.Closed):(H.push (.mapo es)).Closed:=by
 intro i cs hi j hj
 rw [zlh] at hi
 split at hi
 ·cases hi
 ·exact AV.lt_mono (by rw [zle];omega) _ (h i cs hi j hj)
theorem mN {H:AHeap} {i:Nat} {es:List (AV × AV)} (h:H.Closed):(H.set i (.mapo es)).Closed:=by
 intro k cs hi j hj
 rw [bu] at hi
 split at hi
 ·split at hi<;>cases hi
 ·exact h k cs hi j hj
def oM (l:List VN):List (AV × AV):=l.foldl (fun es v=>(gh v,.bool true)::es) []
theorem DV {l:List VN} {v:VN}:oM (l++[v])=(gh v,.bool true)::oM l:=by simp [oM]
theorem CN {l:List VN} {k:Nat} (h:k<l.length):oM (l.take (k+1))=(gh l[k],.bool true)::oM (l.take k):=by
 rw [← DV,List.take_append_getElem h]
theorem oC:∀ (l:List VN) (es:List (AV × AV)),l.foldl (fun es v=>(gh v,.bool true)::es) es=(l.reverse.map fun v=>(gh v,AV.bool true))++es
 |[],es=>rfl
 |v::l,es=>by rw [List.foldl_cons,oC l];simp
theorem Hu {l:List VN} {p:AV × AV} (h:p∈oM l):∃ v∈l,p=(gh v,.bool true):=by
 unfold oM at h
 rw [oC,List.append_nil] at h
 obtain ⟨v,hv,e⟩:=List.mem_map.1 h
 exact ⟨v,List.mem_reverse.1 hv,e.symm⟩
theorem Id {v x:VN}:feq (gh v) (gh x)=decide (v=x):=by
 obtain ⟨a,b⟩:=v
 obtain ⟨c,d⟩:=x
 simp [feq,gh,yx,uO]
theorem yp {x:VN}:∀ (l:List VN),jj (l.map fun v=>(gh v,AV.bool true)) (gh x)=if l.contains x then some (.bool true) else none
 |[]=>rfl
 |v::l=>by
  rw [List.map_cons,jj,Id,yp l,List.contains_cons]
  by_cases h:v=x
  ·subst h;simp
  ·have h':(x==v)=false:=by simp;exact fun e=>h e.symm
   rw [h',Bool.false_or]
   simp [h]
theorem EJ {l:List VN} {x:VN}:jj (oM l) (gh x)=if bQ l x then some (.bool true) else none:=by
 unfold oM
 rw [oC,List.append_nil,yp]
 unfold bQ
 rw [show l.reverse.contains x=l.contains x by rw [Bool.eq_iff_iff];simp]
theorem bV {l:List VN}:(bY l).length=l.length:=by simp [bY]
theorem lK {l:List VN} {k:Nat} (h:k<l.length):(bY l).getD k .junk=.agg [.str l[k].1,.str l[k].2]:=by
 simp [bY,gh,gEq,h]
theorem aZ {n:Nat} {m:Mark} {l:List VN}:AV.lt n (.slice m 2 (bY l))=∀ id,m=.own id→id<n:=by
 rw [AV.lt]
 refine propext ⟨fun h=>h.1,fun h=>⟨h,fun j hj=>?_⟩⟩
 simp only [bY,List.getElem_map,gh]
 simp [znr,znu,znv,znh]
theorem rC {l:List VN} {v:VN}:bY l++[.agg [.str v.1,.str v.2]]=bY (l++[v]):=by simp [bY,gh]
end Go.AL
