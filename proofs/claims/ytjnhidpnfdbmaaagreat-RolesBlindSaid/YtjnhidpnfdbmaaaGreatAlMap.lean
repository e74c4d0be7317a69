/- Lemmas of the proof; no condition. -/
import Derived.Test.YtjnhidpnfdbmaaaGreatAlTop
import Derived.Test.YtjnhidpnfdbmaaaGreatLTyp
set_option linter.all false
open Go Go.AL
namespace Go.AL
def fZ (v:VN):AV:=.agg [.str v.1,.str v.2]
def cd (l:List VN):List AV:=l.map fZ
theorem Dr {P:Program} {t s:TypeId} {n:Nat} (ht:(ti P t).map TI.desc=some (.struct [(0,s,false),(1,s,false)])) (hs:(ti P s).map TI.desc=some .string) (hk:P.keyType t=true) (hn:P.types.size=n+1)
 (hc:P.cellsOf t=2) (hcs:P.cellsOf s=1) {v:VN} (h1:v.1.length≤1000) (h2:v.2.length≤1000):fJ P t (fZ v):=by
 obtain ⟨a,b⟩:=v
 obtain ⟨d,i,hu,_,hd⟩:=eR ht
 obtain ⟨ds,is,hus,_,hds⟩:=eR hs
 cases d<;>simp [cK] at hd
 rename_i fs
 cases ds<;>simp [cK] at hds
 obtain ⟨l⟩:=fs
 match l,hd with
 |[],hd=>simp at hd
 |[_],hd=>simp at hd
 |_::_::_::_,hd=>simp at hd
 |[f,g],hd =>
  simp at hd
  obtain ⟨⟨f1,f2,f3⟩,g1,g2,g3⟩:=hd
  have hm:(1000:Nat)≤maxLen:=by decide
  dsimp only at h1 h2
  unfold fJ keyOf
  rw [hu,hn]
  have e1:(Value.agg #[Value.string ⟨a.toArray⟩,Value.string ⟨b.toArray⟩]).formed P t=true:=by
   simp [Value.formed,hu,hc]
  have la:(⟨a.toArray⟩:ByteArray).size≤maxLen:=by simp only [ByteArray.size,List.size_toArray];omega
  have lb:(⟨b.toArray⟩:ByteArray).size≤maxLen:=by simp only [ByteArray.size,List.size_toArray];omega
  have e2:P.keyLits (n+1+1) t [Value.string ⟨a.toArray⟩,Value.string ⟨b.toArray⟩]=some [.string a,.string b]:=by
   have k1:P.keyLits (n+1) s [Value.string ⟨a.toArray⟩]=some [.string a]:=by
    unfold Program.keyLits;simp only [hus,if_pos la]
   have k2:P.keyLits (n+1) s [Value.string ⟨b.toArray⟩]=some [.string b]:=by
    unfold Program.keyLits;simp only [hus,if_pos lb]
   unfold Program.keyLits
   simp [hu,hc,f1,f2,f3,g1,g2,g3,hcs,k1,k2]
  refine ⟨.string (keyBytes [.string a,.string b]),?_⟩
  have e3:bP (fZ (a,b))=Value.agg #[Value.string ⟨a.toArray⟩,Value.string ⟨b.toArray⟩]:=rfl
  rw [e3]
  simp only [hk,e1,Bool.and_self,if_true]
  show (P.keyLits (n+1+1) t [Value.string ⟨a.toArray⟩,Value.string ⟨b.toArray⟩]).map _=_
  rw [e2];rfl
theorem tf {H:AHeap} {es:List (AV × AV)} (h:H.Closed):(H.push (.mapo es)).Closed:=by
 intro i cs hi j hj
 rw [zlh] at hi
 split at hi
 ·cases hi
 ·exact AV.lt_mono (by rw [zle];omega) _ (h i cs hi j hj)
theorem mZ {H:AHeap} {i:Nat} {es:List (AV × AV)} (h:H.Closed):(H.set i (.mapo es)).Closed:=by
 intro k cs hi j hj
 rw [bv] at hi
 split at hi
 ·split at hi<;>cases hi
 ·exact h k cs hi j hj
def oD (l:List VN):List (AV × AV):=l.foldl (fun es v=>(fZ v,.bool true)::es) []
theorem Cw {l:List VN} {v:VN}:oD (l++[v])=(fZ v,.bool true)::oD l:=by simp [oD]
theorem EB {l:List VN} {k:Nat} (h:k<l.length):oD (l.take (k+1))=(fZ l[k],.bool true)::oD (l.take k):=by
 rw [← Cw,List.take_append_getElem h]
theorem oP:∀ (l:List VN) (es:List (AV × AV)),l.foldl (fun es v=>(fZ v,.bool true)::es) es=(l.reverse.map fun v=>(fZ v,AV.bool true))++es
 |[],es=>rfl
 |v::l,es=>by rw [List.foldl_cons,oP l];simp
theorem HE {l:List VN} {p:AV × AV} (h:p∈oD l):∃ v∈l,p=(fZ v,.bool true):=by
 unfold oD at h
 rw [oP,List.append_nil] at h
 obtain ⟨v,hv,e⟩:=List.mem_map.1 h
 exact ⟨v,List.mem_reverse.1 hv,e.symm⟩
theorem JO {v x:VN}:feq (fZ v) (fZ x)=decide (v=x):=by
 obtain ⟨a,b⟩:=v
 obtain ⟨c,d⟩:=x
 simp [feq,fZ,yI,uL]
theorem zq {x:VN}:∀ (l:List VN),i0 (l.map fun v=>(fZ v,AV.bool true)) (fZ x)=if l.contains x then some (.bool true) else none
 |[]=>rfl
 |v::l=>by
  rw [List.map_cons,i0,JO,zq l,List.contains_cons]
  by_cases h:v=x
  ·subst h;simp
  ·have h':(x==v)=false:=by simp;exact fun e=>h e.symm
   rw [h',Bool.false_or]
   simp [h]
theorem C3 {l:List VN} {x:VN}:i0 (oD l) (fZ x)=if bQ l x then some (.bool true) else none:=by
 unfold oD
 rw [oP,List.append_nil,zq]
 unfold bQ
 rw [show l.reverse.contains x=l.contains x by rw [Bool.eq_iff_iff];simp]
theorem bV {l:List VN}:(cd l).length=l.length:=by simp [cd]
theorem lA {l:List VN} {k:Nat} (h:k<l.length):(cd l).getD k .junk=.agg [.str l[k].1,.str l[k].2]:=by
 simp [cd,fZ,gEq,h]
theorem aY {n:Nat} {m:Mark} {l:List VN}:AV.lt n (.slice m 2 (cd l))=∀ id,m=.own id→id<n:=by
 rw [AV.lt]
 refine propext ⟨fun h=>h.1,fun h=>⟨h,fun j hj=>?_⟩⟩
 simp only [cd,List.getElem_map,fZ]
 simp [znr,znu,znv,znh]
theorem rn {l:List VN} {v:VN}:cd l++[.agg [.str v.1,.str v.2]]=cd (l++[v]):=by simp [cd,fZ]
end Go.AL
