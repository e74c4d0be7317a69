/- Lemmas of the proof; no condition. -/
import Derived.Test.YtjnhidpnfdbmaaaGreatAlTop
import Derived.Test.YtjnhidpnfdbmaaaGreatLTyp
set_option linter.all false
open Go Go.AL
namespace Go.AL
def gd (v:VN):AV:=.agg [.str v.1,.str v.2]
def cj (l:List VN):List AV:=l.map gd
theorem C8 {P:Program} {t s:TypeId} {n:Nat} (ht:(ti P t).map TI.desc=some (.struct [(0,s,false),(1,s,false)])) (hs:(ti P s).map TI.desc=some .string) (hk:P.keyType t=true) (hn:P.types.size=n+1)
 (hc:P.cellsOf t=2) (hcs:P.cellsOf s=1) {v:VN} (h1:v.1.length≤1000) (h2:v.2.length≤1000):fF P t (gd v):=by
 obtain ⟨a,b⟩:=v
 obtain ⟨d,i,hu,_,hd⟩:=eM ht
 obtain ⟨ds,is,hus,_,hds⟩:=eM hs
 cases d<;>simp [cM] at hd
 rename_i fs
 cases ds<;>simp [cM] at hds
 obtain ⟨l⟩:=fs
 match l,hd with
 |[],hd=>simp at hd
 |[_],hd=>simp at hd
 |_::_::_::_,hd=>simp at hd
 |[f,g],hd =>
  simp at hd
  obtain ⟨⟨f1,f2,f3⟩,g1,g2,g3⟩:=hd
  have hm:(1000:Nat)≤maxLen:=by decide
  dsimp only at h1 h2
  unfold fF keyOf
  rw [hu,hn]
  have e1:(Value.agg #[Value.string ⟨a.toArray⟩,Value.string ⟨b.toArray⟩]).formed P t=true:=by
   simp [Value.formed,hu,hc]
  have la:(⟨a.toArray⟩:ByteArray).size≤maxLen:=by simp only [ByteArray.size,List.size_toArray];omega
  have lb:(⟨b.toArray⟩:ByteArray).size≤maxLen:=by simp only [ByteArray.size,List.size_toArray];omega
  have e2:P.keyLits (n+1+1) t [Value.string ⟨a.toArray⟩,Value.string ⟨b.toArray⟩]=some [.string a,.string b]:=by
   have k1:P.keyLits (n+1) s [Value.string ⟨a.toArray⟩]=some [.string a]:=by
    unfold Program.keyLits;simp only [hus,if_pos la]
   have k2:P.keyLits (n+1) s [Value.string ⟨b.toArray⟩]=some [.string b]:=by
    unfold Program.keyLits;simp only [hus,if_pos lb]
   unfold Program.keyLits
   simp [hu,hc,f1,f2,f3,g1,g2,g3,hcs,k1,k2]
  refine ⟨.string (keyBytes [.string a,.string b]),?_⟩
  have e3:bO (gd (a,b))=Value.agg #[Value.string ⟨a.toArray⟩,Value.string ⟨b.toArray⟩]:=rfl
  rw [e3]
  simp only [hk,e1,Bool.and_self,if_true]
  show (P.keyLits (n+1+1) t [Value.string ⟨a.toArray⟩,Value.string ⟨b.toArray⟩]).map _=_
  rw [e2];rfl
theorem sL {H:AHeap} {es:List (AV × AV)} (h:H.Closed):(H.push (.mapo es)).Closed:=by
 intro i cs hi j hj
 rw [zlh] at hi
 split at hi
 ·cases hi
 ·exact AV.lt_mono (by rw [zle];omega) _ (h i cs hi j hj)
theorem lY {H:AHeap} {i:Nat} {es:List (AV × AV)} (h:H.Closed):(H.set i (.mapo es)).Closed:=by
 intro k cs hi j hj
 rw [bv] at hi
 split at hi
 ·split at hi<;>cases hi
 ·exact h k cs hi j hj
def oF (l:List VN):List (AV × AV):=l.foldl (fun es v=>(gd v,.bool true)::es) []
theorem Co {l:List VN} {v:VN}:oF (l++[v])=(gd v,.bool true)::oF l:=by simp [oF]
theorem DZ {l:List VN} {k:Nat} (h:k<l.length):oF (l.take (k+1))=(gd l[k],.bool true)::oF (l.take k):=by
 rw [← Co,List.take_append_getElem h]
theorem nW:∀ (l:List VN) (es:List (AV × AV)),l.foldl (fun es v=>(gd v,.bool true)::es) es=(l.reverse.map fun v=>(gd v,AV.bool true))++es
 |[],es=>rfl
 |v::l,es=>by rw [List.foldl_cons,nW l];simp
theorem Fu {l:List VN} {p:AV × AV} (h:p∈oF l):∃ v∈l,p=(gd v,.bool true):=by
 unfold oF at h
 rw [nW,List.append_nil] at h
 obtain ⟨v,hv,e⟩:=List.mem_map.1 h
 exact ⟨v,List.mem_reverse.1 hv,e.symm⟩
theorem H9 {v x:VN}:feq (gd v) (gd x)=decide (v=x):=by
 obtain ⟨a,b⟩:=v
 obtain ⟨c,d⟩:=x
 simp [feq,gd,y4,uL]
theorem yj {x:VN}:∀ (l:List VN),iI (l.map fun v=>(gd v,AV.bool true)) (gd x)=if l.contains x then some (.bool true) else none
 |[]=>rfl
 |v::l=>by
  rw [List.map_cons,iI,H9,yj l,List.contains_cons]
  by_cases h:v=x
  ·subst h;simp
  ·have h':(x==v)=false:=by simp;exact fun e=>h e.symm
   rw [h',Bool.false_or]
   simp [h]
theorem CE {l:List VN} {x:VN}:iI (oF l) (gd x)=if bS l x then some (.bool true) else none:=by
 unfold oF
 rw [nW,List.append_nil,yj]
 unfold bS
 rw [show l.reverse.contains x=l.contains x by rw [Bool.eq_iff_iff];simp]
theorem bX {l:List VN}:(cj l).length=l.length:=by simp [cj]
theorem lr {l:List VN} {k:Nat} (h:k<l.length):(cj l).getD k .junk=.agg [.str l[k].1,.str l[k].2]:=by
 simp [cj,gd,gEq,h]
theorem aZ {n:Nat} {m:Mark} {l:List VN}:AV.lt n (.slice m 2 (cj l))=∀ id,m=.own id→id<n:=by
 rw [AV.lt]
 refine propext ⟨fun h=>h.1,fun h=>⟨h,fun j hj=>?_⟩⟩
 simp only [cj,List.getElem_map,gd]
 simp [znr,znu,znv,znh]
theorem qU {l:List VN} {v:VN}:cj l++[.agg [.str v.1,.str v.2]]=cj (l++[v]):=by simp [cj,gd]
end Go.AL
