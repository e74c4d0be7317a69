/- Contracts and plain laws, a part of the proof; no condition of its own. -/
import Derived.Test.YtokjjhidigoodaaGreatAlTop
import Derived.Test.YtokjjhidigoodaaGreatLTyp
/- Maps whose keys are structs of two texts. No program. -/
open Go Go.AL
namespace Go.AL
set_option linter.all false
def fo (v:VN):AV:=.agg [.str v.1,.str v.2]
def a9 (l:List VN):List AV:=l.map fo
theorem Eo {P:Program} {t s:TypeId} {n:Nat} (ht:(ti P t).map TI.desc=some (.struct [(0,s,false),(1,s,false)])) (hs:(ti P s).map TI.desc=some .string) (hk:P.keyType t=true) (hn:P.types.size=n+1)
 (hc:P.cellsOf t=2) (hcs:P.cellsOf s=1) {v:VN} (h1:v.1.length≤1000) (h2:v.2.length≤1000):ik P t (fo v):=by
 obtain ⟨a,b⟩:=v
 obtain ⟨d,i,hu,_,hd⟩:=fp ht
 obtain ⟨ds,is,hus,_,hds⟩:=fp hs
 cases d<;>simp [cZ] at hd
 rename_i fs
 cases ds<;>simp [cZ] at hds
 obtain ⟨l⟩:=fs
 match l,hd with
 |[],hd=>simp at hd
 |[_],hd=>simp at hd
 |_::_::_::_,hd=>simp at hd
 |[f,g],hd =>
  simp at hd
  obtain ⟨⟨f1,f2,f3⟩,g1,g2,g3⟩:=hd
  have hm:(1000:Nat)≤maxLen:=by decide
  dsimp only at h1 h2
  unfold ik keyOf
  rw [hu,hn]
  have e1:(Value.agg #[Value.string ⟨a.toArray⟩,Value.string ⟨b.toArray⟩]).formed P t=true:=by
   simp [Value.formed,hu,hc]
  have la:(⟨a.toArray⟩:ByteArray).size≤maxLen:=by simp only [ByteArray.size,List.size_toArray];omega
  have lb:(⟨b.toArray⟩:ByteArray).size≤maxLen:=by simp only [ByteArray.size,List.size_toArray];omega
  have e2:P.keyLits (n+1+1) t [Value.string ⟨a.toArray⟩,Value.string ⟨b.toArray⟩]=some [.string a,.string b]:=by
   have k1:P.keyLits (n+1) s [Value.string ⟨a.toArray⟩]=some [.string a]:=by
    unfold Program.keyLits;simp only [hus,if_pos la]
   have k2:P.keyLits (n+1) s [Value.string ⟨b.toArray⟩]=some [.string b]:=by
    unfold Program.keyLits;simp only [hus,if_pos lb]
   unfold Program.keyLits
   simp [hu,hc,f1,f2,f3,g1,g2,g3,hcs,k1,k2]
  refine ⟨.string (keyBytes [.string a,.string b]),?_⟩
  have e3:df (fo (a,b))=Value.agg #[Value.string ⟨a.toArray⟩,Value.string ⟨b.toArray⟩]:=rfl
  rw [e3]
  simp only [hk,e1,Bool.and_self,if_true]
  show (P.keyLits (n+1+1) t [Value.string ⟨a.toArray⟩,Value.string ⟨b.toArray⟩]).map _=_
  rw [e2];rfl
theorem tD {H:AHeap} {es:List (AV × AV)} (h:H.Closed):(H.push (.mapo es)).Closed:=by
 intro i cs hi j hj
 rw [zld] at hi
 split at hi
 ·cases hi
 ·exact AV.lt_mono (by rw [zla];omega) _ (h i cs hi j hj)
theorem mU {H:AHeap} {i:Nat} {es:List (AV × AV)} (h:H.Closed):(H.set i (.mapo es)).Closed:=by
 intro k cs hi j hj
 rw [az] at hi
 split at hi
 ·split at hi<;>cases hi
 ·exact h k cs hi j hj
/-- the entries of the variables that were put in, the last one first -/
def oH (l:List VN):List (AV × AV):=l.foldl (fun es v=>(fo v,.bool true)::es) []
theorem DW {l:List VN} {v:VN}:oH (l++[v])=(fo v,.bool true)::oH l:=by simp [oH]
theorem Ez {l:List VN} {k:Nat} (h:k<l.length):oH (l.take (k+1))=(fo l[k],.bool true)::oH (l.take k):=by
 rw [← DW,List.take_append_getElem h]
theorem pp:∀ (l:List VN) (es:List (AV × AV)),l.foldl (fun es v=>(fo v,.bool true)::es) es=(l.reverse.map fun v=>(fo v,AV.bool true))++es
 |[],es=>rfl
 |v::l,es=>by rw [List.foldl_cons,pp l];simp
theorem FM {l:List VN} {p:AV × AV} (h:p∈oH l):∃ v∈l,p=(fo v,.bool true):=by
 unfold oH at h
 rw [pp,List.append_nil] at h
 obtain ⟨v,hv,e⟩:=List.mem_map.1 h
 exact ⟨v,List.mem_reverse.1 hv,e.symm⟩
theorem Ib {v x:VN}:feq (fo v) (fo x)=decide (v=x):=by
 obtain ⟨a,b⟩:=v
 obtain ⟨c,d⟩:=x
 simp [feq,fo,zA,ve]
theorem yu {x:VN}:∀ (l:List VN),lQ (l.map fun v=>(fo v,AV.bool true)) (fo x)=if l.contains x then some (.bool true) else none
 |[]=>rfl
 |v::l=>by
  rw [List.map_cons,lQ,Ib,yu l,List.contains_cons]
  by_cases h:v=x
  ·subst h;simp
  ·have h':(x==v)=false:=by simp;exact fun e=>h e.symm
   rw [h',Bool.false_or]
   simp [h]
theorem C8 {l:List VN} {x:VN}:lQ (oH l) (fo x)=if bE l x then some (.bool true) else none:=by
 unfold oH
 rw [pp,List.append_nil,yu]
 unfold bE
 rw [show l.reverse.contains x=l.contains x by rw [Bool.eq_iff_iff];simp]
theorem bk {l:List VN}:(a9 l).length=l.length:=by simp [a9]
theorem iS {l:List VN} {k:Nat} (h:k<l.length):(a9 l).getD k .junk=.agg [.str l[k].1,.str l[k].2]:=by
 simp [a9,fo,List.getD_eq_getElem?_getD,h]
theorem aD {n:Nat} {m:Mark} {l:List VN}:AV.lt n (.slice m 2 (a9 l))=∀ id,m=.own id→id<n:=by
 rw [AV.lt]
 refine propext ⟨fun h=>h.1,fun h=>⟨h,fun j hj=>?_⟩⟩
 simp only [a9,List.getElem_map,fo]
 simp [znn,znq,znr,znd]
theorem nu {l:List VN} {v:VN}:a9 l++[.agg [.str v.1,.str v.2]]=a9 (l++[v]):=by simp [a9,fo]
end Go.AL
