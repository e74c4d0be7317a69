/- Lemmas of the proof; no condition. -/
import Derived.Test.YtjnhidpnfdbmaaaGreatS10r
import Derived.Test.YtjnhidpnfdbmaaaGreatS10p
set_option linter.all false
set_option maxRecDepth 10000
open Go Go.AL Go.Proofs
namespace Go.AL
def Ed(S:Sch)(n:Int):Prop:=0≤ixP (fun f:SField=>f.id==n) S.fields 0
theorem KE{S:Sch}{n:Int}(h:Ed S n):∃ (i:Nat) (x:SField),i<S.fields.length∧ixP (fun f:SField=>f.id==n) S.fields 0=(i:Int)∧S.fields[i]?=some x∧cV S n=x.bits:=by
 unfold Ed at h
 obtain⟨i,hi⟩:∃ i:Nat,ixP (fun f:SField=>f.id==n) S.fields 0=((0+i:Nat):Int):=⟨(ixP (fun f:SField=>f.id==n) S.fields 0).toNat,Xa⟩
 obtain⟨x,h1,h2,h3⟩:=lQ hi
 rw[nzq]at hi
 refine⟨i,x,?_,hi,h1,?_⟩
 ·exact V86
 ·unfold cV
  rw[pF,h3]
def Cd:PCt
 |[.agg l,.int .i64 n],_,K=>∃ S:Sch,(l=bb S∧SLen S∧Ed S n)∧K (.int .i64 (cV S n))
 |_,_,_=>False
theorem LI:EPp 129 Cd:=by
 refine Ype fun _ H K h=>?_
 unfold Cd at h
 split at h<;>try exact h.elim
 rename_i l n
 obtain⟨S,⟨rfl,hS,hf⟩,hK⟩:=h
 refine⟨_,hK,?_⟩
 clear hK
 obtain⟨i,x,hil,hi,hx,hb⟩:=KE hf
 rw[hb]
 have hg':=bf (f:=cD) (l:=S.fields) (k:=i) (x:=x) hx
 refine Yfw az (tCq qj tNq) Tryz.func129 [.tmp 4] (nrq _) (T:=ay [(1,[[],[],[],[],[2],[],[],[4]])]) (h:=fun hcl=>?_)
 simp only[go_sem,bb,mh]
 refine T0 ?_
 refine⟨S,⟨rfl,hS⟩,?_⟩
 rw[hi]
 simp only[bn,aF,bhq,List.take_succ_cons,List.take_zero,List.drop_succ_cons,List.drop_zero,go_sem,bb,iNq,hg',cD,List.length_map]
 refine T0 ?_
 simp (disch:=first|exact Zd|omega) [↓zmo,beq,List.take_of_length_le,List.drop_append,List.take_append,af,wk,wk2,wk1,wkM,wkL,aj,List.drop_eq_nil_of_le,hcl]
 try exact V9
def sx:PCt
 |[.agg l,.agg lt,.int .i64 n],_,K=>∃ (S:Sch) (t:STable) (k:Nat) (x:SKey),(l=bb S∧bc t=.agg lt∧n=(k:Int)∧t.keys[k]?=some x∧SLen S∧Ed S x.field)∧K (.int .i64 (cV S x.field))
 |_,_,_=>False
theorem DI:EPp 86 sx:=by
 refine Ype fun _ H K h=>?_
 unfold sx at h
 split at h<;>try exact h.elim
 rename_i l lt n
 obtain⟨S,t,k,x,⟨rfl,ht,rfl,hx,hS,hf⟩,hK⟩:=h
 refine⟨_,hK,?_⟩
 clear hK
 unfold bc at ht
 cases ht
 have hg':=bf (f:=bL) (l:=t.keys) (k:=k) (x:=x) hx
 have hkl:k<t.keys.length:=by
  rcases Nat.lt_or_ge k t.keys.length with h|h
  ·exact h
  ·rw[gNq h]at hx;cases hx
 refine Yfw az (tCq LI tNq) Tryz.func86 [.tmp 6] (nrq _) (T:=ay [(1,[[],[],[],[],[],[],[],[0,2,6]])]) (h:=fun hcl=>?_)
 simp only[go_sem,bb,Cd,iNq,hg',bL,List.length_map]
 refine T0 ?_
 refine⟨S,⟨rfl,hS,hf⟩,?_⟩
 try simp only[bn,aF,bhq,List.take_succ_cons,List.take_zero,List.drop_succ_cons,List.drop_zero,go_sem]
 simp (disch:=first|exact Zd|omega) [↓zmo,beq,List.take_of_length_le,List.drop_append,List.take_append,af,wk,wk2,wk1,wkM,wkL,aj,List.drop_eq_nil_of_le,hcl]
 try exact V9
def fJ:List Int→Int
 |[]=>0
 |x::xs=>if(x !=0)=true then x else fJ xs
theorem DZ:tSl Tryz.prog 23 47:=kSl
theorem E1:tSl Tryz.prog 24 29:=kSl
theorem Jj:ti Tryz.prog 47=some ⟨.struct [(0,4,false),(1,29,false),(3,29,false),(5,3,false),(6,29,false)],8,64,.agg [.bool false,.int .u64 0,.int .u64 0,.int .u64 0,.int .u64 0,.int .i64 0,.int .u64 0,.int .u64 0]⟩:=krf
attribute [go_sem] DZ E1 Jj
structure TPre{α:Type}(f:α→α→Int):Prop where
 anti:∀ x y,f y x = - f x y
 trans:∀ x y z,f x y≤0→f y z≤0→f x z≤0
theorem TPre.zero{α:Type}:TPre fun _ _:α=>0:=⟨fun _ _=>rfl,fun _ _ _ _ _=>Xc⟩
theorem DX:tSl Tryz.prog 56 26:=kSl
theorem HH:ti Tryz.prog 26=some ⟨.struct [(0,3,false),(1,23,false),(2,3,false),(3,3,false),(4,24,false)],5,72,.agg [.int .i64 0,.slice .nil 1 [],.int .i64 0,.int .i64 0,.slice .nil 1 []]⟩:=krf
attribute [go_sem] DX HH
end Go.AL
