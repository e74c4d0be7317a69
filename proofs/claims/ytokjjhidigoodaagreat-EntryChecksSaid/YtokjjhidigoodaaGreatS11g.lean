/- Lemmas of the proof; no condition. -/
import Derived.Test.YtokjjhidigoodaaGreatS10r
import Derived.Test.YtokjjhidigoodaaGreatS10p
set_option linter.all false
set_option maxRecDepth 10000
open Go Go.AL Go.Proofs
namespace Go.AL
def CR (S:Sch) (n:Int):Prop:=0≤ixP (fun f:SField=>f.id==n) S.fields 0
theorem Ib {S:Sch} {n:Int} (h:CR S n):∃ (i:Nat) (x:SField),i<S.fields.length∧ixP (fun f:SField=>f.id==n) S.fields 0=(i:Int)∧S.fields[i]?=some x∧cR S n=x.bits:=by
 unfold CR at h
 obtain ⟨i,hi⟩:∃ i:Nat,ixP (fun f:SField=>f.id==n) S.fields 0=((0+i:Nat):Int):=⟨(ixP (fun f:SField=>f.id==n) S.fields 0).toNat,by omega⟩
 obtain ⟨x,h1,h2,h3⟩:=kT hi
 rw [nzq] at hi
 refine ⟨i,x,?_,hi,h1,?_⟩
 ·exact Y90
 ·unfold cR
  rw [ox,h3]
def y8:List AV→AHeap→(AV→Prop)→Prop
 |[.agg l,.int .i64 n],_,K=>∃ S:Sch,(l=bv S∧SLen S∧CR S n)∧K (.int .i64 (cR S n))
 |_,_,_=>False
theorem JM:EntOk Tryz.prog 152 (Ent.pure y8):=by
 refine Ype fun _ H K h=>?_
 unfold y8 at h
 split at h
 rotate_left
 ·exact h.elim
 rename_i l n
 obtain ⟨S,⟨rfl,hS,hf⟩,hK⟩:=h
 refine ⟨_,hK,?_⟩
 clear hK
 obtain ⟨i,x,hil,hi,hx,hb⟩:=Ib hf
 rw [hb]
 have hg':=bC (f:=bX) (l:=S.fields) (k:=i) (x:=x) hx
 refine ACalls.fW ax (tCq oo tNq) Tryz.func152 [.tmp 4] (nrq _) (T:=av [(1,[[],[],[],[],[2],[],[],[4]])]) (h:=fun hcl hlt=>?_)
 clear hlt
 simp only [go_sem,bv,lF]
 (repeat with_reducible refine Yq ?_)
 refine ⟨S,⟨rfl,hS⟩,?_⟩
 rw [hi]
 simp only [bp,aM,bhq,Nat.reduceMod,Nat.reduceDiv,aD,aE,aF,bf,aG,bc,aZ,bb,a9,List.take_succ_cons,List.take_zero,List.drop_succ_cons,List.drop_zero,go_sem,bv,iNq,hg',bX,List.length_map]
 (repeat with_reducible refine Yq ?_)
 simp (disch:=first|exact Zd|omega) [↓zmk,beq,List.take_of_length_le,List.drop_append,List.take_append,af,wk,wk2,wk1,wkM,wkL,aj,List.drop_eq_nil_of_le,hcl]
 try exact Y18
def qE:List AV→AHeap→(AV→Prop)→Prop
 |[.agg l,.agg lt,.int .i64 n],_,K=>∃ (S:Sch) (t:STable) (k:Nat) (x:SKey),(l=bv S∧aV t=.agg lt∧n=(k:Int)∧t.keys[k]?=some x∧SLen S∧CR S x.field)∧K (.int .i64 (cR S x.field))
 |_,_,_=>False
theorem BS:EntOk Tryz.prog 74 (Ent.pure qE):=by
 refine Ype fun _ H K h=>?_
 unfold qE at h
 split at h
 rotate_left
 ·exact h.elim
 rename_i l lt n
 obtain ⟨S,t,k,x,⟨rfl,ht,rfl,hx,hS,hf⟩,hK⟩:=h
 refine ⟨_,hK,?_⟩
 clear hK
 unfold aV at ht
 cases ht
 have hg':=bC (f:=bL) (l:=t.keys) (k:=k) (x:=x) hx
 have hkl:k<t.keys.length:=by
  rcases Nat.lt_or_ge k t.keys.length with h|h
  ·exact h
  ·rw [gNq h] at hx;cases hx
 refine ACalls.fW ax (tCq JM tNq) Tryz.func74 [.tmp 6] (nrq _) (T:=av [(1,[[],[],[],[],[],[],[],[0,2,6]])]) (h:=fun hcl hlt=>?_)
 clear hlt
 simp only [go_sem,bv,y8,iNq,hg',bL,List.length_map]
 (repeat with_reducible refine Yq ?_)
 refine ⟨S,⟨rfl,hS,hf⟩,?_⟩
 try simp only [bp,aM,bhq,Nat.reduceMod,Nat.reduceDiv,aD,aE,aF,bf,aG,bc,aZ,bb,a9,List.take_succ_cons,List.take_zero,List.drop_succ_cons,List.drop_zero,go_sem]
 simp (disch:=first|exact Zd|omega) [↓zmk,beq,List.take_of_length_le,List.drop_append,List.take_append,af,wk,wk2,wk1,wkM,wkL,aj,List.drop_eq_nil_of_le,hcl]
 try exact Y18
theorem BV:ti Tryz.prog 23=some ⟨.slice 114,1,24,.slice .nil 1 []⟩:=by kernel_rfl
theorem C8:ti Tryz.prog 24=some ⟨.slice 48,1,24,.slice .nil 1 []⟩:=by kernel_rfl
theorem G4:ti Tryz.prog 114=some ⟨.struct [(0,4,false),(1,48,false),(3,48,false),(5,3,false),(6,48,false)],8,64,.agg [.bool false,.int .u64 0,.int .u64 0,.int .u64 0,.int .u64 0,.int .i64 0,.int .u64 0,.int .u64 0]⟩:=by kernel_rfl
attribute [go_sem] BV C8 G4
structure COk (e:SEntry):Prop where
 ok:EOk e
 ar:∀ x∈e.args,x<2^128
structure TPre {α:Type} (f:α→α→Int):Prop where
 anti:∀ x y,f y x = - f x y
 trans:∀ x y z,f x y≤0→f y z≤0→f x z≤0
theorem TPre.zero {α:Type}:TPre fun _ _:α=>0:=⟨fun _ _=>rfl,fun _ _ _ _ _=>by decide⟩
theorem Bq:ti Tryz.prog 40=some ⟨.slice 26,1,24,.slice .nil 1 []⟩:=by kernel_rfl
theorem HN:ti Tryz.prog 26=some ⟨.struct [(0,3,false),(1,23,false),(2,3,false),(3,3,false),(4,24,false)],5,72,.agg [.int .i64 0,.slice .nil 1 [],.int .i64 0,.int .i64 0,.slice .nil 1 []]⟩:=by kernel_rfl
attribute [go_sem] Bq HN
theorem sH {x:Nat} {w:Int} (h:x<2^128):low x w<2^128:=by
 unfold low
 split
 ·exact h
 ·exact Nat.lt_of_le_of_lt (Nat.mod_le _ _) h
structure BOk (e:SEntry):Prop where
 c:COk e
 m:e.ms.length*64≤140737488351232
 a:e.args.length*16≤140737488351232
end Go.AL
