/- Contracts and plain laws, a part of the proof; no condition of its own. -/
import Derived.Test.YtokjjhidigoodaaS09j
import Derived.Test.YtokjjhidigoodaaS10r
open Go Go.AL Go.Proofs
namespace Go.AL
set_option linter.all false
set_option maxRecDepth 10000
def uk:List AV→AHeap→(AV→Prop)→Prop
 |[.int .i64 n],_,K=>n<9223372036854775808∧K (vv n.toNat)
 |_,_,_=>False
theorem BN:EntOk Try.prog 33 (Ent.pure uk):=by
 refine EntOk.pure fun args H K h=>?_
 unfold uk at h
 split at h
 rotate_left
 ·exact h.elim
 rename_i n
 obtain ⟨h1,hK⟩:=h
 refine ⟨_,hK,?_⟩
 clear hK
 rw [zB h1]
 have e1:IntKind.u64.wrap (max n 0)=max 0 n:=by rw [gd]<;>omega
 refine ACalls.fW aD TblOk.nil Try.func33 [.cell 2 95] (Nat.le_refl _) (T:=az []) (h:=fun hcl hlt=>?_)
 clear hlt
 simp only [go_sem,e1]
 simp (disch:=first|assumption|omega|(simp;done)|(simp;omega)|(simp only [bt,and_true];first|done|omega|(simp;done))) [↓zmk,beq,List.take_of_length_le,List.drop_append,List.take_append,ag,wk,wk2,wk1,wkM,wkL,am,List.drop_eq_nil_of_le,hcl]
def vT:List AV→AHeap→(AV→Prop)→Prop
 |[.agg l,.agg [a1,.int .i64 n,a2]],_,K=>∃ S:Sch,(l=bO S∧SLen S)∧K (.int .i64 (gl S.fields n))
 |_,_,_=>False
set_option maxHeartbeats 1000000 in
theorem zS:EntOk Try.prog 32 (Ent.pure vT):=by
 refine EntOk.pure fun args H K h=>?_
 unfold vT at h
 split at h
 rotate_left
 ·exact h.elim
 rename_i l a1 fld a2
 obtain ⟨S,⟨rfl,hS⟩,hK⟩:=h
 refine ⟨_,hK,?_⟩
 clear hK
 rw [tm]
 obtain ⟨b1,b2⟩:=rN (q:=fun f:SField=>f.id==fld) (l:=S.fields) (k:=0)
 rcases b2 with b2|b2
 ·rw [oo b2]
  refine ACalls.fW aD (TblOk.cons nq TblOk.nil) Try.func32 [.tmp 4] (Nat.le_refl _) (T:=az []) (h:=fun hcl hlt=>?_)
  clear hlt
  simp only [go_sem,bO,iX]
  refine ⟨S,⟨rfl,hS⟩,?_⟩
  rw [b2]
  have d:decide ((-1:Int)<0)=true:=rfl
  simp only [bM,go_sem,d]
  simp (disch:=first|assumption|omega|(simp;done)|(simp;omega)|(simp only [bt,and_true];first|done|omega|(simp;done))) [↓zmk,beq,List.take_of_length_le,List.drop_append,List.take_append,ag,wk,wk2,wk1,wkM,wkL,am,List.drop_eq_nil_of_le,hcl]
 ·obtain ⟨i,hi⟩:∃ i:Nat,ixP (fun f:SField=>f.id==fld) S.fields 0=((0+i:Nat):Int):=⟨(ixP (fun f:SField=>f.id==fld) S.fields 0).toNat,by omega⟩
  obtain ⟨y,h1,h2,h3⟩:=q9 hi
  rw [h3]
  rw [Nat.zero_add] at hi
  have hil:i<S.fields.length:=by
   rcases Nat.lt_or_ge i S.fields.length with h|h
   ·exact h
   ·rw [List.getElem?_eq_none h] at h1;cases h1
  have hg':=cJ (f:=bY) (l:=S.fields) (k:=i) (x:=y) h1
  have d:decide ((i:Int)<0)=false:=by simp
  refine ACalls.fW aD (TblOk.cons nq TblOk.nil) Try.func32 [.tmp 4] (Nat.le_refl _) (T:=az []) (h:=fun hcl hlt=>?_)
  clear hlt
  simp only [go_sem,bO,iX]
  refine ⟨S,⟨rfl,hS⟩,?_⟩
  rw [hi]
  simp only [bM,go_sem,d,Int.toNat_natCast,hg',bY,List.length_map]
  (repeat with_reducible refine And.intro (by first|exact True.intro|decide|omega|(simp [zim,zgm,zgn,zgo,zgq,zgp,zgu];first|done|omega)) ?_)
  simp (disch:=first|assumption|omega|(simp;done)|(simp;omega)|(simp only [bt,and_true];first|done|omega|(simp;done))) [↓zmk,beq,List.take_of_length_le,List.drop_append,List.take_append,ag,wk,wk2,wk1,wkM,wkL,am,List.drop_eq_nil_of_le,hcl]
end Go.AL
