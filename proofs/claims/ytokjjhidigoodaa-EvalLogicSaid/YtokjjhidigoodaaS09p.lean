/- Contracts and plain laws, a part of the proof; no condition of its own. -/
import Derived.Test.YtokjjhidigoodaaS09i
import Derived.Test.YtokjjhidigoodaaLOrd
open Go Go.AL Go.Proofs
namespace Go.AL
set_option linter.all false
set_option maxRecDepth 10000
/-- what a text means, if it is a restriction -/
noncomputable def hB (l:List Nat) (s:List UInt8):Bool:=if (comp (bc bndV) s).2=0 then wy (eu l) (comp (bc bndV) s).1 else false
noncomputable def hO (s:List UInt8):Bool:=decide ((comp (bc bndV) s).2=0)
def lX:List AV→AHeap→(AV→Prop)→Prop
 |[.str s,.slice _ 2 y],_,K=>∃ v,(y=dj v∧(∀ x∈v,x<340282366920938463463374607431768211456)∧s.length≤1000000)∧K (.tup [.bool (hB v s),.bool (hO s)])
 |_,_,_=>False
set_option maxHeartbeats 2000000 in
theorem ui:EntOk Try.prog 8 (Ent.pure lX):=by
 refine EntOk.pure fun args H K h=>?_
 unfold lX at h
 split at h
 rotate_left
 ·exact h.elim
 rename_i s m y
 obtain ⟨v,⟨rfl,hvx,hsl⟩,hK⟩:=h
 have hbs:=wY hvx
 have hov:zB bndV:=⟨by decide,by decide⟩
 refine ⟨_,hK,?_⟩
 clear hK
 refine ACalls.fW ay (TblOk.cons ve (TblOk.cons kS (TblOk.cons nz TblOk.nil))) Try.func8 [.tmp 4,.tmp 5] (Nat.le_refl _) (T:=ap []) (h:=fun hcl hlt=>?_)
 clear hlt
 simp only [go_sem]
 refine ⟨v,rfl,?_⟩
 simp only [go_sem,gB]
 refine ⟨bndV,⟨rfl,hov,by omega⟩,?_⟩
 have hC:=@rh (bc bndV) s
 unfold hB hO
 obtain ⟨⟨t,er⟩,hq⟩:∃ q,comp (bc bndV) s=q:=⟨_,rfl⟩
 rw [hq] at hC
 rw [hq]
 by_cases h0:er=0
 ·subst h0
  obtain ⟨hH,hV⟩:=Ak (hC rfl) hbs
  have hm:(ow (eu v) t).bo=wy (eu v) t:=by rw [hV];rfl
  have d0:(((0:Nat):Int) != 0)=false:=rfl
  simp only [go_sem,gt,d0]
  refine ⟨t,eu v,⟨rfl,rfl,hH,hbs⟩,?_⟩
  rw [hm]
  simp only [go_sem]
  simp (disch:=first|assumption|omega|(simp;done)|(simp;omega)|(simp only [bt,and_true];first|done|omega|(simp;done))) [↓zmk,beq,List.take_of_length_le,List.drop_append,List.take_append,ae,wk,wk2,wk1,wkM,wkL,ai,List.drop_eq_nil_of_le,hcl]
 ·have d0:((er:Int) != 0)=true:=by simp [h0]
  have d1:decide (er=0)=false:=decide_eq_false h0
  simp only [go_sem,gt,d0,if_neg h0,d1]
  simp (disch:=first|assumption|omega|(simp;done)|(simp;omega)|(simp only [bt,and_true];first|done|omega|(simp;done))) [↓zmk,beq,List.take_of_length_le,List.drop_append,List.take_append,ae,wk,wk2,wk1,wkM,wkL,ai,List.drop_eq_nil_of_le,hcl]
end Go.AL
