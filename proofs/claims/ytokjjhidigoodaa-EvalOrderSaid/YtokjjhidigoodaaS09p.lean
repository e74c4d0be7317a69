/- Contracts and plain laws, a part of the proof; no condition of its own. -/
import Derived.Test.YtokjjhidigoodaaS09i
import Derived.Test.YtokjjhidigoodaaLOrd
open Go Go.AL Go.Proofs
namespace Go.AL
set_option linter.all false
set_option maxRecDepth 10000
/-- what a text means, if it is a restriction -/
noncomputable def hB (l:List Nat) (s:List UInt8):Bool:=if (ey (aU bndV) s).2=0 then yd (ep l) (ey (aU bndV) s).1 else false
noncomputable def hO (s:List UInt8):Bool:=decide ((ey (aU bndV) s).2=0)
def pk:List AV→AHeap→(AV→Prop)→Prop
 |[.str s,.slice _ 2 y],_,K=>∃ v,(y=cO v∧(∀ x∈v,x<340282366920938463463374607431768211456)∧s.length≤1000000)∧K (.tup [.bool (hB v s),.bool (hO s)])
 |_,_,_=>False
set_option maxHeartbeats 2000000 in
theorem sE:EntOk Try.prog 8 (Ent.pure pk):=by
 refine EntOk.pure fun args H K h=>?_
 unfold pk at h
 split at h
 rotate_left
 ·exact h.elim
 rename_i s m y
 obtain ⟨v,⟨rfl,hvx,hsl⟩,hK⟩:=h
 have hbs:=wg hvx
 have hov:wX bndV:=⟨by decide,by decide⟩
 refine ⟨_,hK,?_⟩
 clear hK
 refine ACalls.fW ay (TblOk.cons s8 (TblOk.cons j0 (TblOk.cons mr TblOk.nil))) Try.func8 [.tmp 4,.tmp 5] (Nat.le_refl _) (T:=al []) (h:=fun hcl hlt=>?_)
 clear hlt
 simp only [go_sem]
 refine ⟨v,rfl,?_⟩
 simp only [go_sem,fO]
 refine ⟨bndV,⟨rfl,hov,by omega⟩,?_⟩
 have hC:=@pb (aU bndV) s
 unfold hB hO
 obtain ⟨⟨t,er⟩,hq⟩:∃ q,ey (aU bndV) s=q:=⟨_,rfl⟩
 rw [hq] at hC
 rw [hq]
 by_cases h0:er=0
 ·subst h0
  obtain ⟨hH,hV⟩:=yg (hC rfl) hbs
  have hm:(mS (ep v) t).bo=yd (ep v) t:=by rw [hV];rfl
  have d0:(((0:Nat):Int) != 0)=false:=rfl
  simp only [go_sem,fK,d0]
  refine ⟨t,ep v,⟨rfl,rfl,hH,hbs⟩,?_⟩
  rw [hm]
  simp only [go_sem]
  simp (disch:=first|assumption|omega|(simp;done)|(simp;omega)|(simp only [bt,and_true];first|done|omega|(simp;done))) [↓zmk,beq,List.take_of_length_le,List.drop_append,List.take_append,ae,wk,wk2,wk1,wkM,wkL,ah,List.drop_eq_nil_of_le,hcl]
 ·have d0:((er:Int) != 0)=true:=by simp [h0]
  have d1:decide (er=0)=false:=decide_eq_false h0
  simp only [go_sem,fK,d0,if_neg h0,d1]
  simp (disch:=first|assumption|omega|(simp;done)|(simp;omega)|(simp only [bt,and_true];first|done|omega|(simp;done))) [↓zmk,beq,List.take_of_length_le,List.drop_append,List.take_append,ae,wk,wk2,wk1,wkM,wkL,ah,List.drop_eq_nil_of_le,hcl]
end Go.AL
