/- Contracts and plain laws, a part of the proof; no condition of its own. -/
import Derived.Test.YtiiiljghmilepaaN05
import Derived.Test.YtiiiljghmilepaaLNum
open Go Go.AL Go.Proofs
namespace Go.AL
set_option linter.all false
set_option maxRecDepth 10000
theorem wF:ti Try.prog 120=some ⟨.int .u64,1,8,.int .u64 0⟩:=by kernel_rfl
theorem mf:ti Try.prog 22=some ⟨.slice 5,1,24,.slice .nil 1 []⟩:=by kernel_rfl
theorem r8:ti Try.prog 5=some ⟨.int .u8,1,1,.int .u8 0⟩:=by kernel_rfl
theorem eC:ti Try.prog 9=some ⟨.string,1,16,.str []⟩:=by kernel_rfl
attribute [go_sem] wF mf r8 eC
/-- the value of a number, and whether it has one -/
def f9 (a:Int):AV:=if 0≤a∧a<2^128 then .tup [.agg [.int .u64 (a/2^64),.int .u64 (a % 2^64)],.bool true] else .tup [.agg [.int .u64 0,.int .u64 0],.bool false]
def fj:List AV→AHeap→(AV→Prop)→Prop
 |[x],_,K=>∃ a,(x=nAV a∧isN a)∧K (f9 a)
 |_,_,_=>False
theorem ns:EntOk Try.prog 60 (Ent.pure fj):=by
 refine EntOk.pure fun args H K h=>?_
 unfold fj at h
 split at h
 rotate_left
 ·exact h.elim
 obtain ⟨a,⟨rfl,ha⟩,hK⟩:=h
 refine ⟨_,hK,?_⟩
 refine ACalls.fW aE TblOk.nil Try.func60 [.cell 2 56,.tmp 3] (Nat.le_refl _) (T:=ax []) (h:=fun hcl hlt=>?_)
 clear hlt hK
 have hf:=yf ha
 simp only [go_sem,byq,nAV]
 refine ⟨by omega,al (fun h1=>?_) (fun h1=>?_)⟩
 ·have h1':¬ (0≤a∧a<2^128):=fun h=>by rw [← hf] at h;simp [h] at h1
  simp only [go_sem,byq,f9,if_neg h1']
  simp (disch:=first|assumption|omega|(simp;done)|(simp;omega)|(simp only [bt,and_true];first|done|omega|(simp;done))) [↓zmi,beq,List.take_of_length_le,List.drop_append,List.take_append,ag,wk,wk2,wk1,wkM,wkL,ak,List.drop_eq_nil_of_le,hcl]
 ·have h1':(0≤a∧a<2^128):=by rw [← hf];simpa using h1
  have e1:w1 a=a/2^64:=by unfold w1;omega
  have e0:w0 a=a % 2^64:=rfl
  simp only [go_sem,byq,f9,if_pos h1',e1,e0]
  refine ⟨by omega,by omega,?_⟩
  simp (disch:=first|assumption|omega|(simp;done)|(simp;omega)|(simp only [bt,and_true];first|done|omega|(simp;done))) [↓zmi,beq,List.take_of_length_le,List.drop_append,List.take_append,ag,wk,wk2,wk1,wkM,wkL,ak,List.drop_eq_nil_of_le,hcl]
end Go.AL
