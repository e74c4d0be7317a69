/- Contracts and plain laws, a part of the proof; no condition of its own. -/
import Derived.Test.YtokjjhidigoodaaS09j
import Derived.Test.YtokjjhidigoodaaS07h
open Go Go.AL Go.Proofs
namespace Go.AL
set_option linter.all false
set_option maxRecDepth 10000
def sB9:List UInt8:=[100,58,58,112,114,101,102,105,120,95,108,101,110,103,116,104,32,62,61,32,56,32,45,62,32,100,58,58,118,97,108,117,101,32,62,32,48]
def tB9:List Nd:=[⟨3,0,0,[100],[112,114,101,102,105,120,95,108,101,110,103,116,104],0⟩,⟨1,0,0,[],[],8⟩,⟨13,0,1,[],[],0⟩,⟨3,0,0,[100],[118,97,108,117,101],0⟩,⟨1,0,0,[],[],0⟩,⟨12,3,4,[],[],0⟩,⟨16,2,5,[],[],0⟩]
theorem Ct:bX sB9=([(2,[100],0),(3,[58,58],1),(2,[112,114,101,102,105,120,95,108,101,110,103,116,104],3),(3,[62,61],17),(1,[56],20),(3,[45,62],22),(2,[100],25),(3,[58,58],26),(2,[118,97,108,117,101],28),(3,[62],34),(1,[48],36)],0,0):=by decide +kernel
theorem Du:run [(2,[100],0),(3,[58,58],1),(2,[112,114,101,102,105,120,95,108,101,110,103,116,104],3),(3,[62,61],17),(1,[56],20),(3,[45,62],22),(2,[100],25),(3,[58,58],26),(2,[118,97,108,117,101],28),(3,[62],34),(1,[48],36)] 30 .imp 0 []=some (.ok 6 11 tB9):=by kernel_rfl
def Cl:List VN:=sF [⟨[100],7,2⟩]
theorem rQ:comp (bP Cl) sB9=(tB9,0):=by
 rw [BI (by unfold sB9;simp) Ct Du]
 decide +kernel
theorem DO:okC tB9:=by
 have h:=zT (kn:=bP Cl) (s:=sB9) (by rw [rQ])
 rw [rQ] at h
 exact h
def eB9:List (VN × Nat):=ju [] [⟨[100],7,2⟩] [] 0
theorem wq:Cg eB9:=⟨by decide,by decide⟩
theorem CT:eB9.length=3:=by decide
theorem DF:(val eB9 tB9 (tB9.length - 1)).bo=true:=by decide +kernel
def iM:List AV→AHeap→(AV→Prop)→Prop
 |[],_,K=>K (.bool true)
 |_,_,_=>False
set_option maxHeartbeats 1000000 in
theorem uq:EntOk Try.prog 9 (Ent.pure iM):=by
 refine EntOk.pure fun args H K h=>?_
 unfold iM at h
 split at h
 rotate_left
 ·exact h.elim
 refine ⟨_,h,?_⟩
 clear h
 refine ACalls.fW aD (TblOk.cons kE (TblOk.cons sP (TblOk.cons sR (TblOk.cons wQ TblOk.nil)))) Try.func9 [.tmp 0] (Nat.le_refl _) (T:=az []) (h:=fun hcl hlt=>?_)
 clear hlt
 obtain ⟨hH,hV⟩:=D9 DO wq
 have hB:(sZ eB9 tB9).bo=true:=by rw [hV];exact DF
 have hlb:(ay eB9).length=3:=by rw [av,CT]
 simp only [go_sem,ja]
 refine ⟨[⟨[100],7,2⟩],⟨rfl,by decide⟩,?_⟩
 have hov:CU Cl:=⟨by decide,by decide⟩
 simp only [go_sem,lm]
 refine ⟨Cl,⟨rfl,hov⟩,?_⟩
 have c1:=rQ
 unfold sB9 at c1
 rw [c1]
 have d3:(((0:Nat):Int)==0)=true:=rfl
 simp only [go_sem,kO,d3]
 refine ⟨[],[⟨[100],7,2⟩],[],⟨.inr ⟨rfl,rfl⟩,by decide,rfl,by decide,.inr ⟨rfl,rfl⟩,by decide,(fun m hm=>by cases hm),by decide⟩,?_⟩
 rw [show ju [] [⟨[100],7,2⟩] [] 0=eB9 from rfl]
 simp only [go_sem]
 refine ⟨tB9,eB9,⟨rfl,rfl,hH,wq⟩,?_⟩
 rw [hB]
 simp only [go_sem]
 refine ⟨[],[⟨[100],7,2⟩],[],⟨.inr ⟨rfl,rfl⟩,by decide,rfl,by decide,.inr ⟨rfl,rfl⟩,by decide,(fun m hm=>by cases hm),by decide⟩,?_⟩
 rw [show ju [] [⟨[100],7,2⟩] [] 0=eB9 from rfl]
 have d4:(((3:Nat):Int)==3)=true:=rfl
 simp only [go_sem,hlb,d4]
 simp (disch:=first|assumption|omega|(simp;done)|(simp;omega)|(simp only [bt,and_true];first|done|omega|(simp;done))) [↓zmk,beq,List.take_of_length_le,List.drop_append,List.take_append,ag,wk,wk2,wk1,wkM,wkL,am,List.drop_eq_nil_of_le,hcl]
end Go.AL
