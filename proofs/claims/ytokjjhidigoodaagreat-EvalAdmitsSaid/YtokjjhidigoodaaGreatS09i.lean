/- Contracts and plain laws, a part of the proof; no condition of its own. -/
import Derived.Test.YtokjjhidigoodaaGreatS09h
import Derived.Test.YtokjjhidigoodaaGreatS07h
open Go Go.AL Go.Proofs
namespace Go.AL
set_option linter.all false
set_option maxRecDepth 10000
def sB9:List UInt8:=[100,58,58,112,114,101,102,105,120,95,108,101,110,103,116,104,32,62,61,32,56,32,45,62,32,100,58,58,118,97,108,117,101,32,62,32,48]
def tB9:List Nd:=[⟨3,0,0,[100],[112,114,101,102,105,120,95,108,101,110,103,116,104],0⟩,⟨1,0,0,[],[],8⟩,⟨13,0,1,[],[],0⟩,⟨3,0,0,[100],[118,97,108,117,101],0⟩,⟨1,0,0,[],[],0⟩,⟨12,3,4,[],[],0⟩,⟨16,2,5,[],[],0⟩]
theorem IY:bZ sB9=([(2,[100],0),(3,[58,58],1),(2,[112,114,101,102,105,120,95,108,101,110,103,116,104],3),(3,[62,61],17),(1,[56],20),(3,[45,62],22),(2,[100],25),(3,[58,58],26),(2,[118,97,108,117,101],28),(3,[62],34),(1,[48],36)],0,0):=by decide +kernel
theorem Kv:run [(2,[100],0),(3,[58,58],1),(2,[112,114,101,102,105,120,95,108,101,110,103,116,104],3),(3,[62,61],17),(1,[56],20),(3,[45,62],22),(2,[100],25),(3,[58,58],26),(2,[118,97,108,117,101],28),(3,[62],34),(1,[48],36)] 30 .imp 0 []=some (.ok 6 11 tB9):=by kernel_rfl
def JG:List VN:=kL [⟨[100],7,2⟩]
theorem xg:comp (bE JG) sB9=(tB9,0):=by
 rw [Ir (by unfold sB9;simp) IY Kv]
 decide +kernel
theorem JY:okC tB9:=by
 have h:=qj (kn:=bE JG) (s:=sB9) (by rw [xg])
 rw [xg] at h
 exact h
def eB9:List (VN × Nat):=ke [] [⟨[100],7,2⟩] [] 0
theorem BN:uQ eB9:=⟨by decide,by decide⟩
theorem Kr:eB9.length=3:=by decide
theorem KS:(val eB9 tB9 (tB9.length - 1)).bo=true:=by decide +kernel
def qL:List AV→AHeap→(AV→Prop)→Prop
 |[],_,K=>K (.bool true)
 |_,_,_=>False
set_option maxHeartbeats 1000000 in
theorem AE:EntOk Tryz.prog 17 (Ent.pure qL):=by
 refine EntOk.pure fun args H K h=>?_
 unfold qL at h
 split at h
 rotate_left
 ·exact h.elim
 refine ⟨_,h,?_⟩
 clear h
 refine ACalls.fW aB (TblOk.cons k7 (TblOk.cons rQ (TblOk.cons zP (TblOk.cons wK TblOk.nil)))) Tryz.func17 [.tmp 0] (Nat.le_refl _) (T:=aA []) (h:=fun hcl hlt=>?_)
 clear hlt
 obtain ⟨hH,hV⟩:=GY JY BN
 have hB:(s7 eB9 tB9).bo=true:=by rw [hV];exact KS
 have hlb:(aN eB9).length=3:=by rw [aC,Kr]
 simp only [go_sem,jM]
 refine ⟨[⟨[100],7,2⟩],⟨rfl,by decide⟩,?_⟩
 have hov:xO JG:=⟨by decide,by decide⟩
 simp only [go_sem,kj]
 refine ⟨JG,⟨rfl,hov⟩,?_⟩
 have c1:=xg
 unfold sB9 at c1
 rw [c1]
 have d3:(((0:Nat):Int)==0)=true:=rfl
 simp only [go_sem,fA,d3]
 refine ⟨[],[⟨[100],7,2⟩],[],⟨.inr ⟨rfl,rfl⟩,by decide,rfl,by decide,.inr ⟨rfl,rfl⟩,by decide,(fun m hm=>by cases hm),by decide⟩,?_⟩
 rw [show ke [] [⟨[100],7,2⟩] [] 0=eB9 from rfl]
 simp only [go_sem]
 refine ⟨tB9,eB9,⟨rfl,rfl,hH,BN⟩,?_⟩
 rw [hB]
 simp only [go_sem]
 refine ⟨[],[⟨[100],7,2⟩],[],⟨.inr ⟨rfl,rfl⟩,by decide,rfl,by decide,.inr ⟨rfl,rfl⟩,by decide,(fun m hm=>by cases hm),by decide⟩,?_⟩
 rw [show ke [] [⟨[100],7,2⟩] [] 0=eB9 from rfl]
 have d4:(((3:Nat):Int)==3)=true:=rfl
 simp only [go_sem,hlb,d4]
 exact Z17
end Go.AL
