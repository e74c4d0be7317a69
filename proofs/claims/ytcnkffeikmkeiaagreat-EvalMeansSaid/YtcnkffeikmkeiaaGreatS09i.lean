/- Contracts and plain laws, a part of the proof; no condition of its own. -/
import Derived.Test.YtcnkffeikmkeiaaGreatS09h
import Derived.Test.YtcnkffeikmkeiaaGreatS07h
set_option maxHeartbeats 32000000
open Go Go.AL Go.Proofs
namespace Go.AL
set_option linter.all false
set_option maxRecDepth 10000
def sB9:List UInt8:=[100,58,58,112,114,101,102,105,120,95,108,101,110,103,116,104,32,62,61,32,56,32,45,62,32,100,58,58,118,97,108,117,101,32,62,32,48]
def tB9:List Nd:=[⟨3,0,0,[100],[112,114,101,102,105,120,95,108,101,110,103,116,104],0⟩,⟨1,0,0,[],[],8⟩,⟨13,0,1,[],[],0⟩,⟨3,0,0,[100],[118,97,108,117,101],0⟩,⟨1,0,0,[],[],0⟩,⟨12,3,4,[],[],0⟩,⟨16,2,5,[],[],0⟩]
theorem Cp:bx sB9=([(2,[100],0),(3,[58,58],1),(2,[112,114,101,102,105,120,95,108,101,110,103,116,104],3),(3,[62,61],17),(1,[56],20),(3,[45,62],22),(2,[100],25),(3,[58,58],26),(2,[118,97,108,117,101],28),(3,[62],34),(1,[48],36)],0,0):=by decide +kernel
theorem DP:run [(2,[100],0),(3,[58,58],1),(2,[112,114,101,102,105,120,95,108,101,110,103,116,104],3),(3,[62,61],17),(1,[56],20),(3,[45,62],22),(2,[100],25),(3,[58,58],26),(2,[118,97,108,117,101],28),(3,[62],34),(1,[48],36)] 30 .imp 0 []=some (.ok 6 11 tB9):=by kernel_rfl
def Dc:List VN:=tC [⟨[100],7,2⟩]
theorem rW:comp (bg Dc) sB9=(tB9,0):=by
 rw [Dd (by unfold sB9;simp) Cp DP]
 decide +kernel
theorem D5:okC tB9:=by
 have h:=ta (kn:=bg Dc) (s:=sB9) (by rw [rW])
 rw [rW] at h
 exact h
def eB9:List (VN × Nat):=tu [] [⟨[100],7,2⟩] [] 0
theorem wI:uh eB9:=⟨by decide,by decide⟩
theorem DE:eB9.length=3:=by decide
theorem DI:(val eB9 tB9 (tB9.length - 1)).bo=true:=by decide +kernel
def ku:List AV→AHeap→(AV→Prop)→Prop
 |[],_,K=>K (.bool true)
 |_,_,_=>False
theorem wj:EntOk Tryz.prog 12 (Ent.pure ku):=by
 refine EntOk.pure fun args H K h=>?_
 unfold ku at h
 split at h
 rotate_left
 ·exact h.elim
 refine ⟨_,h,?_⟩
 clear h
 refine ACalls.fW aA (TblOk.cons kE (TblOk.cons np (TblOk.cons A3 (TblOk.cons qE TblOk.nil)))) Tryz.func12 [.tmp 0] (Nat.le_refl _) (T:=au []) (h:=fun hcl hlt=>?_)
 clear hlt
 obtain ⟨hH,hV⟩:=Dp D5 wI
 have hB:(qj eB9 tB9).bo=true:=by rw [hV];exact DI
 have hlb:(bj eB9).length=3:=by rw [aK,DE]
 simp only [go_sem,iT]
 refine ⟨[⟨[100],7,2⟩],⟨rfl,by decide⟩,?_⟩
 have hov:uU Dc:=⟨by decide,by decide⟩
 simp only [go_sem,iV]
 refine ⟨Dc,⟨rfl,hov⟩,?_⟩
 have c1:=rW
 unfold sB9 at c1
 rw [c1]
 have d3:(((0:Nat):Int)==0)=true:=rfl
 simp only [go_sem,eA,d3]
 refine ⟨[],[⟨[100],7,2⟩],[],⟨.inr ⟨rfl,rfl⟩,by decide,rfl,by decide,.inr ⟨rfl,rfl⟩,by decide,(fun m hm=>by cases hm),by decide⟩,?_⟩
 rw [show tu [] [⟨[100],7,2⟩] [] 0=eB9 from rfl]
 simp only [go_sem]
 refine ⟨tB9,eB9,⟨rfl,rfl,hH,wI⟩,?_⟩
 rw [hB]
 simp only [go_sem]
 refine ⟨[],[⟨[100],7,2⟩],[],⟨.inr ⟨rfl,rfl⟩,by decide,rfl,by decide,.inr ⟨rfl,rfl⟩,by decide,(fun m hm=>by cases hm),by decide⟩,?_⟩
 rw [show tu [] [⟨[100],7,2⟩] [] 0=eB9 from rfl]
 have d4:(((3:Nat):Int)==3)=true:=rfl
 simp only [go_sem,hlb,d4]
 simp (disch:=first|assumption|omega|(simp;done)|(simp;omega)|(simp only [bt,and_true];first|done|omega|(simp;done))) [↓zmk,beq,List.take_of_length_le,List.drop_append,List.take_append,ae,wk,wk2,wk1,wkM,wkL,al,List.drop_eq_nil_of_le,hcl]
theorem Ax {l:List Nat} (h:∀ x∈l,x<340282366920938463463374607431768211456):uh (gh l):=by
 refine ⟨by simp [gh],fun x hx=>?_⟩
 unfold gh at hx
 obtain ⟨i,_,rfl⟩:=List.mem_map.1 hx
 dsimp only
 rw [List.getD_eq_getElem?_getD]
 rcases Nat.lt_or_ge i l.length with h1|h1
 ·rw [List.getElem?_eq_getElem h1];exact h _ (List.getElem_mem h1)
 ·rw [List.getElem?_eq_none h1];decide
def nh:List AV→AHeap→(AV→Prop)→Prop
 |[.slice _ 1 l,.slice _ 2 y],_,K=>(isB l∧∃ v,y=gd v∧∀ x∈v,x<340282366920938463463374607431768211456)∧K (.bool true)
 |_,_,_=>False
theorem ok_EvalMeans:EntOk Tryz.prog 3 (Ent.pure nh):=by
 refine EntOk.pure fun args H K h=>?_
 unfold nh at h
 split at h
 rotate_left
 ·exact h.elim
 rename_i m l m2 y
 obtain ⟨⟨hB,v,rfl,hvx⟩,hK⟩:=h
 obtain ⟨b,rfl⟩:=Cq hB
 clear hB
 refine ⟨_,hK,?_⟩
 clear hK
 have h_CSent:=pO (A:=True) 4
 have hbs:=Ax hvx
 have hov:uU bndV:=⟨by decide,by decide⟩
 refine ACalls.fW aA (TblOk.cons yy (TblOk.cons C3 (TblOk.cons h_CSent (TblOk.cons np (TblOk.cons tY (TblOk.cons qE (TblOk.cons xP (TblOk.cons wj TblOk.nil)))))))) Tryz.func3 [.tmp 4] (Nat.le_refl _) (T:=au []) (h:=fun hcl hlt=>?_)
 clear hlt
 simp only [go_sem]
 refine ⟨v,rfl,?_⟩
 simp only [go_sem,v5]
 refine ⟨b,⟨rfl,by omega⟩,?_⟩
 have hbt:(b.take (min (b.length:Int) 60).toNat).length≤60:=by rw [List.length_take];omega
 generalize b.take (min (b.length:Int) 60).toNat=b1 at *
 have hb3:bS 4≤1000000:=by decide
 simp only [go_sem,bK]
 refine ⟨b1,0,⟨rfl,⟨by omega,by omega⟩,by omega,rfl,by omega⟩,fun s a' hs _ _=>?_⟩
 simp only [aW,cod,go_sem,iV]
 refine ⟨bndV,⟨rfl,hov,by omega⟩,?_⟩
 have hC:=@ta (bg bndV) s
 obtain ⟨⟨t,er⟩,hq⟩:∃ q,comp (bg bndV) s=q:=⟨_,rfl⟩
 rw [hq] at hC
 rw [hq]
 simp only [go_sem,eA,lm]
 refine ⟨bndV,⟨rfl,hov,by omega⟩,?_⟩
 rw [hq]
 by_cases h0:er=0
 ·subst h0
  obtain ⟨hH,hV⟩:=Dp (hC rfl) hbs
  have hm:(qj (gh v) t).bo=Ac (gh v) t:=by rw [hV];rfl
  have dz:(((0:Nat):Int) != ((0:Nat):Int))=false:=rfl
  have d0:(((0:Nat):Int) != 0)=false:=rfl
  simp only [go_sem,eA,dz,d0]
  refine ⟨t,gh v,⟨rfl,rfl,hH,hbs⟩,?_⟩
  rw [hm]
  simp only [go_sem]
  refine ⟨t,gh v,⟨rfl,rfl,hC rfl,hbs⟩,?_⟩
  have de:∀ x:Bool,(x==x)=true:=fun x=>by cases x<;>rfl
  simp only [go_sem,de,ku]
  simp (disch:=first|assumption|omega|(simp;done)|(simp;omega)|(simp only [bt,and_true];first|done|omega|(simp;done))) [↓zmk,beq,List.take_of_length_le,List.drop_append,List.take_append,ae,wk,wk2,wk1,wkM,wkL,al,List.drop_eq_nil_of_le,hcl]
  exact ⟨fun _=>trivial,fun h=>by cases h⟩
 ·have dz:((er:Int) != (er:Int))=false:=by simp
  have d0:((er:Int) != 0)=true:=by simp [h0]
  simp only [go_sem,eA,dz,d0,ku]
  simp (disch:=first|assumption|omega|(simp;done)|(simp;omega)|(simp only [bt,and_true];first|done|omega|(simp;done))) [↓zmk,beq,List.take_of_length_le,List.drop_append,List.take_append,ae,wk,wk2,wk1,wkM,wkL,al,List.drop_eq_nil_of_le,hcl]
end Go.AL
