/- Contracts and plain laws, a part of the proof; no condition of its own. -/
import Derived.Test.YtiiiljghmilepaaN05
import Derived.Test.YtiiiljghmilepaaLNum
set_option maxHeartbeats 32000000
open List renaming length_cons → yaz, length_nil → yba, take_of_length_le → ybc, drop_append → ybd, take_append → ybe, drop_eq_nil_of_le → ybf, map_nil → yaf, drop_zero → yap
open Go Go.AL Go.Proofs
namespace Go.AL
set_option linter.all false
set_option maxRecDepth 10000
theorem zq:ti Try.prog 4=some ⟨.bool,1,1,.bool false⟩:=by kernel_rfl
theorem zt:ti Try.prog 66=some ⟨.slice 3,1,24,.slice .nil 1 []⟩:=by kernel_rfl
theorem zW:ti Try.prog 107=some ⟨.struct [(0,4,false),(1,66,false)],2,32,.agg [.bool false,.slice .nil 1 []]⟩:=by kernel_rfl
attribute [go_sem] zq zt zW
def qS (l:List AV):Prop:=isI l∧isD (uni l)
theorem ae {l:List Nat}:qS (bK l)=isD l:=by unfold qS;rw [mW,c9];simp
theorem iO {l:List AV} (h:qS l):∃ xs,l=bK xs∧isD xs:=⟨_,h.1,h.2⟩
def tI:List AV→AHeap→(AV→Prop)→Prop
 |[.slice _ 1 l,.int .i64 i],_,K=>(isI l∧0≤i)∧K (.int .i64 ((uni l).getD i.toNat 0:Nat))
 |_,_,_=>False
theorem wL:EntOk Try.prog 89 (Ent.pure tI):=by
 refine EntOk.pure fun args H K h=>?_
 unfold tI at h
 split at h
 rotate_left
 ·exact h.elim
 rename_i m l i
 obtain ⟨⟨c1,h0⟩,hK⟩:=h
 refine ⟨_,hK,?_⟩
 obtain ⟨xs,rfl⟩:=yv c1
 obtain ⟨j,rfl⟩:=Int.eq_ofNat_of_zero_le h0
 rw [c9,Int.toNat_natCast]
 clear hK c1 h0
 refine ACalls.fW aI TblOk.nil Try.func89 [.tmp 4] (Nat.le_refl _) (T:=aA []) (h:=fun hcl hlt=>?_)
 clear hlt
 simp only [go_sem,ca,Int.toNat_natCast]
 refine ak (fun h1=>?_) (fun h1=>?_)
 ·have h1':j<xs.length:=by simpa using h1
  simp only [go_sem,ca,Int.toNat_natCast,dZ h1',fL h1']
  refine ⟨by omega,?_⟩
  simp (disch:=first|assumption|omega|(simp;done)|(simp;omega)|(simp only [bt,and_true];first|done|omega|(simp;done))) [↓zmi,beq,ybc,ybd,ybe,ag,wk,wk2,wk1,wkM,wkL,am,ybf,hcl]
 ·have h1':xs.length≤j:=by simpa using h1
  have e:xs.getD j 0=0:=by simp [List.getD_eq_getElem?_getD,h1']
  simp only [go_sem,ca,Int.toNat_natCast,e]
  simp (disch:=first|assumption|omega|(simp;done)|(simp;omega)|(simp only [bt,and_true];first|done|omega|(simp;done))) [↓zmi,beq,ybc,ybd,ybe,ag,wk,wk2,wk1,wkM,wkL,am,ybf,hcl]
def ph:List AV→AHeap→(AV→Prop)→Prop
 |[.slice _ 1 l,.slice _ 1 m],_,K=>(qS l∧qS m∧l.length≤1000∧m.length≤1000)∧K (.slice .any 1 (bK (first (max l.length m.length+1) (dv (uni l)+dv (uni m)))))
 |_,_,_=>False
theorem wz:EntOk Try.prog 79 (Ent.pure ph):=by
 refine EntOk.pure fun args H K h=>?_
 unfold ph at h
 split at h
 rotate_left
 ·exact h.elim
 rename_i ma l mb m
 obtain ⟨⟨c1,c2,l1,l2⟩,hK⟩:=h
 refine ⟨_,hK,?_⟩
 obtain ⟨xs,rfl,hx⟩:=iO c1
 obtain ⟨ys,rfl,hy⟩:=iO c2
 rw [c9,c9]
 rw [ca] at l1 l2 ⊢
 rw [ca]
 clear hK c1 c2
 refine ACalls.fW aI (TblOk.cons wL TblOk.nil) Try.func79 [.tmp 4] (Nat.le_refl _) (T:=aA []) (h:=fun hcl hlt=>?_)
 clear hlt
 generalize hn:max xs.length ys.length+1=n
 have hw:IntKind.i64.wrap (max (xs.length:Int) (ys.length:Int)+1)=(n:Int):=by rw [wrap_i64]<;>omega
 simp only [go_sem,ca]
 refine ax (A:=Nat) (fun k=>[(7,.int .i64 (k:Int)),(6,.int .i64 (cry (dv xs) (dv ys) k:Nat)),(5,.slice (.own (H.nx+1)) 1 (bK (first k (dv xs+dv ys)))),(1,.slice .any 1 (bK ys)),(0,.slice .any 1 (bK xs))])
  (fun k=>(H.push (.buf 1 0)).push (.buf 1 k)) (fun k=>k≤n) (fun k=>n - k) 0 (by omega) ?_ fun k hk=>?_
 ·(simp only [bkq,enterW,aR,ltF,ne_eq,Nat.reduceEqDiff,reduceCtorEq,m7,first,List.range_zero,yaf,cy];try simp (disch:=first|assumption|omega|(simp;done)|(simp;omega)|(simp only [bt,and_true];first|done|omega|(simp;done))) [↓zmi,beq,ybc,ybd,ybe,ag,wk,wk2,wk1,wkM,wkL,am,ybf,byq,biq,ae,hcl,m7,first,List.range_zero,yaf,cy];try (repeat' (first|assumption|omega|exact True.intro|refine And.intro ?_ ?_|refine af ?_|refine aa ?_|refine ac ?_ ?_|refine ah ?_ ?_|refine aj ?_|exact AHeap.Le.refl _|refine AHeap.Le.push ?_ _|refine AHeap.Le.del ?_ ?_|(simp only [bt,and_true,true_and,m7,first,List.range_zero,yaf,cy];first|done|omega|(simp;done)))))
 simp only [go_sem,ca,hw]
 refine ak (fun h1=>?_) (fun h1=>?_)
 ·have h1':k<n:=by simpa using h1
  have d1:=lC (dv xs) k
  have d2:=lC (dv ys) k
  have hc:=xd (dv xs) (dv ys) k
  have e1:IntKind.i64.wrap ((dig (dv xs) k:Nat)+(dig (dv ys) k:Nat):Int)=((dig (dv xs) k+dig (dv ys) k:Nat):Int):=by rw [wrap_i64]<;>omega
  have e2:IntKind.i64.wrap (((dig (dv xs) k+dig (dv ys) k:Nat):Int)+(cry (dv xs) (dv ys) k:Nat))=((dig (dv xs) k+dig (dv ys) k+cry (dv xs) (dv ys) k:Nat):Int):=by rw [wrap_i64]<;>omega
  have e3:(((dig (dv xs) k+dig (dv ys) k+cry (dv xs) (dv ys) k:Nat):Int)).tmod 10=(dig (dv xs+dv ys) k:Nat):=by
   rw [Int.tmod_eq_emod_of_nonneg (by omega),← y5];omega
  have e4:IntKind.i64.wrap ((((dig (dv xs) k+dig (dv ys) k+cry (dv xs) (dv ys) k:Nat):Int)).tdiv 10)=(cry (dv xs) (dv ys) (k+1):Nat):=by
   rw [Int.tdiv_eq_ediv_of_nonneg (by omega),← zg,wrap_i64]<;>omega
  have e5:IntKind.i64.wrap ((k:Int)+1)=((k+1:Nat):Int):=by rw [wrap_i64]<;>omega
  simp only [go_sem,biq,ae,tI,gY hx,gY hy,e1,e2,e3,e4,e5,eR,← ig]
  refine ⟨by omega,by omega,by omega,⟨by omega,by omega⟩,by omega,k+1,by omega,by omega,?_⟩
  (simp only [bkq,enterW,aR,ltF,ne_eq,Nat.reduceEqDiff,reduceCtorEq];try simp (disch:=first|assumption|omega|(simp;done)|(simp;omega)|(simp only [bt,and_true];first|done|omega|(simp;done))) [↓zmi,beq,ybc,ybd,ybe,ag,wk,wk2,wk1,wkM,wkL,am,ybf,byq,biq,ae,hcl];try (repeat' (first|assumption|omega|exact True.intro|refine And.intro ?_ ?_|refine af ?_|refine aa ?_|refine ac ?_ ?_|refine ah ?_ ?_|refine aj ?_|exact AHeap.Le.refl _|refine AHeap.Le.push ?_ _|refine AHeap.Le.del ?_ ?_|(simp only [bt,and_true,true_and];first|done|omega|(simp;done)))))
 ·have h1':k=n:=by simp at h1;omega
  subst h1'
  simp only [go_sem,biq,ae]
  simp (disch:=first|assumption|omega|(simp;done)|(simp;omega)|(simp only [bt,and_true];first|done|omega|(simp;done))) [↓zmi,beq,ybc,ybd,ybe,ag,wk,wk2,wk1,wkM,wkL,am,ybf,hcl]
def kW:List AV→AHeap→(AV→Prop)→Prop
 |[.slice _ 1 l,.slice _ 1 m],_,K=>(qS l∧qS m∧l.length≤1000∧m.length≤1000∧dv (uni m)≤dv (uni l))∧K (.slice .any 1 (bK (first l.length (dv (uni l) - dv (uni m)))))
 |_,_,_=>False
theorem uK:EntOk Try.prog 81 (Ent.pure kW):=by
 refine EntOk.pure fun args H K h=>?_
 unfold kW at h
 split at h
 rotate_left
 ·exact h.elim
 rename_i ma l mb m
 obtain ⟨⟨c1,c2,l1,l2,hle⟩,hK⟩:=h
 refine ⟨_,hK,?_⟩
 obtain ⟨xs,rfl,hx⟩:=iO c1
 obtain ⟨ys,rfl,hy⟩:=iO c2
 rw [c9,c9] at hle ⊢
 rw [ca] at l1 l2 ⊢
 clear hK c1 c2
 refine ACalls.fW aI (TblOk.cons wL TblOk.nil) Try.func81 [.tmp 4] (Nat.le_refl _) (T:=aA []) (h:=fun hcl hlt=>?_)
 clear hlt
 generalize hn:xs.length=n at *
 simp only [go_sem,biq,ae,hn]
 refine ax (A:=Nat) (fun k=>[(11,.int .i64 (k:Int)),(10,.int .i64 (n:Int)),(6,.int .i64 (bor (dv xs) (dv ys) k:Nat)),(5,.slice (.own (H.nx+1)) 1 (bK (first k (dv xs - dv ys)))),(1,.slice .any 1 (bK ys)),(0,.slice .any 1 (bK xs))])
  (fun k=>(H.push (.buf 1 0)).push (.buf 1 k)) (fun k=>k≤n) (fun k=>n - k) 0 (by omega) ?_ fun k hk=>?_
 ·(simp only [bkq,enterW,aR,ltF,ne_eq,Nat.reduceEqDiff,reduceCtorEq,mH,first,List.range_zero,yaf,cy];try simp (disch:=first|assumption|omega|(simp;done)|(simp;omega)|(simp only [bt,and_true];first|done|omega|(simp;done))) [↓zmi,beq,ybc,ybd,ybe,ag,wk,wk2,wk1,wkM,wkL,am,ybf,byq,biq,ae,hcl,mH,first,List.range_zero,yaf,cy];try (repeat' (first|assumption|omega|exact True.intro|refine And.intro ?_ ?_|refine af ?_|refine aa ?_|refine ac ?_ ?_|refine ah ?_ ?_|refine aj ?_|exact AHeap.Le.refl _|refine AHeap.Le.push ?_ _|refine AHeap.Le.del ?_ ?_|(simp only [bt,and_true,true_and,mH,first,List.range_zero,yaf,cy];first|done|omega|(simp;done)))))
 simp only [go_sem,biq,ae]
 refine ak (fun h1=>?_) (fun h1=>?_)
 ·have h1':k<n:=by simpa using h1
  have d1:=lC (dv xs) k
  have d2:=lC (dv ys) k
  have d3:=lC (dv xs - dv ys) k
  have hc:bor (dv xs) (dv ys) k≤1:=by unfold bor;split<;>omega
  have hc2:bor (dv xs) (dv ys) (k+1)≤1:=by unfold bor;split<;>omega
  have hs:=yP (dv xs) (dv ys) k hle
  have hkx:k<xs.length:=by omega
  have e1:IntKind.i64.wrap ((dig (dv xs) k:Nat) - (dig (dv ys) k:Nat):Int)=(dig (dv xs) k:Nat) - (dig (dv ys) k:Nat):=by rw [wrap_i64]<;>omega
  have e2:IntKind.i64.wrap ((dig (dv xs) k:Nat) - (dig (dv ys) k:Nat) - (bor (dv xs) (dv ys) k:Nat):Int)=(dig (dv xs - dv ys) k:Nat) - 10*(bor (dv xs) (dv ys) (k+1):Nat):=by rw [hs,wrap_i64]<;>omega
  have e5:IntKind.i64.wrap ((k:Int)+1)=((k+1:Nat):Int):=by rw [wrap_i64]<;>omega
  simp only [go_sem,biq,ae,tI,dZ hkx,fL hkx,hn,gY hx,gY hy,e1,e2]
  refine ⟨by omega,by omega,ak (fun h2=>?_) (fun h2=>?_)⟩
  ·have h2':bor (dv xs) (dv ys) (k+1)=1:=by simp at h2;omega
   have e3:IntKind.i64.wrap ((dig (dv xs - dv ys) k:Nat) - 10*(bor (dv xs) (dv ys) (k+1):Nat)+10:Int)=(dig (dv xs - dv ys) k:Nat):=by rw [wrap_i64]<;>omega
   have e4:(1:Int)=(bor (dv xs) (dv ys) (k+1):Nat):=by omega
   simp only [go_sem,biq,ae,e3,e5,eR,← ig]
   refine ⟨⟨by omega,by omega⟩,k+1,by omega,by omega,?_⟩
   (simp only [bkq,enterW,aR,ltF,ne_eq,Nat.reduceEqDiff,reduceCtorEq,h2'];try simp (disch:=first|assumption|omega|(simp;done)|(simp;omega)|(simp only [bt,and_true];first|done|omega|(simp;done))) [↓zmi,beq,ybc,ybd,ybe,ag,wk,wk2,wk1,wkM,wkL,am,ybf,byq,biq,ae,hcl,h2'];try (repeat' (first|assumption|omega|exact True.intro|refine And.intro ?_ ?_|refine af ?_|refine aa ?_|refine ac ?_ ?_|refine ah ?_ ?_|refine aj ?_|exact AHeap.Le.refl _|refine AHeap.Le.push ?_ _|refine AHeap.Le.del ?_ ?_|(simp only [bt,and_true,true_and,h2'];first|done|omega|(simp;done)))))
  ·have h2':bor (dv xs) (dv ys) (k+1)=0:=by simp at h2;omega
   have e3:((dig (dv xs - dv ys) k:Nat) - 10*(bor (dv xs) (dv ys) (k+1):Nat):Int)=(dig (dv xs - dv ys) k:Nat):=by omega
   simp only [go_sem,biq,ae,e3,e5,eR,← ig]
   refine ⟨⟨by omega,by omega⟩,k+1,by omega,by omega,?_⟩
   (simp only [bkq,enterW,aR,ltF,ne_eq,Nat.reduceEqDiff,reduceCtorEq,h2'];try simp (disch:=first|assumption|omega|(simp;done)|(simp;omega)|(simp only [bt,and_true];first|done|omega|(simp;done))) [↓zmi,beq,ybc,ybd,ybe,ag,wk,wk2,wk1,wkM,wkL,am,ybf,byq,biq,ae,hcl,h2'];try (repeat' (first|assumption|omega|exact True.intro|refine And.intro ?_ ?_|refine af ?_|refine aa ?_|refine ac ?_ ?_|refine ah ?_ ?_|refine aj ?_|exact AHeap.Le.refl _|refine AHeap.Le.push ?_ _|refine AHeap.Le.del ?_ ?_|(simp only [bt,and_true,true_and,h2'];first|done|omega|(simp;done)))))
 ·have h1':k=n:=by simp at h1;omega
  subst h1'
  simp only [go_sem,biq,ae]
  simp (disch:=first|assumption|omega|(simp;done)|(simp;omega)|(simp only [bt,and_true];first|done|omega|(simp;done))) [↓zmi,beq,ybc,ybd,ybe,ag,wk,wk2,wk1,wkM,wkL,am,ybf,hcl]
/-- the order of two rows of digits without leading zeros -/
def j8:List AV→AHeap→(AV→Prop)→Prop
 |[.slice _ 1 l,.slice _ 1 m],_,K=>∃ a b,(l=bK (bB a)∧m=bK (bB b)∧l.length≤1000∧m.length≤1000)∧K (.int .i64 (if a=b then 0 else if a<b then -1 else 1))
 |_,_,_=>False
theorem rg:EntOk Try.prog 80 (Ent.pure j8):=by
 refine EntOk.pure fun args H K h=>?_
 unfold j8 at h
 split at h
 rotate_left
 ·exact h.elim
 rename_i ma l mb m
 obtain ⟨a,b,⟨rfl,rfl,l1,l2⟩,hK⟩:=h
 refine ⟨_,hK,?_⟩
 rw [ca] at l1 l2
 clear hK
 refine ACalls.fW aI TblOk.nil Try.func80 [.tmp 4] (Nat.le_refl _) (T:=aA []) (h:=fun hcl hlt=>?_)
 clear hlt
 simp only [go_sem,biq,ae]
 refine ak (fun h1=>?_) (fun h1=>?_)
 ·have h1':(bB a).length≠(bB b).length:=by simp at h1;omega
  have hne:a≠b:=fun h=>h1' (by rw [h])
  simp only [go_sem,biq,ae,if_neg hne]
  refine ak (fun h2=>?_) (fun h2=>?_)
  ·have h2':(bB a).length<(bB b).length:=by simpa using h2
   simp only [go_sem,biq,ae,if_pos (n8 h2')]
   simp (disch:=first|assumption|omega|(simp;done)|(simp;omega)|(simp only [bt,and_true];first|done|omega|(simp;done))) [↓zmi,beq,ybc,ybd,ybe,ag,wk,wk2,wk1,wkM,wkL,am,ybf,hcl]
  ·have h2':¬ (bB a).length<(bB b).length:=by simpa using h2
   have:=n8 (show (bB b).length<(bB a).length by omega)
   simp only [go_sem,biq,ae,if_neg (show ¬ a<b by omega)]
   simp (disch:=first|assumption|omega|(simp;done)|(simp;omega)|(simp only [bt,and_true];first|done|omega|(simp;done))) [↓zmi,beq,ybc,ybd,ybe,ag,wk,wk2,wk1,wkM,wkL,am,ybf,hcl]
 have h1':(bB a).length=(bB b).length:=by simp at h1;omega
 have ew:IntKind.i64.wrap (((bB a).length:Int) - 1)=((bB a).length:Int) - 1:=by rw [wrap_i64]<;>omega
 simp only [go_sem,biq,ae,ew]
 refine ke (A:=Nat) (fun k=>[(5,.int .i64 ((k:Int) - 1)),(1,.slice mb 1 (bK (bB b))),(0,.slice ma 1 (bK (bB a)))])
  (fun k=>H) (fun k=>k≤(bB a).length∧a/10^k=b/10^k) (fun k=>k) (bB a).length ⟨Nat.le_refl _,by rw [oA (Nat.le_refl _),oA (by omega)]⟩ ?_ fun k hk=>?_
 ·simp only [bnq,enter,lW,ltF,ne_eq,Nat.reduceEqDiff,reduceCtorEq,true_or,and_true]
 obtain ⟨hk,hab⟩:=hk
 simp only [go_sem,biq,ae]
 refine ak (fun h2=>?_) (fun h2=>?_)
 ·obtain ⟨j,rfl⟩:∃ j,k=j+1:=⟨k - 1,by simp at h2;omega⟩
  have ej:(((j+1:Nat):Int) - 1)=(j:Int):=by omega
  have eg1:=gY (fc a) j
  have eg2:=gY (fc b) j
  rw [ge] at eg1 eg2
  have e3:IntKind.i64.wrap ((j:Int) - 1)=(j:Int) - 1:=by rw [wrap_i64]<;>omega
  simp only [go_sem,biq,ae,ej,dZ (show j<(bB a).length by omega),fL (show j<(bB a).length by omega),dZ (show j<(bB b).length by omega),fL (show j<(bB b).length by omega),eg1,eg2,e3]
  refine ⟨by omega,by omega,ak (fun h3=>?_) (fun h3=>?_)⟩
  ·have h3':dig a j≠dig b j:=by simp at h3;omega
   have hne:a≠b:=fun h=>h3' (by rw [h])
   simp only [go_sem,biq,ae,if_neg hne,dZ (show j<(bB a).length by omega),fL (show j<(bB a).length by omega),dZ (show j<(bB b).length by omega),fL (show j<(bB b).length by omega),eg1,eg2]
   refine ⟨by omega,by omega,ak (fun h4=>?_) (fun h4=>?_)⟩
   ·have:=od hab (show dig a j<dig b j by simpa using h4)
    simp only [go_sem,biq,ae,if_pos this]
    simp (disch:=first|assumption|omega|(simp;done)|(simp;omega)|(simp only [bt,and_true];first|done|omega|(simp;done))) [↓zmi,beq,ybc,ybd,ybe,ag,wk,wk2,wk1,wkM,wkL,am,ybf,hcl]
   ·have:=od hab.symm (show dig b j<dig a j by simp at h4;omega)
    simp only [go_sem,biq,ae,if_neg (show ¬ a<b by omega)]
    simp (disch:=first|assumption|omega|(simp;done)|(simp;omega)|(simp only [bt,and_true];first|done|omega|(simp;done))) [↓zmi,beq,ybc,ybd,ybe,ag,wk,wk2,wk1,wkM,wkL,am,ybf,hcl]
  ·have h3':dig a j=dig b j:=by simp at h3;omega
   simp only [go_sem,biq,ae,e3]
   refine ⟨j,⟨by omega,sC hab h3'⟩,by omega,?_⟩
   simp only [bnq,enter,lW,ltF,ne_eq,Nat.reduceEqDiff,reduceCtorEq,true_or,and_true]
 ·have h2':k=0:=by simp at h2;omega
  subst h2'
  have he:a=b:=by simpa using hab
  simp only [go_sem,biq,ae,if_pos he]
  simp (disch:=first|assumption|omega|(simp;done)|(simp;omega)|(simp only [bt,and_true];first|done|omega|(simp;done))) [↓zmi,beq,ybc,ybd,ybe,ag,wk,wk2,wk1,wkM,wkL,am,ybf,hcl]
/-- a number with its sign in memory -/
def rAV (m:Bool) (n:Nat):AV:=.agg [.bool (m&&n != 0),.slice .any 1 (bK (bB n))]
theorem rN {m mm:Bool} {x:List Nat} (h1:isD x) (h2:x.getLast?≠some 0) (h3:mm=(m&&x != [])):AV.agg [AV.bool mm,AV.slice .any 1 (bK x)]=rAV m (dv x):=by
 have e:=uL h1 h2
 unfold rAV
 rw [e,h3]
 have:(x != [])=(dv x != 0):=by
  cases x with
  |nil=>rfl
  |cons a x =>
   have:dv (a::x)≠0:=fun h0=>by rw [h0,aV] at e;cases e
   rw [bne_iff_ne.2 this];rfl
 rw [this]
def gg:List AV→AHeap→(AV→Prop)→Prop
 |[.bool m,.slice _ 1 l],_,K=>(qS l∧l.length≤100000)∧K (rAV m (dv (uni l)))
 |_,_,_=>False
theorem nc:EntOk Try.prog 78 (Ent.pure gg):=by
 refine EntOk.pure fun args H K h=>?_
 unfold gg at h
 split at h
 rotate_left
 ·exact h.elim
 rename_i m mk l
 obtain ⟨⟨c1,l1⟩,hK⟩:=h
 refine ⟨_,hK,?_⟩
 obtain ⟨xs,rfl,hx⟩:=iO c1
 rw [c9]
 rw [ca] at l1
 clear hK c1
 refine ACalls.fW aI TblOk.nil Try.func78 [.cell 4 107] (Nat.le_refl _) (T:=aA []) (h:=fun hcl hlt=>?_)
 clear hlt
 simp only [go_sem,biq,ae]
 refine ax (A:=List Nat) (fun x=>[(1,.slice .any 1 (bK x)),(0,.bool m),(4,.ptr H.nx 0)])
  (fun x=>H.push (.cells [.bool false,.slice .nil 1 []])) (fun x=>isD x∧dv x=dv xs∧x.length≤100000) (fun x=>x.length) xs ⟨hx,rfl,l1⟩ ?_ fun x hI=>?_
 ·(simp only [bkq,enterW,aR,ltF,ne_eq,Nat.reduceEqDiff,reduceCtorEq];try simp (disch:=first|assumption|omega|(simp;done)|(simp;omega)|(simp only [bt,and_true];first|done|omega|(simp;done))) [↓zmi,beq,ybc,ybd,ybe,ag,wk,wk2,wk1,wkM,wkL,am,ybf,byq,biq,ae,hcl];try (repeat' (first|assumption|omega|exact True.intro|refine And.intro ?_ ?_|refine af ?_|refine aa ?_|refine ac ?_ ?_|refine ah ?_ ?_|refine aj ?_|exact AHeap.Le.refl _|refine AHeap.Le.push ?_ _|refine AHeap.Le.del ?_ ?_|(simp only [bt,and_true,true_and];first|done|omega|(simp;done)))))
 obtain ⟨hxd,hdv,hxl⟩:=hI
 rw [← hdv]
 rcases List.eq_nil_or_concat x with rfl|⟨y,d,rfl⟩
 ·have hd:decide (((0:Nat):Int) > 0)=false:=rfl
  have ff:AV.agg [AV.bool false,AV.slice .any 1 []]=rAV m (dv []):=rN hxd (by simp) (by cases m<;>rfl)
  simp only [go_sem,biq,ae,zau,hd]
  refine bb (fun h1=>?_) (fun h1=>?_)
  all_goals
   try simp only [go_sem,biq,ae,zau,hd]
   rw [← ff]
   simp (disch:=first|assumption|omega|(simp;done)|(simp;omega)|(simp only [bt,and_true];first|done|omega|(simp;done))) [↓zmi,beq,ybc,ybd,ybe,ag,wk,wk2,wk1,wkM,wkL,am,ybf,hcl]
 ·rw [List.concat_eq_append] at *
  rw [List.length_append,List.length_singleton] at hxl
  have e1:IntKind.i64.wrap (((y++[d]).length:Int) - 1)=((y.length:Nat):Int):=by simp;rw [wrap_i64]<;>omega
  have hlen:y.length<(y++[d]).length:=by simp
  have hd:decide (((y++[d]).length:Int) > 0)=true:=decide_eq_true (by simp)
  have eg:(y++[d]).getD y.length 0=d:=by simp [List.getD_eq_getElem?_getD]
  have et:(y++[d]).take y.length=y:=by simp
  simp only [go_sem,biq,ae,hd,e1,dZ hlen,eg]
  refine ⟨by omega,ak (fun h1=>?_) (fun h1=>?_)⟩
  ·have h1':d=0:=by simp at h1;omega
   simp only [go_sem,biq,ae,e1,et,yap]
   refine ⟨by omega,y,⟨fun x hx=>hxd x (by simp [hx]),?_,by omega⟩,by simp,?_⟩
   ·rw [gV,h1'];simp [dv]
   ·(simp only [bkq,enterW,aR,ltF,ne_eq,Nat.reduceEqDiff,reduceCtorEq];try simp (disch:=first|assumption|omega|(simp;done)|(simp;omega)|(simp only [bt,and_true];first|done|omega|(simp;done))) [↓zmi,beq,ybc,ybd,ybe,ag,wk,wk2,wk1,wkM,wkL,am,ybf,byq,biq,ae,hcl];try (repeat' (first|assumption|omega|exact True.intro|refine And.intro ?_ ?_|refine af ?_|refine aa ?_|refine ac ?_ ?_|refine ah ?_ ?_|refine aj ?_|exact AHeap.Le.refl _|refine AHeap.Le.push ?_ _|refine AHeap.Le.del ?_ ?_|(simp only [bt,and_true,true_and];first|done|omega|(simp;done)))))
  ·have h1':d≠0:=by simp at h1;omega
   have ff:AV.agg [AV.bool (m&&true),AV.slice .any 1 (bK (y++[d]))]=rAV m (dv (y++[d])):=rN hxd (by simp;exact h1') (by simp)
   simp only [go_sem,biq,ae,hd,zau,h1]
   rw [← ff]
   refine bb (fun h1=>?_) (fun h1=>?_)
   all_goals
    subst h1
    try simp only [go_sem,biq,ae]
    simp (disch:=first|assumption|omega|(simp;done)|(simp;omega)|(simp only [bt,and_true];first|done|omega|(simp;done))) [↓zmi,beq,ybc,ybd,ybe,ag,wk,wk2,wk1,wkM,wkL,am,ybf,hcl]
end Go.AL
