/- Contracts and plain laws, a part of the proof; no condition of its own. -/
import Derived.Test.YtiiiljghmilepaaGreatN05
import Derived.Test.YtiiiljghmilepaaGreatLNum
set_option maxHeartbeats 32000000
open List renaming length_cons → yaz, length_nil → yba, take_of_length_le → ybc, drop_append → ybd, take_append → ybe, drop_eq_nil_of_le → ybf, map_nil → yaf, drop_zero → yap
open Go Go.AL Go.Proofs
namespace Go.AL
set_option linter.all false
set_option maxRecDepth 10000
theorem Ch:ti Tryz.prog 4=some ⟨.bool,1,1,.bool false⟩:=by kernel_rfl
theorem BN:ti Tryz.prog 51=some ⟨.slice 3,1,24,.slice .nil 1 []⟩:=by kernel_rfl
theorem Dr:ti Tryz.prog 331=some ⟨.struct [(0,4,false),(1,51,false)],2,32,.agg [.bool false,.slice .nil 1 []]⟩:=by kernel_rfl
attribute [go_sem] Ch BN Dr
def uu (l:List AV):Prop:=isI l∧isD (uni l)
theorem ag {l:List Nat}:uu (b7 l)=isD l:=by unfold uu;rw [pw,ep];simp
theorem kP {l:List AV} (h:uu l):∃ xs,l=b7 xs∧isD xs:=⟨_,h.1,h.2⟩
def xl:List AV→AHeap→(AV→Prop)→Prop
 |[.slice _ 1 l,.int .i64 i],_,K=>(isI l∧0≤i)∧K (.int .i64 ((uni l).getD i.toNat 0:Nat))
 |_,_,_=>False
theorem Bh:EntOk Tryz.prog 301 (Ent.pure xl):=by
 refine EntOk.pure fun args H K h=>?_
 unfold xl at h
 split at h
 rotate_left
 ·exact h.elim
 rename_i m l i
 obtain ⟨⟨c1,h0⟩,hK⟩:=h
 refine ⟨_,hK,?_⟩
 obtain ⟨xs,rfl⟩:=B4 c1
 obtain ⟨j,rfl⟩:=Int.eq_ofNat_of_zero_le h0
 rw [ep,Int.toNat_natCast]
 clear hK c1 h0
 refine ACalls.fW aF TblOk.nil Tryz.func301 [.tmp 4] (Nat.le_refl _) (T:=aD []) (h:=fun hcl hlt=>?_)
 clear hlt
 simp only [go_sem,cG,Int.toNat_natCast]
 refine aj (fun h1=>?_) (fun h1=>?_)
 ·have h1':j<xs.length:=by simpa using h1
  simp only [go_sem,cG,Int.toNat_natCast,fw h1',hY h1']
  refine ⟨by omega,?_⟩
  simp (disch:=first|assumption|omega|(simp;done)|(simp;omega)|(simp only [bt,and_true];first|done|omega|(simp;done))) [↓zmi,beq,ybc,ybd,ybe,ah,wk,wk2,wk1,wkM,wkL,ap,ybf,hcl]
 ·have h1':xs.length≤j:=by simpa using h1
  have e:xs.getD j 0=0:=by simp [List.getD_eq_getElem?_getD,h1']
  simp only [go_sem,cG,Int.toNat_natCast,e]
  simp (disch:=first|assumption|omega|(simp;done)|(simp;omega)|(simp only [bt,and_true];first|done|omega|(simp;done))) [↓zmi,beq,ybc,ybd,ybe,ah,wk,wk2,wk1,wkM,wkL,ap,ybf,hcl]
def sO:List AV→AHeap→(AV→Prop)→Prop
 |[.slice _ 1 l,.slice _ 1 m],_,K=>(uu l∧uu m∧l.length≤1000∧m.length≤1000)∧K (.slice .any 1 (b7 (first (max l.length m.length+1) (dv (uni l)+dv (uni m)))))
 |_,_,_=>False
theorem zB:EntOk Tryz.prog 286 (Ent.pure sO):=by
 refine EntOk.pure fun args H K h=>?_
 unfold sO at h
 split at h
 rotate_left
 ·exact h.elim
 rename_i ma l mb m
 obtain ⟨⟨c1,c2,l1,l2⟩,hK⟩:=h
 refine ⟨_,hK,?_⟩
 obtain ⟨xs,rfl,hx⟩:=kP c1
 obtain ⟨ys,rfl,hy⟩:=kP c2
 rw [ep,ep]
 rw [cG] at l1 l2 ⊢
 rw [cG]
 clear hK c1 c2
 refine ACalls.fW aF (TblOk.cons Bh TblOk.nil) Tryz.func286 [.tmp 4] (Nat.le_refl _) (T:=aD []) (h:=fun hcl hlt=>?_)
 clear hlt
 generalize hn:max xs.length ys.length+1=n
 have hw:IntKind.i64.wrap (max (xs.length:Int) (ys.length:Int)+1)=(n:Int):=by rw [wrap_i64]<;>omega
 simp only [go_sem,cG]
 refine av (A:=Nat) (fun k=>[(7,.int .i64 (k:Int)),(6,.int .i64 (cry (dv xs) (dv ys) k:Nat)),(5,.slice (.own (H.nx+1)) 1 (b7 (first k (dv xs+dv ys)))),(1,.slice .any 1 (b7 ys)),(0,.slice .any 1 (b7 xs))])
  (fun k=>(H.push (.buf 1 0)).push (.buf 1 k)) (fun k=>k≤n) (fun k=>n - k) 0 (by omega) ?_ fun k hk=>?_
 ·(simp only [bkq,enterW,aR,ltF,ne_eq,Nat.reduceEqDiff,reduceCtorEq,p6,first,List.range_zero,yaf,dc];try simp (disch:=first|assumption|omega|(simp;done)|(simp;omega)|(simp only [bt,and_true];first|done|omega|(simp;done))) [↓zmi,beq,ybc,ybd,ybe,ah,wk,wk2,wk1,wkM,wkL,ap,ybf,byq,biq,ag,hcl,p6,first,List.range_zero,yaf,dc];try (repeat' (first|assumption|omega|exact True.intro|refine And.intro ?_ ?_|refine af ?_|refine aa ?_|refine ae ?_ ?_|refine ai ?_ ?_|refine ak ?_|exact AHeap.Le.refl _|refine AHeap.Le.push ?_ _|refine AHeap.Le.del ?_ ?_|(simp only [bt,and_true,true_and,p6,first,List.range_zero,yaf,dc];first|done|omega|(simp;done)))))
 simp only [go_sem,cG,hw]
 refine aj (fun h1=>?_) (fun h1=>?_)
 ·have h1':k<n:=by simpa using h1
  have d1:=nw (dv xs) k
  have d2:=nw (dv ys) k
  have hc:=AW (dv xs) (dv ys) k
  have e1:IntKind.i64.wrap ((dig (dv xs) k:Nat)+(dig (dv ys) k:Nat):Int)=((dig (dv xs) k+dig (dv ys) k:Nat):Int):=by rw [wrap_i64]<;>omega
  have e2:IntKind.i64.wrap (((dig (dv xs) k+dig (dv ys) k:Nat):Int)+(cry (dv xs) (dv ys) k:Nat))=((dig (dv xs) k+dig (dv ys) k+cry (dv xs) (dv ys) k:Nat):Int):=by rw [wrap_i64]<;>omega
  have e3:(((dig (dv xs) k+dig (dv ys) k+cry (dv xs) (dv ys) k:Nat):Int)).tmod 10=(dig (dv xs+dv ys) k:Nat):=by
   rw [Int.tmod_eq_emod_of_nonneg (by omega),← BX];omega
  have e4:IntKind.i64.wrap ((((dig (dv xs) k+dig (dv ys) k+cry (dv xs) (dv ys) k:Nat):Int)).tdiv 10)=(cry (dv xs) (dv ys) (k+1):Nat):=by
   rw [Int.tdiv_eq_ediv_of_nonneg (by omega),← CC,wrap_i64]<;>omega
  have e5:IntKind.i64.wrap ((k:Int)+1)=((k+1:Nat):Int):=by rw [wrap_i64]<;>omega
  simp only [go_sem,biq,ag,xl,jr hx,jr hy,e1,e2,e3,e4,e5,gv,← jH]
  refine ⟨by omega,by omega,by omega,⟨by omega,by omega⟩,by omega,k+1,by omega,by omega,?_⟩
  (simp only [bkq,enterW,aR,ltF,ne_eq,Nat.reduceEqDiff,reduceCtorEq];try simp (disch:=first|assumption|omega|(simp;done)|(simp;omega)|(simp only [bt,and_true];first|done|omega|(simp;done))) [↓zmi,beq,ybc,ybd,ybe,ah,wk,wk2,wk1,wkM,wkL,ap,ybf,byq,biq,ag,hcl];try (repeat' (first|assumption|omega|exact True.intro|refine And.intro ?_ ?_|refine af ?_|refine aa ?_|refine ae ?_ ?_|refine ai ?_ ?_|refine ak ?_|exact AHeap.Le.refl _|refine AHeap.Le.push ?_ _|refine AHeap.Le.del ?_ ?_|(simp only [bt,and_true,true_and];first|done|omega|(simp;done)))))
 ·have h1':k=n:=by simp at h1;omega
  subst h1'
  simp only [go_sem,biq,ag]
  simp (disch:=first|assumption|omega|(simp;done)|(simp;omega)|(simp only [bt,and_true];first|done|omega|(simp;done))) [↓zmi,beq,ybc,ybd,ybe,ah,wk,wk2,wk1,wkM,wkL,ap,ybf,hcl]
def np:List AV→AHeap→(AV→Prop)→Prop
 |[.slice _ 1 l,.slice _ 1 m],_,K=>(uu l∧uu m∧l.length≤1000∧m.length≤1000∧dv (uni m)≤dv (uni l))∧K (.slice .any 1 (b7 (first l.length (dv (uni l) - dv (uni m)))))
 |_,_,_=>False
theorem yf:EntOk Tryz.prog 288 (Ent.pure np):=by
 refine EntOk.pure fun args H K h=>?_
 unfold np at h
 split at h
 rotate_left
 ·exact h.elim
 rename_i ma l mb m
 obtain ⟨⟨c1,c2,l1,l2,hle⟩,hK⟩:=h
 refine ⟨_,hK,?_⟩
 obtain ⟨xs,rfl,hx⟩:=kP c1
 obtain ⟨ys,rfl,hy⟩:=kP c2
 rw [ep,ep] at hle ⊢
 rw [cG] at l1 l2 ⊢
 clear hK c1 c2
 refine ACalls.fW aF (TblOk.cons Bh TblOk.nil) Tryz.func288 [.tmp 4] (Nat.le_refl _) (T:=aD []) (h:=fun hcl hlt=>?_)
 clear hlt
 generalize hn:xs.length=n at *
 simp only [go_sem,biq,ag,hn]
 refine av (A:=Nat) (fun k=>[(11,.int .i64 (k:Int)),(10,.int .i64 (n:Int)),(6,.int .i64 (bor (dv xs) (dv ys) k:Nat)),(5,.slice (.own (H.nx+1)) 1 (b7 (first k (dv xs - dv ys)))),(1,.slice .any 1 (b7 ys)),(0,.slice .any 1 (b7 xs))])
  (fun k=>(H.push (.buf 1 0)).push (.buf 1 k)) (fun k=>k≤n) (fun k=>n - k) 0 (by omega) ?_ fun k hk=>?_
 ·(simp only [bkq,enterW,aR,ltF,ne_eq,Nat.reduceEqDiff,reduceCtorEq,oQ,first,List.range_zero,yaf,dc];try simp (disch:=first|assumption|omega|(simp;done)|(simp;omega)|(simp only [bt,and_true];first|done|omega|(simp;done))) [↓zmi,beq,ybc,ybd,ybe,ah,wk,wk2,wk1,wkM,wkL,ap,ybf,byq,biq,ag,hcl,oQ,first,List.range_zero,yaf,dc];try (repeat' (first|assumption|omega|exact True.intro|refine And.intro ?_ ?_|refine af ?_|refine aa ?_|refine ae ?_ ?_|refine ai ?_ ?_|refine ak ?_|exact AHeap.Le.refl _|refine AHeap.Le.push ?_ _|refine AHeap.Le.del ?_ ?_|(simp only [bt,and_true,true_and,oQ,first,List.range_zero,yaf,dc];first|done|omega|(simp;done)))))
 simp only [go_sem,biq,ag]
 refine aj (fun h1=>?_) (fun h1=>?_)
 ·have h1':k<n:=by simpa using h1
  have d1:=nw (dv xs) k
  have d2:=nw (dv ys) k
  have d3:=nw (dv xs - dv ys) k
  have hc:bor (dv xs) (dv ys) k≤1:=by unfold bor;split<;>omega
  have hc2:bor (dv xs) (dv ys) (k+1)≤1:=by unfold bor;split<;>omega
  have hs:=CK (dv xs) (dv ys) k hle
  have hkx:k<xs.length:=by omega
  have e1:IntKind.i64.wrap ((dig (dv xs) k:Nat) - (dig (dv ys) k:Nat):Int)=(dig (dv xs) k:Nat) - (dig (dv ys) k:Nat):=by rw [wrap_i64]<;>omega
  have e2:IntKind.i64.wrap ((dig (dv xs) k:Nat) - (dig (dv ys) k:Nat) - (bor (dv xs) (dv ys) k:Nat):Int)=(dig (dv xs - dv ys) k:Nat) - 10*(bor (dv xs) (dv ys) (k+1):Nat):=by rw [hs,wrap_i64]<;>omega
  have e5:IntKind.i64.wrap ((k:Int)+1)=((k+1:Nat):Int):=by rw [wrap_i64]<;>omega
  simp only [go_sem,biq,ag,xl,fw hkx,hY hkx,hn,jr hx,jr hy,e1,e2]
  refine ⟨by omega,by omega,aj (fun h2=>?_) (fun h2=>?_)⟩
  ·have h2':bor (dv xs) (dv ys) (k+1)=1:=by simp at h2;omega
   have e3:IntKind.i64.wrap ((dig (dv xs - dv ys) k:Nat) - 10*(bor (dv xs) (dv ys) (k+1):Nat)+10:Int)=(dig (dv xs - dv ys) k:Nat):=by rw [wrap_i64]<;>omega
   have e4:(1:Int)=(bor (dv xs) (dv ys) (k+1):Nat):=by omega
   simp only [go_sem,biq,ag,e3,e5,gv,← jH]
   refine ⟨⟨by omega,by omega⟩,k+1,by omega,by omega,?_⟩
   (simp only [bkq,enterW,aR,ltF,ne_eq,Nat.reduceEqDiff,reduceCtorEq,h2'];try simp (disch:=first|assumption|omega|(simp;done)|(simp;omega)|(simp only [bt,and_true];first|done|omega|(simp;done))) [↓zmi,beq,ybc,ybd,ybe,ah,wk,wk2,wk1,wkM,wkL,ap,ybf,byq,biq,ag,hcl,h2'];try (repeat' (first|assumption|omega|exact True.intro|refine And.intro ?_ ?_|refine af ?_|refine aa ?_|refine ae ?_ ?_|refine ai ?_ ?_|refine ak ?_|exact AHeap.Le.refl _|refine AHeap.Le.push ?_ _|refine AHeap.Le.del ?_ ?_|(simp only [bt,and_true,true_and,h2'];first|done|omega|(simp;done)))))
  ·have h2':bor (dv xs) (dv ys) (k+1)=0:=by simp at h2;omega
   have e3:((dig (dv xs - dv ys) k:Nat) - 10*(bor (dv xs) (dv ys) (k+1):Nat):Int)=(dig (dv xs - dv ys) k:Nat):=by omega
   simp only [go_sem,biq,ag,e3,e5,gv,← jH]
   refine ⟨⟨by omega,by omega⟩,k+1,by omega,by omega,?_⟩
   (simp only [bkq,enterW,aR,ltF,ne_eq,Nat.reduceEqDiff,reduceCtorEq,h2'];try simp (disch:=first|assumption|omega|(simp;done)|(simp;omega)|(simp only [bt,and_true];first|done|omega|(simp;done))) [↓zmi,beq,ybc,ybd,ybe,ah,wk,wk2,wk1,wkM,wkL,ap,ybf,byq,biq,ag,hcl,h2'];try (repeat' (first|assumption|omega|exact True.intro|refine And.intro ?_ ?_|refine af ?_|refine aa ?_|refine ae ?_ ?_|refine ai ?_ ?_|refine ak ?_|exact AHeap.Le.refl _|refine AHeap.Le.push ?_ _|refine AHeap.Le.del ?_ ?_|(simp only [bt,and_true,true_and,h2'];first|done|omega|(simp;done)))))
 ·have h1':k=n:=by simp at h1;omega
  subst h1'
  simp only [go_sem,biq,ag]
  simp (disch:=first|assumption|omega|(simp;done)|(simp;omega)|(simp only [bt,and_true];first|done|omega|(simp;done))) [↓zmi,beq,ybc,ybd,ybe,ah,wk,wk2,wk1,wkM,wkL,ap,ybf,hcl]
/-- the order of two rows of digits without leading zeros -/
def l9:List AV→AHeap→(AV→Prop)→Prop
 |[.slice _ 1 l,.slice _ 1 m],_,K=>∃ a b,(l=b7 (bW a)∧m=b7 (bW b)∧l.length≤1000∧m.length≤1000)∧K (.int .i64 (if a=b then 0 else if a<b then -1 else 1))
 |_,_,_=>False
theorem t8:EntOk Tryz.prog 287 (Ent.pure l9):=by
 refine EntOk.pure fun args H K h=>?_
 unfold l9 at h
 split at h
 rotate_left
 ·exact h.elim
 rename_i ma l mb m
 obtain ⟨a,b,⟨rfl,rfl,l1,l2⟩,hK⟩:=h
 refine ⟨_,hK,?_⟩
 rw [cG] at l1 l2
 clear hK
 refine ACalls.fW aF TblOk.nil Tryz.func287 [.tmp 4] (Nat.le_refl _) (T:=aD []) (h:=fun hcl hlt=>?_)
 clear hlt
 simp only [go_sem,biq,ag]
 refine aj (fun h1=>?_) (fun h1=>?_)
 ·have h1':(bW a).length≠(bW b).length:=by simp at h1;omega
  have hne:a≠b:=fun h=>h1' (by rw [h])
  simp only [go_sem,biq,ag,if_neg hne]
  refine aj (fun h2=>?_) (fun h2=>?_)
  ·have h2':(bW a).length<(bW b).length:=by simpa using h2
   simp only [go_sem,biq,ag,if_pos (rK h2')]
   simp (disch:=first|assumption|omega|(simp;done)|(simp;omega)|(simp only [bt,and_true];first|done|omega|(simp;done))) [↓zmi,beq,ybc,ybd,ybe,ah,wk,wk2,wk1,wkM,wkL,ap,ybf,hcl]
  ·have h2':¬ (bW a).length<(bW b).length:=by simpa using h2
   have:=rK (show (bW b).length<(bW a).length by omega)
   simp only [go_sem,biq,ag,if_neg (show ¬ a<b by omega)]
   simp (disch:=first|assumption|omega|(simp;done)|(simp;omega)|(simp only [bt,and_true];first|done|omega|(simp;done))) [↓zmi,beq,ybc,ybd,ybe,ah,wk,wk2,wk1,wkM,wkL,ap,ybf,hcl]
 have h1':(bW a).length=(bW b).length:=by simp at h1;omega
 have ew:IntKind.i64.wrap (((bW a).length:Int) - 1)=((bW a).length:Int) - 1:=by rw [wrap_i64]<;>omega
 simp only [go_sem,biq,ag,ew]
 refine lW (A:=Nat) (fun k=>[(5,.int .i64 ((k:Int) - 1)),(1,.slice mb 1 (b7 (bW b))),(0,.slice ma 1 (b7 (bW a)))])
  (fun k=>H) (fun k=>k≤(bW a).length∧a/10^k=b/10^k) (fun k=>k) (bW a).length ⟨Nat.le_refl _,by rw [rY (Nat.le_refl _),rY (by omega)]⟩ ?_ fun k hk=>?_
 ·simp only [bnq,enter,oB,ltF,ne_eq,Nat.reduceEqDiff,reduceCtorEq,true_or,and_true]
 obtain ⟨hk,hab⟩:=hk
 simp only [go_sem,biq,ag]
 refine aj (fun h2=>?_) (fun h2=>?_)
 ·obtain ⟨j,rfl⟩:∃ j,k=j+1:=⟨k - 1,by simp at h2;omega⟩
  have ej:(((j+1:Nat):Int) - 1)=(j:Int):=by omega
  have eg1:=jr (gM a) j
  have eg2:=jr (gM b) j
  rw [iM] at eg1 eg2
  have e3:IntKind.i64.wrap ((j:Int) - 1)=(j:Int) - 1:=by rw [wrap_i64]<;>omega
  simp only [go_sem,biq,ag,ej,fw (show j<(bW a).length by omega),hY (show j<(bW a).length by omega),fw (show j<(bW b).length by omega),hY (show j<(bW b).length by omega),eg1,eg2,e3]
  refine ⟨by omega,by omega,aj (fun h3=>?_) (fun h3=>?_)⟩
  ·have h3':dig a j≠dig b j:=by simp at h3;omega
   have hne:a≠b:=fun h=>h3' (by rw [h])
   simp only [go_sem,biq,ag,if_neg hne,fw (show j<(bW a).length by omega),hY (show j<(bW a).length by omega),fw (show j<(bW b).length by omega),hY (show j<(bW b).length by omega),eg1,eg2]
   refine ⟨by omega,by omega,aj (fun h4=>?_) (fun h4=>?_)⟩
   ·have:=rL hab (show dig a j<dig b j by simpa using h4)
    simp only [go_sem,biq,ag,if_pos this]
    simp (disch:=first|assumption|omega|(simp;done)|(simp;omega)|(simp only [bt,and_true];first|done|omega|(simp;done))) [↓zmi,beq,ybc,ybd,ybe,ah,wk,wk2,wk1,wkM,wkL,ap,ybf,hcl]
   ·have:=rL hab.symm (show dig b j<dig a j by simp at h4;omega)
    simp only [go_sem,biq,ag,if_neg (show ¬ a<b by omega)]
    simp (disch:=first|assumption|omega|(simp;done)|(simp;omega)|(simp only [bt,and_true];first|done|omega|(simp;done))) [↓zmi,beq,ybc,ybd,ybe,ah,wk,wk2,wk1,wkM,wkL,ap,ybf,hcl]
  ·have h3':dig a j=dig b j:=by simp at h3;omega
   simp only [go_sem,biq,ag,e3]
   refine ⟨j,⟨by omega,vF hab h3'⟩,by omega,?_⟩
   simp only [bnq,enter,oB,ltF,ne_eq,Nat.reduceEqDiff,reduceCtorEq,true_or,and_true]
 ·have h2':k=0:=by simp at h2;omega
  subst h2'
  have he:a=b:=by simpa using hab
  simp only [go_sem,biq,ag,if_pos he]
  simp (disch:=first|assumption|omega|(simp;done)|(simp;omega)|(simp only [bt,and_true];first|done|omega|(simp;done))) [↓zmi,beq,ybc,ybd,ybe,ah,wk,wk2,wk1,wkM,wkL,ap,ybf,hcl]
/-- a number with its sign in memory -/
def rAV (m:Bool) (n:Nat):AV:=.agg [.bool (m&&n != 0),.slice .any 1 (b7 (bW n))]
theorem u7 {m mm:Bool} {x:List Nat} (h1:isD x) (h2:x.getLast?≠some 0) (h3:mm=(m&&x != [])):AV.agg [AV.bool mm,AV.slice .any 1 (b7 x)]=rAV m (dv x):=by
 have e:=yU h1 h2
 unfold rAV
 rw [e,h3]
 have:(x != [])=(dv x != 0):=by
  cases x with
  |nil=>rfl
  |cons a x =>
   have:dv (a::x)≠0:=fun h0=>by rw [h0,bc] at e;cases e
   rw [bne_iff_ne.2 this];rfl
 rw [this]
def iH:List AV→AHeap→(AV→Prop)→Prop
 |[.bool m,.slice _ 1 l],_,K=>(uu l∧l.length≤100000)∧K (rAV m (dv (uni l)))
 |_,_,_=>False
theorem oS:EntOk Tryz.prog 285 (Ent.pure iH):=by
 refine EntOk.pure fun args H K h=>?_
 unfold iH at h
 split at h
 rotate_left
 ·exact h.elim
 rename_i m mk l
 obtain ⟨⟨c1,l1⟩,hK⟩:=h
 refine ⟨_,hK,?_⟩
 obtain ⟨xs,rfl,hx⟩:=kP c1
 rw [ep]
 rw [cG] at l1
 clear hK c1
 refine ACalls.fW aF TblOk.nil Tryz.func285 [.cell 4 331] (Nat.le_refl _) (T:=aD []) (h:=fun hcl hlt=>?_)
 clear hlt
 simp only [go_sem,biq,ag]
 refine av (A:=List Nat) (fun x=>[(1,.slice .any 1 (b7 x)),(0,.bool m),(4,.ptr H.nx 0)])
  (fun x=>H.push (.cells [.bool false,.slice .nil 1 []])) (fun x=>isD x∧dv x=dv xs∧x.length≤100000) (fun x=>x.length) xs ⟨hx,rfl,l1⟩ ?_ fun x hI=>?_
 ·(simp only [bkq,enterW,aR,ltF,ne_eq,Nat.reduceEqDiff,reduceCtorEq];try simp (disch:=first|assumption|omega|(simp;done)|(simp;omega)|(simp only [bt,and_true];first|done|omega|(simp;done))) [↓zmi,beq,ybc,ybd,ybe,ah,wk,wk2,wk1,wkM,wkL,ap,ybf,byq,biq,ag,hcl];try (repeat' (first|assumption|omega|exact True.intro|refine And.intro ?_ ?_|refine af ?_|refine aa ?_|refine ae ?_ ?_|refine ai ?_ ?_|refine ak ?_|exact AHeap.Le.refl _|refine AHeap.Le.push ?_ _|refine AHeap.Le.del ?_ ?_|(simp only [bt,and_true,true_and];first|done|omega|(simp;done)))))
 obtain ⟨hxd,hdv,hxl⟩:=hI
 rw [← hdv]
 rcases List.eq_nil_or_concat x with rfl|⟨y,d,rfl⟩
 ·have hd:decide (((0:Nat):Int) > 0)=false:=rfl
  have ff:AV.agg [AV.bool false,AV.slice .any 1 []]=rAV m (dv []):=u7 hxd (by simp) (by cases m<;>rfl)
  simp only [go_sem,biq,ag,zau,hd]
  refine bj (fun h1=>?_) (fun h1=>?_)
  all_goals
   try simp only [go_sem,biq,ag,zau,hd]
   rw [← ff]
   simp (disch:=first|assumption|omega|(simp;done)|(simp;omega)|(simp only [bt,and_true];first|done|omega|(simp;done))) [↓zmi,beq,ybc,ybd,ybe,ah,wk,wk2,wk1,wkM,wkL,ap,ybf,hcl]
 ·rw [List.concat_eq_append] at *
  rw [List.length_append,List.length_singleton] at hxl
  have e1:IntKind.i64.wrap (((y++[d]).length:Int) - 1)=((y.length:Nat):Int):=by simp;rw [wrap_i64]<;>omega
  have hlen:y.length<(y++[d]).length:=by simp
  have hd:decide (((y++[d]).length:Int) > 0)=true:=decide_eq_true (by simp)
  have eg:(y++[d]).getD y.length 0=d:=by simp [List.getD_eq_getElem?_getD]
  have et:(y++[d]).take y.length=y:=by simp
  simp only [go_sem,biq,ag,hd,e1,fw hlen,eg]
  refine ⟨by omega,aj (fun h1=>?_) (fun h1=>?_)⟩
  ·have h1':d=0:=by simp at h1;omega
   simp only [go_sem,biq,ag,e1,et,yap]
   refine ⟨by omega,y,⟨fun x hx=>hxd x (by simp [hx]),?_,by omega⟩,by simp,?_⟩
   ·rw [ji,h1'];simp [dv]
   ·(simp only [bkq,enterW,aR,ltF,ne_eq,Nat.reduceEqDiff,reduceCtorEq];try simp (disch:=first|assumption|omega|(simp;done)|(simp;omega)|(simp only [bt,and_true];first|done|omega|(simp;done))) [↓zmi,beq,ybc,ybd,ybe,ah,wk,wk2,wk1,wkM,wkL,ap,ybf,byq,biq,ag,hcl];try (repeat' (first|assumption|omega|exact True.intro|refine And.intro ?_ ?_|refine af ?_|refine aa ?_|refine ae ?_ ?_|refine ai ?_ ?_|refine ak ?_|exact AHeap.Le.refl _|refine AHeap.Le.push ?_ _|refine AHeap.Le.del ?_ ?_|(simp only [bt,and_true,true_and];first|done|omega|(simp;done)))))
  ·have h1':d≠0:=by simp at h1;omega
   have ff:AV.agg [AV.bool (m&&true),AV.slice .any 1 (b7 (y++[d]))]=rAV m (dv (y++[d])):=u7 hxd (by simp;exact h1') (by simp)
   simp only [go_sem,biq,ag,hd,zau,h1]
   rw [← ff]
   refine bj (fun h1=>?_) (fun h1=>?_)
   all_goals
    subst h1
    try simp only [go_sem,biq,ag]
    simp (disch:=first|assumption|omega|(simp;done)|(simp;omega)|(simp only [bt,and_true];first|done|omega|(simp;done))) [↓zmi,beq,ybc,ybd,ybe,ah,wk,wk2,wk1,wkM,wkL,ap,ybf,hcl]
end Go.AL
