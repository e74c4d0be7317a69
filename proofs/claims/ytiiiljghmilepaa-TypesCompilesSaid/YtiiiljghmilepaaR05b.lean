/- Contracts and plain laws, a part of the proof; no condition of its own. -/
import Derived.Test.YtiiiljghmilepaaR05
open List renaming length_cons → yaz, length_nil → yba, take_of_length_le → ybc, drop_append → ybd, take_append → ybe, drop_eq_nil_of_le → ybf
open Go Go.AL Go.Proofs
namespace Go.AL
set_option linter.all false
set_option maxRecDepth 10000
/-- an integer in memory -/
def zAV (a:Int):AV:=.agg [.bool (decide (a<0)),.slice .any 1 (bK (bB a.natAbs))]
theorem jz (m:Bool) (n:Nat):rAV m n=zAV (if m=true then -(n:Int) else n):=by
 unfold rAV zAV
 cases m
 ·simp
 ·simp only [Bool.true_and,if_true,Int.natAbs_neg,Int.natAbs_natCast]
  congr 3
  rw [Bool.eq_iff_iff];simp;omega
/-- an integer of at most 200 digits -/
def cV (a:Int):Prop:=a.natAbs<10^200
theorem ld {a:Int} (h:cV a):(bB a.natAbs).length≤200:=re h
theorem wy {a b:Int} (h:cV a) (hb:b.natAbs≤a.natAbs):cV b:=Nat.lt_of_le_of_lt hb h
theorem ii {k n:Nat} (h:n<10^k):dv (first k n)=n:=by rw [wQ,Nat.mod_eq_of_lt h]
theorem j5 (n:Nat):n<10^(bB n).length:=by have:=we (fc n);rwa [ge] at this
theorem jO {n k:Nat} (h:(bB n).length≤k):n<10^k:=Nat.lt_of_lt_of_le (j5 n) (Nat.pow_le_pow_right (by decide) h)
theorem wr (a b:Nat):a+b<10^(max (bB a).length (bB b).length+1):=by
 have h1:=@jO a (max (bB a).length (bB b).length) (Nat.le_max_left _ _)
 have h2:=@jO b (max (bB a).length (bB b).length) (Nat.le_max_right _ _)
 rw [Nat.pow_succ];omega
def fu:List AV→AHeap→(AV→Prop)→Prop
 |[x,y],_,K=>∃ a b,(x=zAV a∧y=zAV b∧cV a∧cV b)∧K (zAV (a+b))
 |_,_,_=>False
set_option maxHeartbeats 1000000 in
theorem tt:EntOk Try.prog 64 (Ent.pure fu):=by
 refine EntOk.pure fun args H K h=>?_
 unfold fu at h
 split at h
 rotate_left
 ·exact h.elim
 obtain ⟨a,b,⟨rfl,rfl,ha,hb⟩,hK⟩:=h
 refine ⟨_,hK,?_⟩
 clear hK
 refine ACalls.fW aI (TblOk.cons wz (TblOk.cons uK (TblOk.cons rg (TblOk.cons nc TblOk.nil)))) Try.func64 [.cell 4 107] (Nat.le_refl _) (T:=aA [(2,[[],[],[],[],[],[],[3,5],[1,3,5,6],[1,3,5,6,7]]),(4,[[],[],[],[],[],[],[3,5],[1,3,5,6],[1,3,5,6,7]]),(5,[[],[],[],[],[],[],[3,5],[1,3,5,6],[1,3,5,6,7]])]) (h:=fun hcl hlt=>?_)
 clear hlt
 have la:=ld ha
 have lb:=ld hb
 have ia:=fc a.natAbs
 have ib:=fc b.natAbs
 have fi:∀ k n,isD (first k n):=uc
 simp only [go_sem,biq,ae,zAV]
 refine ak (fun h1=>?_) (fun h1=>?_)
 ·have e1:rAV (decide (a<0)) (dv (first (max (bB a.natAbs).length (bB b.natAbs).length+1) (a.natAbs+b.natAbs)))=.agg [.bool (decide (a+b<0)),.slice .any 1 (bK (bB (a+b).natAbs))]:=by
   rw [ii (wr _ _),jz]
   show zAV _=zAV (a+b)
   congr 1
   have h1':decide (a<0)=decide (b<0):=by simpa using h1
   by_cases hn:a<0
   ·have:b<0:=by rw [decide_eq_true hn] at h1';simpa using h1'.symm
    rw [decide_eq_true hn,if_pos rfl];omega
   ·have:¬ b<0:=by rw [decide_eq_false hn] at h1';simpa using h1'.symm
    rw [decide_eq_false hn,if_neg (by simp)];omega
  simp only [go_sem,biq,ae,ph,gg,ge,eR,ia,ib,fi,e1]
  refine ⟨by omega,by omega,?_⟩
  simp (disch:=first|assumption|omega|(simp;done)|(simp;omega)|(simp only [bt,and_true];first|done|omega|(simp;done))) [↓zmi,beq,ybc,ybd,ybe,ag,wk,wk2,wk1,wkM,wkL,am,ybf,hcl]
 ·simp only [go_sem,biq,ae,j8]
  refine ⟨a.natAbs,b.natAbs,⟨rfl,rfl,by omega,by omega⟩,ak (fun h2=>?_) (fun h2=>?_)⟩
  ·have hab:b.natAbs≤a.natAbs:=by
    simp only [decide_eq_true_eq] at h2
    split at h2
    ·omega
    ·split at h2<;>omega
   have e1:rAV (decide (a<0)) (dv (first (bB a.natAbs).length (a.natAbs - b.natAbs)))=.agg [.bool (decide (a+b<0)),.slice .any 1 (bK (bB (a+b).natAbs))]:=by
    rw [ii (Nat.lt_of_le_of_lt (Nat.sub_le _ _) (j5 _)),jz]
    show zAV _=zAV (a+b)
    congr 1
    by_cases hn:a<0
    ·have:¬ b<0:=by rw [decide_eq_true hn] at h1;simpa using h1
     rw [decide_eq_true hn,if_pos rfl];omega
    ·have:b<0:=by rw [decide_eq_false hn] at h1;simpa using h1
     rw [decide_eq_false hn,if_neg (by simp)];omega
   simp only [go_sem,biq,ae,kW,gg,ge,eR,ia,ib,fi,e1]
   refine ⟨by omega,by omega,?_⟩
   simp (disch:=first|assumption|omega|(simp;done)|(simp;omega)|(simp only [bt,and_true];first|done|omega|(simp;done))) [↓zmi,beq,ybc,ybd,ybe,ag,wk,wk2,wk1,wkM,wkL,am,ybf,hcl]
  ·have hab:a.natAbs<b.natAbs:=by
    simp only [decide_eq_false_iff_not] at h2
    split at h2
    ·omega
    ·split at h2<;>omega
   have e1:rAV (decide (b<0)) (dv (first (bB b.natAbs).length (b.natAbs - a.natAbs)))=.agg [.bool (decide (a+b<0)),.slice .any 1 (bK (bB (a+b).natAbs))]:=by
    rw [ii (Nat.lt_of_le_of_lt (Nat.sub_le _ _) (j5 _)),jz]
    show zAV _=zAV (a+b)
    congr 1
    by_cases hn:b<0
    ·have:¬ a<0:=fun h=>by simp [h,hn] at h1
     rw [decide_eq_true hn,if_pos rfl];omega
    ·have:a<0:=by
      by_cases h:a<0
      ·exact h
      ·simp [h,hn] at h1
     rw [decide_eq_false hn,if_neg (by simp)];omega
   simp only [go_sem,biq,ae,kW,gg,ge,eR,ia,ib,fi,e1]
   refine ⟨by omega,by omega,?_⟩
   simp (disch:=first|assumption|omega|(simp;done)|(simp;omega)|(simp only [bt,and_true];first|done|omega|(simp;done))) [↓zmi,beq,ybc,ybd,ybe,ag,wk,wk2,wk1,wkM,wkL,am,ybf,hcl]
def rY:List AV→AHeap→(AV→Prop)→Prop
 |[x],_,K=>∃ a,(x=zAV a∧cV a)∧K (zAV (-a))
 |_,_,_=>False
theorem y8:EntOk Try.prog 93 (Ent.pure rY):=by
 refine EntOk.pure fun args H K h=>?_
 unfold rY at h
 split at h
 rotate_left
 ·exact h.elim
 obtain ⟨a,⟨rfl,ha⟩,hK⟩:=h
 refine ⟨_,hK,?_⟩
 clear hK
 refine ACalls.fW aI (TblOk.cons nc TblOk.nil) Try.func93 [.cell 2 107] (Nat.le_refl _) (T:=aA []) (h:=fun hcl hlt=>?_)
 clear hlt
 have la:=ld ha
 have ia:=fc a.natAbs
 have e1:rAV (!decide (a<0)) a.natAbs=.agg [.bool (decide (-a<0)),.slice .any 1 (bK (bB (-a).natAbs))]:=by
  rw [jz]
  show zAV _=zAV (-a)
  congr 1
  by_cases hn:a<0
  ·simp [hn];omega
  ·simp [hn];omega
 simp only [go_sem,biq,ae,zAV,gg,ge,ia,e1]
 refine ⟨by omega,?_⟩
 simp (disch:=first|assumption|omega|(simp;done)|(simp;omega)|(simp only [bt,and_true];first|done|omega|(simp;done))) [↓zmi,beq,ybc,ybd,ybe,ag,wk,wk2,wk1,wkM,wkL,am,ybf,hcl]
def s9:List AV→AHeap→(AV→Prop)→Prop
 |[x,y],_,K=>∃ a b,(x=zAV a∧y=zAV b∧cV a∧cV b)∧K (zAV (a - b))
 |_,_,_=>False
theorem zl:EntOk Try.prog 90 (Ent.pure s9):=by
 refine EntOk.pure fun args H K h=>?_
 unfold s9 at h
 split at h
 rotate_left
 ·exact h.elim
 obtain ⟨a,b,⟨rfl,rfl,ha,hb⟩,hK⟩:=h
 refine ⟨_,hK,?_⟩
 clear hK
 refine ACalls.fW aI (TblOk.cons y8 (TblOk.cons tt TblOk.nil)) Try.func90 [.cell 4 107] (Nat.le_refl _) (T:=aA [(1,[[],[],[1],[0,1,2],[0,1,2,3]])]) (h:=fun hcl hlt=>?_)
 clear hlt
 simp only [go_sem,biq,ae,zAV,rY]
 refine ⟨b,⟨rfl,hb⟩,?_⟩
 simp only [go_sem,biq,ae,zAV,fu]
 refine ⟨a,-b,⟨rfl,rfl,ha,wy hb (by omega)⟩,?_⟩
 have en:a + -b=a - b:=by omega
 simp only [go_sem,biq,ae,zAV,en]
 simp (disch:=first|assumption|omega|(simp;done)|(simp;omega)|(simp only [bt,and_true];first|done|omega|(simp;done))) [↓zmi,beq,ybc,ybd,ybe,ag,wk,wk2,wk1,wkM,wkL,am,ybf,hcl]
def sj:List AV→AHeap→(AV→Prop)→Prop
 |[x,y],_,K=>∃ a b,(x=zAV a∧y=zAV b∧cV a∧cV b)∧K (.int .i64 (if a=b then 0 else if a<b then -1 else 1))
 |_,_,_=>False
theorem yZ:EntOk Try.prog 82 (Ent.pure sj):=by
 refine EntOk.pure fun args H K h=>?_
 unfold sj at h
 split at h
 rotate_left
 ·exact h.elim
 obtain ⟨a,b,⟨rfl,rfl,ha,hb⟩,hK⟩:=h
 refine ⟨_,hK,?_⟩
 clear hK
 refine ACalls.fW aI (TblOk.cons zl TblOk.nil) Try.func82 [.tmp 4] (Nat.le_refl _) (T:=aA []) (h:=fun hcl hlt=>?_)
 clear hlt
 simp only [go_sem,biq,ae,zAV,s9]
 refine ⟨a,b,⟨rfl,rfl,ha,hb⟩,?_⟩
 try simp only [go_sem,biq,ae,zAV]
 refine ak (fun h1=>?_) (fun h1=>?_)
 ·have h1':a<b:=by simp at h1;omega
  simp only [go_sem,biq,ae,if_neg (show ¬ a=b by omega),if_pos h1']
  simp (disch:=first|assumption|omega|(simp;done)|(simp;omega)|(simp only [bt,and_true];first|done|omega|(simp;done))) [↓zmi,beq,ybc,ybd,ybe,ag,wk,wk2,wk1,wkM,wkL,am,ybf,hcl]
 ·have h1':b≤a:=by simp at h1;omega
  simp only [go_sem,biq,ae]
  refine ak (fun h2=>?_) (fun h2=>?_)
  ·have h2':a≠b:=fun h=>by subst h;simp [aV] at h2
   simp only [go_sem,biq,ae,if_neg h2',if_neg (show ¬ a<b by omega)]
   simp (disch:=first|assumption|omega|(simp;done)|(simp;omega)|(simp only [bt,and_true];first|done|omega|(simp;done))) [↓zmi,beq,ybc,ybd,ybe,ag,wk,wk2,wk1,wkM,wkL,am,ybf,hcl]
  ·have h2':a=b:=by
    by_cases h:(a - b).natAbs=0
    ·omega
    ·rw [fp h] at h2;simp at h2
   simp only [go_sem,biq,ae,if_pos h2']
   simp (disch:=first|assumption|omega|(simp;done)|(simp;omega)|(simp only [bt,and_true];first|done|omega|(simp;done))) [↓zmi,beq,ybc,ybd,ybe,ag,wk,wk2,wk1,wkM,wkL,am,ybf,hcl]
def dk:List AV→AHeap→(AV→Prop)→Prop
 |[.int .i64 n],_,K=>(-9223372036854775808≤n∧n<9223372036854775808)∧K (zAV n)
 |_,_,_=>False
theorem z5:EntOk Try.prog 62 (Ent.pure dk):=by
 refine EntOk.pure fun args H K h=>?_
 unfold dk at h
 split at h
 rotate_left
 ·exact h.elim
 rename_i n
 obtain ⟨⟨h0,h1⟩,hK⟩:=h
 refine ⟨_,hK,?_⟩
 clear hK
 refine ACalls.fW aI (TblOk.cons nc TblOk.nil) Try.func62 [.cell 2 107] (Nat.le_refl _) (T:=aA []) (h:=fun hcl hlt=>?_)
 clear hlt
 simp only [go_sem,biq,ae]
 refine ax (A:=Nat × List Nat) (fun x=>[(0,.int .i64 (if n<0 then -(x.1:Int) else x.1)),(2,.ptr H.nx 0),(3,.bool (decide (n<0))),(4,.slice (.own (H.nx+1)) 1 (bK x.2))])
  (fun x=>(H.push (.cells [.bool false,.slice .nil 1 []])).push (.buf 1 x.2.length)) (fun x=>n.natAbs=dv x.2+10^x.2.length*x.1∧isD x.2∧x.2.length≤20∧x.1<10^(20 - x.2.length)) (fun x=>x.1) (n.natAbs,[]) ⟨by simp [dv],fun d hd=>(by cases hd),by simp,by simp;omega⟩ ?_ fun x hI=>?_
 ·have e0:(if n<0 then -((n.natAbs:Nat):Int) else ((n.natAbs:Nat):Int))=n:=by split<;>omega
  (simp only [bkq,enterW,aR,ltF,ne_eq,Nat.reduceEqDiff,reduceCtorEq,e0];try simp (disch:=first|assumption|omega|(simp;done)|(simp;omega)|(simp only [bt,and_true];first|done|omega|(simp;done))) [↓zmi,beq,ybc,ybd,ybe,ag,wk,wk2,wk1,wkM,wkL,am,ybf,byq,biq,ae,hcl,e0];try (repeat' (first|assumption|omega|exact True.intro|refine And.intro ?_ ?_|refine af ?_|refine aa ?_|refine ac ?_ ?_|refine ah ?_ ?_|refine aj ?_|exact AHeap.Le.refl _|refine AHeap.Le.push ?_ _|refine AHeap.Le.del ?_ ?_|(simp only [bt,and_true,true_and,e0];first|done|omega|(simp;done)))))
 obtain ⟨m,l⟩:=x
 obtain ⟨hn,hl,hle,hm⟩:=hI
 dsimp only at *
 have hmb:m≤9223372036854775808:=by
  have:1≤10^l.length:=Nat.pow_pos (by decide)
  have:=Nat.mul_le_mul_right m this
  omega
 by_cases hs:n<0
 ·skip
  have er:(-(m:Int)).tmod 10 = -((m % 10:Nat):Int):=by rw [Int.neg_tmod,Int.tmod_eq_emod_of_nonneg (by omega)];omega
  have eq:IntKind.i64.wrap ((-(m:Int)).tdiv 10) = -((m/10:Nat):Int):=by rw [Int.neg_tdiv,Int.tdiv_eq_ediv_of_nonneg (by omega),wrap_i64]<;>omega
  simp only [go_sem,biq,ae,if_pos hs,er,eq]
  refine ak (fun h2=>?_) (fun h2=>?_)
  ·have h2':m≠0:=by simp at h2;omega
   have hl20:l.length<20:=by
    by_cases hc:l.length<20
    ·exact hc
    ·rw [show 20 - l.length=0 by omega] at hm;omega
   have hq:m/10<10^(20 - (l.length+1)):=Nat.div_lt_of_lt_mul (by rw [Nat.mul_comm,← Nat.pow_succ,show (20 - (l.length+1)).succ=20 - l.length by omega];exact hm)
   simp only [go_sem,biq,ae,if_pos hs,er,eq]
   refine ⟨by omega,ak (fun h3=>?_) (fun h3=>?_)⟩
   ·have en:IntKind.i64.wrap (0 - -((m % 10:Nat):Int))=((m % 10:Nat):Int):=by rw [wrap_i64]<;>omega
    simp only [go_sem,biq,ae,if_pos hs,er,eq,en]
    refine ⟨⟨by omega,by omega⟩,by omega,(m/10,l++[m % 10]),⟨?_,?_,by simp;omega,by simpa using hq⟩,by omega,?_⟩
    ·rw [hn,gV,List.length_append,List.length_singleton,Nat.pow_succ,Nat.mul_assoc,Nat.add_assoc,← Nat.mul_add]
     congr 2;simp [dv];omega
    ·exact fun d hd=>by
      rcases List.mem_append.1 hd with hd|hd
      ·exact hl d hd
      ·rw [List.mem_singleton.1 hd];omega
    ·(simp only [bkq,enterW,aR,ltF,ne_eq,Nat.reduceEqDiff,reduceCtorEq,if_pos hs];try simp (disch:=first|assumption|omega|(simp;done)|(simp;omega)|(simp only [bt,and_true];first|done|omega|(simp;done))) [↓zmi,beq,ybc,ybd,ybe,ag,wk,wk2,wk1,wkM,wkL,am,ybf,byq,biq,ae,hcl,if_pos hs];try (repeat' (first|assumption|omega|exact True.intro|refine And.intro ?_ ?_|refine af ?_|refine aa ?_|refine ac ?_ ?_|refine ah ?_ ?_|refine aj ?_|exact AHeap.Le.refl _|refine AHeap.Le.push ?_ _|refine AHeap.Le.del ?_ ?_|(simp only [bt,and_true,true_and,if_pos hs];first|done|omega|(simp;done)))))
   ·have en : -((m % 10:Nat):Int)=((m % 10:Nat):Int):=by simp at h3;omega
    simp only [go_sem,biq,ae,if_pos hs,er,eq,en]
    refine ⟨⟨by omega,by omega⟩,by omega,(m/10,l++[m % 10]),⟨?_,?_,by simp;omega,by simpa using hq⟩,by omega,?_⟩
    ·rw [hn,gV,List.length_append,List.length_singleton,Nat.pow_succ,Nat.mul_assoc,Nat.add_assoc,← Nat.mul_add]
     congr 2;simp [dv];omega
    ·exact fun d hd=>by
      rcases List.mem_append.1 hd with hd|hd
      ·exact hl d hd
      ·rw [List.mem_singleton.1 hd];omega
    ·(simp only [bkq,enterW,aR,ltF,ne_eq,Nat.reduceEqDiff,reduceCtorEq,if_pos hs];try simp (disch:=first|assumption|omega|(simp;done)|(simp;omega)|(simp only [bt,and_true];first|done|omega|(simp;done))) [↓zmi,beq,ybc,ybd,ybe,ag,wk,wk2,wk1,wkM,wkL,am,ybf,byq,biq,ae,hcl,if_pos hs];try (repeat' (first|assumption|omega|exact True.intro|refine And.intro ?_ ?_|refine af ?_|refine aa ?_|refine ac ?_ ?_|refine ah ?_ ?_|refine aj ?_|exact AHeap.Le.refl _|refine AHeap.Le.push ?_ _|refine AHeap.Le.del ?_ ?_|(simp only [bt,and_true,true_and,if_pos hs];first|done|omega|(simp;done)))))
  ·have h2':m=0:=by simp at h2;omega
   have ev:rAV (decide (n<0)) (dv l)=.agg [.bool (decide (n<0)),.slice .any 1 (bK (bB n.natAbs))]:=by
    have:n.natAbs=dv l:=by rw [hn,h2'];simp
    rw [← this,jz]
    show zAV _=zAV n
    congr 1
    simp [hs];omega
   simp only [go_sem,biq,ae,if_pos hs,gg,hl,ev,zAV]
   refine ⟨by omega,?_⟩
   simp (disch:=first|assumption|omega|(simp;done)|(simp;omega)|(simp only [bt,and_true];first|done|omega|(simp;done))) [↓zmi,beq,ybc,ybd,ybe,ag,wk,wk2,wk1,wkM,wkL,am,ybf,hcl]
 ·skip
  have er:((m:Int)).tmod 10=((m % 10:Nat):Int):=by rw [Int.tmod_eq_emod_of_nonneg (by omega)];omega
  have eq:IntKind.i64.wrap (((m:Int)).tdiv 10)=((m/10:Nat):Int):=by rw [Int.tdiv_eq_ediv_of_nonneg (by omega),wrap_i64]<;>omega
  simp only [go_sem,biq,ae,if_neg hs,er,eq]
  refine ak (fun h2=>?_) (fun h2=>?_)
  ·have h2':m≠0:=by simp at h2;omega
   have hl20:l.length<20:=by
    by_cases hc:l.length<20
    ·exact hc
    ·rw [show 20 - l.length=0 by omega] at hm;omega
   have hq:m/10<10^(20 - (l.length+1)):=Nat.div_lt_of_lt_mul (by rw [Nat.mul_comm,← Nat.pow_succ,show (20 - (l.length+1)).succ=20 - l.length by omega];exact hm)
   simp only [go_sem,biq,ae,if_neg hs,er,eq]
   have hd3:decide (((m % 10:Nat):Int)<0)=false:=decide_eq_false (by omega)
   simp only [go_sem,biq,ae,if_neg hs,er,eq,zau,hd3]
   refine ⟨by omega,?_⟩
   refine ⟨⟨by omega,by omega⟩,by omega,(m/10,l++[m % 10]),⟨?_,?_,by simp;omega,by simpa using hq⟩,by omega,?_⟩
   ·rw [hn,gV,List.length_append,List.length_singleton,Nat.pow_succ,Nat.mul_assoc,Nat.add_assoc,← Nat.mul_add]
    congr 2;simp [dv];omega
   ·exact fun d hd=>by
     rcases List.mem_append.1 hd with hd|hd
     ·exact hl d hd
     ·rw [List.mem_singleton.1 hd];omega
   ·(simp only [bkq,enterW,aR,ltF,ne_eq,Nat.reduceEqDiff,reduceCtorEq,if_neg hs];try simp (disch:=first|assumption|omega|(simp;done)|(simp;omega)|(simp only [bt,and_true];first|done|omega|(simp;done))) [↓zmi,beq,ybc,ybd,ybe,ag,wk,wk2,wk1,wkM,wkL,am,ybf,byq,biq,ae,hcl,if_neg hs];try (repeat' (first|assumption|omega|exact True.intro|refine And.intro ?_ ?_|refine af ?_|refine aa ?_|refine ac ?_ ?_|refine ah ?_ ?_|refine aj ?_|exact AHeap.Le.refl _|refine AHeap.Le.push ?_ _|refine AHeap.Le.del ?_ ?_|(simp only [bt,and_true,true_and,if_neg hs];first|done|omega|(simp;done)))))
  ·have h2':m=0:=by simp at h2;omega
   have ev:rAV (decide (n<0)) (dv l)=.agg [.bool (decide (n<0)),.slice .any 1 (bK (bB n.natAbs))]:=by
    have:n.natAbs=dv l:=by rw [hn,h2'];simp
    rw [← this,jz]
    show zAV _=zAV n
    congr 1
    simp [hs];omega
   simp only [go_sem,biq,ae,if_neg hs,gg,hl,ev,zAV]
   refine ⟨by omega,?_⟩
   simp (disch:=first|assumption|omega|(simp;done)|(simp;omega)|(simp only [bt,and_true];first|done|omega|(simp;done))) [↓zmi,beq,ybc,ybd,ybe,ag,wk,wk2,wk1,wkM,wkL,am,ybf,hcl]
end Go.AL
