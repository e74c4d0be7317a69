/- Contracts and plain laws, a part of the proof; no condition of its own. -/
import Derived.Test.YtokjjhidigoodaaS09p
import Derived.Test.YtokjjhidigoodaaS09n
open Go Go.AL Go.Proofs
namespace Go.AL
set_option linter.all false
set_option maxRecDepth 10000
theorem zH:ti Try.prog 27=some ⟨.array 2 9,2,32,.agg [.str [],.str []]⟩:=by kernel_rfl
theorem xl:ti Try.prog 28=some ⟨.slice 27,1,24,.slice .nil 1 []⟩:=by kernel_rfl
attribute [go_sem] zH xl
def RV (p q:List UInt8):List AV:=[.agg [.str (lgL p q 0),.str (lgR p q 0)],.agg [.str (lgL p q 1),.str (lgR p q 1)],.agg [.str (lgL p q 2),.str (lgR p q 2)],.agg [.str (lgL p q 3),.str (lgR p q 3)],.agg [.str (lgL p q 4),.str (lgR p q 4)],.agg [.str (lgL p q 5),.str (lgR p q 5)]]
theorem A2 {k:Nat} {p q:List UInt8} (hk:k<6):(RV p q).getD k .junk=.agg [.str (lgL p q k),.str (lgR p q k)]:=by
 rcases (by omega:k=0∨k=1∨k=2∨k=3∨k=4∨k=5) with rfl|rfl|rfl|rfl|rfl|rfl<;>rfl
theorem Bb {p q:List UInt8}:(RV p q).length=6:=rfl
theorem i8 {n:Nat} {p q:List UInt8}:AV.lt n (.slice .any 2 (RV p q)):=by
 simp [RV,znn,znq,znr,znd,AV.lt]
 intro j hj
 rcases (by omega:j=0∨j=1∨j=2∨j=3∨j=4∨j=5) with rfl|rfl|rfl|rfl|rfl|rfl<;>simp [AV.lt]<;>intro i hi<;>(rcases (by omega:i=0∨i=1) with rfl|rfl<;>simp [AV.lt])
theorem qb {v:List Nat} {x:List UInt8} {m:Mv} (h:Mean x (eu v) m) (ho:hO x=true):hB v x=m.bo:=by
 have h0:(comp (bc bndV) x).2=0:=of_decide_eq_true ho
 unfold hB
 rw [if_pos h0]
 have:=h.comp (kn:=bc bndV) (t:=(comp (bc bndV) x).1) (Prod.ext rfl h0)
 unfold wy
 rw [this]
theorem A1 {p q:List UInt8} {n k:Nat} (h1:p.length≤n) (h2:q.length≤n):(lgL p q k).length≤4*n+20∧(lgR p q k).length≤4*n+20:=by
 unfold lgL lgR
 constructor<;>split<;>(try simp only [List.length_append,List.length_cons,List.length_nil])<;>omega
def k9:List AV→AHeap→(AV→Prop)→Prop
 |[.slice _ 1 l,.slice _ 1 l2,.slice _ 2 y],_,K=>(isB l∧isB l2∧∃ v,y=dj v∧∀ x∈v,x<340282366920938463463374607431768211456)∧K (.bool true)
 |_,_,_=>False
set_option maxHeartbeats 4000000 in
theorem ok_EvalLogic:EntOk Try.prog 3 (Ent.pure k9):=by
 refine EntOk.pure fun args H K h=>?_
 unfold k9 at h
 split at h
 rotate_left
 ·exact h.elim
 rename_i m1 l m2 l2 m y
 obtain ⟨⟨hB1,hB2,v,rfl,hvx⟩,hK⟩:=h
 obtain ⟨b,rfl⟩:=tw hB1
 obtain ⟨c,rfl⟩:=tw hB2
 clear hB1 hB2
 refine ⟨_,hK,?_⟩
 clear hK
 have h_LSent:=m7 (A:=True) 2
 refine ACalls.fW ay (TblOk.cons yX (TblOk.cons h_LSent (TblOk.cons ui (TblOk.cons sP TblOk.nil)))) Try.func3 [.tmp 6] (Nat.le_refl _) (T:=ap []) (h:=fun hcl hlt=>?_)
 try simp only [List.append_eq,List.cons_append,List.nil_append]
 have hm:∀ n',H.nx≤n'→AV.lt n' (.slice m 2 (dj v)):=fun n' hn=>AV.lt_mono hn _ (hlt (.slice m 2 (dj v)) (by simp))
 clear hlt
 have hbs:bS 2=1835:=by decide
 have hms:ij=9223372036854775807:=rfl
 simp only [go_sem,pV]
 refine ⟨b,⟨rfl,by omega⟩,?_⟩
 have hbt:(b.take (min (b.length:Int) 12).toNat).length≤12:=by rw [List.length_take];omega
 generalize b.take (min (b.length:Int) 12).toNat=b1 at *
 simp only [go_sem,bV]
 refine ⟨b1,0,⟨rfl,⟨by omega,by omega⟩,by omega,rfl,by omega⟩,fun s a' ⟨hs,hT⟩ _ _=>?_⟩
 simp only [bH,cod,go_sem,pV,hms,List.length_append]
 refine ⟨by omega,by omega,c,⟨rfl,by omega⟩,?_⟩
 have hct:(c.take (min (c.length:Int) 12).toNat).length≤12:=by rw [List.length_take];omega
 generalize c.take (min (c.length:Int) 12).toNat=c1 at *
 simp only [bH,cod,go_sem,bV]
 refine ⟨c1,0,⟨rfl,⟨by omega,by omega⟩,by omega,rfl,by omega⟩,fun s2 a2 ⟨hs2,hT2⟩ _ _=>?_⟩
 simp only [bH,cod,go_sem,hms,List.length_append]
 (repeat with_reducible refine And.intro (by first|exact True.intro|decide|omega|(simp [zim,zgm,zgn,zgo,zgq,zgp,zgu];first|done|omega)) ?_)
 obtain ⟨P,hP0⟩:=ny hT
 obtain ⟨Q,hQ0⟩:=ny hT2
 have hP:TP (40::(s++[41])) P:=hP0
 have hQ:TP (40::(s2++[41])) Q:=hQ0
 clear hP0 hQ0
 have pl:(40::(s++[41])).length≤1837:=by simp only [List.length_cons,List.length_append,List.length_nil];omega
 have ql:(40::(s2++[41])).length≤1837:=by simp only [List.length_cons,List.length_append,List.length_nil];omega
 have db:∀ b:Bool,(b==b)=true:=fun b=>by cases b<;>rfl
 have db2:(true != true)=false:=rfl
 refine aJ (A:=Nat) (fun k=>[(2,.slice m 2 (dj v)),(7,.str (40::(s++[41]))),(90,.slice .any 2 (RV (40::(s++[41])) (40::(s2++[41])))),(91,.int .i64 6),(92,.int .i64 (k:Int))]) (fun _=>H) (fun k=>k≤6) (fun k=>6 - k) 0 (Nat.zero_le _) ?_ fun k hk=>?_
 ·(simp only [bkq,enterW,bn,ltF,ne_eq,Nat.reduceEqDiff,reduceCtorEq,hcl,hm];try simp (disch:=first|assumption|omega|(simp;done)|(simp;omega)|(simp only [bt,and_true];first|done|omega|(simp;done))) [↓zmk,beq,List.take_of_length_le,List.drop_append,List.take_append,ae,wk,wk2,wk1,wkM,wkL,ai,List.drop_eq_nil_of_le,byq,biq,ak,hcl,hcl,hm];try (repeat' (first|assumption|omega|exact True.intro|refine And.intro ?_ ?_|refine af ?_|refine aa ?_|refine ac ?_ ?_|refine ag ?_ ?_|refine ah ?_|exact AHeap.Le.refl _|refine AHeap.Le.push ?_ _|refine AHeap.Le.del ?_ ?_|(simp only [bt,and_true,true_and,hcl,hm];first|done|omega|(simp;done)))))
  ·exact i8
  ·simp [RV,lgL,lgR]
 simp only [go_sem]
 refine al (fun hc=>?_) (fun hc=>?_)
 ·have hk1:k<6:=by simp at hc;omega
  have e5:IntKind.i64.wrap ((k:Int)+1)=((k+1:Nat):Int):=by rw [wrap_i64]<;>omega
  obtain ⟨t1,t2⟩:=@A1 _ _ 1837 k pl ql
  obtain ⟨mm,M1,M2⟩:=Ab hP hQ (eu v) hk1
  have hb1:=qb (v:=v) M1
  have hb2:=qb (v:=v) M2
  simp only [go_sem,A2 hk1,Bb,Int.toNat_natCast,e5]
  refine ⟨by omega,by decide,v,⟨rfl,hvx,by omega⟩,?_⟩
  simp only [go_sem]
  refine ⟨by decide,v,⟨rfl,hvx,by omega⟩,?_⟩
  cases o1:hO (lgL (40::(s++[41])) (40::(s2++[41])) k) with
  |false =>
   simp only [go_sem,e5]
   refine ⟨k+1,by omega,by omega,?_⟩
   (simp only [bkq,enterW,bn,ltF,ne_eq,Nat.reduceEqDiff,reduceCtorEq,hcl,hm,i8];try simp (disch:=first|assumption|omega|(simp;done)|(simp;omega)|(simp only [bt,and_true];first|done|omega|(simp;done))) [↓zmk,beq,List.take_of_length_le,List.drop_append,List.take_append,ae,wk,wk2,wk1,wkM,wkL,ai,List.drop_eq_nil_of_le,byq,biq,ak,hcl,hcl,hm,i8];try (repeat' (first|assumption|omega|exact True.intro|refine And.intro ?_ ?_|refine af ?_|refine aa ?_|refine ac ?_ ?_|refine ag ?_ ?_|refine ah ?_|exact AHeap.Le.refl _|refine AHeap.Le.push ?_ _|refine AHeap.Le.del ?_ ?_|(simp only [bt,and_true,true_and,hcl,hm,i8];first|done|omega|(simp;done)))))
  |true =>
   cases o2:hO (lgR (40::(s++[41])) (40::(s2++[41])) k) with
   |false =>
    simp only [go_sem,e5]
    refine ⟨k+1,by omega,by omega,?_⟩
    (simp only [bkq,enterW,bn,ltF,ne_eq,Nat.reduceEqDiff,reduceCtorEq,hcl,hm,i8];try simp (disch:=first|assumption|omega|(simp;done)|(simp;omega)|(simp only [bt,and_true];first|done|omega|(simp;done))) [↓zmk,beq,List.take_of_length_le,List.drop_append,List.take_append,ae,wk,wk2,wk1,wkM,wkL,ai,List.drop_eq_nil_of_le,byq,biq,ak,hcl,hcl,hm,i8];try (repeat' (first|assumption|omega|exact True.intro|refine And.intro ?_ ?_|refine af ?_|refine aa ?_|refine ac ?_ ?_|refine ag ?_ ?_|refine ah ?_|exact AHeap.Le.refl _|refine AHeap.Le.push ?_ _|refine AHeap.Le.del ?_ ?_|(simp only [bt,and_true,true_and,hcl,hm,i8];first|done|omega|(simp;done)))))
   |true =>
    rw [hb1 o1,hb2 o2]
    simp only [go_sem,db,db2,e5]
    refine ⟨k+1,by omega,by omega,?_⟩
    (simp only [bkq,enterW,bn,ltF,ne_eq,Nat.reduceEqDiff,reduceCtorEq,hcl,hm,i8];try simp (disch:=first|assumption|omega|(simp;done)|(simp;omega)|(simp only [bt,and_true];first|done|omega|(simp;done))) [↓zmk,beq,List.take_of_length_le,List.drop_append,List.take_append,ae,wk,wk2,wk1,wkM,wkL,ai,List.drop_eq_nil_of_le,byq,biq,ak,hcl,hcl,hm,i8];try (repeat' (first|assumption|omega|exact True.intro|refine And.intro ?_ ?_|refine af ?_|refine aa ?_|refine ac ?_ ?_|refine ag ?_ ?_|refine ah ?_|exact AHeap.Le.refl _|refine AHeap.Le.push ?_ _|refine AHeap.Le.del ?_ ?_|(simp only [bt,and_true,true_and,hcl,hm,i8];first|done|omega|(simp;done)))))
 ·have hk1:k=6:=by simp at hc;omega
  subst hk1
  have hbT:=qb (v:=v) (BH hP (eu v))
  have hT3:∀ X,X=lgT (40::(s++[41]))→hO X=true→hB v X=true:=fun X e h=>by subst e;exact hbT h
  simp only [go_sem,fV,hms,List.length_append]
  (repeat with_reducible refine And.intro (by first|exact True.intro|decide|omega|(simp [zim,zgm,zgn,zgo,zgq,zgp,zgu];first|done|omega)) ?_)
  have hl3:(40::(s++[41]++[124,124,33]++40::(s++[41]))).length≤1000000:=by simp only [List.length_cons,List.length_append,List.length_nil];omega
  have h33:=hT3 (40::(s++[41]++[124,124,33]++40::(s++[41]))) rfl
  simp only [lX]
  refine ⟨v,⟨rfl,hvx,hl3⟩,?_⟩
  generalize hO (40::(s++[41]++[124,124,33]++40::(s++[41])))=o1 at *
  cases o1 with
  |true =>
   rw [h33 rfl]
   simp only [go_sem,fV]
   simp (disch:=first|assumption|omega|(simp;done)|(simp;omega)|(simp only [bt,and_true];first|done|omega|(simp;done))) [↓zmk,beq,List.take_of_length_le,List.drop_append,List.take_append,ae,wk,wk2,wk1,wkM,wkL,ai,List.drop_eq_nil_of_le,hcl]
  |false =>
   generalize hB v (40::(s++[41]++[124,124,33]++40::(s++[41])))=o2 at *
   cases o2<;>simp only [go_sem,fV]<;>simp (disch:=first|assumption|omega|(simp;done)|(simp;omega)|(simp only [bt,and_true];first|done|omega|(simp;done))) [↓zmk,beq,List.take_of_length_le,List.drop_append,List.take_append,ae,wk,wk2,wk1,wkM,wkL,ai,List.drop_eq_nil_of_le,hcl]
end Go.AL
