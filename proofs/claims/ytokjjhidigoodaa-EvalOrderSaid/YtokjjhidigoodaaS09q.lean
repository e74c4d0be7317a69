/- Contracts and plain laws, a part of the proof; no condition of its own. -/
import Derived.Test.YtokjjhidigoodaaS09p
open Go Go.AL Go.Proofs
namespace Go.AL
set_option linter.all false
set_option maxRecDepth 10000
theorem xk:ti Try.prog 27=some ⟨.array 2 9,2,32,.agg [.str [],.str []]⟩:=by kernel_rfl
theorem vV:ti Try.prog 28=some ⟨.slice 27,1,24,.slice .nil 1 []⟩:=by kernel_rfl
attribute [go_sem] xk vV
theorem lq:bndV=vs7:=rfl
def RW (c:Nat):List AV:=[.agg [.str (txL 0 c),.str (txR 0 c)],.agg [.str (txL 1 c),.str (txR 1 c)],.agg [.str (txL 2 c),.str (txR 2 c)],.agg [.str (txL 3 c),.str (txR 3 c)],.agg [.str (txL 4 c),.str (txR 4 c)],.agg [.str (txL 5 c),.str (txR 5 c)]]
theorem yr {k c:Nat} (hk:k<6):(RW c).getD k .junk=.agg [.str (txL k c),.str (txR k c)]:=by
 rcases (by omega:k=0∨k=1∨k=2∨k=3∨k=4∨k=5) with rfl|rfl|rfl|rfl|rfl|rfl<;>rfl
theorem yw {c:Nat}:(RW c).length=6:=rfl
theorem rq {n c:Nat}:AV.lt n (.slice .any 2 (RW c)):=by
 simp [RW,znn,znq,znr,znd,AV.lt]
 intro j hj
 rcases (by omega:j=0∨j=1∨j=2∨j=3∨j=4∨j=5) with rfl|rfl|rfl|rfl|rfl|rfl<;>simp [AV.lt]<;>intro i hi<;>(rcases (by omega:i=0∨i=1) with rfl|rfl<;>simp [AV.lt])
theorem z6 {k c:Nat} (hk:k<6) (hc:c<6):hO (txL k c)=true:=by
 unfold hO;rw [lq,vz hk hc];rfl
theorem zC {k c:Nat} (hk:k<6) (hc:c<6):hO (txR k c)=true:=by
 unfold hO;rw [lq,uP hk hc];rfl
theorem zB {k c:Nat} (hk:k<6) (hc:c<6) (v:List Nat):hB v (txL k c)=hB v (txR k c):=by
 unfold hB;rw [lq,vz hk hc,uP hk hc,if_pos rfl,if_pos rfl]
 exact xg hk hc
theorem yC {k c:Nat}:(txL k c).length≤100∧(txR k c).length≤100:=by
 have hl1:∀ c,(f9 c).length≤2:=fun c=>by
  unfold f9
  split<;>decide
 have:=hl1 c
 have:=hl1 (ln c)
 unfold txL txR
 constructor<;>split<;>simp only [List.length_append,List.length_cons,List.length_nil]<;>omega
def j9:List AV→AHeap→(AV→Prop)→Prop
 |[.slice _ 2 y,.int .u8 op],_,K=>(0≤op∧op<256∧∃ v,y=cO v∧∀ x∈v,x<340282366920938463463374607431768211456)∧K (.bool true)
 |_,_,_=>False
set_option maxHeartbeats 2000000 in
theorem ok_EvalOrder:EntOk Try.prog 4 (Ent.pure j9):=by
 refine EntOk.pure fun args H K h=>?_
 unfold j9 at h
 split at h
 rotate_left
 ·exact h.elim
 rename_i m y op
 obtain ⟨⟨h1,h2,v,rfl,hvx⟩,hK⟩:=h
 refine ⟨_,hK,?_⟩
 clear hK
 refine ACalls.fW ay (TblOk.cons sE (TblOk.cons qL TblOk.nil)) Try.func4 [.tmp 4] (Nat.le_refl _) (T:=al []) (h:=fun hcl hlt=>?_)
 have hm:∀ n',H.nx≤n'→AV.lt n' (.slice m 2 (cO v)):=fun n' hn=>AV.lt_mono hn _ (hlt (.slice m 2 (cO v)) (by simp))
 clear hlt
 obtain ⟨c,hop,hc6⟩:∃ c:Nat,op.tmod 6=(c:Int)∧c<6:=by
  have e:=Int.tmod_eq_emod_of_nonneg (b:=6) h1
  exact ⟨(op.tmod 6).toNat,by omega,by omega⟩
 have hg1:[AV.str [61,61],AV.str [33,61],AV.str [60],AV.str [60,61],AV.str [62],AV.str [62,61]].getD c AV.junk=.str (f9 c):=by
  rcases (by omega:c=0∨c=1∨c=2∨c=3∨c=4∨c=5) with rfl|rfl|rfl|rfl|rfl|rfl<;>rfl
 have hg2:[AV.str [33,61],AV.str [61,61],AV.str [62,61],AV.str [62],AV.str [60,61],AV.str [60]].getD c AV.junk=.str (f9 (ln c)):=by
  rcases (by omega:c=0∨c=1∨c=2∨c=3∨c=4∨c=5) with rfl|rfl|rfl|rfl|rfl|rfl<;>rfl
 have hl1:∀ c,(f9 c).length≤2:=fun c=>by
  unfold f9
  split<;>decide
 have hl2:=hl1 c
 have hl3:=hl1 (ln c)
 have hms:nR=9223372036854775807:=rfl
 simp only [go_sem,hop,hg1,hg2,Int.toNat_natCast,hms,List.length_append]
 (repeat with_reducible refine And.intro (by first|exact True.intro|decide|omega|(simp [zim,zgm,zgn,zgo,zgq,zgp,zgu];first|done|omega)) ?_)
 refine aF (A:=Nat) (fun k=>[(0,.slice m 2 (cO v)),(65,.slice .any 2 (RW c)),(66,.int .i64 6),(67,.int .i64 (k:Int))]) (fun _=>H) (fun k=>k≤6) (fun k=>6 - k) 0 (Nat.zero_le _) ?_ fun k hk=>?_
 ·(simp only [bkq,enterW,bf,ltF,ne_eq,Nat.reduceEqDiff,reduceCtorEq,hcl,hm];try simp (disch:=first|assumption|omega|(simp;done)|(simp;omega)|(simp only [bt,and_true];first|done|omega|(simp;done))) [↓zmk,beq,List.take_of_length_le,List.drop_append,List.take_append,ae,wk,wk2,wk1,wkM,wkL,ah,List.drop_eq_nil_of_le,byq,biq,aj,hcl,hcl,hm];try (repeat' (first|assumption|omega|exact True.intro|refine And.intro ?_ ?_|refine af ?_|refine aa ?_|refine ac ?_ ?_|refine ag ?_ ?_|refine ai ?_|exact AHeap.Le.refl _|refine AHeap.Le.push ?_ _|refine AHeap.Le.del ?_ ?_|(simp only [bt,and_true,true_and,hcl,hm];first|done|omega|(simp;done)))))
  ·exact rq
  ·rfl
 simp only [go_sem]
 refine ar (fun hc=>?_) (fun hc=>?_)
 ·have hk1:k<6:=by simp at hc;omega
  have e5:IntKind.i64.wrap ((k:Int)+1)=((k+1:Nat):Int):=by rw [wrap_i64]<;>omega
  have hbq:=zB hk1 hc6 v
  obtain ⟨t1,t2⟩:=@yC k c
  have db:∀ b:Bool,(b==b)=true:=fun b=>by cases b<;>rfl
  have db2:(true != true)=false:=rfl
  simp only [go_sem,yr hk1,yw,Int.toNat_natCast,e5]
  refine ⟨by omega,by decide,v,⟨rfl,hvx,by omega⟩,?_⟩
  simp only [go_sem,z6 hk1 hc6,zC hk1 hc6]
  refine ⟨by decide,v,⟨rfl,hvx,by omega⟩,?_⟩
  simp only [go_sem,z6 hk1 hc6,zC hk1 hc6,hbq,db,db2,e5]
  refine ⟨k+1,by omega,by omega,?_⟩
  (simp only [bkq,enterW,bf,ltF,ne_eq,Nat.reduceEqDiff,reduceCtorEq,hcl,hm,rq];try simp (disch:=first|assumption|omega|(simp;done)|(simp;omega)|(simp only [bt,and_true];first|done|omega|(simp;done))) [↓zmk,beq,List.take_of_length_le,List.drop_append,List.take_append,ae,wk,wk2,wk1,wkM,wkL,ah,List.drop_eq_nil_of_le,byq,biq,aj,hcl,hcl,hm,rq];try (repeat' (first|assumption|omega|exact True.intro|refine And.intro ?_ ?_|refine af ?_|refine aa ?_|refine ac ?_ ?_|refine ag ?_ ?_|refine ai ?_|exact AHeap.Le.refl _|refine AHeap.Le.push ?_ _|refine AHeap.Le.del ?_ ?_|(simp only [bt,and_true,true_and,hcl,hm,rq];first|done|omega|(simp;done)))))
 ·have hk1:k=6:=by simp at hc;omega
  subst hk1
  simp only [go_sem,jF]
  simp (disch:=first|assumption|omega|(simp;done)|(simp;omega)|(simp only [bt,and_true];first|done|omega|(simp;done))) [↓zmk,beq,List.take_of_length_le,List.drop_append,List.take_append,ae,wk,wk2,wk1,wkM,wkL,ah,List.drop_eq_nil_of_le,hcl]
end Go.AL
