/- Contracts and plain laws, a part of the proof; no condition of its own. -/
import Derived.Test.YtokjjhidigoodaaS09s
open List renaming length_cons → yaz, length_nil → yba, take_of_length_le → ybc, drop_append → ybd, take_append → ybe, drop_eq_nil_of_le → ybf, length_map → ybb, cons_append → yal, nil_append → yak
open Go Go.AL Go.Proofs
namespace Go.AL
set_option linter.all false
set_option maxRecDepth 10000
def nX:List AV→AHeap→(AV→Prop)→Prop
 |[.agg l,.agg [a1,a2,.slice _ 3 y,a3,a4,a5,a6,a7],.agg [.int .i64 n1,z,.int .i64 pr,.int .i64 n2,b]],_,K=>∃ (S:Sch) (keys:List SKey) (ms:List SMatch),
   (l=bO S∧SLen S∧y=keys.map cg∧keys.length≤1000∧vt z 8 (ms.map bQ)∧ms.length≤4611686018427387904∧(∀ m∈ms,m.pfx<9223372036854775808)∧pr<9223372036854775808) ∧
   K (.slice .any 4 (ay (ju S.fields keys ms pr)))
 |_,_,_=>False
set_option maxHeartbeats 8000000 in
theorem AA:EntOk Try.prog 14 (Ent.pure nX):=by
 refine EntOk.pure fun args H K h=>?_
 unfold nX at h
 split at h
 rotate_left
 ·exact h.elim
 rename_i l a1 a2 m y a3 a4 a5 a6 a7 n1 z pr n2 b
 obtain ⟨S,keys,ms,⟨rfl,hS,rfl,hkl,hz,hml,hmp,hpr⟩,hK⟩:=h
 refine ⟨_,hK,?_⟩
 clear hK
 refine ACalls.fW aD (TblOk.cons zS (TblOk.cons BN (TblOk.cons yM TblOk.nil))) Try.func14 [.tmp 6] (Nat.le_refl _) (T:=az [(15,[[],[],[],[],[],[],[],[],[],[],[9],[],[2,4,7,9,10],[2,4,7,9,10]])]) (h:=fun hcl hlt=>?_)
 have hsc:=AV.lt_mono (Nat.le_succ H.nx) _ (hlt (.agg (bO S)) (by simp))
 have htc:=fun n' (hn:H.nx≤n')=>AV.lt_mono hn _ (hlt (.agg [a1,a2,.slice m 3 (keys.map cg),a3,a4,a5,a6,a7]) (by simp))
 have hec:=fun n' (hn:H.nx≤n')=>AV.lt_mono hn _ (hlt (.agg [.int .i64 n1,z,.int .i64 pr,.int .i64 n2,b]) (by simp))
 have hm:∀ n',H.nx≤n'→AV.lt n' (.slice m 3 (keys.map cg)):=fun n' hn=>by have h1:=htc n' hn;rw [znn] at h1;exact h1.2.2.1
 obtain ⟨zm,zs,rfl,hzs⟩:∃ zm zs,z=.slice zm zs (ms.map bQ)∧(zs=8∨ms=[]):=by
  rcases hz with ⟨zm,rfl⟩|⟨rfl,h⟩
  ·exact ⟨zm,8,rfl,.inl rfl⟩
  ·exact ⟨.nil,1,by rw [h],.inr (List.map_eq_nil_iff.1 h)⟩
 simp only [znn] at hsc htc hec
 clear hlt
 simp only [go_sem,a9]
 have hc0:(((((H.push (.cells (bO S))).push (.cells [a1,a2,.slice m 3 (keys.map cg),a3,a4,a5,a6,a7])).push (.cells [.int .i64 n1,.slice zm zs (ms.map bQ),.int .i64 pr,.int .i64 n2,b])).push (.buf 4 0)).push (.buf 4 0)).Closed :=
  af (af (ae (ae (ae hcl hsc) (htc _ (by simp only [go_sem];omega))) (hec _ (by simp only [go_sem];omega))))
 refine aB (A:=Nat × AHeap) (fun a=>[(3,.ptr H.nx 0),(5,.ptr (H.nx+1+1) 0),(7,.slice (.own (H.nx+1+1+1+1)) 4 (ay (aV S.fields keys ms a.1))),(13,.slice m 3 (keys.map cg)),(14,.int .i64 (keys.length:Int)),(15,.int .i64 (a.1:Int))]) (fun a=>a.2)
  (fun a=>a.1≤keys.length∧H.Le a.2∧a.2.Closed∧a.2.get H.nx=some (.cells (bO S))∧a.2.get (H.nx+1+1)=some (.cells [.int .i64 n1,.slice zm zs (ms.map bQ),.int .i64 pr,.int .i64 n2,b])∧a.2.get (H.nx+1+1+1+1)=some (.buf 4 (aV S.fields keys ms a.1).length)) (fun a=>keys.length - a.1)
  (0,(((((H.push (.cells (bO S))).push (.cells [a1,a2,.slice m 3 (keys.map cg),a3,a4,a5,a6,a7])).push (.cells [.int .i64 n1,.slice zm zs (ms.map bQ),.int .i64 pr,.int .i64 n2,b])).push (.buf 4 0)).push (.buf 4 0))) ⟨Nat.zero_le _,by repeat first|exact .refl _|refine .push ?_ _,hc0,by simp only [go_sem],by simp only [go_sem],by simp only [go_sem];rfl⟩ ?_ fun a ha=>?_
 ·(simp only [bkq,enterW,aI,ltF,ne_eq,Nat.reduceEqDiff,reduceCtorEq,hc0,hm,aj];try simp (disch:=first|assumption|omega|(simp;done)|(simp;omega)|(simp only [bt,and_true];first|done|omega|(simp;done))) [↓zmk,beq,ybc,ybd,ybe,ag,wk,wk2,wk1,wkM,wkL,am,ybf,byq,biq,au,hcl,hc0,hm,aj];try (repeat' (first|assumption|omega|exact True.intro|refine And.intro ?_ ?_|refine af ?_|refine aa ?_|refine ae ?_ ?_|refine ah ?_ ?_|refine ak ?_|exact AHeap.Le.refl _|refine AHeap.Le.push ?_ _|refine AHeap.Le.del ?_ ?_|(simp only [bt,and_true,true_and,hc0,hm,aj];first|done|omega|(simp;done)))))
  simp [ay,aV]
 obtain ⟨k,Hc⟩:=a
 obtain ⟨hk,hle,hcc,g1,g2,g3⟩:=ha
 dsimp only at hk hle hcc g1 g2 g3 ⊢
 have nx3:=AHeap.get_lt g3
 simp only [go_sem]
 refine ax (fun hc=>?_) (fun hc=>?_)
 ·have hk1:k<keys.length:=by simp at hc;omega
  have e5:IntKind.i64.wrap ((k:Int)+1)=((k+1:Nat):Int):=by rw [wrap_i64]<;>omega
  have r1:(H.nx=Hc.nx)=False:=eq_false (by omega)
  have r2:(H.nx=Hc.nx+1)=False:=eq_false (by omega)
  have r3:(H.nx=Hc.nx+1+1)=False:=eq_false (by omega)
  have r4:(H.nx+1+1=Hc.nx)=False:=eq_false (by omega)
  have r5:(H.nx+1+1=Hc.nx+1)=False:=eq_false (by omega)
  have r6:(H.nx+1+1=Hc.nx+1+1)=False:=eq_false (by omega)
  have r7:(H.nx+1+1+1+1=Hc.nx)=False:=eq_false (by omega)
  have r8:(H.nx+1+1+1+1=Hc.nx+1)=False:=eq_false (by omega)
  have r9:(H.nx+1+1+1+1=Hc.nx+1+1)=False:=eq_false (by omega)
  have r10:(H.nx+1=Hc.nx)=False:=eq_false (by omega)
  have r11:(H.nx+1+1+1=Hc.nx)=False:=eq_false (by omega)
  have r12:(H.nx+1+1+1=Hc.nx+1)=False:=eq_false (by omega)
  obtain ⟨LL,hLL⟩:∃ LL,aV S.fields keys ms k=LL:=⟨_,rfl⟩
  have hll:LL.length≤2*k:=by rw [← hLL];exact d8
  have hkt:∀ X,ms.getD k cK=X→aV S.fields keys ms (k+1)=LL++cI S.fields keys[k] X:=by
   intro X hX
   rw [aV,hLL]
   unfold mY
   rw [List.getElem?_eq_getElem hk1]
   dsimp only
   rw [hX]
  rw [hLL] at g3
  rw [hLL]
  obtain ⟨q,hq⟩:∃ q,keys[k]=q:=⟨_,rfl⟩
  have hkg:=ot hk1
  rw [hq] at hkg hkt
  by_cases hkm:k<ms.length
  ·have d1:decide ((k:Int)<(ms.length:Int))=true:=decide_eq_true (by omega)
   obtain rfl:zs=8:=by
    rcases hzs with h|h
    ·exact h
    ·rw [h] at hkm;exact absurd hkm (by simp)
   obtain ⟨X,hX⟩:∃ X,ms[k]=X:=⟨_,rfl⟩
   have hXp:X.pfx<9223372036854775808:=by rw [← hX];exact hmp _ (List.getElem_mem hkm)
   have hkt:=hkt X (by simp only [List.getD_eq_getElem?_getD,List.getElem?_eq_getElem hkm,Option.getD_some];exact hX)
   have hgm:=cJ (f:=bQ) (l:=ms) (k:=k) (x:=X) (by rw [List.getElem?_eq_getElem hkm,hX])
   cases hpres:X.present with
   |true =>
    have hs10:(bO S).length=10:=rfl
    have ht10:(bO S).take 10=bO S:=rfl
    have hle10:(10≤10)=True:=eq_true (Nat.le_refl _)
    rcases (by omega:q.kind=1∨q.kind=2∨q.kind=3∨q.kind=4∨(q.kind≠1∧q.kind≠2∧q.kind≠3∧q.kind≠4)) with hkd|hkd|hkd|hkd|⟨hq1,hq2,hq3,hq4⟩
    ·skip
     have hrow:ay LL++[.agg [.str q.name,.str [],.int .u64 ((X.value/2^64:Nat):Int),.int .u64 ((X.value % 2^64:Nat):Int)],.agg [.str q.name,.str [118,97,108,117,101],.int .u64 ((X.value/2^64:Nat):Int),.int .u64 ((X.value % 2^64:Nat):Int)]]=ay (aV S.fields keys ms (k+1)):=by
      rw [hkt];simp [ay,ey,cI,cu,hkd,e9,kT,g8,ij,hpres,]
     have hln:(aV S.fields keys ms (k+1)).length=LL.length+2:=by rw [hkt];simp [cI,cu,hkd]
     have c1:(q.kind==1)=true:=by rw [hkd];rfl
     have c2:(q.kind==2)=false:=by rw [hkd];rfl
     have c3:(q.kind==3)=false:=by rw [hkd];rfl
     have c4:(q.kind==4)=false:=by rw [hkd];rfl
     simp only [go_sem,hkg,a9,Int.toNat_natCast,g1,ai g1,g2,ai g2,g3,r1,r2,r3,r4,r5,r6,r7,r8,r9,r10,r11,r12,if_false,d1,ybb,e5,hgm,bQ,dz,vc,yal,yak,List.append_assoc,hpres,c1,c2,c3,c4,hs10,ht10,hle10,av]
     refine ⟨by omega,by omega,⟨by omega,by omega,fun z hz=>by
      rcases List.mem_cons.1 hz with rfl|hz
      ·rfl
      ·rw [List.mem_singleton.1 hz];rfl⟩,(k+1,Hc.set (H.nx+1+1+1+1) (.buf 4 (LL.length+2))),⟨by dsimp only;omega,aX hle (by omega),aa hcc,?_,?_,?_⟩,by dsimp only;omega,?_⟩
     ·dsimp only
      rw [aq,if_neg (by omega)];exact g1
     ·dsimp only
      rw [aq,if_neg (by omega)];exact g2
     ·dsimp only
      rw [aq,if_pos rfl,if_pos nx3,hln]
     ·have hnn:H.nx≤Hc.nx:=by omega
      have hcs:=@aa Hc (H.nx+1+1+1+1) 4 (LL.length+2) hcc
      dsimp only
      try simp only [hrow]
      (simp only [bkq,enterW,aI,ltF,ne_eq,Nat.reduceEqDiff,reduceCtorEq,hcs,hm,aj,hnn];try simp (disch:=first|assumption|omega|(simp;done)|(simp;omega)|(simp only [bt,and_true];first|done|omega|(simp;done))) [↓zmk,beq,ybc,ybd,ybe,ag,wk,wk2,wk1,wkM,wkL,am,ybf,byq,biq,au,hcl,hcs,hm,aj,hnn];try (repeat' (first|assumption|omega|exact True.intro|refine And.intro ?_ ?_|refine af ?_|refine aa ?_|refine ae ?_ ?_|refine ah ?_ ?_|refine ak ?_|exact AHeap.Le.refl _|refine AHeap.Le.push ?_ _|refine AHeap.Le.del ?_ ?_|(simp only [bt,and_true,true_and,hcs,hm,aj,hnn];first|done|omega|(simp;done)))))
    ·skip
     have hrow:ay LL++[.agg [.str q.name,.str [118,97,108,117,101],.int .u64 ((X.value/2^64:Nat):Int),.int .u64 ((X.value % 2^64:Nat):Int)],.agg [.str q.name,.str [112,114,101,102,105,120,95,108,101,110,103,116,104],.int .u64 ((X.pfx.toNat/2^64:Nat):Int),.int .u64 ((X.pfx.toNat % 2^64:Nat):Int)]]=ay (aV S.fields keys ms (k+1)):=by
      rw [hkt];simp [ay,ey,cI,cu,hkd,e9,kT,g8,ij,hpres,]
     have hln:(aV S.fields keys ms (k+1)).length=LL.length+2:=by rw [hkt];simp [cI,cu,hkd]
     have c1:(q.kind==1)=false:=by rw [hkd];rfl
     have c2:(q.kind==2)=true:=by rw [hkd];rfl
     have c3:(q.kind==3)=false:=by rw [hkd];rfl
     have c4:(q.kind==4)=false:=by rw [hkd];rfl
     simp only [go_sem,hkg,a9,Int.toNat_natCast,g1,ai g1,g2,ai g2,g3,r1,r2,r3,r4,r5,r6,r7,r8,r9,r10,r11,r12,if_false,d1,ybb,e5,hgm,bQ,dz,vc,yal,yak,List.append_assoc,hpres,c1,c2,c3,c4,hs10,ht10,hle10,av]
     refine ⟨by omega,by omega,hXp,?_⟩
     simp only [go_sem,hkg,a9,Int.toNat_natCast,g1,ai g1,g2,ai g2,g3,r1,r2,r3,r4,r5,r6,r7,r8,r9,r10,r11,r12,if_false,d1,ybb,e5,c1,c2,c3,c4,vv,av]
     refine ⟨⟨by omega,by omega,fun z hz=>by
      rcases List.mem_cons.1 hz with rfl|hz
      ·rfl
      ·rw [List.mem_singleton.1 hz];rfl⟩,(k+1,Hc.set (H.nx+1+1+1+1) (.buf 4 (LL.length+2))),⟨by dsimp only;omega,aX hle (by omega),aa hcc,?_,?_,?_⟩,by dsimp only;omega,?_⟩
     ·dsimp only
      rw [aq,if_neg (by omega)];exact g1
     ·dsimp only
      rw [aq,if_neg (by omega)];exact g2
     ·dsimp only
      rw [aq,if_pos rfl,if_pos nx3,hln]
     ·have hnn:H.nx≤Hc.nx:=by omega
      have hcs:=@aa Hc (H.nx+1+1+1+1) 4 (LL.length+2) hcc
      dsimp only
      try simp only [hrow]
      (simp only [bkq,enterW,aI,ltF,ne_eq,Nat.reduceEqDiff,reduceCtorEq,hcs,hm,aj,hnn];try simp (disch:=first|assumption|omega|(simp;done)|(simp;omega)|(simp only [bt,and_true];first|done|omega|(simp;done))) [↓zmk,beq,ybc,ybd,ybe,ag,wk,wk2,wk1,wkM,wkL,am,ybf,byq,biq,au,hcl,hcs,hm,aj,hnn];try (repeat' (first|assumption|omega|exact True.intro|refine And.intro ?_ ?_|refine af ?_|refine aa ?_|refine ae ?_ ?_|refine ah ?_ ?_|refine ak ?_|exact AHeap.Le.refl _|refine AHeap.Le.push ?_ _|refine AHeap.Le.del ?_ ?_|(simp only [bt,and_true,true_and,hcs,hm,aj,hnn];first|done|omega|(simp;done)))))
    ·skip
     have hrow:ay LL++[.agg [.str q.name,.str [118,97,108,117,101],.int .u64 ((X.value/2^64:Nat):Int),.int .u64 ((X.value % 2^64:Nat):Int)],.agg [.str q.name,.str [109,97,115,107],.int .u64 ((X.mask/2^64:Nat):Int),.int .u64 ((X.mask % 2^64:Nat):Int)]]=ay (aV S.fields keys ms (k+1)):=by
      rw [hkt];simp [ay,ey,cI,cu,hkd,e9,kT,g8,ij,hpres,]
     have hln:(aV S.fields keys ms (k+1)).length=LL.length+2:=by rw [hkt];simp [cI,cu,hkd]
     have c1:(q.kind==1)=false:=by rw [hkd];rfl
     have c2:(q.kind==2)=false:=by rw [hkd];rfl
     have c3:(q.kind==3)=true:=by rw [hkd];rfl
     have c4:(q.kind==4)=false:=by rw [hkd];rfl
     simp only [go_sem,hkg,a9,Int.toNat_natCast,g1,ai g1,g2,ai g2,g3,r1,r2,r3,r4,r5,r6,r7,r8,r9,r10,r11,r12,if_false,d1,ybb,e5,hgm,bQ,dz,vc,yal,yak,List.append_assoc,hpres,c1,c2,c3,c4,hs10,ht10,hle10,av]
     refine ⟨by omega,by omega,⟨by omega,by omega,fun z hz=>by
      rcases List.mem_cons.1 hz with rfl|hz
      ·rfl
      ·rw [List.mem_singleton.1 hz];rfl⟩,(k+1,Hc.set (H.nx+1+1+1+1) (.buf 4 (LL.length+2))),⟨by dsimp only;omega,aX hle (by omega),aa hcc,?_,?_,?_⟩,by dsimp only;omega,?_⟩
     ·dsimp only
      rw [aq,if_neg (by omega)];exact g1
     ·dsimp only
      rw [aq,if_neg (by omega)];exact g2
     ·dsimp only
      rw [aq,if_pos rfl,if_pos nx3,hln]
     ·have hnn:H.nx≤Hc.nx:=by omega
      have hcs:=@aa Hc (H.nx+1+1+1+1) 4 (LL.length+2) hcc
      dsimp only
      try simp only [hrow]
      (simp only [bkq,enterW,aI,ltF,ne_eq,Nat.reduceEqDiff,reduceCtorEq,hcs,hm,aj,hnn];try simp (disch:=first|assumption|omega|(simp;done)|(simp;omega)|(simp only [bt,and_true];first|done|omega|(simp;done))) [↓zmk,beq,ybc,ybd,ybe,ag,wk,wk2,wk1,wkM,wkL,am,ybf,byq,biq,au,hcl,hcs,hm,aj,hnn];try (repeat' (first|assumption|omega|exact True.intro|refine And.intro ?_ ?_|refine af ?_|refine aa ?_|refine ae ?_ ?_|refine ah ?_ ?_|refine ak ?_|exact AHeap.Le.refl _|refine AHeap.Le.push ?_ _|refine AHeap.Le.del ?_ ?_|(simp only [bt,and_true,true_and,hcs,hm,aj,hnn];first|done|omega|(simp;done)))))
    ·skip
     have hrow:ay LL++[.agg [.str q.name,.str [108,111,119],.int .u64 ((X.value/2^64:Nat):Int),.int .u64 ((X.value % 2^64:Nat):Int)],.agg [.str q.name,.str [104,105,103,104],.int .u64 ((X.high/2^64:Nat):Int),.int .u64 ((X.high % 2^64:Nat):Int)]]=ay (aV S.fields keys ms (k+1)):=by
      rw [hkt];simp [ay,ey,cI,cu,hkd,e9,kT,g8,ij,hpres,]
     have hln:(aV S.fields keys ms (k+1)).length=LL.length+2:=by rw [hkt];simp [cI,cu,hkd]
     have c1:(q.kind==1)=false:=by rw [hkd];rfl
     have c2:(q.kind==2)=false:=by rw [hkd];rfl
     have c3:(q.kind==3)=false:=by rw [hkd];rfl
     have c4:(q.kind==4)=true:=by rw [hkd];rfl
     simp only [go_sem,hkg,a9,Int.toNat_natCast,g1,ai g1,g2,ai g2,g3,r1,r2,r3,r4,r5,r6,r7,r8,r9,r10,r11,r12,if_false,d1,ybb,e5,hgm,bQ,dz,vc,yal,yak,List.append_assoc,hpres,c1,c2,c3,c4,hs10,ht10,hle10,av]
     refine ⟨by omega,by omega,⟨by omega,by omega,fun z hz=>by
      rcases List.mem_cons.1 hz with rfl|hz
      ·rfl
      ·rw [List.mem_singleton.1 hz];rfl⟩,(k+1,Hc.set (H.nx+1+1+1+1) (.buf 4 (LL.length+2))),⟨by dsimp only;omega,aX hle (by omega),aa hcc,?_,?_,?_⟩,by dsimp only;omega,?_⟩
     ·dsimp only
      rw [aq,if_neg (by omega)];exact g1
     ·dsimp only
      rw [aq,if_neg (by omega)];exact g2
     ·dsimp only
      rw [aq,if_pos rfl,if_pos nx3,hln]
     ·have hnn:H.nx≤Hc.nx:=by omega
      have hcs:=@aa Hc (H.nx+1+1+1+1) 4 (LL.length+2) hcc
      dsimp only
      try simp only [hrow]
      (simp only [bkq,enterW,aI,ltF,ne_eq,Nat.reduceEqDiff,reduceCtorEq,hcs,hm,aj,hnn];try simp (disch:=first|assumption|omega|(simp;done)|(simp;omega)|(simp only [bt,and_true];first|done|omega|(simp;done))) [↓zmk,beq,ybc,ybd,ybe,ag,wk,wk2,wk1,wkM,wkL,am,ybf,byq,biq,au,hcl,hcs,hm,aj,hnn];try (repeat' (first|assumption|omega|exact True.intro|refine And.intro ?_ ?_|refine af ?_|refine aa ?_|refine ae ?_ ?_|refine ah ?_ ?_|refine ak ?_|exact AHeap.Le.refl _|refine AHeap.Le.push ?_ _|refine AHeap.Le.del ?_ ?_|(simp only [bt,and_true,true_and,hcs,hm,aj,hnn];first|done|omega|(simp;done)))))
    ·skip
     have hrow:aV S.fields keys ms (k+1)=LL:=by rw [hkt];simp [cI,cu,hq1,hq2,hq3,hq4]
     have c1:(q.kind==1)=false:=by simp [hq1]
     have c2:(q.kind==2)=false:=by simp [hq2]
     have c3:(q.kind==3)=false:=by simp [hq3]
     have c4:(q.kind==4)=false:=by simp [hq4]
     simp only [go_sem,hkg,a9,Int.toNat_natCast,g1,ai g1,g2,ai g2,g3,r1,r2,r3,r4,r5,r6,r7,r8,r9,r10,r11,r12,if_false,d1,ybb,e5,hgm,bQ,dz,vc,yal,yak,List.append_assoc,hpres,c1,c2,c3,c4,hs10,ht10,hle10,av]
     refine ⟨by omega,by omega,(k+1,Hc),⟨by dsimp only;omega,hle,hcc,g1,g2,by dsimp only;rw [hrow];exact g3⟩,by dsimp only;omega,?_⟩
     have hnn:H.nx≤Hc.nx:=by omega
     dsimp only
     simp only [hrow]
     (simp only [bkq,enterW,aI,ltF,ne_eq,Nat.reduceEqDiff,reduceCtorEq,hcc,hm,aj,hnn];try simp (disch:=first|assumption|omega|(simp;done)|(simp;omega)|(simp only [bt,and_true];first|done|omega|(simp;done))) [↓zmk,beq,ybc,ybd,ybe,ag,wk,wk2,wk1,wkM,wkL,am,ybf,byq,biq,au,hcl,hcc,hm,aj,hnn];try (repeat' (first|assumption|omega|exact True.intro|refine And.intro ?_ ?_|refine af ?_|refine aa ?_|refine ae ?_ ?_|refine ah ?_ ?_|refine ak ?_|exact AHeap.Le.refl _|refine AHeap.Le.push ?_ _|refine AHeap.Le.del ?_ ?_|(simp only [bt,and_true,true_and,hcc,hm,aj,hnn];first|done|omega|(simp;done)))))
   |false =>
    have hs10:(bO S).length=10:=rfl
    have ht10:(bO S).take 10=bO S:=rfl
    have hle10:(10≤10)=True:=eq_true (Nat.le_refl _)
    rcases (by omega:q.kind=1∨q.kind=2∨q.kind=3∨q.kind=4∨(q.kind≠1∧q.kind≠2∧q.kind≠3∧q.kind≠4)) with hkd|hkd|hkd|hkd|⟨hq1,hq2,hq3,hq4⟩
    ·skip
     have hrow:ay LL++[.agg [.str q.name,.str [],.int .u64 ((X.value/2^64:Nat):Int),.int .u64 ((X.value % 2^64:Nat):Int)],.agg [.str q.name,.str [118,97,108,117,101],.int .u64 ((X.value/2^64:Nat):Int),.int .u64 ((X.value % 2^64:Nat):Int)]]=ay (aV S.fields keys ms (k+1)):=by
      rw [hkt];simp [ay,ey,cI,cu,hkd,e9,kT,g8,ij,hpres,]
     have hln:(aV S.fields keys ms (k+1)).length=LL.length+2:=by rw [hkt];simp [cI,cu,hkd]
     have c1:(q.kind==1)=true:=by rw [hkd];rfl
     have c2:(q.kind==2)=false:=by rw [hkd];rfl
     have c3:(q.kind==3)=false:=by rw [hkd];rfl
     have c4:(q.kind==4)=false:=by rw [hkd];rfl
     simp only [go_sem,hkg,a9,Int.toNat_natCast,g1,ai g1,g2,ai g2,g3,r1,r2,r3,r4,r5,r6,r7,r8,r9,r10,r11,r12,if_false,d1,ybb,e5,hgm,bQ,dz,vc,yal,yak,List.append_assoc,hpres,c1,c2,c3,c4,hs10,ht10,hle10,av]
     refine ⟨by omega,by omega,S,⟨rfl,hS⟩,?_⟩
     simp only [go_sem,hkg,a9,Int.toNat_natCast,g1,ai g1,g2,ai g2,g3,r1,r2,r3,r4,r5,r6,r7,r8,r9,r10,r11,r12,if_false,d1,ybb,e5,c1,c2,c3,c4,eM,vv,av]
     refine ⟨⟨by omega,by omega,fun z hz=>by
      rcases List.mem_cons.1 hz with rfl|hz
      ·rfl
      ·rw [List.mem_singleton.1 hz];rfl⟩,(k+1,Hc.set (H.nx+1+1+1+1) (.buf 4 (LL.length+2))),⟨by dsimp only;omega,aX hle (by omega),aa hcc,?_,?_,?_⟩,by dsimp only;omega,?_⟩
     ·dsimp only
      rw [aq,if_neg (by omega)];exact g1
     ·dsimp only
      rw [aq,if_neg (by omega)];exact g2
     ·dsimp only
      rw [aq,if_pos rfl,if_pos nx3,hln]
     ·have hnn:H.nx≤Hc.nx:=by omega
      have hcs:=@aa Hc (H.nx+1+1+1+1) 4 (LL.length+2) hcc
      dsimp only
      try simp only [hrow]
      (simp only [bkq,enterW,aI,ltF,ne_eq,Nat.reduceEqDiff,reduceCtorEq,hcs,hm,aj,hnn];try simp (disch:=first|assumption|omega|(simp;done)|(simp;omega)|(simp only [bt,and_true];first|done|omega|(simp;done))) [↓zmk,beq,ybc,ybd,ybe,ag,wk,wk2,wk1,wkM,wkL,am,ybf,byq,biq,au,hcl,hcs,hm,aj,hnn];try (repeat' (first|assumption|omega|exact True.intro|refine And.intro ?_ ?_|refine af ?_|refine aa ?_|refine ae ?_ ?_|refine ah ?_ ?_|refine ak ?_|exact AHeap.Le.refl _|refine AHeap.Le.push ?_ _|refine AHeap.Le.del ?_ ?_|(simp only [bt,and_true,true_and,hcs,hm,aj,hnn];first|done|omega|(simp;done)))))
    ·skip
     have hrow:ay LL++[.agg [.str q.name,.str [118,97,108,117,101],.int .u64 ((X.value/2^64:Nat):Int),.int .u64 ((X.value % 2^64:Nat):Int)],.agg [.str q.name,.str [112,114,101,102,105,120,95,108,101,110,103,116,104],.int .u64 ((X.pfx.toNat/2^64:Nat):Int),.int .u64 ((X.pfx.toNat % 2^64:Nat):Int)]]=ay (aV S.fields keys ms (k+1)):=by
      rw [hkt];simp [ay,ey,cI,cu,hkd,e9,kT,g8,ij,hpres,]
     have hln:(aV S.fields keys ms (k+1)).length=LL.length+2:=by rw [hkt];simp [cI,cu,hkd]
     have c1:(q.kind==1)=false:=by rw [hkd];rfl
     have c2:(q.kind==2)=true:=by rw [hkd];rfl
     have c3:(q.kind==3)=false:=by rw [hkd];rfl
     have c4:(q.kind==4)=false:=by rw [hkd];rfl
     simp only [go_sem,hkg,a9,Int.toNat_natCast,g1,ai g1,g2,ai g2,g3,r1,r2,r3,r4,r5,r6,r7,r8,r9,r10,r11,r12,if_false,d1,ybb,e5,hgm,bQ,dz,vc,yal,yak,List.append_assoc,hpres,c1,c2,c3,c4,hs10,ht10,hle10,av]
     refine ⟨by omega,by omega,S,⟨rfl,hS⟩,?_⟩
     simp only [go_sem,hkg,a9,Int.toNat_natCast,g1,ai g1,g2,ai g2,g3,r1,r2,r3,r4,r5,r6,r7,r8,r9,r10,r11,r12,if_false,d1,ybb,e5,c1,c2,c3,c4,eM,vv,av]
     refine ⟨hXp,?_⟩
     simp only [go_sem,hkg,a9,Int.toNat_natCast,g1,ai g1,g2,ai g2,g3,r1,r2,r3,r4,r5,r6,r7,r8,r9,r10,r11,r12,if_false,d1,ybb,e5,c1,c2,c3,c4,vv,av]
     refine ⟨⟨by omega,by omega,fun z hz=>by
      rcases List.mem_cons.1 hz with rfl|hz
      ·rfl
      ·rw [List.mem_singleton.1 hz];rfl⟩,(k+1,Hc.set (H.nx+1+1+1+1) (.buf 4 (LL.length+2))),⟨by dsimp only;omega,aX hle (by omega),aa hcc,?_,?_,?_⟩,by dsimp only;omega,?_⟩
     ·dsimp only
      rw [aq,if_neg (by omega)];exact g1
     ·dsimp only
      rw [aq,if_neg (by omega)];exact g2
     ·dsimp only
      rw [aq,if_pos rfl,if_pos nx3,hln]
     ·have hnn:H.nx≤Hc.nx:=by omega
      have hcs:=@aa Hc (H.nx+1+1+1+1) 4 (LL.length+2) hcc
      dsimp only
      try simp only [hrow]
      (simp only [bkq,enterW,aI,ltF,ne_eq,Nat.reduceEqDiff,reduceCtorEq,hcs,hm,aj,hnn];try simp (disch:=first|assumption|omega|(simp;done)|(simp;omega)|(simp only [bt,and_true];first|done|omega|(simp;done))) [↓zmk,beq,ybc,ybd,ybe,ag,wk,wk2,wk1,wkM,wkL,am,ybf,byq,biq,au,hcl,hcs,hm,aj,hnn];try (repeat' (first|assumption|omega|exact True.intro|refine And.intro ?_ ?_|refine af ?_|refine aa ?_|refine ae ?_ ?_|refine ah ?_ ?_|refine ak ?_|exact AHeap.Le.refl _|refine AHeap.Le.push ?_ _|refine AHeap.Le.del ?_ ?_|(simp only [bt,and_true,true_and,hcs,hm,aj,hnn];first|done|omega|(simp;done)))))
    ·skip
     have hrow:ay LL++[.agg [.str q.name,.str [118,97,108,117,101],.int .u64 ((X.value/2^64:Nat):Int),.int .u64 ((X.value % 2^64:Nat):Int)],.agg [.str q.name,.str [109,97,115,107],.int .u64 ((X.mask/2^64:Nat):Int),.int .u64 ((X.mask % 2^64:Nat):Int)]]=ay (aV S.fields keys ms (k+1)):=by
      rw [hkt];simp [ay,ey,cI,cu,hkd,e9,kT,g8,ij,hpres,]
     have hln:(aV S.fields keys ms (k+1)).length=LL.length+2:=by rw [hkt];simp [cI,cu,hkd]
     have c1:(q.kind==1)=false:=by rw [hkd];rfl
     have c2:(q.kind==2)=false:=by rw [hkd];rfl
     have c3:(q.kind==3)=true:=by rw [hkd];rfl
     have c4:(q.kind==4)=false:=by rw [hkd];rfl
     simp only [go_sem,hkg,a9,Int.toNat_natCast,g1,ai g1,g2,ai g2,g3,r1,r2,r3,r4,r5,r6,r7,r8,r9,r10,r11,r12,if_false,d1,ybb,e5,hgm,bQ,dz,vc,yal,yak,List.append_assoc,hpres,c1,c2,c3,c4,hs10,ht10,hle10,av]
     refine ⟨by omega,by omega,S,⟨rfl,hS⟩,?_⟩
     simp only [go_sem,hkg,a9,Int.toNat_natCast,g1,ai g1,g2,ai g2,g3,r1,r2,r3,r4,r5,r6,r7,r8,r9,r10,r11,r12,if_false,d1,ybb,e5,c1,c2,c3,c4,eM,vv,av]
     refine ⟨⟨by omega,by omega,fun z hz=>by
      rcases List.mem_cons.1 hz with rfl|hz
      ·rfl
      ·rw [List.mem_singleton.1 hz];rfl⟩,(k+1,Hc.set (H.nx+1+1+1+1) (.buf 4 (LL.length+2))),⟨by dsimp only;omega,aX hle (by omega),aa hcc,?_,?_,?_⟩,by dsimp only;omega,?_⟩
     ·dsimp only
      rw [aq,if_neg (by omega)];exact g1
     ·dsimp only
      rw [aq,if_neg (by omega)];exact g2
     ·dsimp only
      rw [aq,if_pos rfl,if_pos nx3,hln]
     ·have hnn:H.nx≤Hc.nx:=by omega
      have hcs:=@aa Hc (H.nx+1+1+1+1) 4 (LL.length+2) hcc
      dsimp only
      try simp only [hrow]
      (simp only [bkq,enterW,aI,ltF,ne_eq,Nat.reduceEqDiff,reduceCtorEq,hcs,hm,aj,hnn];try simp (disch:=first|assumption|omega|(simp;done)|(simp;omega)|(simp only [bt,and_true];first|done|omega|(simp;done))) [↓zmk,beq,ybc,ybd,ybe,ag,wk,wk2,wk1,wkM,wkL,am,ybf,byq,biq,au,hcl,hcs,hm,aj,hnn];try (repeat' (first|assumption|omega|exact True.intro|refine And.intro ?_ ?_|refine af ?_|refine aa ?_|refine ae ?_ ?_|refine ah ?_ ?_|refine ak ?_|exact AHeap.Le.refl _|refine AHeap.Le.push ?_ _|refine AHeap.Le.del ?_ ?_|(simp only [bt,and_true,true_and,hcs,hm,aj,hnn];first|done|omega|(simp;done)))))
    ·skip
     have hrow:ay LL++[.agg [.str q.name,.str [108,111,119],.int .u64 ((X.value/2^64:Nat):Int),.int .u64 ((X.value % 2^64:Nat):Int)],.agg [.str q.name,.str [104,105,103,104],.int .u64 ((gQ (gl S.fields q.field)/2^64:Nat):Int),.int .u64 ((gQ (gl S.fields q.field) % 2^64:Nat):Int)]]=ay (aV S.fields keys ms (k+1)):=by
      rw [hkt];simp [ay,ey,cI,cu,hkd,e9,kT,g8,ij,hpres,]
     have hln:(aV S.fields keys ms (k+1)).length=LL.length+2:=by rw [hkt];simp [cI,cu,hkd]
     have c1:(q.kind==1)=false:=by rw [hkd];rfl
     have c2:(q.kind==2)=false:=by rw [hkd];rfl
     have c3:(q.kind==3)=false:=by rw [hkd];rfl
     have c4:(q.kind==4)=true:=by rw [hkd];rfl
     simp only [go_sem,hkg,a9,Int.toNat_natCast,g1,ai g1,g2,ai g2,g3,r1,r2,r3,r4,r5,r6,r7,r8,r9,r10,r11,r12,if_false,d1,ybb,e5,hgm,bQ,dz,vc,yal,yak,List.append_assoc,hpres,c1,c2,c3,c4,hs10,ht10,hle10,av]
     refine ⟨by omega,by omega,S,⟨rfl,hS⟩,?_⟩
     simp only [go_sem,hkg,a9,Int.toNat_natCast,g1,ai g1,g2,ai g2,g3,r1,r2,r3,r4,r5,r6,r7,r8,r9,r10,r11,r12,if_false,d1,ybb,e5,c1,c2,c3,c4,eM,vv,av]
     refine ⟨⟨by omega,by omega,fun z hz=>by
      rcases List.mem_cons.1 hz with rfl|hz
      ·rfl
      ·rw [List.mem_singleton.1 hz];rfl⟩,(k+1,Hc.set (H.nx+1+1+1+1) (.buf 4 (LL.length+2))),⟨by dsimp only;omega,aX hle (by omega),aa hcc,?_,?_,?_⟩,by dsimp only;omega,?_⟩
     ·dsimp only
      rw [aq,if_neg (by omega)];exact g1
     ·dsimp only
      rw [aq,if_neg (by omega)];exact g2
     ·dsimp only
      rw [aq,if_pos rfl,if_pos nx3,hln]
     ·have hnn:H.nx≤Hc.nx:=by omega
      have hcs:=@aa Hc (H.nx+1+1+1+1) 4 (LL.length+2) hcc
      dsimp only
      try simp only [hrow]
      (simp only [bkq,enterW,aI,ltF,ne_eq,Nat.reduceEqDiff,reduceCtorEq,hcs,hm,aj,hnn];try simp (disch:=first|assumption|omega|(simp;done)|(simp;omega)|(simp only [bt,and_true];first|done|omega|(simp;done))) [↓zmk,beq,ybc,ybd,ybe,ag,wk,wk2,wk1,wkM,wkL,am,ybf,byq,biq,au,hcl,hcs,hm,aj,hnn];try (repeat' (first|assumption|omega|exact True.intro|refine And.intro ?_ ?_|refine af ?_|refine aa ?_|refine ae ?_ ?_|refine ah ?_ ?_|refine ak ?_|exact AHeap.Le.refl _|refine AHeap.Le.push ?_ _|refine AHeap.Le.del ?_ ?_|(simp only [bt,and_true,true_and,hcs,hm,aj,hnn];first|done|omega|(simp;done)))))
    ·skip
     have hrow:aV S.fields keys ms (k+1)=LL:=by rw [hkt];simp [cI,cu,hq1,hq2,hq3,hq4]
     have c1:(q.kind==1)=false:=by simp [hq1]
     have c2:(q.kind==2)=false:=by simp [hq2]
     have c3:(q.kind==3)=false:=by simp [hq3]
     have c4:(q.kind==4)=false:=by simp [hq4]
     simp only [go_sem,hkg,a9,Int.toNat_natCast,g1,ai g1,g2,ai g2,g3,r1,r2,r3,r4,r5,r6,r7,r8,r9,r10,r11,r12,if_false,d1,ybb,e5,hgm,bQ,dz,vc,yal,yak,List.append_assoc,hpres,c1,c2,c3,c4,hs10,ht10,hle10,av]
     refine ⟨by omega,by omega,S,⟨rfl,hS⟩,?_⟩
     simp only [go_sem,hkg,a9,Int.toNat_natCast,g1,ai g1,g2,ai g2,g3,r1,r2,r3,r4,r5,r6,r7,r8,r9,r10,r11,r12,if_false,d1,ybb,e5,c1,c2,c3,c4,eM,vv,av]
     refine ⟨(k+1,Hc),⟨by dsimp only;omega,hle,hcc,g1,g2,by dsimp only;rw [hrow];exact g3⟩,by dsimp only;omega,?_⟩
     have hnn:H.nx≤Hc.nx:=by omega
     dsimp only
     simp only [hrow]
     (simp only [bkq,enterW,aI,ltF,ne_eq,Nat.reduceEqDiff,reduceCtorEq,hcc,hm,aj,hnn];try simp (disch:=first|assumption|omega|(simp;done)|(simp;omega)|(simp only [bt,and_true];first|done|omega|(simp;done))) [↓zmk,beq,ybc,ybd,ybe,ag,wk,wk2,wk1,wkM,wkL,am,ybf,byq,biq,au,hcl,hcc,hm,aj,hnn];try (repeat' (first|assumption|omega|exact True.intro|refine And.intro ?_ ?_|refine af ?_|refine aa ?_|refine ae ?_ ?_|refine ah ?_ ?_|refine ak ?_|exact AHeap.Le.refl _|refine AHeap.Le.push ?_ _|refine AHeap.Le.del ?_ ?_|(simp only [bt,and_true,true_and,hcc,hm,aj,hnn];first|done|omega|(simp;done)))))
  ·have d1:decide ((k:Int)<(ms.length:Int))=false:=decide_eq_false (by omega)
   have hkt:=hkt cK (by simp only [List.getD_eq_getElem?_getD,List.getElem?_eq_none (show ms.length≤k by omega),Option.getD_none])
   have hs10:(bO S).length=10:=rfl
   have ht10:(bO S).take 10=bO S:=rfl
   have hle10:(10≤10)=True:=eq_true (Nat.le_refl _)
   rcases (by omega:q.kind=1∨q.kind=2∨q.kind=3∨q.kind=4∨(q.kind≠1∧q.kind≠2∧q.kind≠3∧q.kind≠4)) with hkd|hkd|hkd|hkd|⟨hq1,hq2,hq3,hq4⟩
   ·skip
    have hrow:ay LL++[.agg [.str q.name,.str [],.int .u64 0,.int .u64 0],.agg [.str q.name,.str [118,97,108,117,101],.int .u64 0,.int .u64 0]]=ay (aV S.fields keys ms (k+1)):=by
     rw [hkt];simp [ay,ey,cI,cu,hkd,e9,kT,g8,ij,cK,]
    have hln:(aV S.fields keys ms (k+1)).length=LL.length+2:=by rw [hkt];simp [cI,cu,hkd]
    have c1:(q.kind==1)=true:=by rw [hkd];rfl
    have c2:(q.kind==2)=false:=by rw [hkd];rfl
    have c3:(q.kind==3)=false:=by rw [hkd];rfl
    have c4:(q.kind==4)=false:=by rw [hkd];rfl
    simp only [go_sem,hkg,a9,Int.toNat_natCast,g1,ai g1,g2,ai g2,g3,r1,r2,r3,r4,r5,r6,r7,r8,r9,r10,r11,r12,if_false,d1,ybb,e5,c1,c2,c3,c4,hs10,ht10,hle10,av]
    refine ⟨by omega,S,⟨rfl,hS⟩,?_⟩
    simp only [go_sem,hkg,a9,Int.toNat_natCast,g1,ai g1,g2,ai g2,g3,r1,r2,r3,r4,r5,r6,r7,r8,r9,r10,r11,r12,if_false,d1,ybb,e5,c1,c2,c3,c4,eM,vv,av]
    refine ⟨⟨by omega,by omega,fun z hz=>by
     rcases List.mem_cons.1 hz with rfl|hz
     ·rfl
     ·rw [List.mem_singleton.1 hz];rfl⟩,(k+1,Hc.set (H.nx+1+1+1+1) (.buf 4 (LL.length+2))),⟨by dsimp only;omega,aX hle (by omega),aa hcc,?_,?_,?_⟩,by dsimp only;omega,?_⟩
    ·dsimp only
     rw [aq,if_neg (by omega)];exact g1
    ·dsimp only
     rw [aq,if_neg (by omega)];exact g2
    ·dsimp only
     rw [aq,if_pos rfl,if_pos nx3,hln]
    ·have hnn:H.nx≤Hc.nx:=by omega
     have hcs:=@aa Hc (H.nx+1+1+1+1) 4 (LL.length+2) hcc
     dsimp only
     try simp only [hrow]
     (simp only [bkq,enterW,aI,ltF,ne_eq,Nat.reduceEqDiff,reduceCtorEq,hcs,hm,aj,hnn];try simp (disch:=first|assumption|omega|(simp;done)|(simp;omega)|(simp only [bt,and_true];first|done|omega|(simp;done))) [↓zmk,beq,ybc,ybd,ybe,ag,wk,wk2,wk1,wkM,wkL,am,ybf,byq,biq,au,hcl,hcs,hm,aj,hnn];try (repeat' (first|assumption|omega|exact True.intro|refine And.intro ?_ ?_|refine af ?_|refine aa ?_|refine ae ?_ ?_|refine ah ?_ ?_|refine ak ?_|exact AHeap.Le.refl _|refine AHeap.Le.push ?_ _|refine AHeap.Le.del ?_ ?_|(simp only [bt,and_true,true_and,hcs,hm,aj,hnn];first|done|omega|(simp;done)))))
   ·skip
    have hrow:ay LL++[.agg [.str q.name,.str [118,97,108,117,101],.int .u64 0,.int .u64 0],.agg [.str q.name,.str [112,114,101,102,105,120,95,108,101,110,103,116,104],.int .u64 (((0:Int).toNat/2^64:Nat):Int),.int .u64 (((0:Int).toNat % 2^64:Nat):Int)]]=ay (aV S.fields keys ms (k+1)):=by
     rw [hkt];simp [ay,ey,cI,cu,hkd,e9,kT,g8,ij,cK,]
    have hln:(aV S.fields keys ms (k+1)).length=LL.length+2:=by rw [hkt];simp [cI,cu,hkd]
    have c1:(q.kind==1)=false:=by rw [hkd];rfl
    have c2:(q.kind==2)=true:=by rw [hkd];rfl
    have c3:(q.kind==3)=false:=by rw [hkd];rfl
    have c4:(q.kind==4)=false:=by rw [hkd];rfl
    simp only [go_sem,hkg,a9,Int.toNat_natCast,g1,ai g1,g2,ai g2,g3,r1,r2,r3,r4,r5,r6,r7,r8,r9,r10,r11,r12,if_false,d1,ybb,e5,c1,c2,c3,c4,hs10,ht10,hle10,av]
    refine ⟨by omega,S,⟨rfl,hS⟩,?_⟩
    simp only [go_sem,hkg,a9,Int.toNat_natCast,g1,ai g1,g2,ai g2,g3,r1,r2,r3,r4,r5,r6,r7,r8,r9,r10,r11,r12,if_false,d1,ybb,e5,c1,c2,c3,c4,eM,vv,av]
    refine ⟨by decide,?_⟩
    simp only [go_sem,hkg,a9,Int.toNat_natCast,g1,ai g1,g2,ai g2,g3,r1,r2,r3,r4,r5,r6,r7,r8,r9,r10,r11,r12,if_false,d1,ybb,e5,c1,c2,c3,c4,vv,av]
    refine ⟨⟨by omega,by omega,fun z hz=>by
     rcases List.mem_cons.1 hz with rfl|hz
     ·rfl
     ·rw [List.mem_singleton.1 hz];rfl⟩,(k+1,Hc.set (H.nx+1+1+1+1) (.buf 4 (LL.length+2))),⟨by dsimp only;omega,aX hle (by omega),aa hcc,?_,?_,?_⟩,by dsimp only;omega,?_⟩
    ·dsimp only
     rw [aq,if_neg (by omega)];exact g1
    ·dsimp only
     rw [aq,if_neg (by omega)];exact g2
    ·dsimp only
     rw [aq,if_pos rfl,if_pos nx3,hln]
    ·have hnn:H.nx≤Hc.nx:=by omega
     have hcs:=@aa Hc (H.nx+1+1+1+1) 4 (LL.length+2) hcc
     dsimp only
     try simp only [hrow]
     (simp only [bkq,enterW,aI,ltF,ne_eq,Nat.reduceEqDiff,reduceCtorEq,hcs,hm,aj,hnn];try simp (disch:=first|assumption|omega|(simp;done)|(simp;omega)|(simp only [bt,and_true];first|done|omega|(simp;done))) [↓zmk,beq,ybc,ybd,ybe,ag,wk,wk2,wk1,wkM,wkL,am,ybf,byq,biq,au,hcl,hcs,hm,aj,hnn];try (repeat' (first|assumption|omega|exact True.intro|refine And.intro ?_ ?_|refine af ?_|refine aa ?_|refine ae ?_ ?_|refine ah ?_ ?_|refine ak ?_|exact AHeap.Le.refl _|refine AHeap.Le.push ?_ _|refine AHeap.Le.del ?_ ?_|(simp only [bt,and_true,true_and,hcs,hm,aj,hnn];first|done|omega|(simp;done)))))
   ·skip
    have hrow:ay LL++[.agg [.str q.name,.str [118,97,108,117,101],.int .u64 0,.int .u64 0],.agg [.str q.name,.str [109,97,115,107],.int .u64 0,.int .u64 0]]=ay (aV S.fields keys ms (k+1)):=by
     rw [hkt];simp [ay,ey,cI,cu,hkd,e9,kT,g8,ij,cK,]
    have hln:(aV S.fields keys ms (k+1)).length=LL.length+2:=by rw [hkt];simp [cI,cu,hkd]
    have c1:(q.kind==1)=false:=by rw [hkd];rfl
    have c2:(q.kind==2)=false:=by rw [hkd];rfl
    have c3:(q.kind==3)=true:=by rw [hkd];rfl
    have c4:(q.kind==4)=false:=by rw [hkd];rfl
    simp only [go_sem,hkg,a9,Int.toNat_natCast,g1,ai g1,g2,ai g2,g3,r1,r2,r3,r4,r5,r6,r7,r8,r9,r10,r11,r12,if_false,d1,ybb,e5,c1,c2,c3,c4,hs10,ht10,hle10,av]
    refine ⟨by omega,S,⟨rfl,hS⟩,?_⟩
    simp only [go_sem,hkg,a9,Int.toNat_natCast,g1,ai g1,g2,ai g2,g3,r1,r2,r3,r4,r5,r6,r7,r8,r9,r10,r11,r12,if_false,d1,ybb,e5,c1,c2,c3,c4,eM,vv,av]
    refine ⟨⟨by omega,by omega,fun z hz=>by
     rcases List.mem_cons.1 hz with rfl|hz
     ·rfl
     ·rw [List.mem_singleton.1 hz];rfl⟩,(k+1,Hc.set (H.nx+1+1+1+1) (.buf 4 (LL.length+2))),⟨by dsimp only;omega,aX hle (by omega),aa hcc,?_,?_,?_⟩,by dsimp only;omega,?_⟩
    ·dsimp only
     rw [aq,if_neg (by omega)];exact g1
    ·dsimp only
     rw [aq,if_neg (by omega)];exact g2
    ·dsimp only
     rw [aq,if_pos rfl,if_pos nx3,hln]
    ·have hnn:H.nx≤Hc.nx:=by omega
     have hcs:=@aa Hc (H.nx+1+1+1+1) 4 (LL.length+2) hcc
     dsimp only
     try simp only [hrow]
     (simp only [bkq,enterW,aI,ltF,ne_eq,Nat.reduceEqDiff,reduceCtorEq,hcs,hm,aj,hnn];try simp (disch:=first|assumption|omega|(simp;done)|(simp;omega)|(simp only [bt,and_true];first|done|omega|(simp;done))) [↓zmk,beq,ybc,ybd,ybe,ag,wk,wk2,wk1,wkM,wkL,am,ybf,byq,biq,au,hcl,hcs,hm,aj,hnn];try (repeat' (first|assumption|omega|exact True.intro|refine And.intro ?_ ?_|refine af ?_|refine aa ?_|refine ae ?_ ?_|refine ah ?_ ?_|refine ak ?_|exact AHeap.Le.refl _|refine AHeap.Le.push ?_ _|refine AHeap.Le.del ?_ ?_|(simp only [bt,and_true,true_and,hcs,hm,aj,hnn];first|done|omega|(simp;done)))))
   ·skip
    have hrow:ay LL++[.agg [.str q.name,.str [108,111,119],.int .u64 0,.int .u64 0],.agg [.str q.name,.str [104,105,103,104],.int .u64 ((gQ (gl S.fields q.field)/2^64:Nat):Int),.int .u64 ((gQ (gl S.fields q.field) % 2^64:Nat):Int)]]=ay (aV S.fields keys ms (k+1)):=by
     rw [hkt];simp [ay,ey,cI,cu,hkd,e9,kT,g8,ij,cK,]
    have hln:(aV S.fields keys ms (k+1)).length=LL.length+2:=by rw [hkt];simp [cI,cu,hkd]
    have c1:(q.kind==1)=false:=by rw [hkd];rfl
    have c2:(q.kind==2)=false:=by rw [hkd];rfl
    have c3:(q.kind==3)=false:=by rw [hkd];rfl
    have c4:(q.kind==4)=true:=by rw [hkd];rfl
    simp only [go_sem,hkg,a9,Int.toNat_natCast,g1,ai g1,g2,ai g2,g3,r1,r2,r3,r4,r5,r6,r7,r8,r9,r10,r11,r12,if_false,d1,ybb,e5,c1,c2,c3,c4,hs10,ht10,hle10,av]
    refine ⟨by omega,S,⟨rfl,hS⟩,?_⟩
    simp only [go_sem,hkg,a9,Int.toNat_natCast,g1,ai g1,g2,ai g2,g3,r1,r2,r3,r4,r5,r6,r7,r8,r9,r10,r11,r12,if_false,d1,ybb,e5,c1,c2,c3,c4,eM,vv,av]
    refine ⟨⟨by omega,by omega,fun z hz=>by
     rcases List.mem_cons.1 hz with rfl|hz
     ·rfl
     ·rw [List.mem_singleton.1 hz];rfl⟩,(k+1,Hc.set (H.nx+1+1+1+1) (.buf 4 (LL.length+2))),⟨by dsimp only;omega,aX hle (by omega),aa hcc,?_,?_,?_⟩,by dsimp only;omega,?_⟩
    ·dsimp only
     rw [aq,if_neg (by omega)];exact g1
    ·dsimp only
     rw [aq,if_neg (by omega)];exact g2
    ·dsimp only
     rw [aq,if_pos rfl,if_pos nx3,hln]
    ·have hnn:H.nx≤Hc.nx:=by omega
     have hcs:=@aa Hc (H.nx+1+1+1+1) 4 (LL.length+2) hcc
     dsimp only
     try simp only [hrow]
     (simp only [bkq,enterW,aI,ltF,ne_eq,Nat.reduceEqDiff,reduceCtorEq,hcs,hm,aj,hnn];try simp (disch:=first|assumption|omega|(simp;done)|(simp;omega)|(simp only [bt,and_true];first|done|omega|(simp;done))) [↓zmk,beq,ybc,ybd,ybe,ag,wk,wk2,wk1,wkM,wkL,am,ybf,byq,biq,au,hcl,hcs,hm,aj,hnn];try (repeat' (first|assumption|omega|exact True.intro|refine And.intro ?_ ?_|refine af ?_|refine aa ?_|refine ae ?_ ?_|refine ah ?_ ?_|refine ak ?_|exact AHeap.Le.refl _|refine AHeap.Le.push ?_ _|refine AHeap.Le.del ?_ ?_|(simp only [bt,and_true,true_and,hcs,hm,aj,hnn];first|done|omega|(simp;done)))))
   ·skip
    have hrow:aV S.fields keys ms (k+1)=LL:=by rw [hkt];simp [cI,cu,hq1,hq2,hq3,hq4]
    have c1:(q.kind==1)=false:=by simp [hq1]
    have c2:(q.kind==2)=false:=by simp [hq2]
    have c3:(q.kind==3)=false:=by simp [hq3]
    have c4:(q.kind==4)=false:=by simp [hq4]
    simp only [go_sem,hkg,a9,Int.toNat_natCast,g1,ai g1,g2,ai g2,g3,r1,r2,r3,r4,r5,r6,r7,r8,r9,r10,r11,r12,if_false,d1,ybb,e5,c1,c2,c3,c4,hs10,ht10,hle10,av]
    refine ⟨by omega,S,⟨rfl,hS⟩,?_⟩
    simp only [go_sem,hkg,a9,Int.toNat_natCast,g1,ai g1,g2,ai g2,g3,r1,r2,r3,r4,r5,r6,r7,r8,r9,r10,r11,r12,if_false,d1,ybb,e5,c1,c2,c3,c4,eM,vv,av]
    refine ⟨(k+1,Hc),⟨by dsimp only;omega,hle,hcc,g1,g2,by dsimp only;rw [hrow];exact g3⟩,by dsimp only;omega,?_⟩
    have hnn:H.nx≤Hc.nx:=by omega
    dsimp only
    simp only [hrow]
    (simp only [bkq,enterW,aI,ltF,ne_eq,Nat.reduceEqDiff,reduceCtorEq,hcc,hm,aj,hnn];try simp (disch:=first|assumption|omega|(simp;done)|(simp;omega)|(simp only [bt,and_true];first|done|omega|(simp;done))) [↓zmk,beq,ybc,ybd,ybe,ag,wk,wk2,wk1,wkM,wkL,am,ybf,byq,biq,au,hcl,hcc,hm,aj,hnn];try (repeat' (first|assumption|omega|exact True.intro|refine And.intro ?_ ?_|refine af ?_|refine aa ?_|refine ae ?_ ?_|refine ah ?_ ?_|refine ak ?_|exact AHeap.Le.refl _|refine AHeap.Le.push ?_ _|refine AHeap.Le.del ?_ ?_|(simp only [bt,and_true,true_and,hcc,hm,aj,hnn];first|done|omega|(simp;done)))))
 ·have hk1:k=keys.length:=by simp at hc;omega
  subst hk1
  have hbl:=@d8 S.fields keys ms keys.length
  simp only [go_sem,g2,ai g2,g3,uk,av,vv]
  refine ⟨hpr,?_⟩
  have n6:(H.nx+1+1+1+1=Hc.nx)=False:=eq_false (by omega)
  have hsn:=eo (l:=aV S.fields keys ms keys.length) (a:=[112,114,105,111,114,105,116,121]) (b:=[]) (v:=pr.toNat)
  have htb:ju S.fields keys ms pr=aV S.fields keys ms keys.length++[(([112,114,105,111,114,105,116,121],[]),pr.toNat)]:=rfl
  rw [htb]
  generalize aV S.fields keys ms keys.length=G at *
  simp only [n6,if_false]
  refine ⟨⟨trivial,by omega,by omega,fun z hz=>by rw [List.mem_singleton.1 hz];rfl⟩,?_⟩
  rw [hsn]
  have hle3:=(aX hle (show H.nx≤(H.nx+1+1+1+1) by omega) (o:=.buf 4 (G.length+1))).push (.buf 4 1)
  simp (disch:=first|assumption|omega|(simp;done)|(simp;omega)|(simp only [bt,and_true];first|done|omega|(simp;done))) [↓zmk,beq,ybc,ybd,ybe,ag,wk,wk2,wk1,wkM,wkL,am,ybf,hcl,hle3,aj]
end Go.AL
