/- Contracts and plain laws, a part of the proof; no condition of its own. -/
import Derived.Test.YtiiiljghmilepaaS08n
import Derived.Test.YtiiiljghmilepaaS08k
open List renaming length_cons → yaz, length_nil → yba, take_of_length_le → ybc, drop_append → ybd, take_append → ybe, drop_eq_nil_of_le → ybf, take_succ_cons → yaq, take_zero → yar, drop_succ_cons → yao, drop_zero → yap, length_map → ybb
open Go Go.AL Go.Proofs
namespace Go.AL
set_option linter.all false
set_option maxRecDepth 10000
theorem w6 {b:List UInt8} {K:List UInt8→Nat→Prop} (hb:b.length≤1000000):onC (some (.cells [.slice .any 1 (bys b),.int .i64 0])) K=K b 0:=by
 have:=aS (v:=0) (K:=K) hb
 unfold cu at this
 simpa using this
theorem wC {n:Nat} (S:Sch):ltL n (po S):=by
 have:=@wg n S
 unfold lu at this
 rwa [znl] at this
def kM:List AV→AHeap→(AV→Prop)→Prop
 |[.agg [_,_,.slice _ 3 x,_,_,_,_,_],.agg [_,_,.slice _ 2 y,_,_],.slice _ 1 l],_,K=>((∃ keys:List SKey,x=keys.map bS)∧(∃ ps:List SParam,y=ps.map bv)∧isB l)∧K (.bool true)
 |_,_,_=>False
set_option maxHeartbeats 8000000 in
theorem ok_TypesVars:EntOk Try.prog 6 (Ent.pure kM):=by
 refine EntOk.pure fun args H K h=>?_
 unfold kM at h
 split at h
 rotate_left
 ·exact h.elim
 rename_i a1 a2 m x a3 a4 a5 a6 a7 c1 c2 m2 y c3 c4 m3 l
 obtain ⟨⟨⟨keys,rfl⟩,⟨ps,rfl⟩,hB⟩,hK⟩:=h
 obtain ⟨b,rfl⟩:=rp hB
 clear hB
 refine ⟨_,hK,?_⟩
 clear hK
 obtain ⟨B1,hB1⟩:∃ B1,b.take (min (b.length:Int) 120).toNat=B1:=⟨_,rfl⟩
 have hL1:B1.length≤1000000:=by rw [← hB1,List.length_take];omega
 have hST:(dw B1 0).1.tables=bC B1 (cp (a9 B1 (cp 0 2)).2 4):=rfl
 have hSA:(dw B1 0).1.actions=bN B1 (a9 B1 (cp 0 2)).2:=rfl
 have hto:=tm B1 (cp (a9 B1 (cp 0 2)).2 4)
 have hao:=sX B1 (a9 B1 (cp 0 2)).2
 have htl:(dw B1 0).1.tables.length=4:=by rw [hST];rfl
 have hal:(dw B1 0).1.actions.length=6:=by rw [hSA];rfl
 rw [← hST] at hto
 rw [← hSA] at hao
 clear hST hSA
 generalize hS:dw B1 0=SS at *
 obtain ⟨S,w1⟩:=SS
 dsimp only at hto hao htl hal
 have hSch:kg=eG fun b v=>(lu (dw b v).1,(dw b v).2):=rfl
 refine ACalls.fW aE (TblOk.cons i9 (TblOk.cons my (TblOk.cons wb (TblOk.cons mi (TblOk.cons lB (TblOk.cons qF (TblOk.cons xl (TblOk.cons q8 TblOk.nil)))))))) Try.func6 [.tmp 6] (Nat.le_refl _) (T:=ax [(1,[[],[],[],[],[],[],[],[],[],[],[],[],[1,6,11],[],[1,6,11,12,13],[1,6,11,12,13,14],[],[],[],[12,14,15],[1,6,11,12,13,14,15,19],[12,14,15],[1,6,11,12,13,14,15,19,20,21],[1,6,11,12,13,14,15,19,20,21,22]]),(7,[[],[0],[],[0,1,2],[0,1,2,3]]),(13,[[],[0],[],[0,1,2],[0,1,2,3]])]) (h:=fun hcl hlt=>?_)
 have hx1:=AV.lt_mono (Nat.le_succ H.nx) _ (hlt (.agg [a1,a2,.slice m 3 (keys.map bS),a3,a4,a5,a6,a7]) (by simp))
 have hx2:=AV.lt_mono (show H.nx≤H.nx+1+1 by omega) _ (hlt (.agg [c1,c2,.slice m2 2 (ps.map bv),c3,c4]) (by simp))
 simp only [znl] at hx1 hx2
 clear hlt
 by_cases h1:20<keys.length
 ·have d1:decide ((keys.length:Int) > 20)=true:=by simp;omega
  simp only [go_sem,c6,d1,fZ]
  simp (disch:=first|assumption|omega|(simp;done)|(simp;omega)|(simp only [bt,and_true];first|done|omega|(simp;done))) [↓zmi,beq,ybc,ybd,ybe,ag,wk,wk2,wk1,wkM,wkL,ak,ybf,hcl]
 have d1:decide ((keys.length:Int) > 20)=false:=by simp;omega
 by_cases h2:20<ps.length
 ·have d2:decide ((ps.length:Int) > 20)=true:=by simp;omega
  simp only [go_sem,c6,eA,d1,d2,fZ]
  simp (disch:=first|assumption|omega|(simp;done)|(simp;omega)|(simp only [bt,and_true];first|done|omega|(simp;done))) [↓zmi,beq,ybc,ybd,ybe,ag,wk,wk2,wk1,wkM,wkL,ak,ybf,hcl]
 have d2:decide ((ps.length:Int) > 20)=false:=by simp;omega
 simp only [go_sem,c6,eA,d1,d2,d8]
 refine ⟨keys,⟨rfl,by omega⟩,?_⟩
 simp only [co,cl,gB,bhq,Nat.reduceMod,Nat.reduceDiv,aW,aX,aZ,bO,a8,bM,bG,bJ,bK,yaq,yar,yao,yap,go_sem,e7]
 have hkl:(gO keys).length≤1000:=by
  have:=eO (l:=keys) (k:=keys.length)
  rw [List.take_length] at this
  unfold gO
  rw [List.length_append]
  simp only [yaz,yba]
  omega
 have hpl:(cW ps).length≤1000:=by unfold cW;rw [ybb];omega
 refine ⟨keys,⟨rfl,by omega⟩,?_⟩
 simp only [co,cl,gB,bhq,Nat.reduceMod,Nat.reduceDiv,aW,aX,aZ,bO,a8,bM,bG,bJ,bK,yaq,yar,yao,yap,go_sem,jC]
 refine ⟨gO keys,⟨rfl,rfl,hkl⟩,?_⟩
 simp only [co,cl,gB,bhq,Nat.reduceMod,Nat.reduceDiv,aW,aX,aZ,bO,a8,bM,bG,bJ,bK,yaq,yar,yao,yap,go_sem,eL]
 refine ⟨ps,⟨rfl,by omega⟩,?_⟩
 simp only [co,cl,gB,bhq,Nat.reduceMod,Nat.reduceDiv,aW,aX,aZ,bO,a8,bM,bG,bJ,bK,yaq,yar,yao,yap,go_sem,eJ]
 refine ⟨ps,⟨rfl,by omega⟩,?_⟩
 refine ⟨cW ps,⟨rfl,rfl,hpl⟩,?_⟩
 simp only [co,cl,gB,bhq,Nat.reduceMod,Nat.reduceDiv,aW,aX,aZ,bO,a8,bM,bG,bJ,bK,yaq,yar,yao,yap,go_sem,qp]
 refine ⟨b,⟨rfl,by omega⟩,?_⟩
 rw [hB1]
 simp only [co,cl,gB,bhq,Nat.reduceMod,Nat.reduceDiv,aW,aX,aZ,bO,a8,bM,bG,bJ,bK,yaq,yar,yao,yap,go_sem,hSch,eG,cod,w6 hL1,hS,lu,po]
 have hcod:ltL (H.nx+1+1+1) [.slice .any 1 (bys B1),.int .i64 ((min w1 B1.length:Nat):Int)]:=⟨m9 fun x hx=>by obtain ⟨c,_,rfl⟩:=List.mem_map.1 hx;simp only [bc,zmz],by simp only [zmz],trivial⟩
 have hcG:((((H.push (.cells [a1,a2,.slice m 3 (keys.map bS),a3,a4,a5,a6,a7])).push (.cells [c1,c2,.slice m2 2 (ps.map bv),c3,c4])).push (cu B1 w1)).push (.cells [.slice .any 3 (S.fields.map iR),.slice .any 3 (S.headers.map fV),.slice .any 5 (S.states.map cB),.slice .any 5 (S.actions.map bw),.slice .any 8 (S.tables.map bk),.slice .any 2 (S.stages.map iN),.slice .any 6 (S.roles.map fT),.slice .any 6 (S.refs.map nK),.int .i64 S.maxBatch,.int .i64 S.budget])).Closed:=ae (ae (ae (ae hcl hx1) hx2) hcod) (wC S)
 clear hx1 hx2
 refine az (A:=Nat) (fun k=>[(7,.ptr (H.nx+1+1+1) 0),(55,.slice .any 8 (S.tables.map bk)),(56,.int .i64 (S.tables.length:Int)),(57,.int .i64 (k:Int))]) (fun _=>((((H.push (.cells [a1,a2,.slice m 3 (keys.map bS),a3,a4,a5,a6,a7])).push (.cells [c1,c2,.slice m2 2 (ps.map bv),c3,c4])).push (cu B1 w1)).push (.cells [.slice .any 3 (S.fields.map iR),.slice .any 3 (S.headers.map fV),.slice .any 5 (S.states.map cB),.slice .any 5 (S.actions.map bw),.slice .any 8 (S.tables.map bk),.slice .any 2 (S.stages.map iN),.slice .any 6 (S.roles.map fT),.slice .any 6 (S.refs.map nK),.int .i64 S.maxBatch,.int .i64 S.budget]))) (fun k=>k≤S.tables.length) (fun k=>S.tables.length - k) 0 (by omega) ?_ fun k hk=>?_
 ·have hlx:AV.lt (H.nx+1+1+1+1) (.slice .any 8 (S.tables.map bk)):=bg fun x=>ce x
  (simp only [bkq,enterW,bd,ltF,ne_eq,Nat.reduceEqDiff,reduceCtorEq,hcG,hlx];try simp (disch:=first|assumption|omega|(simp;done)|(simp;omega)|(simp only [bt,and_true];first|done|omega|(simp;done))) [↓zmi,beq,ybc,ybd,ybe,ag,wk,wk2,wk1,wkM,wkL,ak,ybf,byq,biq,aj,hcl,hcG,hlx];try (repeat' (first|assumption|omega|exact True.intro|refine And.intro ?_ ?_|refine af ?_|refine aa ?_|refine ae ?_ ?_|refine ah ?_ ?_|refine ai ?_|exact AHeap.Le.refl _|refine AHeap.Le.push ?_ _|refine AHeap.Le.del ?_ ?_|(simp only [bt,and_true,true_and,hcG,hlx];first|done|omega|(simp;done)))))
 simp only [go_sem]
 refine al (fun hc=>?_) (fun hc=>?_)
 ·have hk1:k<S.tables.length:=by simp at hc;omega
  have e5:IntKind.i64.wrap ((k:Int)+1)=((k+1:Nat):Int):=by rw [wrap_i64]<;>omega
  have hot:=hto S.tables[k] (List.getElem_mem hk1)
  have hov:=uS hot
  obtain ⟨o1,o2,o3⟩:=hot
  simp only [co,cl,gB,bhq,Nat.reduceMod,Nat.reduceDiv,aW,aX,aZ,bO,a8,bM,bG,bJ,bK,yaq,yar,yao,yap,go_sem,tT,ug hk1,Int.toNat_natCast,d8]
  refine ⟨by omega,S.tables[k].keys,⟨rfl,by omega⟩,?_⟩
  simp only [co,cl,gB,bhq,Nat.reduceMod,Nat.reduceDiv,aW,aX,aZ,bO,a8,bM,bG,bJ,bK,yaq,yar,yao,yap,go_sem,e7]
  refine ⟨S.tables[k].keys,⟨rfl,by omega⟩,?_⟩
  simp only [co,cl,gB,bhq,Nat.reduceMod,Nat.reduceDiv,aW,aX,aZ,bO,a8,bM,bG,bJ,bK,yaq,yar,yao,yap,go_sem,jC]
  refine ⟨gO S.tables[k].keys,⟨rfl,rfl,hov.1⟩,?_⟩
  simp only [co,cl,gB,bhq,Nat.reduceMod,Nat.reduceDiv,aW,aX,aZ,bO,a8,bM,bG,bJ,bK,yaq,yar,yao,yap,go_sem,e5]
  refine ⟨k+1,by omega,by omega,?_⟩
  have hlx:AV.lt (H.nx+1+1+1+1) (.slice .any 8 (S.tables.map bk)):=bg fun x=>ce x
  (simp only [bkq,enterW,bd,ltF,ne_eq,Nat.reduceEqDiff,reduceCtorEq,hcG,hlx];try simp (disch:=first|assumption|omega|(simp;done)|(simp;omega)|(simp only [bt,and_true];first|done|omega|(simp;done))) [↓zmi,beq,ybc,ybd,ybe,ag,wk,wk2,wk1,wkM,wkL,ak,ybf,byq,biq,aj,hcl,hcG,hlx];try (repeat' (first|assumption|omega|exact True.intro|refine And.intro ?_ ?_|refine af ?_|refine aa ?_|refine ae ?_ ?_|refine ah ?_ ?_|refine ai ?_|exact AHeap.Le.refl _|refine AHeap.Le.push ?_ _|refine AHeap.Le.del ?_ ?_|(simp only [bt,and_true,true_and,hcG,hlx];first|done|omega|(simp;done)))))
 ·simp only [co,cl,gB,bhq,Nat.reduceMod,Nat.reduceDiv,aW,aX,aZ,bO,a8,bM,bG,bJ,bK,yaq,yar,yao,yap,go_sem,oZ]
  refine az (A:=Nat) (fun k=>[(69,.slice .any 5 (S.actions.map bw)),(70,.int .i64 (S.actions.length:Int)),(71,.int .i64 (k:Int))]) (fun _=>H) (fun k=>k≤S.actions.length) (fun k=>S.actions.length - k) 0 (by omega) ?_ fun k hk=>?_
  ·have hlx:AV.lt H.nx (.slice .any 5 (S.actions.map bw)):=bg fun x=>iK x
   (simp only [bkq,enterW,bd,ltF,ne_eq,Nat.reduceEqDiff,reduceCtorEq,hlx];try simp (disch:=first|assumption|omega|(simp;done)|(simp;omega)|(simp only [bt,and_true];first|done|omega|(simp;done))) [↓zmi,beq,ybc,ybd,ybe,ag,wk,wk2,wk1,wkM,wkL,ak,ybf,byq,biq,aj,hcl,hlx];try (repeat' (first|assumption|omega|exact True.intro|refine And.intro ?_ ?_|refine af ?_|refine aa ?_|refine ae ?_ ?_|refine ah ?_ ?_|refine ai ?_|exact AHeap.Le.refl _|refine AHeap.Le.push ?_ _|refine AHeap.Le.del ?_ ?_|(simp only [bt,and_true,true_and,hlx];first|done|omega|(simp;done)))))
  simp only [go_sem]
  refine al (fun hc=>?_) (fun hc=>?_)
  ·have hk1:k<S.actions.length:=by simp at hc;omega
   have e5:IntKind.i64.wrap ((k:Int)+1)=((k+1:Nat):Int):=by rw [wrap_i64]<;>omega
   have hot:=hao S.actions[k] (List.getElem_mem hk1)
   have hov:=uw hot
   obtain ⟨o1,o2,o3⟩:=hot
   simp only [co,cl,gB,bhq,Nat.reduceMod,Nat.reduceDiv,aW,aX,aZ,bO,a8,bM,bG,bJ,bK,yaq,yar,yao,yap,go_sem,oZ,ud hk1,Int.toNat_natCast,eL]
   refine ⟨by omega,S.actions[k].params,⟨rfl,by omega⟩,?_⟩
   simp only [co,cl,gB,bhq,Nat.reduceMod,Nat.reduceDiv,aW,aX,aZ,bO,a8,bM,bG,bJ,bK,yaq,yar,yao,yap,go_sem,eJ]
   refine ⟨S.actions[k].params,⟨rfl,by omega⟩,?_⟩
   simp only [co,cl,gB,bhq,Nat.reduceMod,Nat.reduceDiv,aW,aX,aZ,bO,a8,bM,bG,bJ,bK,yaq,yar,yao,yap,go_sem,jC]
   refine ⟨cW S.actions[k].params,⟨rfl,rfl,hov.1⟩,?_⟩
   simp only [co,cl,gB,bhq,Nat.reduceMod,Nat.reduceDiv,aW,aX,aZ,bO,a8,bM,bG,bJ,bK,yaq,yar,yao,yap,go_sem,e5]
   refine ⟨k+1,by omega,by omega,?_⟩
   have hlx:AV.lt H.nx (.slice .any 5 (S.actions.map bw)):=bg fun x=>iK x
   (simp only [bkq,enterW,bd,ltF,ne_eq,Nat.reduceEqDiff,reduceCtorEq,hlx];try simp (disch:=first|assumption|omega|(simp;done)|(simp;omega)|(simp only [bt,and_true];first|done|omega|(simp;done))) [↓zmi,beq,ybc,ybd,ybe,ag,wk,wk2,wk1,wkM,wkL,ak,ybf,byq,biq,aj,hcl,hlx];try (repeat' (first|assumption|omega|exact True.intro|refine And.intro ?_ ?_|refine af ?_|refine aa ?_|refine ae ?_ ?_|refine ah ?_ ?_|refine ai ?_|exact AHeap.Le.refl _|refine AHeap.Le.push ?_ _|refine AHeap.Le.del ?_ ?_|(simp only [bt,and_true,true_and,hlx];first|done|omega|(simp;done)))))
  ·simp only [co,cl,gB,bhq,Nat.reduceMod,Nat.reduceDiv,aW,aX,aZ,bO,a8,bM,bG,bJ,bK,yaq,yar,yao,yap,go_sem,fZ]
   simp (disch:=first|assumption|omega|(simp;done)|(simp;omega)|(simp only [bt,and_true];first|done|omega|(simp;done))) [↓zmi,beq,ybc,ybd,ybe,ag,wk,wk2,wk1,wkM,wkL,ak,ybf,hcl]
end Go.AL
