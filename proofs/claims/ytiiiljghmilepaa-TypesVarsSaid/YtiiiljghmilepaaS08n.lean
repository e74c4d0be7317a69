/- Contracts and plain laws, a part of the proof; no condition of its own. -/
import Derived.Test.YtiiiljghmilepaaS08j
import Derived.Test.YtiiiljghmilepaaS07h
set_option maxHeartbeats 32000000
open Go Go.AL Go.Proofs
namespace Go.AL
set_option linter.all false
set_option maxRecDepth 10000
def nR:List AV→AHeap→(AV→Prop)→Prop
 |[.slice _ 2 x],_,K=>∃ vs,(x=av vs∧vs.length≤1000)∧K (.slice .any 2 (av vs))
 |_,_,_=>False
theorem uP:EntOk Try.prog 17 (Ent.pure nR):=by
 refine EntOk.pure fun args H K h=>?_
 unfold nR at h
 split at h
 rotate_left
 ·exact h.elim
 rename_i m x
 obtain ⟨vs,⟨rfl,hl⟩,hK⟩:=h
 refine ⟨_,hK,?_⟩
 clear hK
 refine ACalls.fW aE TblOk.nil Try.func17 [.tmp 2] (Nat.le_refl _) (T:=ax []) (h:=fun hcl hlt=>?_)
 have hm:∀ n',H.nx≤n'→AV.lt n' (.slice m 2 (av vs)):=fun n' hn=>AV.lt_mono hn _ (hlt (.slice m 2 (av vs)) (by simp))
 clear hlt
 simp only [go_sem,aV]
 refine az (A:=Nat × AHeap) (fun a=>[(3,.slice (.own (H.nx+1)) 2 (av (vs.take a.1))),(6,.slice m 2 (av vs)),(7,.int .i64 (vs.length:Int)),(8,.int .i64 (a.1:Int))]) (fun a=>a.2)
  (fun a=>a.1≤vs.length∧H.Le a.2∧a.2.Closed∧a.2.get (H.nx+1)=some (.buf 2 (vs.take a.1).length)) (fun a=>vs.length - a.1)
  (0,(H.push (.buf 2 0)).push (.buf 2 0)) ⟨Nat.zero_le _,((AHeap.Le.refl _).push _).push _,af (af hcl),AHeap.get_push_new _ _⟩ ?_ fun a ha=>?_
 ·have hc0:=af (a:=2) (b:=0) (af (a:=2) (b:=0) hcl)
  (simp only [bkq,enterW,bd,ltF,ne_eq,Nat.reduceEqDiff,reduceCtorEq,hc0,hm,varsAV_lt];try simp (disch:=first|assumption|omega|(simp;done)|(simp;omega)|(simp only [bt,and_true];first|done|omega|(simp;done))) [↓zmi,beq,List.take_of_length_le,List.drop_append,List.take_append,ag,wk,wk2,wk1,wkM,wkL,ak,List.drop_eq_nil_of_le,byq,biq,aj,hcl,hc0,hm,varsAV_lt];try (repeat' (first|assumption|omega|exact True.intro|refine And.intro ?_ ?_|refine af ?_|refine aa ?_|refine ae ?_ ?_|refine ah ?_ ?_|refine ai ?_|exact AHeap.Le.refl _|refine AHeap.Le.push ?_ _|refine AHeap.Le.del ?_ ?_|(simp only [bt,and_true,true_and,hc0,hm,varsAV_lt];first|done|omega|(simp;done)))))
  all_goals first|exact varsAV_lt.mp (hm _ (by omega))|rfl
 obtain ⟨k,Hc⟩:=a
 obtain ⟨hk,hle,hcc,hid⟩:=ha
 dsimp only at hk hle hcc hid ⊢
 have hnx:=AHeap.get_lt hid
 simp only [go_sem]
 refine al (fun hc=>?_) (fun hc=>?_)
 ·have hk1:k<vs.length:=by simp at hc;omega
  have e5:IntKind.i64.wrap ((k:Int)+1)=((k+1:Nat):Int):=by rw [wrap_i64]<;>omega
  have n2:(H.nx+1=Hc.nx)=False:=eq_false (by omega)
  have n3:(H.nx+1=Hc.nx+1)=False:=eq_false (by omega)
  have hln:vs.take (k+1)=vs.take k++[vs[k]]:=(List.take_append_getElem hk1).symm
  have hl0:(vs.take k).length≤1000:=by rw [List.length_take];omega
  have hsn:av (vs.take k)++[.agg [.str vs[k].1,.str vs[k].2]]=av (vs.take k++[vs[k]]):=fE (v:=vs[k])
  generalize vs.take k=LL at *
  have hnn:H.nx≤Hc.nx:=by omega
  simp only [go_sem,aV,jg hk1,Int.toNat_natCast,hid,n2,n3,e5]
  refine ⟨by omega,⟨by omega,by omega,fun z hz=>by rw [List.mem_singleton.1 hz];rfl⟩,(k+1,Hc.set (H.nx+1) (.buf 2 (LL.length+1))),⟨by dsimp only;omega,bB hle (by omega),aa hcc,?_⟩,by dsimp only;omega,?_⟩
  ·dsimp only
   rw [bb,if_pos rfl,if_pos hnx,hln];simp
  ·have hcs:=@aa Hc (H.nx+1) 2 (LL.length+1) hcc
   dsimp only
   rw [hln,hsn]
   (simp only [bkq,enterW,bd,ltF,ne_eq,Nat.reduceEqDiff,reduceCtorEq,hcs,hm,varsAV_lt,hnn];try simp (disch:=first|assumption|omega|(simp;done)|(simp;omega)|(simp only [bt,and_true];first|done|omega|(simp;done))) [↓zmi,beq,List.take_of_length_le,List.drop_append,List.take_append,ag,wk,wk2,wk1,wkM,wkL,ak,List.drop_eq_nil_of_le,byq,biq,aj,hcl,hcs,hm,varsAV_lt,hnn];try (repeat' (first|assumption|omega|exact True.intro|refine And.intro ?_ ?_|refine af ?_|refine aa ?_|refine ae ?_ ?_|refine ah ?_ ?_|refine ai ?_|exact AHeap.Le.refl _|refine AHeap.Le.push ?_ _|refine AHeap.Le.del ?_ ?_|(simp only [bt,and_true,true_and,hcs,hm,varsAV_lt,hnn];first|done|omega|(simp;done)))))
   exact varsAV_lt.mp (hm _ hnn)
 ·have hk1:k=vs.length:=by simp at hc;omega
  subst hk1
  rw [List.take_length]
  simp only [go_sem]
  simp (disch:=first|assumption|omega|(simp;done)|(simp;omega)|(simp only [bt,and_true];first|done|omega|(simp;done))) [↓zmi,beq,List.take_of_length_le,List.drop_append,List.take_append,ag,wk,wk2,wk1,wkM,wkL,ak,List.drop_eq_nil_of_le,hcl,hle,varsAV_lt]
def jC:List AV→AHeap→(AV→Prop)→Prop
 |[.slice _ 2 x,.slice _ 2 y],_,K=>∃ vs,(x=av vs∧y=av vs∧vs.length≤1000)∧K (.bool true)
 |_,_,_=>False
theorem wb:EntOk Try.prog 22 (Ent.pure jC):=by
 refine EntOk.pure fun args H K h=>?_
 unfold jC at h
 split at h
 rotate_left
 ·exact h.elim
 rename_i m x m2 y
 obtain ⟨vs,⟨rfl,rfl,hl⟩,hK⟩:=h
 refine ⟨_,hK,?_⟩
 clear hK
 refine ACalls.fW aE (TblOk.cons uP TblOk.nil) Try.func22 [.tmp 4] (Nat.le_refl _) (T:=ax []) (h:=fun hcl hlt=>?_)
 have hm:∀ n',H.nx≤n'→AV.lt n' (.slice m 2 (av vs)):=fun n' hn=>AV.lt_mono hn _ (hlt (.slice m 2 (av vs)) (by simp))
 have hm2:∀ n',H.nx≤n'→AV.lt n' (.slice m2 2 (av vs)):=fun n' hn=>AV.lt_mono hn _ (hlt (.slice m2 2 (av vs)) (by simp))
 clear hlt
 simp only [go_sem,aV,bne_self_eq_false,nR]
 refine ⟨vs,⟨rfl,hl⟩,?_⟩
 try simp only [go_sem,aV]
 refine az (A:=Nat) (fun k=>[(1,.slice m2 2 (av vs)),(13,.slice .any 2 (av vs)),(14,.int .i64 (vs.length:Int)),(15,.int .i64 (k:Int))]) (fun _=>H) (fun k=>k≤vs.length) (fun k=>vs.length - k) 0 (by omega) ?_ fun k hk=>?_
 ·(simp only [bkq,enterW,bd,ltF,ne_eq,Nat.reduceEqDiff,reduceCtorEq,hm2,varsAV_lt];try simp (disch:=first|assumption|omega|(simp;done)|(simp;omega)|(simp only [bt,and_true];first|done|omega|(simp;done))) [↓zmi,beq,List.take_of_length_le,List.drop_append,List.take_append,ag,wk,wk2,wk1,wkM,wkL,ak,List.drop_eq_nil_of_le,byq,biq,aj,hcl,hm2,varsAV_lt];try (repeat' (first|assumption|omega|exact True.intro|refine And.intro ?_ ?_|refine af ?_|refine aa ?_|refine ae ?_ ?_|refine ah ?_ ?_|refine ai ?_|exact AHeap.Le.refl _|refine AHeap.Le.push ?_ _|refine AHeap.Le.del ?_ ?_|(simp only [bt,and_true,true_and,hm2,varsAV_lt];first|done|omega|(simp;done)))))
  all_goals exact varsAV_lt.mp (hm2 _ (by omega))
 simp only [go_sem]
 refine al (fun hc=>?_) (fun hc=>?_)
 ·have hk1:k<vs.length:=by simp at hc;omega
  have e5:IntKind.i64.wrap ((k:Int)+1)=((k+1:Nat):Int):=by rw [wrap_i64]<;>omega
  simp only [go_sem,aV,jg hk1,Int.toNat_natCast,uE,uD,e5,decide_true,bne_self_eq_false]
  refine ⟨by omega,by omega,k+1,by omega,by omega,?_⟩
  (simp only [bkq,enterW,bd,ltF,ne_eq,Nat.reduceEqDiff,reduceCtorEq,hm2,varsAV_lt];try simp (disch:=first|assumption|omega|(simp;done)|(simp;omega)|(simp only [bt,and_true];first|done|omega|(simp;done))) [↓zmi,beq,List.take_of_length_le,List.drop_append,List.take_append,ag,wk,wk2,wk1,wkM,wkL,ak,List.drop_eq_nil_of_le,byq,biq,aj,hcl,hm2,varsAV_lt];try (repeat' (first|assumption|omega|exact True.intro|refine And.intro ?_ ?_|refine af ?_|refine aa ?_|refine ae ?_ ?_|refine ah ?_ ?_|refine ai ?_|exact AHeap.Le.refl _|refine AHeap.Le.push ?_ _|refine AHeap.Le.del ?_ ?_|(simp only [bt,and_true,true_and,hm2,varsAV_lt];first|done|omega|(simp;done)))))
  all_goals exact varsAV_lt.mp (hm2 _ (by omega))
 ·simp only [go_sem]
  simp (disch:=first|assumption|omega|(simp;done)|(simp;omega)|(simp only [bt,and_true];first|done|omega|(simp;done))) [↓zmi,beq,List.take_of_length_le,List.drop_append,List.take_append,ag,wk,wk2,wk1,wkM,wkL,ak,List.drop_eq_nil_of_le,hcl]
end Go.AL
open Go Go.AL Go.Proofs
namespace Go.AL
set_option linter.all false
set_option maxRecDepth 10000
end Go.AL
