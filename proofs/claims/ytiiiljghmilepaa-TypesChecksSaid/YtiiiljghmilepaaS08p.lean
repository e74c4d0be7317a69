/- Contracts and plain laws, a part of the proof; no condition of its own. -/
import Derived.Test.YtiiiljghmilepaaS08n
open List renaming length_cons → yaz, length_nil → yba, take_succ_cons → yaq, take_zero → yar, drop_succ_cons → yao, drop_zero → yap, take_of_length_le → ybc, drop_append → ybd, take_append → ybe, drop_eq_nil_of_le → ybf
open Go Go.AL Go.Proofs
namespace Go.AL
set_option linter.all false
set_option maxRecDepth 10000
theorem vZ {vs:List VN} (h1:vs.length≤6) (h2:∀ v∈vs,v∈six):uv vs:=⟨by omega,fun v hv=>uW v (h2 v hv)⟩
def jC:List AV→AHeap→(AV→Prop)→Prop
 |[.slice _ 1 l,.int .i64 n,.bool g],_,K=>(isB l ∧ -9223372036854775808≤n∧n<9223372036854775808)∧K (.bool true)
 |_,_,_=>False
set_option maxHeartbeats 8000000 in
theorem ok_TypesChecks:EntOk Try.prog 3 (Ent.pure jC):=by
 refine EntOk.pure fun args H K h=>?_
 unfold jC at h
 split at h
 rotate_left
 ·exact h.elim
 rename_i m l n g
 obtain ⟨⟨hB,hn1,hn2⟩,hK⟩:=h
 obtain ⟨b,rfl⟩:=yI hB
 clear hB
 refine ⟨_,hK,?_⟩
 clear hK
 have h_CSent:=mf (A:=True) 4
 obtain ⟨B1,hB1⟩:∃ B1,b.take (min (b.length:Int) 60).toNat=B1:=⟨_,rfl⟩
 have hL1:B1.length≤60:=by rw [← hB1,List.length_take];omega
 have hb2:bS 4≤1000000:=by decide
 refine ACalls.fW aI (TblOk.cons yj (TblOk.cons h_CSent (TblOk.cons qY (TblOk.cons vw (TblOk.cons oq (TblOk.cons tU (TblOk.cons sf (TblOk.cons vD (TblOk.cons oV (TblOk.cons xD (TblOk.cons vr TblOk.nil))))))))))) Try.func3 [.tmp 6] (Nat.le_refl _) (T:=aA []) (h:=fun hcl hlt=>?_)
 clear hlt
 simp only [go_sem,sD]
 refine ⟨b,⟨rfl,by omega⟩,?_⟩
 rw [hB1]
 simp only [jv,iN,bhq,Nat.reduceMod,Nat.reduceDiv,eK,eE,eM,jb,eO,iz,gJ,hU,hY,yaq,yar,yao,yap,go_sem,bB]
 refine ⟨B1,0,⟨rfl,⟨by omega,by omega⟩,by omega,rfl,by omega⟩,fun q a' hq _ _=>?_⟩
 obtain ⟨hg1,hg2⟩:=kO q
 obtain ⟨f,hf⟩:=pE (bp q).1
 generalize prs (bp q).1=r at *
 obtain ⟨i,hpi⟩:=tN (bp q).1 r
 obtain ⟨hpg,hpl,_⟩:=lN hf
 have hps:=ku hg2 hf
 generalize dh (bp q).1 r=te at *
 obtain ⟨t,e⟩:=te
 dsimp only at hpi hpg hpl hps
 have hot:okT t:=⟨hpg,hps,by omega⟩
 have hql:q.length≤140737488355328:=by omega
 simp only [jv,iN,aP,bhq,Nat.reduceMod,Nat.reduceDiv,eK,eE,eM,jb,eO,iz,gJ,hU,hY,yaq,yar,yao,yap,go_sem,kC,qe,ki,hql,kX]
 refine ⟨(bp q).1,f,r,⟨rfl,hf,by omega,hg2⟩,?_⟩
 simp only [jv,iN,aP,bhq,Nat.reduceMod,Nat.reduceDiv,eK,eE,eM,jb,eO,iz,gJ,hU,hY,yaq,yar,yao,yap,go_sem,hpi,mr]
 refine ⟨(bp q).1,f,r,⟨rfl,hf,by omega,hg2⟩,?_⟩
 simp only [jv,iN,aP,bhq,Nat.reduceMod,Nat.reduceDiv,eK,eE,eM,jb,eO,iz,gJ,hU,hY,yaq,yar,yao,yap,go_sem,hpi]
 by_cases he0:(bp q).2.2=0
 ·have d2:((((bp q).2.2:Nat):Int) != 0)=false:=by rw [he0];rfl
  by_cases he:e=0
  ·have d3:((e:Int) != 0)=false:=by rw [he];rfl
   simp only [jv,iN,aP,bhq,Nat.reduceMod,Nat.reduceDiv,eK,eE,eM,jb,eO,iz,gJ,hU,hY,yaq,yar,yao,yap,go_sem,d2,d3,ph]
   intro vs hv1 hv2
   have hov:=vZ hv1 hv2
   simp only [jv,iN,aP,bhq,Nat.reduceMod,Nat.reduceDiv,eK,eE,eM,jb,eO,iz,gJ,hU,hY,yaq,yar,yao,yap,go_sem,d2,d3,kD]
   refine ⟨t,vs,⟨rfl,rfl,hot,hov⟩,?_⟩
   simp only [jv,iN,aP,bhq,Nat.reduceMod,Nat.reduceDiv,eK,eE,eM,jb,eO,iz,gJ,hU,hY,yaq,yar,yao,yap,go_sem,qh]
   refine ⟨vs,⟨rfl,by omega⟩,?_⟩
   simp only [jv,iN,aP,bhq,Nat.reduceMod,Nat.reduceDiv,eK,eE,eM,jb,eO,iz,gJ,hU,hY,yaq,yar,yao,yap,go_sem,ne]
   refine ⟨t,vs,⟨rfl,rfl,hot,hov⟩,?_⟩
   simp only [jv,iN,aP,bhq,Nat.reduceMod,Nat.reduceDiv,eK,eE,eM,jb,eO,iz,gJ,hU,hY,yaq,yar,yao,yap,go_sem,beq_self_eq_true,gG]
   simp (disch:=first|assumption|omega|(simp;done)|(simp;omega)|(simp only [bt,and_true];first|done|omega|(simp;done))) [↓zmi,beq,ybc,ybd,ybe,ag,wk,wk2,wk1,wkM,wkL,am,ybf,hcl]
  ·have d3:((e:Int) != 0)=true:=bne_iff_ne.2 (by omega)
   simp only [jv,iN,aP,bhq,Nat.reduceMod,Nat.reduceDiv,eK,eE,eM,jb,eO,iz,gJ,hU,hY,yaq,yar,yao,yap,go_sem,d2,d3,beq_self_eq_true,gG]
   simp (disch:=first|assumption|omega|(simp;done)|(simp;omega)|(simp only [bt,and_true];first|done|omega|(simp;done))) [↓zmi,beq,ybc,ybd,ybe,ag,wk,wk2,wk1,wkM,wkL,am,ybf,hcl]
 ·have d2:((((bp q).2.2:Nat):Int) != 0)=true:=bne_iff_ne.2 (by omega)
  simp only [jv,iN,aP,bhq,Nat.reduceMod,Nat.reduceDiv,eK,eE,eM,jb,eO,iz,gJ,hU,hY,yaq,yar,yao,yap,go_sem,d2,beq_self_eq_true,gG]
  simp (disch:=first|assumption|omega|(simp;done)|(simp;omega)|(simp only [bt,and_true];first|done|omega|(simp;done))) [↓zmi,beq,ybc,ybd,ybe,ag,wk,wk2,wk1,wkM,wkL,am,ybf,hcl]
end Go.AL
