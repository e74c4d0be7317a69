/- Lemmas of the proof; no condition. -/
import Derived.Test.YtjffcopmhkcejaaGreatCG
import Derived.Test.YtjffcopmhkcejaaGreatLSyn
set_option linter.all false
set_option maxRecDepth 10000
open Go Go.AL Go.Proofs
namespace Go.AL
def Bp(l:By)(k:Nat)(h:k<l.length):lR (l.drop k)=(!(decide ((l.getD k 0).toNat<32)||decide (126<(l.getD k 0).toNat))&&lR (l.drop (k+1))):=by
 rw[dcq h]
 have:l.getD k 0=l[k]:=by simp[gEq,h]
 rw[this];rfl
def vC:PCt
 |[.str s],_,K=>(s.length≤140737488355328)∧K (.bool (lR s))
 |_,_,_=>False
def F2:EPp 326 vC:=by
 refine Ype fun _ H K h=>?_
 unfold vC at h
 split at h<;>try exact h.elim
 rename_i s
 obtain⟨hle,hK⟩:=h
 refine⟨_,hK,?_⟩
 refine Yfv aD tNq Tryz.func326 [.tmp 2] fun hcl hlt=>?_
 clear hK hlt
 refine Tq63 ?_
 refine jr (A:=Nat) (fun k=>[(3,.int .i64 (k:Int)),(0,.str s)])
  (fun k=>H) (fun k=>k≤s.length∧lR (s.drop k)=lR s) (fun k=>s.length-k) 0 ⟨Xa,Xc⟩ ?_ fun k hk=>?_
 ·simp only[bnq,enter,my,ltF,ne_eq,Nat.reduceEqDiff,reduceCtorEq,true_or,and_true]
 obtain⟨hk,hb⟩:=hk
 refine Tq63 ?_
 refine ax (fun hc=>?_) (fun hc=>?_)
 ·have hk:k<s.length:=sHc
  have e1:IntKind.i64.wrap ((k:Int)+1)=((k+1:Nat):Int):=Xe
  have hst:=Bp s k hk
  have fin1:∀ c:Nat,(decide ((c:Int)<32))=decide (c<32):=fun c=>Xs
  have fin2:∀ c:Nat,(decide ((c:Int)>126))=decide (126<c):=fun c=>Xs
  by_cases c1:(s.getD k 0).toNat<32
  ·have c1':decide ((s.getD k 0).toNat<32)=true:=by simpa using c1
   rw[c1']at hst
   have hf:lR s=false:=by rw[← hb,hst];rfl
   rw[hf]
   simp only[go_sem,zav,byq,e1,iNq,fin1,c1']
   refine⟨Xa,?_⟩
   exact Z3
  ·have c1':decide ((s.getD k 0).toNat<32)=false:=by simpa using c1
   rw[c1']at hst
   by_cases c2:126<(s.getD k 0).toNat
   ·have c2':decide (126<(s.getD k 0).toNat)=true:=by simpa using c2
    rw[c2']at hst
    have hf:lR s=false:=by rw[← hb,hst];rfl
    rw[hf]
    simp only[go_sem,zav,byq,e1,iNq,fin1,fin2,c1',c2']
    refine⟨Xa,Xa,?_⟩
    exact Z3
   ·have c2':decide (126<(s.getD k 0).toNat)=false:=by simpa using c2
    rw[c2']at hst
    have hf:lR (s.drop (k+1))=lR s:=by rw[← hb,hst];simp
    simp only[go_sem,zau,byq,e1,iNq,fin1,fin2,c1',c2']
    refine⟨Xa,Xa,k+1,⟨Xa,hf⟩,Xa,?_⟩
    exact Z2
 ·have hk:k=s.length:=sHc
  subst hk
  rw[List.drop_length]at hb
  rw[← hb]
  refine Tq63 ?_
  simp (disch:=first|exact Zd|omega) [↓zmm,beq,List.take_of_length_le,List.drop_append,List.take_append,ag,wk,wk2,wk1,wkM,wkL,ay,List.drop_eq_nil_of_le,hcl,lR]
theorem EntOk.eff{P:Program}{f:FuncId}{p:PCt}(h:EntOk P f (Ent.pure p)):EntOk P f (Ent.effect fun args H K=>p args H fun v=>K (.ret v) H) :=
 EntOk.effect fun args H K hh=>by
  obtain⟨x,hx,hc⟩:=h.1 rfl args H (fun v=>K (.ret v) H) hh
  exact⟨_,_,hx,hc⟩
end Go.AL
