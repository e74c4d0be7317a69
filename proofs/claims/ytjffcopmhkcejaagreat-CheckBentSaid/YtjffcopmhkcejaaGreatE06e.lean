/- Lemmas of the proof; no condition. -/
import Derived.Test.YtjffcopmhkcejaaGreatE05s
import Derived.Test.YtjffcopmhkcejaaGreatE05e
import Derived.Test.YtjffcopmhkcejaaGreatLBent
set_option linter.all false
set_option maxRecDepth 10000
open Go Go.AL Go.Proofs
namespace Go.AL
def uk:PCt
 |[.slice _ 1 l1,.int .i64 q,.int .i64 a,.int .i64 n,.str t,.slice _ 1 l2],_,K=>(isB l1∧rZ q∧rZ a∧∃ M:List Int,l2=inL M∧∀ x∈M,rZ x)∧K (.bool true)
 |_,_,_=>False
set_option maxHeartbeats 16000000 in
theorem ok_CheckBent:EPp 3 uk:=by
 refine Ype fun _ H K h=>?_
 unfold uk at h
 split at h<;>try exact h.elim
 rename_i m1 l1 q a n t m2 l2
 obtain⟨⟨c1,hq,ha,M,rfl,hM⟩,hK⟩:=h
 refine⟨_,hK,?_⟩
 clear hK
 obtain⟨x1,rfl⟩:=iW c1
 obtain⟨B1,hB1⟩:∃ B1,x1.take (min (x1.length:Int) 120).toNat=B1:=⟨_,rfl⟩
 have hL1:B1.length≤1000000:=by rw[← hB1,List.length_take];omega
 have hz1:zod B1 0=il B1 (cp 0 0):=yN
 have hSm:=CT B1 0
 have hS0:=SJ B1 0
 generalize hSS:d7 B1 0=SS at *
 obtain⟨S,w1⟩:=SS
 dsimp only at hSm hS0
 refine Yfw aD (tCq DM (tCq vT (tCq K7 (tCq Ep (tCq OJ (tCq Ct tNq)))))) Tryz.func3 [.tmp 12] (nrq _) (T:=aC [(5,[[],[],[],[],[],[],[],[],[],[2]]),(7,[[],[],[],[],[],[],[],[],[],[],[],[],[1,4,7,10],[],[1,4,7,10,12]]),(11,[[],[0],[],[0,1,2]]),(805,[[100010]]),(807,[[100013]]),(1205,[[300010]]),(8,[[1]])]) (h:=fun hcl=>?_)
 have hSch:qZ=eG fun b v=>(cW (d7 b v).1,(d7 b v).2):=rfl
 cases ct:decide ((t.length:Int)>60)with
 |true=>
  simp only[go_sem,ct,qN]
  exact⟨rfl,lRq _,hcl,by rw[zne];trivial⟩
 |_=>
  have ht:t.length≤60:=by have:=of_decide_eq_false ct;omega
  simp only[go_sem,ct,wX]
  refine⟨x1,⟨rfl,Xb⟩,?_⟩
  rw[hB1,hz1]
  simp only[aX,aA,bhq,List.take_succ_cons,List.take_zero,List.drop_succ_cons,List.drop_zero,go_sem,hSch,eG,dm hL1,Nat.zero_min,cp0,hSS,cW,aR]
  refine⟨S,0,⟨rfl,hSm,Xa,hq,ha,Xa⟩,fun S1 hS1=>?_⟩
  simp only[aX,aA,bhq,List.take_succ_cons,List.take_zero,List.drop_succ_cons,List.drop_zero,go_sem,cW,aR]
  have hmx:1+t.length≤wj:=by unfold wj;omega
  refine⟨hmx,rfl,S,0,⟨rfl,hSm,Xa,hq,ha,by simp only[List.length_cons];omega⟩,fun S2 hS2=>?_⟩
  refine Tq52 ?_
  apply jb (α:=List Sch) (fun Q=>[(13,.ptr (H.nx+1) 0),(15,.slice .any 10 (Q.map cW))]) (fun _=>(H.push (il B1 w1)).push (.cells (aR S))) (fun Q=>Q.length≤4∧∀ q∈Q,SmB 2 q)
  ·intro J
   have u0:=qn (qn hSm)
   have u1:=qn hS1
   have u2:=qn hS2
   have hcS:((H.push (il B1 w1)).push (.cells (aR S))).Closed:=ah (ah hcl ma) (tZ S)
   refine ax (fun hc=>?_) (fun hc=>?_)
   ·obtain⟨m0,m1,m2,M',hM3⟩:∃ m0 m1 m2 M',M=m0::m1::m2::M':=by
     rcases M with _|⟨m0,_|⟨m1,_|⟨m2,M'⟩⟩⟩
     ·simp[inL]at hc
     ·simp[inL]at hc
     ·simp[inL]at hc
     ·exact⟨m0,m1,m2,M',rfl⟩
    have hm0:=hM m0 (by simp[hM3])
    have hm1:=hM m1 (by simp[hM3])
    simp only[oo,aX,aA,bhq,List.take_succ_cons,List.take_zero,List.drop_succ_cons,List.drop_zero,go_sem,hM3,inL,List.map_cons]
    refine⟨⟨Xb,Xa⟩,⟨Xb,Xa⟩,⟨Xb,Xa⟩,rfl,S1,1,⟨rfl,hS1,Xa,hm0,hm1,Xb⟩,fun S3 hS3=>?_⟩
    refine Tq52 ?_
    refine⟨fun z hz=>by rw[List.mem_singleton.1 hz];rfl,?_⟩
    refine bw J [S,S1,S2,S3] ⟨Xc,fun q hq=>?_⟩ ?_
    ·simp only[List.mem_cons,List.not_mem_nil,or_false]at hq
     rcases hq with rfl|rfl|rfl|rfl
     ·exact u0
     ·exact u1
     ·exact u2
     ·exact hS3
    refine eNt hcS ?_ ?_
    ·simp[ltF,znl,zlc]
     exact aa (l:=[S,S1,S2,S3]) iC
    ·simp[bg,wk2,wk1,wkM,Fr.get,cW,aR]
   ·simp only[oo,aX,aA,bhq,List.take_succ_cons,List.take_zero,List.drop_succ_cons,List.drop_zero,go_sem]
    refine bw J [S,S1,S2] ⟨Xc,fun q hq=>?_⟩ ?_
    ·simp only[List.mem_cons,List.not_mem_nil,or_false]at hq
     rcases hq with rfl|rfl|rfl
     ·exact u0
     ·exact u1
     ·exact u2
    refine eNt hcS ?_ ?_
    ·simp[ltF,znl,zlc]
     exact aa (l:=[S,S1,S2]) iC
    ·simp[bg,wk2,wk1,wkM,Fr.get,cW,aR]
  ·intro Q hQ
   simp only[oo,aX,aA,bhq,List.take_succ_cons,List.take_zero,List.drop_succ_cons,List.drop_zero,go_sem,aR,List.length_map]
   obtain⟨hQ4,hQs⟩:=hQ
   have hen:=bF
   have hcS:((H.push (il B1 w1)).push (.cells [.slice .any 3 (S.fields.map aJ),.slice .any 3 (S.headers.map az),.slice .any 5 (S.states.map aE),.slice .any 5 (S.actions.map ap),.slice .any 8 (S.tables.map au),.slice .any 2 (S.stages.map aQ),.slice .any 6 (S.roles.map aP),.slice .any 6 (S.refs.map bc),.int .i64 S.maxBatch,.int .i64 S.budget])).Closed:=ah (ah hcl ma) (tZ S)
   refine aG (A:=Nat) (fun k=>[(13,.ptr (H.nx+1) 0),(60,.slice .any 10 (Q.map cW)),(61,.int .i64 (Q.length:Int)),(62,.int .i64 (k:Int))]) (fun _=>(H.push (il B1 w1)).push (.cells [.slice .any 3 (S.fields.map aJ),.slice .any 3 (S.headers.map az),.slice .any 5 (S.states.map aE),.slice .any 5 (S.actions.map ap),.slice .any 8 (S.tables.map au),.slice .any 2 (S.stages.map aQ),.slice .any 6 (S.roles.map aP),.slice .any 6 (S.refs.map bc),.int .i64 S.maxBatch,.int .i64 S.budget])) (fun k=>k≤Q.length) (fun k=>Q.length-k) 0 (Nat.zero_le _) ?_ fun k hk=>?_
   ·refine eNt hcS ?_ ?_
    ·simp[ltF,znd,znl,zlc,aa iC]
    ·exact Y14
   refine Tq20 ?_
   refine ax (fun hc=>?_) (fun hc=>?_)
   ·have hk':k<Q.length:=sHc
    obtain⟨x,hx⟩:∃ x,x=Q[k]:=⟨_,rfl⟩
    have hgx:=a9 (f:=cW) (l:=Q) (k:=k) (x:=x) (by rw[gQq (by omega),hx])
    have hxs:=hQs x (by rw[hx];exact gMq (by omega))
    have hxl:=Af hxs
    have ek:IntKind.i64.wrap ((k:Int)+1)=((k+1:Nat):Int):=Xe
    simp only[go_sem,byq,iNq,List.length_map,hgx,cW,aR]
    have okx:=Ji hxs
    refine⟨⟨Xa,Xa⟩,x,⟨rfl,okx,Xa⟩,x,⟨rfl,okx,Xa⟩,?_⟩
    simp only[go_sem,xe,CE,bne_self_eq_false,ek]
    refine⟨k+1,Xa,Xa,?_⟩
    refine eNt hcS ?_ ?_
    ·simp[ltF,znd,znl,zlc,aa iC]
    ·exact Y14
   ·simp only[go_sem,xe]
    refine⟨S,⟨rfl,Ji hSm,by have:=Af (qn (qn hSm));omega⟩,?_⟩
    simp only[go_sem,hS0,qN,beq_self_eq_true]
    exact⟨rfl,by repeat first|exact .refl _|refine .push ?_ _,hcl,by rw[zne];trivial⟩
end Go.AL
