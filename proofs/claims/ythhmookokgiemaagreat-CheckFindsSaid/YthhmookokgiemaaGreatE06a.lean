/- Lemmas of the proof; no condition. -/
import Derived.Test.YthhmookokgiemaaGreatE05c
import Derived.Test.YthhmookokgiemaaGreatS12aG
set_option linter.all false
set_option maxRecDepth 10000
open List renaming length_cons → yaz, length_nil → yba, take_succ_cons → yaq, take_zero → yar, drop_succ_cons → yao, drop_zero → yap, length_map → ybb
open Go Go.AL Go.Proofs
namespace Go.AL
def nO:List AV→AHeap→(AV→Prop)→Prop
 |[.agg l,.slice _ 1 l1,.int .i64 n],_,K=>∃ raw:Sch,(l=aG raw∧SLenG raw∧isB l1∧i64 n)∧K (.bool true)
 |_,_,_=>False
set_option maxHeartbeats 16000000 in
theorem ok_CheckFinds:EntOk Tryz.prog 7 (Ent.pure nO):=by
 refine Ype fun _ H K h=>?_
 unfold nO at h
 split at h
 rotate_left
 ·exact h.elim
 rename_i l m1 l1 n
 obtain ⟨raw,⟨rfl,hraw,c1,hn⟩,hK⟩:=h
 refine ⟨_,hK,?_⟩
 clear hK
 obtain ⟨x1,rfl⟩:=iS c1
 obtain ⟨B1,hB1⟩:∃ B1,x1.take (min (x1.length:Int) 120).toNat=B1:=⟨_,rfl⟩
 have hL1:B1.length≤1000000:=by rw [← hB1,List.length_take];omega
 have hG:=vQ B1 0
 generalize hS:fZ B1 0=SS at *
 obtain ⟨S,w1⟩:=SS
 dsimp only at hG
 have hGl:SLenG S:=⟨by have:=hG.f.1;omega,by have:=hG.h.1;omega,by have:=hG.s.1;omega,by have:=hG.a.1;omega,by have:=hG.t.1;omega,by have:=hG.r.1;omega⟩
 have hz1:zod B1 0=eU B1 (cp 0 0):=s7
 refine ACalls.fW ak (tCq A3 (tCq qv (tCq uV (tCq uC (tCq vf (tCq uY (tCq rU (tCq rH (tCq uo (tCq tX (tCq rF (tCq se (tCq wL (tCq xF (tCq yA tNq))))))))))))))) Tryz.func7 [.tmp 6] (nrq _) (T:=ag [(1,[[],[],[],[2],[0,2,3]]),(7,[[],[],[0],[],[],[0,2,3],[],[],[2,5],[],[0,2,3,5,8],[2,5],[],[0,2,3,5,8,10,11],[],[],[],[2,5,10,13],[],[0,2,3,5,8,10,11,13,17],[2,5,10,13],[],[0,2,3,5,8,10,11,13,17,19,20],[],[],[],[2,5,10,13,19,22],[],[0,2,3,5,8,10,11,13,17,19,20,22,26],[2,5,10,13,19,22],[],[0,2,3,5,8,10,11,13,17,19,20,22,26,28,29],[],[],[],[2,5,10,13,19,22,28,31],[],[0,2,3,5,8,10,11,13,17,19,20,22,26,28,29,31,35],[2,5,10,13,19,22,28,31],[],[0,2,3,5,8,10,11,13,17,19,20,22,26,28,29,31,35,37,38],[],[],[],[2,5,10,13,19,22,28,31,37,40],[],[0,2,3,5,8,10,11,13,17,19,20,22,26,28,29,31,35,37,38,40,44],[2,5,10,13,19,22,28,31,37,40],[],[0,2,3,5,8,10,11,13,17,19,20,22,26,28,29,31,35,37,38,40,44,46,47]])]) (h:=fun hcl hlt=>?_)
 clear hlt
 have hSch:mh=eG fun b v=>(jb (fZ b v).1,(fZ b v).2):=rfl
 simp only [go_sem,aG,p6]
 refine ⟨x1,⟨rfl,by decide⟩,?_⟩
 rw [hB1,hz1]
 simp only [aM,aj,bhq,Nat.reduceMod,Nat.reduceDiv,aB,aC,aD,ba,aE,aZ,aV,aX,aW,yaq,yar,yao,yap,go_sem,hSch,eG,bO hL1,Nat.zero_min,cp0,hS,jb,aG]
 obtain ⟨Q,hQ⟩:∃ Q,Q=[raw,S]:=⟨_,rfl⟩
 have hQ2:Q.length=2:=by rw [hQ];rfl
 have hQo:∀ q∈Q,SLenG q:=fun q hq=>by
  rw [hQ] at hq
  simp only [List.mem_cons,List.not_mem_nil,or_false] at hq
  rcases hq with rfl|rfl
  ·exact hraw
  ·exact hGl
 obtain ⟨N,hN⟩:∃ N:List Int,N=[n,HK .i64 n 15]:=⟨_,rfl⟩
 have hN2:N.length=2:=by rw [hN];rfl
 refine ay (A:=Nat) (fun k=>[(2,.int .i64 n),(15,.slice .any 10 (Q.map jb)),(16,.int .i64 2),(17,.int .i64 (k:Int))]) (fun _=>H) (fun k=>k≤2) (fun k=>2 - k) 0 (by omega) ?_ fun k hk=>?_
 ·refine ⟨by simp only [zkq,zkv];exact nrq _,by repeat first|exact .refl _|refine .push ?_ _,hcl,?_,?_⟩
  ·simp [ltF,znf,aL lP]
  ·rw [hQ]
   simp [aS,wk2,wk1,wkM,Fr.get,jb,aG]
 simp only [go_sem]
 refine ah (fun hc=>?_) (fun hc=>?_)
 ·have hk':k<2:=by simp at hc;omega
  obtain ⟨q,hq⟩:∃ q,q=Q[k]:=⟨_,rfl⟩
  have hg:=aO (f:=jb) (l:=Q) (k:=k) (x:=q) (by rw [gQq (by omega),hq])
  have hqo:=hQo q (by rw [hq];exact gMq (by omega))
  have e5:=Yk5 k
  simp only [go_sem,byq,iNq,ybb,hQ2,hg,jb,aG]
  (repeat with_reducible refine Yq ?_)
  refine ay (A:=Nat) (fun j=>[(2,.int .i64 n),(8,.ptr H.nx 0),(15,.slice .any 10 (Q.map jb)),(16,.int .i64 2),(17,.int .i64 (k:Int)),(24,.slice .any 1 (inL N)),(25,.int .i64 2),(26,.int .i64 (j:Int))]) (fun _=>H.push (.cells [.slice .any 3 (q.fields.map aI),.slice .any 3 (q.headers.map az),.slice .any 5 (q.states.map aH),.slice .any 5 (q.actions.map ap),.slice .any 8 (q.tables.map aq),.slice .any 2 (q.stages.map bB),.slice .any 6 (q.roles.map aN),.slice .any 6 (q.refs.map bL),.int .i64 q.maxBatch,.int .i64 q.budget])) (fun j=>j≤2) (fun j=>2 - j) 0 (by omega) ?_ fun j hj=>?_
  ·refine ⟨by (try simp only [zkq,zkv,zle]);omega,by repeat first|exact .refl _|refine .push ?_ _,ae hcl (tR q),?_,?_⟩
   ·simp [ltF,znf,znn,zle,aL lP,lf]
   ·rw [hN]
    simp [aS,wk2,wk1,wkM,Fr.get,jb,aG,inL]
  simp only [go_sem]
  refine ah (fun hc2=>?_) (fun hc2=>?_)
  ·have hj':j<2:=by simp at hc2;omega
   obtain ⟨z,hz⟩:∃ z,z=N[j]:=⟨_,rfl⟩
   have hgz:=aO (f:=AV.int .i64) (l:=N) (k:=j) (x:=z) (by rw [gQq (by omega),hz])
   have e6:IntKind.i64.wrap ((j:Int)+1)=((j+1:Nat):Int):=by rw [wrap_i64]<;>omega
   simp only [aM,aj,bhq,Nat.reduceMod,Nat.reduceDiv,aB,aC,aD,ba,aE,aZ,aV,aX,aW,yaq,yar,yao,yap,go_sem,iNq,ybb,inL,hN2,hgz,cK,cJ,cI,cO,cq,cu,cP,cM,ct,cw,dd,dc]
   (repeat with_reducible refine Yq ?_)
   refine ⟨q,⟨rfl,hqo.tl⟩,?_⟩
   try simp only [aM,aj,bhq,Nat.reduceMod,Nat.reduceDiv,aB,aC,aD,ba,aE,aZ,aV,aX,aW,yaq,yar,yao,yap,go_sem,cK,cJ,cI,cO,cq,cu,cP,cM,ct,cw,dd,dc]
   refine ⟨q,⟨rfl,hqo⟩,?_⟩
   try simp only [aM,aj,bhq,Nat.reduceMod,Nat.reduceDiv,aB,aC,aD,ba,aE,aZ,aV,aX,aW,yaq,yar,yao,yap,go_sem,cK,cJ,cI,cO,cq,cu,cP,cM,ct,cw,dd,dc,bne_self_eq_false]
   refine ⟨q,⟨rfl,hqo.fl⟩,?_⟩
   try simp only [aM,aj,bhq,Nat.reduceMod,Nat.reduceDiv,aB,aC,aD,ba,aE,aZ,aV,aX,aW,yaq,yar,yao,yap,go_sem,cK,cJ,cI,cO,cq,cu,cP,cM,ct,cw,dd,dc]
   refine ⟨q,⟨rfl,hqo⟩,?_⟩
   try simp only [aM,aj,bhq,Nat.reduceMod,Nat.reduceDiv,aB,aC,aD,ba,aE,aZ,aV,aX,aW,yaq,yar,yao,yap,go_sem,cK,cJ,cI,cO,cq,cu,cP,cM,ct,cw,dd,dc,bne_self_eq_false]
   refine ⟨q,⟨rfl,hqo.hl⟩,?_⟩
   try simp only [aM,aj,bhq,Nat.reduceMod,Nat.reduceDiv,aB,aC,aD,ba,aE,aZ,aV,aX,aW,yaq,yar,yao,yap,go_sem,cK,cJ,cI,cO,cq,cu,cP,cM,ct,cw,dd,dc]
   refine ⟨q,⟨rfl,hqo⟩,?_⟩
   try simp only [aM,aj,bhq,Nat.reduceMod,Nat.reduceDiv,aB,aC,aD,ba,aE,aZ,aV,aX,aW,yaq,yar,yao,yap,go_sem,cK,cJ,cI,cO,cq,cu,cP,cM,ct,cw,dd,dc,bne_self_eq_false]
   refine ⟨q,⟨rfl,hqo.sl⟩,?_⟩
   try simp only [aM,aj,bhq,Nat.reduceMod,Nat.reduceDiv,aB,aC,aD,ba,aE,aZ,aV,aX,aW,yaq,yar,yao,yap,go_sem,cK,cJ,cI,cO,cq,cu,cP,cM,ct,cw,dd,dc]
   refine ⟨q,⟨rfl,hqo⟩,?_⟩
   try simp only [aM,aj,bhq,Nat.reduceMod,Nat.reduceDiv,aB,aC,aD,ba,aE,aZ,aV,aX,aW,yaq,yar,yao,yap,go_sem,cK,cJ,cI,cO,cq,cu,cP,cM,ct,cw,dd,dc,bne_self_eq_false]
   refine ⟨q,⟨rfl,hqo.al⟩,?_⟩
   try simp only [aM,aj,bhq,Nat.reduceMod,Nat.reduceDiv,aB,aC,aD,ba,aE,aZ,aV,aX,aW,yaq,yar,yao,yap,go_sem,cK,cJ,cI,cO,cq,cu,cP,cM,ct,cw,dd,dc]
   refine ⟨q,⟨rfl,hqo⟩,?_⟩
   try simp only [aM,aj,bhq,Nat.reduceMod,Nat.reduceDiv,aB,aC,aD,ba,aE,aZ,aV,aX,aW,yaq,yar,yao,yap,go_sem,cK,cJ,cI,cO,cq,cu,cP,cM,ct,cw,dd,dc,bne_self_eq_false]
   refine ⟨q,⟨rfl,hqo.rl⟩,?_⟩
   try simp only [aM,aj,bhq,Nat.reduceMod,Nat.reduceDiv,aB,aC,aD,ba,aE,aZ,aV,aX,aW,yaq,yar,yao,yap,go_sem,cK,cJ,cI,cO,cq,cu,cP,cM,ct,cw,dd,dc]
   refine ⟨q,⟨rfl,hqo⟩,?_⟩
   try simp only [aM,aj,bhq,Nat.reduceMod,Nat.reduceDiv,aB,aC,aD,ba,aE,aZ,aV,aX,aW,yaq,yar,yao,yap,go_sem,cK,cJ,cI,cO,cq,cu,cP,cM,ct,cw,dd,dc,bne_self_eq_false]
   simp only [e6]
   have hlN:∀ n':Nat,AV.lt n' (.slice .any 1 (N.map (AV.int .i64))):=fun n'=>lf
   refine ⟨j+1,by omega,by omega,by simp only [zle];omega,lRq _,ae hcl (tR q),?_,?_⟩
   ·simp [ltF,znf,znn,zle,aL lP,hlN]
   ·simp [aS,wk2,wk1,wkM,Fr.get]
  ·simp only [go_sem,e5]
   refine ⟨k+1,by omega,by omega,nrq _,by repeat first|exact .refl _|refine .push ?_ _,hcl,?_,?_⟩
   ·simp [ltF,znf,aL lP]
   ·simp [aS,wk2,wk1,wkM,Fr.get]
 ·simp only [go_sem,oU]
  refine ⟨?_,by repeat first|exact .refl _|refine .push ?_ _,hcl,?_⟩
  ·simp [wk,wk2,wk1]
  ·simp [zng]
end Go.AL
