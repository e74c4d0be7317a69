/- Lemmas of the proof; no condition. -/
import Derived.Test.YtpofmhikcgkdhaaGreatS07l
import Derived.Test.YtpofmhikcgkdhaaGreatS07h
import Derived.Test.YtpofmhikcgkdhaaGreatLPar
set_option linter.all false
set_option maxRecDepth 10000
open Go Go.AL Go.Proofs
namespace Go.AL
theorem Cq {n m:Nd} (h1:n.op=m.op) (h2:n.a=m.a) (h3:n.b=m.b) (h4:n.name=m.name) (h5:n.attr=m.attr) (h6:n.v/2^64=m.v/2^64) (h7:n.v % 2^64=m.v % 2^64):n=m:=by
 cases n;cases m
 simp only at *
 subst h1 h2 h3 h4 h5
 congr 1
 omega
theorem xH {n m:Nd}:teq Tryz.prog 9 57 (gJ n) (gJ m)=some (decide (n=m)):=by
 have g1:Tryz.prog.stoodInHeld 57=false:=by kernel_rfl
 have g2:Tryz.prog.stoodInHeld 55=false:=by kernel_rfl
 by_cases h:n=m
 ·subst h
  rw [dtq rfl]
  exact tt
 ·rw [dfq h]
  simp only [gJ]
  generalize h1:n.v/2^64=nh
  generalize h2:n.v % 2^64=nl
  generalize h3:m.v/2^64=mh
  generalize h4:m.v % 2^64=ml
  simp [rt,jY,teq,teq.go,teq.part,pC,rD,ks,ceq,g1,g2,TD.agg]
  intro k1 k2 k3 k4 k5 k6 k7
  exact h (Cq (by omega) (by omega) (by omega) k4 k5 (by omega) (by omega))
def pH:List AV→AHeap→(AV→Prop)→Prop
 |[.slice _ 7 x,.slice _ 7 y],_,K=>∃ t u,(x=nds t∧y=nds u∧t.length≤100000)∧K (.bool (decide (t=u)))
 |_,_,_=>False
set_option maxHeartbeats 4000000 in
theorem ye:EntOk Tryz.prog 35 (Ent.pure pH):=by
 refine Ype fun _ H K h=>?_
 unfold pH at h
 split at h
 rotate_left
 ·exact h.elim
 rename_i m x m' y
 obtain ⟨t,u,⟨rfl,rfl,hl⟩,hK⟩:=h
 refine ⟨_,hK,?_⟩
 clear hK
 refine ACalls.fW aE tNq Tryz.func35 [.tmp 4] (nrq _) (T:=ay []) (h:=fun hcl hlt=>?_)
 have hm:∀ n',H.nx≤n'→AV.lt n' (.slice m 7 (nds t)):=fun n' hn=>AV.lt_mono hn _ (hlt (.slice m 7 (nds t)) (by simp))
 have hm':∀ n',H.nx≤n'→AV.lt n' (.slice m' 7 (nds u)):=fun n' hn=>AV.lt_mono hn _ (hlt (.slice m' 7 (nds u)) (by simp))
 clear hlt
 simp only [go_sem,az]
 refine ah (fun hc=>?_) (fun hc=>?_)
 ·have hne:decide (t=u)=false:=dfq fun e=>by subst e;simp at hc
  simp only [go_sem,hne]
  exact Z18
 have hlen:t.length=u.length:=by simp at hc;omega
 simp only [go_sem,az]
 refine au (A:=Nat) (fun k=>[(0,.slice m 7 (nds t)),(1,.slice m' 7 (nds u)),(12,.int .i64 (t.length:Int)),(13,.int .i64 (k:Int))]) (fun k=>H) (fun k=>k≤t.length∧t.take k=u.take k) (fun k=>t.length - k) 0 ⟨by omega,rfl⟩ ?_ fun k hk=>?_
 ·exact Z33
 obtain ⟨hk,htk⟩:=hk
 simp only [go_sem]
 refine ah (fun hc=>?_) (fun hc=>?_)
 ·have hk1:k<t.length:=by simp at hc;omega
  have hk2:k<u.length:=by omega
  have e5:=Yk5 k
  have tq:=xH (n:=t[k]) (m:=u[k])
  simp only [gJ] at tq
  simp only [go_sem,az,cw hk1,cw hk2,iNq,e5,tq,sV]
  refine ⟨by omega,by omega,?_⟩
  refine ah (fun h2=>?_) (fun h2=>?_)
  ·have hne:t[k]≠u[k]:=by simpa using h2
   have hd:decide (t=u)=false:=dfq fun e=>hne (by subst e;rfl)
   simp only [go_sem,hd]
   exact Z18
  ·have he:t[k]=u[k]:=by simpa using h2
   try simp only [go_sem,e5]
   refine ⟨k+1,⟨by omega,?_⟩,by omega,?_⟩
   ·rw [List.take_succ_eq_append_getElem hk1,List.take_succ_eq_append_getElem hk2,htk,he]
   exact Z33
 ·have hk1:k=t.length:=by simp at hc;omega
  have heq:decide (t=u)=true:=dtq (by
   rw [hk1,List.take_length,hlen,List.take_length] at htk;exact htk)
  simp only [go_sem,heq]
  exact Z18
def sN:List AV→AHeap→(AV→Prop)→Prop
 |[.slice _ 7 x,.slice _ 7 y],_,K=>∃ t u,(x=nds t∧y=nds u∧t.length≤100000)∧K (.bool (decide (t=u)))
 |_,_,_=>False
theorem yx:EntOk Tryz.prog 14 (Ent.pure sN):=by
 refine Ype fun _ H K h=>?_
 unfold sN at h
 split at h
 rotate_left
 ·exact h.elim
 rename_i m x m' y
 obtain ⟨t,u,⟨rfl,rfl,hl⟩,hK⟩:=h
 refine ⟨_,hK,?_⟩
 clear hK
 refine ACalls.fW aE (tCq ye tNq) Tryz.func14 [.tmp 4] (nrq _) (T:=ay []) (h:=fun hcl hlt=>?_)
 clear hlt
 simp only [go_sem,pH]
 refine ⟨t,u,⟨rfl,rfl,hl⟩,?_⟩
 try simp only [go_sem]
 exact Z18
theorem sy {l:List Tok}:nX True l:=fun _ _=>trivial
theorem vQ {o:Option (List Nd)}:uo o=.tup [.slice .any 7 (nds (o.getD [])),.slice .any 7 (nds (o.getD [])),.bool true,.bool o.isSome]:=by
 cases o<;>rfl
end Go.AL
