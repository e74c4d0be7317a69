/- Lemmas of the proof; no condition. -/
import Derived.Test.YthnlhjalhflgfaaGreatS12a
import Derived.Test.YthnlhjalhflgfaaGreatS10t
set_option linter.all false
set_option maxRecDepth 10000
open Go Go.AL Go.Proofs
namespace Go.AL
def vu:PCt
 |[.slice _ 1 l,.int .i64 n],_,K=>∃ xs:List Int,(l=inL xs∧xs.length≤1000000)∧K (.int .i64 (ixP (fun x=>x==n) xs 0))
 |_,_,_=>False
theorem Du:EPp 187 vu:=by
 refine Ype fun _ H K h=>?_
 unfold vu at h
 split at h<;>try exact h.elim
 rename_i m l n
 obtain ⟨xs,⟨rfl,hl⟩,hK⟩:=h
 refine ⟨_,hK,?_⟩
 clear hK
 generalize hR:ixP (fun x:Int=>x==n) xs 0=R
 refine Yfv aE tNq Tryz.func187 [.tmp 4] fun hcl hlt=>?_
 have hm:AV.lt H.nx (.slice m 1 (inL xs)):=hlt _ (by simp)
 clear hlt
 simp only [go_sem,ib]
 refine aC (A:=Nat) (fun k=>[(0,.slice m 1 (inL xs)),(1,.int .i64 n),(7,.int .i64 (xs.length:Int)),(8,.int .i64 (k:Int))]) (fun _=>H) (fun k=>k≤xs.length∧ixP (fun x:Int=>x==n) (xs.drop k) k=R) (fun k=>xs.length - k) 0 ⟨by omega,hR⟩ ?_ fun k hk=>?_
 ·refine ⟨nrq _,lRq _,hcl,?_,?_⟩
  ·simp [ltF,znf,hm]
  ·exact Y13
 clear hR
 obtain ⟨hk,hR⟩:=hk
 refine Tq15 ?_
 refine au (fun hc=>?_) (fun hc=>?_)
 ·have hk':k<xs.length:=sHc
  obtain ⟨x,hx⟩:∃ x,x=xs[k]:=⟨_,rfl⟩
  have hd:xs.drop k=x::xs.drop (k+1):=by rw [hx];exact dcq hk'
  have hg:=aV (f:=AV.int .i64) (l:=xs) (k:=k) (x:=x) (by rw [gQq hk',hx])
  have e5:=Yk5 k
  rw [hd] at hR
  unfold ixP at hR
  simp only [go_sem,iNq,inL,hg,ybb]
  refine Tq3 ?_
  rw [show (n==x)=(x==n) from BEq.comm]
  refine au (fun hq=>?_) (fun hq=>?_)
  ·rw [if_pos hq] at hR
   subst hR
   exact Y32
  ·rw [if_neg (by rw [hq];decide)] at hR
   simp only [go_sem,e5]
   unfold inL at hm
   refine ⟨k+1,⟨by omega,hR⟩,by omega,nrq _,lRq _,hcl,?_,?_⟩
   ·simp [ltF,znf,hm]
   ·exact Y13
 ·have hk':k=xs.length:=sHc
  exact Y21
def gA:PCt
 |[.slice _ 1 l,.int .i64 n],_,K=>∃ xs:List Int,(l=inL xs∧xs.length≤1000000)∧K (.bool (xs.contains n))
 |_,_,_=>False
theorem Oz {xs:List Int} {n:Int}:decide (ixP (fun x=>x==n) xs 0 ≥ 0)=xs.contains n:=by
 have key:∀ (xs:List Int) (k:Nat),decide (0≤ixP (fun x=>x==n) xs k)=xs.contains n:=by
  intro xs
  induction xs with
  |nil=>intro k;rfl
  |cons x xs ih =>
   intro k
   unfold ixP
   rw [List.contains_cons]
   by_cases h:x=n
   ·subst h;simp
   ·rw [if_neg (by simp [h]),ih]
    have:(n==x)=false:=beq_eq_false_iff_ne.2 (Ne.symm h)
    rw [this,Bool.false_or]
 exact key xs 0
theorem nG:EPp 51 gA:=by
 refine Ype fun _ H K h=>?_
 unfold gA at h
 split at h<;>try exact h.elim
 rename_i m l n
 obtain ⟨xs,⟨rfl,hl⟩,hK⟩:=h
 refine ⟨_,hK,?_⟩
 clear hK
 generalize hR:xs.contains n=R
 rw [← Oz] at hR
 refine Yfu aE (tCq Du tNq) Tryz.func51 [.tmp 4] fun hcl=>?_
 simp only [go_sem,vu]
 refine ⟨xs,⟨rfl,hl⟩,?_⟩
 have hR':decide (0≤ixP (fun x=>x==n) xs 0)=R:=hR
 exact Y90
def cy:PCt
 |[.agg [.int .u64 a,.int .u64 b],.int .i64 n],_,K=>isV a b∧K (.bool (decide (((bl (vOf a.toNat b.toNat):Nat):Int)≤n)))
 |_,_,_=>False
theorem tS:EPp 183 cy:=by
 refine Ype fun _ H K h=>?_
 unfold cy at h
 split at h<;>try exact h.elim
 rename_i a b n
 obtain ⟨hv,hK⟩:=h
 refine ⟨_,hK,?_⟩
 clear hK
 refine Yfu aE (tCq CP tNq) Tryz.func183 [.tmp 4] fun hcl=>?_
 simp only [go_sem,ye]
 refine ⟨hv,?_⟩
 exact Y37
theorem nJ {n:Nat} (S:Sch):ltL n [.slice .any 3 (S.fields.map aG),.slice .any 3 (S.headers.map az),.slice .any 5 (S.states.map aA),.slice .any 5 (S.actions.map ap),.slice .any 8 (S.tables.map ax),.slice .any 2 (S.stages.map aO),.slice .any 6 (S.roles.map aN),.slice .any 6 (S.refs.map a9),.int .i64 S.maxBatch,.int .i64 S.budget]:=by
 have:=@sF n S
 unfold eE aR at this
 rwa [znr] at this
def yH:List SParam→List Nat→Bool
 |p::ps,v::vs=>decide (((bl v:Nat):Int)≤p.bits)&&yH ps vs
 |_,_=>true
def xE (ps:List SParam) (vs:List Nat):Bool:=decide (vs.length=ps.length)&&yH ps vs
def dt:PCt
 |[.agg l,.slice _ 2 z],_,K=>∃ (a:SAction) (vs:List Nat),(ap a=.agg l∧z=vs.map vv∧a.params.length≤1000∧∀ x∈vs,x<2^128)∧K (.bool (xE a.params vs))
 |_,_,_=>False
set_option maxHeartbeats 2000000 in
theorem yS:EPp 185 dt:=by
 refine Ype fun _ H K h=>?_
 unfold dt at h
 split at h<;>try exact h.elim
 rename_i l m z
 obtain ⟨a,vs,⟨ha,rfl,hpl,hvs⟩,hK⟩:=h
 refine ⟨_,hK,?_⟩
 clear hK
 unfold ap at ha
 cases ha
 generalize hR:xE a.params vs=R
 unfold xE at hR
 refine ACalls.fW aE (tCq tS tNq) Tryz.func185 [.tmp 4] (nrq _) (T:=aB [(6,[[],[],[],[],[],[],[3,5]])]) (h:=fun hcl hlt=>?_)
 have hm:∀ n',H.nx≤n'→AV.lt n' (.slice m 2 (vs.map vv)):=fun n' hn=>AV.lt_mono hn _ (hlt (.slice m 2 (vs.map vv)) (by simp))
 clear hlt
 have dn1:(!true)=false:=rfl
 have dn2:(!false)=true:=rfl
 by_cases hlen:vs.length=a.params.length
 rotate_left
 ·exact Y72
 rw [dtq hlen,Bool.true_and] at hR
 have dl:((vs.length:Int) != (a.params.length:Int))=false:=by simp [hlen]
 refine Tq73 ?_
 refine aC (A:=Nat) (fun k=>[(1,.slice m 2 (vs.map vv)),(14,.slice .any 2 (a.params.map aL)),(15,.int .i64 (a.params.length:Int)),(16,.int .i64 (k:Int))]) (fun _=>H)
  (fun k=>k≤a.params.length∧yH (a.params.drop k) (vs.drop k)=R) (fun k=>a.params.length - k) 0 ⟨Nat.zero_le _,hR⟩ ?_ fun k hk=>?_
 ·refine eNt hcl ?_ ?_
  ·exact Y128
  ·exact Y13
 clear hR
 obtain ⟨hk,hR⟩:=hk
 refine Tq20 ?_
 refine au (fun hc=>?_) (fun hc=>?_)
 ·have hk':k<a.params.length:=sHc
  have hkv:k<vs.length:=by omega
  obtain ⟨x,hx⟩:∃ x,x=vs[k]:=⟨_,rfl⟩
  obtain ⟨p,hp⟩:∃ p,p=a.params[k]:=⟨_,rfl⟩
  have hd:vs.drop k=x::vs.drop (k+1):=by rw [hx];exact dcq hkv
  have hdp:a.params.drop k=p::a.params.drop (k+1):=by rw [hp];exact dcq hk'
  have hgx:=aV (f:=vv) (l:=vs) (k:=k) (x:=x) (by rw [gQq hkv,hx])
  have hgp:=aV (f:=aL) (l:=a.params) (k:=k) (x:=p) (by rw [gQq hk',hp])
  have hxl:=hvs x (by rw [hx];exact gMq hkv)
  have iv:=ph hxl
  have e5:=Yk5 k
  rw [hd,hdp] at hR
  unfold yH at hR
  simp only [bm,aD,bhq,Nat.reduceMod,Nat.reduceDiv,aW,aX,aZ,bx,aY,bw,bo,bp,bv,yaq,yar,yao,yap,go_sem,iNq,hgx,hgp,vv,aL,ybb,cy,jI,iv]
  refine Tq3 ?_
  cases hq:decide (((bl x:Nat):Int)≤p.bits) with
  |false =>
   rw [hq,Bool.false_and] at hR
   subst hR
   refine Tq70 ?_
   exact Y8
  |true =>
   rw [hq,Bool.true_and] at hR
   refine Tq67 ?_
   refine Tq4 ?_
   refine ⟨k+1,⟨by omega,hR⟩,by omega,?_⟩
   refine eNt hcl ?_ ?_
   ·exact Y128
   ·exact Y13
 ·exact Y60
end Go.AL
