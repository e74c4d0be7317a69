/- Lemmas of the proof; no condition. -/
import Derived.Test.YtjffcopmhkcejaaGreatS12a
import Derived.Test.YtjffcopmhkcejaaGreatS10t
set_option linter.all false
set_option maxRecDepth 10000
open Go Go.AL Go.Proofs
namespace Go.AL
def vN:PCt
 |[.slice _ 1 l,.int .i64 n],_,K=>∃ xs:List Int,(l=inL xs∧xs.length≤1000000)∧K (.int .i64 (ixP (fun x=>x==n) xs 0))
 |_,_,_=>False
def FC:EPp 320 vN:=by
 refine Ype fun _ H K h=>?_
 unfold vN at h
 split at h<;>try exact h.elim
 rename_i m l n
 obtain⟨xs,⟨rfl,hl⟩,hK⟩:=h
 refine⟨_,hK,?_⟩
 clear hK
 generalize hR:ixP (fun x:Int=>x==n) xs 0=R
 refine Yfv aD tNq Tryz.func320 [.tmp 4] fun hcl hlt=>?_
 have hm:AV.lt H.nx (.slice m 1 (inL xs)):=hlt _ Xc
 clear hlt
 simp only[go_sem,iK]
 refine aG (A:=Nat) (fun k=>[(0,.slice m 1 (inL xs)),(1,.int .i64 n),(7,.int .i64 (xs.length:Int)),(8,.int .i64 (k:Int))]) (fun _=>H) (fun k=>k≤xs.length∧ixP (fun x:Int=>x==n) (xs.drop k) k=R) (fun k=>xs.length-k) 0 ⟨Xa,hR⟩ ?_ fun k hk=>?_
 ·refine⟨nrq _,lRq _,hcl,?_,?_⟩
  ·simp[ltF,znd,hm]
  ·exact Y14
 clear hR
 obtain⟨hk,hR⟩:=hk
 refine Tq20 ?_
 refine ax (fun hc=>?_) (fun hc=>?_)
 ·have hk':k<xs.length:=sHc
  obtain⟨x,hx⟩:∃ x,x=xs[k]:=⟨_,rfl⟩
  have hd:xs.drop k=x::xs.drop (k+1):=by rw[hx];exact dcq hk'
  have hg:=a9 (f:=AV.int .i64) (l:=xs) (k:=k) (x:=x) (by rw[gQq hk',hx])
  have e5:=Yk5 k
  rw[hd]at hR
  unfold ixP at hR
  simp only[go_sem,iNq,inL,hg,ybb]
  refine Tq7 ?_
  rw[show(n==x)=(x==n) from BEq.comm]
  refine ax (fun hq=>?_) (fun hq=>?_)
  ·rw[if_pos hq]at hR
   subst hR
   exact Y32
  ·rw[if_neg (by rw[hq];decide)]at hR
   simp only[go_sem,e5]
   unfold inL at hm
   refine⟨k+1,⟨Xa,hR⟩,Xa,nrq _,lRq _,hcl,?_,?_⟩
   ·simp[ltF,znd,hm]
   ·exact Y14
 ·have hk':k=xs.length:=sHc
  exact Y21
def iS:PCt
 |[.slice _ 1 l,.int .i64 n],_,K=>∃ xs:List Int,(l=inL xs∧xs.length≤1000000)∧K (.bool (xs.contains n))
 |_,_,_=>False
def NX{xs:List Int}{n:Int}:decide (ixP (fun x=>x==n) xs 0 ≥ 0)=xs.contains n:=by
 have key:∀(xs:List Int)(k:Nat),decide (0≤ixP (fun x=>x==n) xs k)=xs.contains n:=by
  intro xs
  induction xs with
  |nil=>intro k;rfl
  |cons x xs ih =>
   intro k
   unfold ixP
   rw[List.contains_cons]
   by_cases h:x=n
   ·subst h;simp
   ·rw[if_neg (by simp[h]),ih]
    have:(n==x)=false:=beq_eq_false_iff_ne.2 (Ne.symm h)
    rw[this,Bool.false_or]
 exact key xs 0
def sv:EPp 259 iS:=by
 refine Ype fun _ H K h=>?_
 unfold iS at h
 split at h<;>try exact h.elim
 rename_i m l n
 obtain⟨xs,⟨rfl,hl⟩,hK⟩:=h
 refine⟨_,hK,?_⟩
 clear hK
 generalize hR:xs.contains n=R
 rw[← NX]at hR
 refine Yfu aD (tCq FC tNq) Tryz.func259 [.tmp 4] fun hcl=>?_
 simp only[go_sem,vN]
 refine⟨xs,⟨rfl,hl⟩,?_⟩
 have hR':decide (0≤ixP (fun x=>x==n) xs 0)=R:=hR
 exact Y94
def cG:PCt
 |[.agg [.int .u64 a,.int .u64 b],.int .i64 n],_,K=>isV a b∧K (.bool (decide (((bl (vOf a.toNat b.toNat):Nat):Int)≤n)))
 |_,_,_=>False
def vj:EPp 175 cG:=by
 refine Ype fun _ H K h=>?_
 unfold cG at h
 split at h<;>try exact h.elim
 rename_i a b n
 obtain⟨hv,hK⟩:=h
 refine⟨_,hK,?_⟩
 clear hK
 refine Yfu aD (tCq Em tNq) Tryz.func175 [.tmp 4] fun hcl=>?_
 simp only[go_sem,zo]
 refine⟨hv,?_⟩
 exact Y37
def tZ{n:Nat}(S:Sch):ltL n [.slice .any 3 (S.fields.map aJ),.slice .any 3 (S.headers.map az),.slice .any 5 (S.states.map aE),.slice .any 5 (S.actions.map ap),.slice .any 8 (S.tables.map au),.slice .any 2 (S.stages.map aQ),.slice .any 6 (S.roles.map aP),.slice .any 6 (S.refs.map bc),.int .i64 S.maxBatch,.int .i64 S.budget]:=by
 have:=@iC n S
 unfold cW aR at this
 rwa[znp]at this
def Aw:List SParam→List Nat→Bool
 |p::ps,v::vs=>decide (((bl v:Nat):Int)≤p.bits)&&Aw ps vs
 |_,_=>true
def xE(ps:List SParam)(vs:List Nat):Bool:=decide (vs.length=ps.length)&&Aw ps vs
def dH:PCt
 |[.agg l,.slice _ 2 z],_,K=>∃ (a:SAction) (vs:List Nat),(ap a=.agg l∧z=vs.map vv∧a.params.length≤1000∧∀ x∈vs,x<2^128)∧K (.bool (xE a.params vs))
 |_,_,_=>False
set_option maxHeartbeats 2000000 in
theorem Ai:EPp 177 dH:=by
 refine Ype fun _ H K h=>?_
 unfold dH at h
 split at h<;>try exact h.elim
 rename_i l m z
 obtain⟨a,vs,⟨ha,rfl,hpl,hvs⟩,hK⟩:=h
 refine⟨_,hK,?_⟩
 clear hK
 unfold ap at ha
 cases ha
 generalize hR:xE a.params vs=R
 unfold xE at hR
 refine ACalls.fW aD (tCq vj tNq) Tryz.func177 [.tmp 4] (nrq _) (T:=aC [(6,[[],[],[],[],[],[],[3,5]])]) (h:=fun hcl hlt=>?_)
 have hm:∀ n',H.nx≤n'→AV.lt n' (.slice m 2 (vs.map vv)):=fun n' hn=>AV.lt_mono hn _ (hlt (.slice m 2 (vs.map vv)) Xc)
 clear hlt
 have dn1:(!true)=false:=rfl
 have dn2:(!false)=true:=rfl
 by_cases hlen:vs.length=a.params.length
 rotate_left
 ·exact Y78
 rw[dtq hlen,Bool.true_and]at hR
 have dl:((vs.length:Int) !=(a.params.length:Int))=false:=by simp[hlen]
 simp only[aX,aA,bhq,go_sem,ybb,dl]
 refine aG (A:=Nat) (fun k=>[(1,.slice m 2 (vs.map vv)),(14,.slice .any 2 (a.params.map aL)),(15,.int .i64 (a.params.length:Int)),(16,.int .i64 (k:Int))]) (fun _=>H)
  (fun k=>k≤a.params.length∧Aw (a.params.drop k) (vs.drop k)=R) (fun k=>a.params.length-k) 0 ⟨Nat.zero_le _,hR⟩ ?_ fun k hk=>?_
 ·refine eNt hcl ?_ ?_
  ·exact Y132
  ·exact Y14
 clear hR
 obtain⟨hk,hR⟩:=hk
 refine Tq23 ?_
 refine ax (fun hc=>?_) (fun hc=>?_)
 ·have hk':k<a.params.length:=sHc
  have hkv:k<vs.length:=Xa
  obtain⟨x,hx⟩:∃ x,x=vs[k]:=⟨_,rfl⟩
  obtain⟨p,hp⟩:∃ p,p=a.params[k]:=⟨_,rfl⟩
  have hd:vs.drop k=x::vs.drop (k+1):=by rw[hx];exact dcq hkv
  have hdp:a.params.drop k=p::a.params.drop (k+1):=by rw[hp];exact dcq hk'
  have hgx:=a9 (f:=vv) (l:=vs) (k:=k) (x:=x) (by rw[gQq hkv,hx])
  have hgp:=a9 (f:=aL) (l:=a.params) (k:=k) (x:=p) (by rw[gQq hk',hp])
  have hxl:=hvs x (by rw[hx];exact gMq hkv)
  have iv:=qm hxl
  have e5:=Yk5 k
  rw[hd,hdp]at hR
  unfold Aw at hR
  simp only[aX,aA,bhq,go_sem,iNq,hgx,hgp,vv,aL,ybb,cG,kx,iv]
  refine Tq7 ?_
  cases hq:decide (((bl x:Nat):Int)≤p.bits)with
  |false=>
   rw[hq,Bool.false_and]at hR
   subst hR
   simp only[aX,aA,bhq,go_sem,dn1,dn2]
   exact Y8
  |true=>
   rw[hq,Bool.true_and]at hR
   simp only[aX,aA,bhq,go_sem,dn1,dn2,e5]
   refine Tq8 ?_
   refine⟨k+1,⟨Xa,hR⟩,Xa,?_⟩
   refine eNt hcl ?_ ?_
   ·exact Y132
   ·exact Y14
 ·exact Y65
end Go.AL
