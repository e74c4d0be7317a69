/- Lemmas of the proof; no condition. -/
import Derived.Test.YthnlhjalhflgfaaGreatS12a
import Derived.Test.YthnlhjalhflgfaaGreatS10t
set_option linter.all false
set_option maxRecDepth 10000
open List renaming length_cons → yaz, length_nil → yba, length_map → ybb, take_of_length_le → ybc, drop_append → ybd, take_append → ybe, drop_eq_nil_of_le → ybf, take_succ_cons → yaq, take_zero → yar, drop_succ_cons → yao, drop_zero → yap
open Go Go.AL Go.Proofs
namespace Go.AL
def vG:PCt
 |[.slice _ 1 l,.int .i64 n],_,K=>∃ xs:List Int,(l=inL xs∧xs.length≤1000000)∧K (.int .i64 (ixP (fun x=>x==n) xs 0))
 |_,_,_=>False
theorem EH:EPp 187 vG:=by
 refine Ype fun _ H K h=>?_
 unfold vG at h
 split at h<;>try exact h.elim
 rename_i m l n
 obtain ⟨xs,⟨rfl,hl⟩,hK⟩:=h
 refine ⟨_,hK,?_⟩
 clear hK
 generalize hR:ixP (fun x:Int=>x==n) xs 0=R
 refine Yfv aC tNq Tryz.func187 [.tmp 4] fun hcl hlt=>?_
 have hm:AV.lt H.nx (.slice m 1 (inL xs)):=hlt _ (by simp)
 clear hlt
 simp only [go_sem,io]
 refine aD (A:=Nat) (fun k=>[(0,.slice m 1 (inL xs)),(1,.int .i64 n),(7,.int .i64 (xs.length:Int)),(8,.int .i64 (k:Int))]) (fun _=>H) (fun k=>k≤xs.length∧ixP (fun x:Int=>x==n) (xs.drop k) k=R) (fun k=>xs.length - k) 0 ⟨by omega,hR⟩ ?_ fun k hk=>?_
 ·refine ⟨nrq _,lRq _,hcl,?_,?_⟩
  ·simp [ltF,znf,hm]
  ·exact Y14
 clear hR
 obtain ⟨hk,hR⟩:=hk
 refine Tq15 ?_
 refine ay (fun hc=>?_) (fun hc=>?_)
 ·have hk':k<xs.length:=sHc
  obtain ⟨x,hx⟩:∃ x,x=xs[k]:=⟨_,rfl⟩
  have hd:xs.drop k=x::xs.drop (k+1):=by rw [hx];exact dcq hk'
  have hg:=aV (f:=AV.int .i64) (l:=xs) (k:=k) (x:=x) (by rw [gQq hk',hx])
  have e5:=Yk5 k
  rw [hd] at hR
  unfold ixP at hR
  simp only [go_sem,iNq,inL,hg,ybb]
  refine Tq3 ?_
  rw [show (n==x)=(x==n) from BEq.comm]
  refine ay (fun hq=>?_) (fun hq=>?_)
  ·rw [if_pos hq] at hR
   subst hR
   exact Y32
  ·rw [if_neg (by rw [hq];decide)] at hR
   simp only [go_sem,e5]
   unfold inL at hm
   refine ⟨k+1,⟨by omega,hR⟩,by omega,nrq _,lRq _,hcl,?_,?_⟩
   ·simp [ltF,znf,hm]
   ·exact Y14
 ·have hk':k=xs.length:=sHc
  exact Y21
def iA:PCt
 |[.slice _ 1 l,.int .i64 n],_,K=>∃ xs:List Int,(l=inL xs∧xs.length≤1000000)∧K (.bool (xs.contains n))
 |_,_,_=>False
theorem NI {xs:List Int} {n:Int}:decide (ixP (fun x=>x==n) xs 0 ≥ 0)=xs.contains n:=by
 have key:∀ (xs:List Int) (k:Nat),decide (0≤ixP (fun x=>x==n) xs k)=xs.contains n:=by
  intro xs
  induction xs with
  |nil=>intro k;rfl
  |cons x xs ih =>
   intro k
   unfold ixP
   rw [List.contains_cons]
   by_cases h:x=n
   ·subst h;simp
   ·rw [if_neg (by simp [h]),ih]
    have:(n==x)=false:=beq_eq_false_iff_ne.2 (Ne.symm h)
    rw [this,Bool.false_or]
 exact key xs 0
theorem rT:EPp 51 iA:=by
 refine Ype fun _ H K h=>?_
 unfold iA at h
 split at h<;>try exact h.elim
 rename_i m l n
 obtain ⟨xs,⟨rfl,hl⟩,hK⟩:=h
 refine ⟨_,hK,?_⟩
 clear hK
 generalize hR:xs.contains n=R
 rw [← NI] at hR
 refine Yfu aC (tCq EH tNq) Tryz.func51 [.tmp 4] fun hcl=>?_
 simp only [go_sem,vG]
 refine ⟨xs,⟨rfl,hl⟩,?_⟩
 have hR':decide (0≤ixP (fun x=>x==n) xs 0)=R:=hR
 exact Y92
def cC:PCt
 |[.agg [.int .u64 a,.int .u64 b],.int .i64 n],_,K=>isV a b∧K (.bool (decide (((bl (vOf a.toNat b.toNat):Nat):Int)≤n)))
 |_,_,_=>False
theorem vt:EPp 183 cC:=by
 refine Ype fun _ H K h=>?_
 unfold cC at h
 split at h<;>try exact h.elim
 rename_i a b n
 obtain ⟨hv,hK⟩:=h
 refine ⟨_,hK,?_⟩
 clear hK
 refine Yfu aC (tCq Ds tNq) Tryz.func183 [.tmp 4] fun hcl=>?_
 simp only [go_sem,za]
 refine ⟨hv,?_⟩
 exact Y37
theorem yP {n:Nat} (S:Sch):ltL n [.slice .any 3 (S.fields.map aH),.slice .any 3 (S.headers.map az),.slice .any 5 (S.states.map aB),.slice .any 5 (S.actions.map ap),.slice .any 8 (S.tables.map ax),.slice .any 2 (S.stages.map aO),.slice .any 6 (S.roles.map aN),.slice .any 6 (S.refs.map bh),.int .i64 S.maxBatch,.int .i64 S.budget]:=by
 have:=@sU n S
 unfold eJ aS at this
 rwa [znr] at this
def zl:List SParam→List Nat→Bool
 |p::ps,v::vs=>decide (((bl v:Nat):Int)≤p.bits)&&zl ps vs
 |_,_=>true
def yS (ps:List SParam) (vs:List Nat):Bool:=decide (vs.length=ps.length)&&zl ps vs
def du:PCt
 |[.agg l,.slice _ 2 z],_,K=>∃ (a:SAction) (vs:List Nat),(ap a=.agg l∧z=vs.map vv∧a.params.length≤1000∧∀ x∈vs,x<2^128)∧K (.bool (yS a.params vs))
 |_,_,_=>False
set_option maxHeartbeats 2000000 in
theorem Ak:EPp 185 du:=by
 refine Ype fun _ H K h=>?_
 unfold du at h
 split at h<;>try exact h.elim
 rename_i l m z
 obtain ⟨a,vs,⟨ha,rfl,hpl,hvs⟩,hK⟩:=h
 refine ⟨_,hK,?_⟩
 clear hK
 unfold ap at ha
 cases ha
 generalize hR:yS a.params vs=R
 unfold yS at hR
 refine ACalls.fW aC (tCq vt tNq) Tryz.func185 [.tmp 4] (nrq _) (T:=aA [(6,[[],[],[],[],[],[],[3,5]])]) (h:=fun hcl hlt=>?_)
 have hm:∀ n',H.nx≤n'→AV.lt n' (.slice m 2 (vs.map vv)):=fun n' hn=>AV.lt_mono hn _ (hlt (.slice m 2 (vs.map vv)) (by simp))
 clear hlt
 have dn1:(!true)=false:=rfl
 have dn2:(!false)=true:=rfl
 by_cases hlen:vs.length=a.params.length
 rotate_left
 ·exact Y73
 rw [dtq hlen,Bool.true_and] at hR
 have dl:((vs.length:Int) != (a.params.length:Int))=false:=by simp [hlen]
 refine Tq72 ?_
 refine aD (A:=Nat) (fun k=>[(1,.slice m 2 (vs.map vv)),(14,.slice .any 2 (a.params.map aK)),(15,.int .i64 (a.params.length:Int)),(16,.int .i64 (k:Int))]) (fun _=>H)
  (fun k=>k≤a.params.length∧zl (a.params.drop k) (vs.drop k)=R) (fun k=>a.params.length - k) 0 ⟨Nat.zero_le _,hR⟩ ?_ fun k hk=>?_
 ·refine eNt hcl ?_ ?_
  ·exact Y130
  ·exact Y14
 clear hR
 obtain ⟨hk,hR⟩:=hk
 refine Tq77 ?_
 refine ay (fun hc=>?_) (fun hc=>?_)
 ·have hk':k<a.params.length:=sHc
  have hkv:k<vs.length:=by omega
  obtain ⟨x,hx⟩:∃ x,x=vs[k]:=⟨_,rfl⟩
  obtain ⟨p,hp⟩:∃ p,p=a.params[k]:=⟨_,rfl⟩
  have hd:vs.drop k=x::vs.drop (k+1):=by rw [hx];exact dcq hkv
  have hdp:a.params.drop k=p::a.params.drop (k+1):=by rw [hp];exact dcq hk'
  have hgx:=aV (f:=vv) (l:=vs) (k:=k) (x:=x) (by rw [gQq hkv,hx])
  have hgp:=aV (f:=aK) (l:=a.params) (k:=k) (x:=p) (by rw [gQq hk',hp])
  have hxl:=hvs x (by rw [hx];exact gMq hkv)
  have iv:=pC hxl
  have e5:=Yk5 k
  rw [hd,hdp] at hR
  unfold zl at hR
  simp only [bo,aF,bhq,Nat.reduceMod,Nat.reduceDiv,aZ,ba,bf,bD,bc,bC,bz,bB,bA,yaq,yar,yao,yap,go_sem,iNq,hgx,hgp,vv,aK,ybb,cC,jV,iv]
  refine Tq3 ?_
  cases hq:decide (((bl x:Nat):Int)≤p.bits) with
  |false =>
   rw [hq,Bool.false_and] at hR
   subst hR
   refine Tq69 ?_
   exact Y8
  |true =>
   rw [hq,Bool.true_and] at hR
   refine Tq66 ?_
   refine Tq4 ?_
   refine ⟨k+1,⟨by omega,hR⟩,by omega,?_⟩
   refine eNt hcl ?_ ?_
   ·exact Y130
   ·exact Y14
 ·exact Y61
end Go.AL
