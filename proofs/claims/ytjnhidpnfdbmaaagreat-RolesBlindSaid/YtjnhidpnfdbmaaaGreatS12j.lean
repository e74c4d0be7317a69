/- Lemmas of the proof; no condition. -/
import Derived.Test.YtjnhidpnfdbmaaaGreatS12b
import Derived.Test.YtjnhidpnfdbmaaaGreatS11g
import Derived.Test.YtjnhidpnfdbmaaaGreatS12g
set_option linter.all false
set_option maxRecDepth 10000
open List renaming length_cons → yaz, length_nil → yba, length_map → ybb, take_of_length_le → ybc, drop_append → ybd, take_append → ybe, drop_eq_nil_of_le → ybf, take_succ_cons → yaq, take_zero → yar, drop_succ_cons → yao, drop_zero → yap, map_nil → yaf
open Go Go.AL Go.Proofs
namespace Go.AL
def tY:List AV→AHeap→(AV→Prop)→Prop
 |[.slice _ 1 l,.int .i64 n],_,K=>∃ xs:List Int,(l=inL xs∧xs.length≤1000000)∧K (.int .i64 (ixP (fun x=>x==n) xs 0))
 |_,_,_=>False
theorem DT:EntOk Tryz.prog 75 (Ent.pure tY):=by
 refine Ype fun _ H K h=>?_
 unfold tY at h
 split at h
 rotate_left
 ·exact h.elim
 rename_i m l n
 obtain ⟨xs,⟨rfl,hl⟩,hK⟩:=h
 refine ⟨_,hK,?_⟩
 clear hK
 generalize hR:ixP (fun x:Int=>x==n) xs 0=R
 refine ACalls.fW au tNq Tryz.func75 [.tmp 4] (nrq _) (T:=aq []) (h:=fun hcl hlt=>?_)
 have hm:AV.lt H.nx (.slice m 1 (inL xs)):=hlt _ (by simp)
 clear hlt
 simp only [go_sem,BT]
 refine az (A:=Nat) (fun k=>[(0,.slice m 1 (inL xs)),(1,.int .i64 n),(7,.int .i64 (xs.length:Int)),(8,.int .i64 (k:Int))]) (fun _=>H) (fun k=>k≤xs.length∧ixP (fun x:Int=>x==n) (xs.drop k) k=R) (fun k=>xs.length - k) 0 ⟨by omega,hR⟩ ?_ fun k hk=>?_
 ·refine ⟨nrq _,lRq _,hcl,?_,?_⟩
  ·simp [ltF,znf,hm]
  ·simp [aJ,wk2,wk1,wkM,Fr.get]
 clear hR
 obtain ⟨hk,hR⟩:=hk
 simp only [go_sem]
 refine ai (fun hc=>?_) (fun hc=>?_)
 ·have hk':k<xs.length:=by simp at hc;omega
  obtain ⟨x,hx⟩:∃ x,x=xs[k]:=⟨_,rfl⟩
  have hd:xs.drop k=x::xs.drop (k+1):=by rw [hx];exact dcq hk'
  have hg:=aU (f:=AV.int .i64) (l:=xs) (k:=k) (x:=x) (by rw [gQq hk',hx])
  have e5:=Yk5 k
  rw [hd] at hR
  unfold ixP at hR
  simp only [go_sem,iNq,inL,hg,ybb]
  (repeat with_reducible refine Yq ?_)
  rw [show (n==x)=(x==n) from BEq.comm]
  refine ai (fun hq=>?_) (fun hq=>?_)
  ·rw [if_pos hq] at hR
   subst hR
   simp only [go_sem]
   exact Z0
  ·rw [if_neg (by rw [hq];decide)] at hR
   simp only [go_sem,e5]
   unfold inL at hm
   refine ⟨k+1,⟨by omega,hR⟩,by omega,nrq _,lRq _,hcl,?_,?_⟩
   ·simp [ltF,znf,hm]
   ·simp [aJ,wk2,wk1,wkM,Fr.get]
 ·have hk':k=xs.length:=by simp at hc;omega
  subst hk'
  rw [List.drop_length] at hR
  unfold ixP at hR
  subst hR
  simp only [go_sem]
  exact Z0
def tJ:List AV→AHeap→(AV→Prop)→Prop
 |[.slice _ 1 l,.int .i64 n],_,K=>∃ xs:List Int,(l=inL xs∧xs.length≤1000000)∧K (.bool (xs.contains n))
 |_,_,_=>False
theorem J0 {xs:List Int} {n:Int}:decide (ixP (fun x=>x==n) xs 0 ≥ 0)=xs.contains n:=by
 have key:∀ (xs:List Int) (k:Nat),decide (0≤ixP (fun x=>x==n) xs k)=xs.contains n:=by
  intro xs
  induction xs with
  |nil=>intro k;rfl
  |cons x xs ih =>
   intro k
   unfold ixP
   rw [List.contains_cons]
   by_cases h:x=n
   ·subst h;simp
   ·rw [if_neg (by simp [h]),ih]
    have:(n==x)=false:=beq_eq_false_iff_ne.2 (Ne.symm h)
    rw [this,Bool.false_or]
 exact key xs 0
theorem wP:EntOk Tryz.prog 43 (Ent.pure tJ):=by
 refine Ype fun _ H K h=>?_
 unfold tJ at h
 split at h
 rotate_left
 ·exact h.elim
 rename_i m l n
 obtain ⟨xs,⟨rfl,hl⟩,hK⟩:=h
 refine ⟨_,hK,?_⟩
 clear hK
 generalize hR:xs.contains n=R
 rw [← J0] at hR
 refine ACalls.fW au (tCq DT tNq) Tryz.func43 [.tmp 4] (nrq _) (T:=aq []) (h:=fun hcl hlt=>?_)
 clear hlt
 simp only [go_sem,tY]
 refine ⟨xs,⟨rfl,hl⟩,?_⟩
 have hR':decide (0≤ixP (fun x=>x==n) xs 0)=R:=hR
 simp only [aH,go_sem,hR']
 exact Z0
structure SChk (S:Sch):Prop where
 sl:SLen S
 kl:∀ t∈S.tables,t.keys.length≤1000
 kf:∀ t∈S.tables,∀ k∈t.keys,Lf S k.field∧0≤cO S k.field
theorem wH {n:Nat} (S:Sch):ltL n [.slice .any 3 (S.fields.map cn),.slice .any 3 (S.headers.map iT),.slice .any 5 (S.states.map dU),.slice .any 5 (S.actions.map bg),.slice .any 8 (S.tables.map ba),.slice .any 2 (S.stages.map lF),.slice .any 6 (S.roles.map bX),.slice .any 6 (S.refs.map sZ),.int .i64 S.maxBatch,.int .i64 S.budget]:=by
 have:=@qH n S
 unfold sN aW at this
 rwa [znr] at this
theorem zM {n:Nat} (e:SEntry):ltL n [.int .i64 e.table,.slice .any 8 (e.ms.map aI),.int .i64 e.prio,.int .i64 e.act,.slice .any 2 (e.args.map vv)]:=ltL_iff.2 fun j hj=>AV.lt_cells (li e) j hj
def EV:List SParam→List Nat→Bool
 |p::ps,v::vs=>decide (((bl v:Nat):Int)≤p.bits)&&EV ps vs
 |_,_=>true
def G3 (S:Sch) (id:Int):Option SAction:=S.actions.find? fun a=>a.id==id
def jz (S:Sch) (e:SEntry):Int:=match jT S e.table with
 |none=>6
 |some t=>match G3 S e.act with
  |none=>6
  |some a=>if t.actions.contains e.act=true then (if e.args.length=a.params.length then (if EV a.params e.args=true then 0 else 5) else 13) else 6
structure EArg (e:SEntry):Prop where
 ar:∀ x∈e.args,x<2^128
 al:e.args.length≤140737488355328
structure SAct (S:Sch):Prop where
 sl:SLen S
 pl:∀ a∈S.actions,a.params.length≤1000
 tl:∀ t∈S.tables,t.actions.length≤1000∧∀ n∈t.actions,∃ a,G3 S n=some a
theorem wj {α:Type} {q:α→Bool} {l:List α}:(ixP q l 0 = -1∧l.find? q=none)∨∃ (i:Nat) (x:α),ixP q l 0=(i:Int)∧i<l.length∧l[i]?=some x∧l.find? q=some x∧q x=true:=by
 obtain ⟨b1,b2⟩:=om (q:=q) (l:=l) (k:=0)
 rcases b2 with b2|b2
 ·exact .inl ⟨b2,lf b2⟩
 ·obtain ⟨i,hi⟩:∃ i:Nat,ixP q l 0=((0+i:Nat):Int):=⟨(ixP q l 0).toNat,by omega⟩
  obtain ⟨x,h1,h2,h3⟩:=nn hi
  rw [nzq] at hi
  exact .inr ⟨i,x,hi,by omega,h1,h3,h2⟩
def mF:List AV→AHeap→(AV→Prop)→Prop
 |[.agg l,.agg le],_,K=>∃ (S:Sch) (e:SEntry),(l=aW S∧le=aK e∧SAct S∧EArg e)∧K (.int .i64 (jz S e))
 |_,_,_=>False
set_option maxHeartbeats 4000000 in
theorem xD:EntOk Tryz.prog 47 (Ent.pure mF):=by
 refine Ype fun _ H K h=>?_
 unfold mF at h
 split at h
 rotate_left
 ·exact h.elim
 rename_i l le
 obtain ⟨S,e,⟨rfl,rfl,hS,he⟩,hK⟩:=h
 refine ⟨_,hK,?_⟩
 clear hK
 generalize hR:jz S e=R
 unfold jz at hR
 refine ACalls.fW au (tCq nE (tCq pX (tCq wP (tCq d9 tNq)))) Tryz.func47 [.tmp 4] (nrq _) (T:=aq [(11,[[],[],[],[],[],[],[0,5]])]) (h:=fun hcl hlt=>?_)
 clear hlt
 have dn1:(!true)=false:=rfl
 have dn2:(!false)=true:=rfl
 simp only [aZ,aH,bhq,Nat.reduceMod,Nat.reduceDiv,aC,aB,aE,aS,aD,aR,aO,aP,aQ,yaq,yar,yao,yap,go_sem,aW,aK,k9]
 refine ⟨S,⟨rfl,hS.sl.tl⟩,?_⟩
 cases ht:jT S e.table with
 |none =>
  rw [ht] at hR
  dsimp only at hR
  subst hR
  simp only [aZ,aH,bhq,Nat.reduceMod,Nat.reduceDiv,aC,aB,aE,aS,aD,aR,aO,aP,aQ,yaq,yar,yao,yap,go_sem,ba,pE,yaf,inL,je]
  refine ⟨S,⟨rfl,hS.sl.al⟩,?_⟩
  try simp only [aZ,aH,bhq,Nat.reduceMod,Nat.reduceDiv,aC,aB,aE,aS,aD,aR,aO,aP,aQ,yaq,yar,yao,yap,go_sem,dn1,dn2]
  exact Z0
 |some t =>
 rw [ht] at hR
 dsimp only at hR
 have htm:t∈S.tables:=List.mem_of_find?_eq_some ht
 obtain ⟨tl1,tl2⟩:=hS.tl t htm
 simp only [aZ,aH,bhq,Nat.reduceMod,Nat.reduceDiv,aC,aB,aE,aS,aD,aR,aO,aP,aQ,yaq,yar,yao,yap,go_sem,ba,je]
 refine ⟨S,⟨rfl,hS.sl.al⟩,?_⟩
 unfold G3 at hR
 rcases wj (q:=fun a:SAction=>a.id==e.act) (l:=S.actions) with ⟨q1,q2⟩|⟨j,a,q1,hjl,q3,q2,_⟩
 ·rw [q2] at hR
  dsimp only at hR
  subst hR
  rw [q1]
  have d:decide ((-1:Int)<0)=true:=rfl
  simp only [aZ,aH,bhq,Nat.reduceMod,Nat.reduceDiv,aC,aB,aE,aS,aD,aR,aO,aP,aQ,yaq,yar,yao,yap,go_sem,dn1,dn2,d]
  exact Z0
 rw [q2] at hR
 dsimp only at hR
 rw [q1]
 have dj:decide ((j:Int)<0)=false:=by simp
 have hga:=aU (f:=bg) (l:=S.actions) (k:=j) (x:=a) q3
 have hpl:=hS.pl a (List.mem_of_getElem? q3)
 simp only [aZ,aH,bhq,Nat.reduceMod,Nat.reduceDiv,aC,aB,aE,aS,aD,aR,aO,aP,aQ,yaq,yar,yao,yap,go_sem,dn1,dn2,dj,tJ]
 refine ⟨t.actions,⟨rfl,by omega⟩,?_⟩
 cases hcn:t.actions.contains e.act with
 |false =>
  rw [hcn,if_neg (by decide)] at hR
  subst hR
  simp only [aZ,aH,bhq,Nat.reduceMod,Nat.reduceDiv,aC,aB,aE,aS,aD,aR,aO,aP,aQ,yaq,yar,yao,yap,go_sem,dn1,dn2]
  exact Z0
 |true =>
 rw [hcn,if_pos rfl] at hR
 simp only [aZ,aH,bhq,Nat.reduceMod,Nat.reduceDiv,aC,aB,aE,aS,aD,aR,aO,aP,aQ,yaq,yar,yao,yap,go_sem,dn1,dn2,iNq,hga,bg,ybb]
 by_cases hlen:e.args.length=a.params.length
 rotate_left
 ·rw [if_neg hlen] at hR
  subst hR
  have dl:((e.args.length:Int) != (a.params.length:Int))=true:=by simp;omega
  simp only [aZ,aH,bhq,Nat.reduceMod,Nat.reduceDiv,aC,aB,aE,aS,aD,aR,aO,aP,aQ,yaq,yar,yao,yap,go_sem,dl]
  refine ⟨by omega,?_⟩
  exact Z0
 rw [if_pos hlen] at hR
 have dl:((e.args.length:Int) != (a.params.length:Int))=false:=by simp [hlen]
 simp only [aZ,aH,bhq,Nat.reduceMod,Nat.reduceDiv,aC,aB,aE,aS,aD,aR,aO,aP,aQ,yaq,yar,yao,yap,go_sem,dl]
 refine ⟨by omega,?_⟩
 have hal:=he.al
 refine az (A:=Nat) (fun k=>[(8,.slice .any 2 (a.params.map cq)),(48,.slice .any 2 (e.args.map vv)),(49,.int .i64 (e.args.length:Int)),(50,.int .i64 (k:Int))]) (fun _=>H)
  (fun k=>k≤e.args.length∧(if EV (a.params.drop k) (e.args.drop k)=true then (0:Int) else 5)=R) (fun k=>e.args.length - k) 0 ⟨Nat.zero_le _,hR⟩ ?_ fun k hk=>?_
 ·refine ⟨by (try simp only [zkq,zkv,zle]);omega,by repeat first|exact .refl _|refine .push ?_ _,hcl,?_,?_⟩
  ·simp [ltF,zle,znn,znf,a8 mW,xn]
   try omega
  ·simp [aJ,wk2,wk1,wkM,Fr.get]
 clear hR
 obtain ⟨hk,hR⟩:=hk
 simp only [aZ,aH,bhq,Nat.reduceMod,Nat.reduceDiv,aC,aB,aE,aS,aD,aR,aO,aP,aQ,yaq,yar,yao,yap,go_sem]
 refine ai (fun hc=>?_) (fun hc=>?_)
 ·have hk':k<e.args.length:=by simp at hc;omega
  have hkp:k<a.params.length:=by omega
  obtain ⟨x,hx⟩:∃ x,x=e.args[k]:=⟨_,rfl⟩
  obtain ⟨p,hp⟩:∃ p,p=a.params[k]:=⟨_,rfl⟩
  have hd:e.args.drop k=x::e.args.drop (k+1):=by rw [hx];exact dcq hk'
  have hdp:a.params.drop k=p::a.params.drop (k+1):=by rw [hp];exact dcq hkp
  have hgx:=aU (f:=vv) (l:=e.args) (k:=k) (x:=x) (by rw [gQq hk',hx])
  have hgp:=aU (f:=cq) (l:=a.params) (k:=k) (x:=p) (by rw [gQq hkp,hp])
  have hxl:=he.ar x (by rw [hx];exact gMq hk')
  have iv:=gS hxl
  have e5:=Yk5 k
  rw [hd,hdp] at hR
  unfold EV at hR
  simp only [aZ,aH,bhq,Nat.reduceMod,Nat.reduceDiv,aC,aB,aE,aS,aD,aR,aO,aP,aQ,yaq,yar,yao,yap,go_sem,iNq,hgx,hgp,vv,cq,ybb,eA,cu,iv]
  (repeat with_reducible refine Yq ?_)
  cases hq:decide (((bl x:Nat):Int)≤p.bits) with
  |false =>
   rw [hq,Bool.false_and,if_neg (by decide)] at hR
   subst hR
   simp only [aZ,aH,bhq,Nat.reduceMod,Nat.reduceDiv,aC,aB,aE,aS,aD,aR,aO,aP,aQ,yaq,yar,yao,yap,go_sem,dn1,dn2]
   try (repeat with_reducible refine Yq ?_)
   exact Z0
  |true =>
   rw [hq,Bool.true_and] at hR
   simp only [aZ,aH,bhq,Nat.reduceMod,Nat.reduceDiv,aC,aB,aE,aS,aD,aR,aO,aP,aQ,yaq,yar,yao,yap,go_sem,dn1,dn2,e5]
   try (repeat with_reducible refine Yq ?_)
   refine ⟨k+1,⟨by omega,hR⟩,by omega,?_⟩
   refine ⟨by (try simp only [zkq,zkv,zle]);omega,by repeat first|exact .refl _|refine .push ?_ _,hcl,?_,?_⟩
   ·simp [ltF,zle,znn,znf,a8 mW,xn]
    try omega
   ·simp [aJ,wk2,wk1,wkM,Fr.get]
 ·have hk':k=e.args.length:=by simp at hc;omega
  subst hk'
  have hf:EV (a.params.drop e.args.length) (e.args.drop e.args.length)=true:=by
   rw [List.drop_length,hlen,List.drop_length];rfl
  rw [hf,if_pos rfl] at hR
  subst hR
  simp only [aZ,aH,bhq,Nat.reduceMod,Nat.reduceDiv,aC,aB,aE,aS,aD,aR,aO,aP,aQ,yaq,yar,yao,yap,go_sem]
  exact Z0
structure SAll (S:Sch):Prop where
 ck:SChk S
 ac:SAct S
 ad:SAdm S
structure EAll (e:SEntry):Prop where
 ok:EOk e
 ar:EArg e
 ad:EAdm e
end Go.AL
