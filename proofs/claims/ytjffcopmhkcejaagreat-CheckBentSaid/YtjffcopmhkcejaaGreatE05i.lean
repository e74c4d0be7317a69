/- Lemmas of the proof; no condition. -/
import Derived.Test.YtjffcopmhkcejaaGreatE05e
set_option linter.all false
set_option maxRecDepth 10000
set_option maxHeartbeats 32000000
open Go Go.AL Go.Proofs
namespace Go.AL
def dN:PCt
 |[.slice _ 1 z],_,K=>∃ l:List (Int),(z=l.map (AV.int .i64)∧l.length≤1000000)∧K (.bool (onF [] l))
 |_,_,_=>False
def Lx:EPp 164 dN:=by
 refine Ype fun _ H K h=>?_
 unfold dN at h
 split at h<;>try exact h.elim
 rename_i m z
 obtain⟨l,⟨rfl,hl⟩,hK⟩:=h
 refine⟨_,hK,?_⟩
 clear hK
 generalize hR:onF [] l=R
 refine Yfv aD tNq Tryz.func164 [.tmp 2] fun hcl hlt=>?_
 have hm:∀ n',H.nx≤n'→AV.lt n' (.slice m 1 (l.map (AV.int .i64))):=fun n' hn=>AV.lt_mono hn _ (hlt _ Xc)
 clear hlt
 simp only[go_sem,ybb]
 refine aG (A:=Nat) (fun k=>[(0,.slice m 1 (l.map (AV.int .i64))),(7,.slice m 1 (l.map (AV.int .i64))),(8,.int .i64 (l.length:Int)),(9,.int .i64 (k:Int))]) (fun _=>H) (fun k=>k≤l.length∧onF (l.take k) (l.drop k)=R) (fun k=>l.length-k) 0 ⟨Nat.zero_le _,hR⟩ ?_ fun k hk=>?_
 ·refine⟨nrq _,lRq _,hcl,?_,?_⟩
  ·simp[ltF,znd,hm]
  ·exact Y14
 clear hR
 obtain⟨hk,hR⟩:=hk
 refine Tq20 ?_
 refine ax (fun hc=>?_) (fun hc=>?_)
 ·have hk':k<l.length:=sHc
  clear hc
  obtain⟨x,hx⟩:∃ x,x=l[k]:=⟨_,rfl⟩
  have hd:l.drop k=x::l.drop (k+1):=by rw[hx];exact dcq hk'
  have ht:l.take (k+1)=l.take k++[x]:=by rw[hx,List.take_succ_eq_append_getElem hk']
  have hg:=a9 (f:=(AV.int .i64)) (l:=l) (k:=k) (x:=x) (by rw[gQq hk',hx])
  have e5:=Yk5 k
  rw[hd,onF,← ht]at hR
  obtain⟨p,hp⟩:∃ p,p=l.take k:=⟨_,rfl⟩
  have hpl:p.length=k:=by rw[hp,List.length_take];omega
  rw[← hp]at hR
  simp only[go_sem,hg,e5,← List.map_take,List.length_take]
  refine Tq8 ?_
  have hmin:min k l.length=k:=Xa
  have hlp:∀(n':Nat) (p:List (Int)),AV.lt n' (.slice .any 1 (p.map (AV.int .i64))):=fun n' p=>aa fun y=>by rw[znd];trivial
  rw[hmin,← hp]
  refine aG (A:=Nat) (fun j=>[(0,.slice m 1 (l.map (AV.int .i64))),(4,.int .i64 x),(7,.slice m 1 (l.map (AV.int .i64))),(8,.int .i64 (l.length:Int)),(9,.int .i64 (k:Int)),(16,.slice .any 1 (p.map (AV.int .i64))),(17,.int .i64 (k:Int)),(18,.int .i64 (j:Int))]) (fun _=>H)
   (fun j=>j≤p.length∧(!(p.drop j).contains x&&onF (l.take (k+1)) (l.drop (k+1)))=R) (fun j=>p.length-j) 0 ⟨Nat.zero_le _,hR⟩ ?_ fun j hj=>?_
  ·refine⟨nrq _,lRq _,hcl,?_,?_⟩
   ·simp[ltF,znd,znf,hm,hlp]
   ·exact Y14
  clear hR
  obtain⟨hj,hR⟩:=hj
  refine Tq20 ?_
  refine ax (fun hc=>?_) (fun hc=>?_)
  ·have hj':j<p.length:=sHc
   clear hc
   obtain⟨y,hy⟩:∃ y,y=p[j]:=⟨_,rfl⟩
   have hdp:p.drop j=y::p.drop (j+1):=by rw[hy];exact dcq hj'
   have hgp:=a9 (f:=(AV.int .i64)) (l:=p) (k:=j) (x:=y) (by rw[gQq hj',hy])
   have e6:IntKind.i64.wrap ((j:Int)+1)=((j+1:Nat):Int):=Xe
   rw[hdp,List.contains_cons]at hR
   simp only[go_sem,hgp,e6]
   refine Tq8 ?_
   cases hq:x==y with
   |true=>
    exact Y143
   |_=>
    rw[hq,Bool.false_or]at hR
    try simp only[go_sem,hq,e6]
    refine⟨j+1,⟨Xa,hR⟩,Xa,nrq _,lRq _,hcl,?_,?_⟩
    ·simp[ltF,znd,znf,hm,hlp]
    ·exact Y14
  ·have hj':p.length≤j:=sHc
   rw[show p.drop j=[] by rw[List.drop_eq_nil_iff];omega]at hR
   simp only[List.contains_nil,Bool.not_false,Bool.true_and]at hR
   try simp only[go_sem,e5]
   refine⟨k+1,⟨Xa,hR⟩,Xa,nrq _,lRq _,hcl,?_,?_⟩
   ·simp[ltF,znd,hm]
   ·exact Y14
 ·have hk':k=l.length:=sHc
  subst hk'
  rw[List.drop_length,onF]at hR
  subst hR
  exact Y32
def dM:PCt
 |[.slice _ 1 z],_,K=>∃ l:List (By),(z=l.map (AV.str)∧l.length≤1000000)∧K (.bool (onF [] l))
 |_,_,_=>False
def Ie:EPp 165 dM:=by
 refine Ype fun _ H K h=>?_
 unfold dM at h
 split at h<;>try exact h.elim
 rename_i m z
 obtain⟨l,⟨rfl,hl⟩,hK⟩:=h
 refine⟨_,hK,?_⟩
 clear hK
 generalize hR:onF [] l=R
 refine Yfv aD tNq Tryz.func165 [.tmp 2] fun hcl hlt=>?_
 have hm:∀ n',H.nx≤n'→AV.lt n' (.slice m 1 (l.map (AV.str))):=fun n' hn=>AV.lt_mono hn _ (hlt _ Xc)
 clear hlt
 simp only[go_sem,ybb]
 refine aG (A:=Nat) (fun k=>[(0,.slice m 1 (l.map (AV.str))),(7,.slice m 1 (l.map (AV.str))),(8,.int .i64 (l.length:Int)),(9,.int .i64 (k:Int))]) (fun _=>H) (fun k=>k≤l.length∧onF (l.take k) (l.drop k)=R) (fun k=>l.length-k) 0 ⟨Nat.zero_le _,hR⟩ ?_ fun k hk=>?_
 ·refine⟨nrq _,lRq _,hcl,?_,?_⟩
  ·simp[ltF,znd,hm]
  ·exact Y14
 clear hR
 obtain⟨hk,hR⟩:=hk
 refine Tq20 ?_
 refine ax (fun hc=>?_) (fun hc=>?_)
 ·have hk':k<l.length:=sHc
  clear hc
  obtain⟨x,hx⟩:∃ x,x=l[k]:=⟨_,rfl⟩
  have hd:l.drop k=x::l.drop (k+1):=by rw[hx];exact dcq hk'
  have ht:l.take (k+1)=l.take k++[x]:=by rw[hx,List.take_succ_eq_append_getElem hk']
  have hg:=a9 (f:=(AV.str)) (l:=l) (k:=k) (x:=x) (by rw[gQq hk',hx])
  have e5:=Yk5 k
  rw[hd,onF,← ht]at hR
  obtain⟨p,hp⟩:∃ p,p=l.take k:=⟨_,rfl⟩
  have hpl:p.length=k:=by rw[hp,List.length_take];omega
  rw[← hp]at hR
  simp only[go_sem,hg,e5,← List.map_take,List.length_take]
  refine Tq8 ?_
  have hmin:min k l.length=k:=Xa
  have hlp:∀(n':Nat) (p:List (By)),AV.lt n' (.slice .any 1 (p.map (AV.str))):=fun n' p=>aa fun y=>by rw[znf];trivial
  rw[hmin,← hp]
  refine aG (A:=Nat) (fun j=>[(0,.slice m 1 (l.map (AV.str))),(4,.str x),(7,.slice m 1 (l.map (AV.str))),(8,.int .i64 (l.length:Int)),(9,.int .i64 (k:Int)),(16,.slice .any 1 (p.map (AV.str))),(17,.int .i64 (k:Int)),(18,.int .i64 (j:Int))]) (fun _=>H)
   (fun j=>j≤p.length∧(!(p.drop j).contains x&&onF (l.take (k+1)) (l.drop (k+1)))=R) (fun j=>p.length-j) 0 ⟨Nat.zero_le _,hR⟩ ?_ fun j hj=>?_
  ·refine⟨nrq _,lRq _,hcl,?_,?_⟩
   ·simp[ltF,znd,znf,hm,hlp]
   ·exact Y14
  clear hR
  obtain⟨hj,hR⟩:=hj
  refine Tq20 ?_
  refine ax (fun hc=>?_) (fun hc=>?_)
  ·have hj':j<p.length:=sHc
   clear hc
   obtain⟨y,hy⟩:∃ y,y=p[j]:=⟨_,rfl⟩
   have hdp:p.drop j=y::p.drop (j+1):=by rw[hy];exact dcq hj'
   have hgp:=a9 (f:=(AV.str)) (l:=p) (k:=j) (x:=y) (by rw[gQq hj',hy])
   have e6:IntKind.i64.wrap ((j:Int)+1)=((j+1:Nat):Int):=Xe
   rw[hdp,List.contains_cons]at hR
   simp only[go_sem,hgp,e6]
   refine Tq8 ?_
   cases hq:x==y with
   |true=>
    exact Y143
   |_=>
    rw[hq,Bool.false_or]at hR
    try simp only[go_sem,hq,e6]
    refine⟨j+1,⟨Xa,hR⟩,Xa,nrq _,lRq _,hcl,?_,?_⟩
    ·simp[ltF,znd,znf,hm,hlp]
    ·exact Y14
  ·have hj':p.length≤j:=sHc
   rw[show p.drop j=[] by rw[List.drop_eq_nil_iff];omega]at hR
   simp only[List.contains_nil,Bool.not_false,Bool.true_and]at hR
   try simp only[go_sem,e5]
   refine⟨k+1,⟨Xa,hR⟩,Xa,nrq _,lRq _,hcl,?_,?_⟩
   ·simp[ltF,znd,hm]
   ·exact Y14
 ·have hk':k=l.length:=sHc
  subst hk'
  rw[List.drop_length,onF]at hR
  subst hR
  exact Y32
def gg:PCt
 |[x],_,K=>∃ t:SPrim,(x=aU t∧t.value<340282366920938463463374607431768211456)∧K (.bool (wG t))
 |_,_,_=>False
def MO:EPp 166 gg:=by
 refine Ype fun _ H K h=>?_
 unfold gg at h
 split at h<;>try exact h.elim
 rename_i x
 obtain⟨t,⟨rfl,hv⟩,hK⟩:=h
 refine⟨_,hK,?_⟩
 clear hK
 generalize hR:wG t=R
 unfold aU vc
 refine Yfu aD tNq Tryz.func166 [.tmp 2] fun hcl=>?_
 unfold wG at hR
 cases o4:t.op==4 with
 |false=>
  cases o5:t.op==5 with
  |false=>
   cases o6:t.op==6 with
   |false=>
    cases k1:t.kind==1 with
    |false=>
     cases k2:t.kind==2 with
     |false=>
      cases k3:t.kind==3 with
      |false=>
       simp only[o4,o5,o6,k1,k2,k3,Bool.true_and,Bool.false_and,Bool.and_true,Bool.and_false,Bool.true_or,Bool.false_or,Bool.or_true,Bool.or_false,Bool.not_true,Bool.not_false,if_true,if_false,reduceCtorEq,Bool.false_eq_true,ite_true,ite_false]at hR
       subst hR
       try simp only[go_sem,fO,fQ,eS,eV,Bool.bne_false,hv,o4,o5,o6,k1,k2,k3]
       exact Y8
      |true=>
       simp only[o4,o5,o6,k1,k2,k3,Bool.true_and,Bool.false_and,Bool.and_true,Bool.and_false,Bool.true_or,Bool.false_or,Bool.or_true,Bool.or_false,Bool.not_true,Bool.not_false,if_true,if_false,reduceCtorEq,Bool.false_eq_true,ite_true,ite_false]at hR
       subst hR
       try simp only[go_sem,fO,fQ,eS,eV,Bool.bne_false,hv,o4,o5,o6,k1,k2,k3]
       exact Y8
     |true=>
      simp only[o4,o5,o6,k1,k2,Bool.true_and,Bool.false_and,Bool.and_true,Bool.and_false,Bool.true_or,Bool.false_or,Bool.or_true,Bool.or_false,Bool.not_true,Bool.not_false,if_true,if_false,reduceCtorEq,Bool.false_eq_true,ite_true,ite_false]at hR
      subst hR
      try simp only[go_sem,fO,fQ,eS,eV,Bool.bne_false,hv,o4,o5,o6,k1,k2]
      exact Y8
    |true=>
     simp only[o4,o5,o6,k1,Bool.true_and,Bool.false_and,Bool.and_true,Bool.and_false,Bool.true_or,Bool.false_or,Bool.or_true,Bool.or_false,Bool.not_true,Bool.not_false,if_true,if_false,reduceCtorEq,Bool.false_eq_true,ite_true,ite_false]at hR
     subst hR
     try simp only[go_sem,fO,fQ,eS,eV,Bool.bne_false,hv,o4,o5,o6,k1]
     exact Y8
   |true=>
    simp only[o4,o5,o6,Bool.true_and,Bool.false_and,Bool.and_true,Bool.and_false,Bool.true_or,Bool.false_or,Bool.or_true,Bool.or_false,Bool.not_true,Bool.not_false,if_true,if_false,reduceCtorEq,Bool.false_eq_true,ite_true,ite_false]at hR
    subst hR
    try simp only[go_sem,fO,fQ,eS,eV,Bool.bne_false,hv,o4,o5,o6]
    exact Y8
  |true=>
   simp only[o4,o5,Bool.true_and,Bool.false_and,Bool.and_true,Bool.and_false,Bool.true_or,Bool.false_or,Bool.or_true,Bool.or_false,Bool.not_true,Bool.not_false,if_true,if_false,reduceCtorEq,Bool.false_eq_true,ite_true,ite_false]at hR
   subst hR
   try simp only[go_sem,fO,fQ,eS,eV,Bool.bne_false,hv,o4,o5]
   exact Y8
 |true=>
  simp only[o4,Bool.true_and,Bool.false_and,Bool.and_true,Bool.and_false,Bool.true_or,Bool.false_or,Bool.or_true,Bool.or_false,Bool.not_true,Bool.not_false,if_true,if_false,reduceCtorEq,Bool.false_eq_true,ite_true,ite_false]at hR
  subst hR
  try simp only[go_sem,fO,fQ,eS,eV,Bool.bne_false,hv,o4]
  exact Y8
def cn:PCt
 |[.agg l,.int .i64 n],_,K=>∃ S:Sch,(l=aR S∧SLen S)∧K (.bool (j4 S n))
 |_,_,_=>False
def QI:EPp 169 cn:=by
 refine Ype fun _ H K h=>?_
 unfold cn at h
 split at h<;>try exact h.elim
 rename_i l n
 obtain⟨S,⟨rfl,hS⟩,hK⟩:=h
 refine⟨_,hK,?_⟩
 clear hK
 unfold j4
 have hR':decide (ixP (fun t:SState=>t.id==n) S.states 0 ≥ 0)=S.states.any (fun t=>t.id==n):=eY
 generalize S.states.any (fun t=>t.id==n)=b at *
 refine Yfu aD (tCq BN tNq) Tryz.func169 [.tmp 4] fun hcl=>?_
 cases c1:n==0 with
 |true=>
  simp only[Bool.true_or]
  simp only[go_sem,aR,nv,c1]
  exact Z1
 |_=>
  cases c2:n==65535 with
  |true=>
   simp only[Bool.true_or,Bool.or_true]
   simp only[go_sem,aR,nv,c1,c2]
   exact Z1
  |_=>
   simp only[Bool.false_or]
   simp only[go_sem,aR,nv,c1,c2]
   refine⟨S,⟨rfl,hS⟩,?_⟩
   exact Y94
theorem Ek{n:Int}:∀{l:List Int},(l.any fun x=>x==n)=l.contains n
 |[]=>rfl
 |x::l=>by
  rw[List.any_cons,List.contains_cons,Ek]
  by_cases h:x=n
  ·subst h;simp
  ·have h2:¬ n=x:=fun e=>h e.symm
   have e1:(x==n)=false:=by simpa using h
   have e2:(n==x)=false:=by simpa using h2
   rw[e1,e2]
def ix_has{n:Int}{l:List Int}:decide (ixP (fun x=>x==n) l 0 ≥ 0)=l.contains n:=by
 rw[show decide (ixP (fun x=>x==n) l 0 ≥ 0)=decide (0≤ixP (fun x=>x==n) l 0) from rfl,eY,Ek]
def dW:PCt
 |[.agg l,x],_,K=>∃ (S:Sch) (t:SRef),(l=aR S∧x=bc t∧SB S∧∀ t∈S.tables,∀ a∈t.actions,fh S a=true)∧K (.bool (nD S t))
 |_,_,_=>False
def Pi:EPp 173 dW:=by
 refine Ype fun _ H K h=>?_
 unfold dW at h
 split at h<;>try exact h.elim
 rename_i l x
 obtain⟨S,r,⟨rfl,rfl,hS,hA⟩,hK⟩:=h
 refine⟨_,hK,?_⟩
 clear hK
 generalize hR:nD S r=R
 unfold nD at hR
 unfold bc
 have htl:=hS.sl.tl
 have hsl:=hS.sl.al
 rcases wo (fun t:STable=>t.id==r.table) S.tables with⟨i1,f1⟩|⟨i,a,i1,g1,f1,l1⟩
 ·simp only[f1]at hR
  subst hR
  have d1:decide ((-1:Int)<0)=true:=rfl
  refine Yfw aD (tCq jX (tCq jE (tCq lc tNq))) Tryz.func173 [.tmp 4] (nrq _) (T:=aC [(1,[[],[],[],[0,2],[],[],[],[0,2,3,4,6]]),(6,[[],[],[],[],[],[],[],[],[1,5,7],[],[],[],[8],[],[8],[8],[],[8],[1,5,7,8,15,17],[],[],[8,18]])]) (h:=fun hcl=>?_)
  unfold aR
  simp only[go_sem,aS,bz,aW,i1]
  refine⟨S,⟨rfl,hS.sl⟩,?_⟩
  simp only[aA,go_sem,aS,i1]
  refine⟨S,⟨rfl,hS.sl⟩,?_⟩
  simp only[aA,go_sem,i1,d1]
  exact Z1
 ·have d1:decide ((i:Int)<0)=false:=dfq Xa
  rcases wo (fun t:STable=>t.id==r.toTable) S.tables with⟨i2,f2⟩|⟨j,b,i2,g2,f2,l2⟩
  ·simp only[f1,f2]at hR
   subst hR
   have d2:decide ((-1:Int)<0)=true:=rfl
   refine Yfw aD (tCq jX (tCq jE (tCq lc tNq))) Tryz.func173 [.tmp 4] (nrq _) (T:=aC [(1,[[],[],[],[0,2],[],[],[],[0,2,3,4,6]]),(6,[[],[],[],[],[],[],[],[],[1,5,7],[],[],[],[8],[],[8],[8],[],[8],[1,5,7,8,15,17],[],[],[8,18]])]) (h:=fun hcl=>?_)
   unfold aR
   simp only[go_sem,aS,bz,aW,i1]
   refine⟨S,⟨rfl,hS.sl⟩,?_⟩
   simp only[aA,go_sem,aS,i1,i2]
   refine⟨S,⟨rfl,hS.sl⟩,?_⟩
   simp only[aA,go_sem,i1,i2,d1,d2]
   exact Z1
  ·simp only[f1,f2]at hR
   have d2:decide ((j:Int)<0)=false:=dfq Xa
   have ga:=a9 (f:=au) (l:=S.tables) (k:=i) (x:=a) g1
   have gb:=a9 (f:=au) (l:=S.tables) (k:=j) (x:=b) g2
   have hca:au a=.agg [.int .i64 a.id,.str a.name,.slice .any 3 (a.keys.map aZ),.slice .any 1 (inL a.actions),.int .i64 a.dflt,.slice .any 2 (a.dargs.map vv),.int .i64 a.size,.str a.restr]:=rfl
   have hcb:au b=.agg [.int .i64 b.id,.str b.name,.slice .any 3 (b.keys.map aZ),.slice .any 1 (inL b.actions),.int .i64 b.dflt,.slice .any 2 (b.dargs.map vv),.int .i64 b.size,.str b.restr]:=rfl
   rw[hca]at ga
   rw[hcb]at gb
   have hma:a∈S.tables:=List.mem_of_getElem? g1
   obtain⟨c0,h0⟩:∃ c,decide (r.toKey<(b.keys.length:Int))=c:=⟨_,rfl⟩
   have d0:decide (r.toKey ≥ (b.keys.length:Int))=!c0:=by
    exact Y96
   rw[h0]at hR
   refine Yfw aD (tCq jX (tCq jE (tCq lc tNq))) Tryz.func173 [.tmp 4] (nrq _) (T:=aC [(1,[[],[],[],[0,2],[],[],[],[0,2,3,4,6]]),(6,[[],[],[],[],[],[],[],[],[1,5,7],[],[],[],[8],[],[8],[8],[],[8],[1,5,7,8,15,17],[],[],[8,18]])]) (h:=fun hcl=>?_)
   unfold aR
   simp only[go_sem,aS,bz,aW,i1]
   refine⟨S,⟨rfl,hS.sl⟩,?_⟩
   simp only[aA,go_sem,aS,i1,i2]
   refine⟨S,⟨rfl,hS.sl⟩,?_⟩
   simp only[aA,go_sem,i1,i2,d1,d2,gb,d0,iNq,ybb]
   refine Tq8 ?_
   cases c0 with
   |false=>
    rw[Bool.false_and]at hR
    subst hR
    refine Tq32 ?_
    exact Y8
   |true=>
    rw[Bool.true_and]at hR
    cases ca:r.action==0 with
    |true=>
     rw[ca,if_pos rfl]at hR
     subst hR
     try simp only[go_sem,ca,ga,iNq,ybb]
     exact Y8
    |_=>
     rw[ca,if_neg Bool.false_ne_true]at hR
     try simp only[go_sem,ca,ga,iNq,ybb]
     refine Tq8 ?_
     have hal:=(hS.tn a hma).2.2.1
     refine⟨a.actions,⟨rfl,hal⟩,?_⟩
     have hih:=ix_has (n:=r.action) (l:=a.actions)
     cases cc:a.actions.contains r.action with
     |false=>
      rw[cc,Bool.false_and]at hR
      subst hR
      simp only[aA,go_sem,hih,cc]
      exact Y8
     |true=>
      rw[cc,Bool.true_and]at hR
      have hmem:r.action∈a.actions:=by simpa using cc
      have hany:=hA a hma _ hmem
      rcases wo (fun t:SAction=>t.id==r.action) S.actions with⟨_,f3⟩|⟨m,c,i3,g3,f3,l3⟩
      ·exact Y97
      ·simp only[f3]at hR
       subst hR
       have gc:=a9 (f:=ap) (l:=S.actions) (k:=m) (x:=c) g3
       have hcc:ap c=.agg [.int .i64 c.id,.str c.name,.slice .any 2 (c.params.map aL),.slice .any 6 (c.body.map aU),.str c.restr]:=rfl
       rw[hcc]at gc
       simp only[aA,go_sem,hih,cc,aW]
       refine⟨S,⟨rfl,hS.sl⟩,?_⟩
       simp only[aA,go_sem,i3,gc,iNq,ybb]
       exact Y8
def Ou{n:Nat}:decide ((n:Int)<2)=decide (n≤1):=by
 by_cases h:n≤1
 ·rw[dtq h,dtq (Xa)]
 ·rw[dfq h,dfq (Xa)]
def ep:PCt
 |[.agg l],_,K=>∃ S:Sch,(l=aR S∧SB S∧∀ a∈S.actions,∀ x∈a.body,x.value<340282366920938463463374607431768211456)∧K (.bool (GF S))
 |_,_,_=>False
def FM:EPp 36 ep:=by
 refine Ype fun _ H K h=>?_
 unfold ep at h
 split at h<;>try exact h.elim
 rename_i l
 obtain⟨S,⟨rfl,hS,hv⟩,hK⟩:=h
 refine⟨_,hK,?_⟩
 clear hK
 obtain⟨E,hE⟩:∃ E:Bool,E=true:=⟨true,rfl⟩
 generalize hR:GF S=R
 unfold GF at hR
 have sl:=hS.sl
 replace hR:(true&&((S.actions.all fun a=>a.body.all kpB)&&((S.tables.all fun t=>ftB t.keys 0)&&((S.states.all fsB)&&((S.refs.all krB)&&E)))))=R:=by rw[← hR,hE];simp only[Bool.true_and,Bool.and_true]
 refine Yfu aD (tCq Ab (tCq MO tNq)) Tryz.func36 [.tmp 2] fun hcl=>?_
 have hcH:=me (S:=S) hcl
 unfold aR
 refine Tq20 ?_
 refine lpB S.actions (fun a=>a.body.all kpB) (fun k bk=>[(3,.bool bk),(1,.ptr H.nx 0),(18,.slice .any 5 (S.actions.map ap)),(19,.int .i64 (S.actions.length:Int)),(20,.int .i64 (k:Int))]) (fJ H S) hR (en5 hcH) ?_
 clear hR
 intro k bk hk hR
 have hbk:=sl.al
 refine Tq20 ?_
 refine csL hk (fun hk'=>?_) fun hk'=>?_
 ·skip
  obtain⟨x,hmk,hgk,hR⟩:=hdL ap iV hk' hR
  have ek:=ek5 k
  have hcI:=oW hcH x
  rw[Bool.and_assoc]at hR
  refine Tq54 ?_
  refine Tq0 ?_
  refine lpB x.body kpB (fun j bj=>[(3,.bool bj),(1,.ptr H.nx 0),(18,.slice .any 5 (S.actions.map ap)),(19,.int .i64 (S.actions.length:Int)),(20,.int .i64 (k:Int)),(25,.slice .any 6 (x.body.map aU)),(26,.int .i64 (x.body.length:Int)),(27,.int .i64 (j:Int))]) ((fJ H S).push (.cells (iV x))) hR (en5 hcI) ?_
  clear hR
  intro j bj hj hR
  have hbj:=(hS.an x hmk).2.2.1
  refine Tq20 ?_
  refine csL hj (fun hj'=>?_) fun hj'=>?_
  ·skip
   obtain⟨y,hmj,hgj,hR⟩:=hdL aU Ao hj' hR
   have ej:=ek5 j
   replace hR:=af (E:=wB y.op 1 7&&(wG y&&(y.dst==0||(y.op !=6&&y.op !=7)))) hR
   cases bj with
   |false=>
    try simp only[go_sem,hgj,ej,cK,gg,Bool.bne_false]
    exact Y24
   |true=>
    cases c1:(wB y.op 1 7)with
    |false=>
     try simp only[go_sem,hgj,ej,cK,gg,Bool.bne_false,c1]
     refine Tq0 ?_
     replace hR:=lf false hR (by simp only[c1,tfC])
     exact Y25
    |true=>
     try simp only[go_sem,hgj,ej,cK,gg,Bool.bne_false,c1]
     refine Tq0 ?_
     refine⟨y,⟨rfl,hv x hmk y hmj⟩,?_⟩
     cases c2:(wG y)with
     |false=>
      try simp only[go_sem,hgj,ej,cK,gg,Bool.bne_false,c1,c2]
      refine Tq0 ?_
      replace hR:=lf false hR (by simp only[c1,c2,tfC])
      exact Y25
     |true=>
      cases c3:(y.dst==0)with
      |false=>
       cases c4:(y.op !=6)with
       |false=>
        try simp only[go_sem,hgj,ej,cK,gg,Bool.bne_false,c1,c2,c3,c4]
        refine Tq0 ?_
        replace hR:=lf false hR (by simp only[c1,c2,c3,c4,tfC])
        exact Y25
       |true=>
        cases c5:(y.op !=7)with
        |false=>
         try simp only[go_sem,hgj,ej,cK,gg,Bool.bne_false,c1,c2,c3,c4,c5]
         refine Tq0 ?_
         replace hR:=lf false hR (by simp only[c1,c2,c3,c4,c5,tfC])
         exact Y25
        |true=>
         try simp only[go_sem,hgj,ej,cK,gg,Bool.bne_false,c1,c2,c3,c4,c5]
         refine Tq0 ?_
         replace hR:=lf true hR (by simp only[c1,c2,c3,c4,c5,tfC])
         exact Y41
      |true=>
       try simp only[go_sem,hgj,ej,cK,gg,Bool.bne_false,c1,c2,c3]
       refine Tq0 ?_
       replace hR:=lf true hR (by simp only[c1,c2,c3,tfC])
       exact Y41
  ·exact Y34
 ·skip
  replace hR:=ndL hk' hR
  subst hk'
  refine Tq32 ?_
  refine lpB S.tables (fun t=>ftB t.keys 0) (fun k bk=>[(3,.bool bk),(1,.ptr H.nx 0),(59,.slice .any 8 (S.tables.map au)),(60,.int .i64 (S.tables.length:Int)),(61,.int .i64 (k:Int))]) (fJ H S) hR (en5 hcH) ?_
  clear hR
  intro k bk hk hR
  have hbk:=sl.tl
  refine Tq20 ?_
  refine csL hk (fun hk'=>?_) fun hk'=>?_
  ·skip
   obtain⟨x,hmk,hgk,hR⟩:=hdL au iO hk' hR
   have ek:=ek5 k
   have hcI:=sG hcH x
   rw[Bool.and_assoc]at hR
   refine Tq54 ?_
   refine Tq0 ?_
   have hkl:=(hS.tn x hmk).2.1
   refine aG (A:=Nat × Bool × Nat) (fun a=>[(1,.ptr H.nx 0),(3,.bool a.2.1),(10,.int .i64 (a.2.2:Int)),(59,.slice .any 8 (S.tables.map au)),(60,.int .i64 (S.tables.length:Int)),(61,.int .i64 (k:Int)),(66,.slice .any 3 (x.keys.map aZ)),(67,.int .i64 (x.keys.length:Int)),(68,.int .i64 (a.1:Int))]) (fun _=>((fJ H S).push (.cells (iO x))))
    (fun a=>a.1≤x.keys.length∧a.2.2≤a.1∧(a.2.1&&(ftB (x.keys.drop a.1) a.2.2&&((S.tables.drop (k+1)).all (fun t=>ftB t.keys 0)&&((S.states.all fsB)&&((S.refs.all krB)&&E)))))=R) (fun a=>x.keys.length-a.1) (0,_,0) ⟨Nat.zero_le _,Nat.zero_le _,hR⟩ ?_ fun a ha=>?_
   ·skip
    exact en5 hcI
   clear hR
   obtain⟨j,bj,q⟩:=a
   obtain⟨hj,hq,hR⟩:=ha
   dsimp only at hj hq hR ⊢
   refine Tq20 ?_
   refine ax (fun hc=>?_) (fun hc=>?_)
   ·skip
    have hj':j<x.keys.length:=sHc
    clear hc
    obtain⟨y,hy⟩:∃ z0,z0=x.keys[j]:=⟨_,rfl⟩
    have hd:x.keys.drop j=y::x.keys.drop (j+1):=by rw[hy];exact dcq hj'
    have hg:=a9 (f:=aZ) (l:=x.keys) (k:=j) (x:=y) (by rw[gQq hj',hy])
    rw[show aZ y=.agg (KX y) from rfl]at hg
    have ej:IntKind.i64.wrap ((j:Int)+1)=((j+1:Nat):Int):=Xe
    have eq:IntKind.i64.wrap ((q:Int)+1)=((q+1:Nat):Int):=Xe
    rw[hd,ftB,Bool.and_assoc]at hR
    clear hy hd
    have fin:∀(c:Bool)(q':Nat),q'≤q+1→(c&&(ftB (x.keys.drop (j+1)) q'&&((S.tables.drop (k+1)).all (fun t=>ftB t.keys 0)&&((S.states.all fsB)&&((S.refs.all krB)&&E)))))=R→True:=fun _ _ _ _=>trivial
    clear fin
    cases ck:y.kind==2 with
    |false=>
     rw[ck,if_neg Bool.false_ne_true]at hR
     cases bj with
     |false=>
      try simp only[go_sem,hg,ej,eq,cK,gg,ck]
      refine Tq0 ?_
      refine⟨(j+1,false,q),⟨Xd,Xd,by rw[Bool.false_and]at hR ⊢;exact hR⟩,Xd,?_⟩
      exact en5 hcI
     |true=>
      try simp only[go_sem,hg,ej,eq,cK,gg,ck]
      refine Tq0 ?_
      refine⟨(j+1,wB y.kind 1 4,q),⟨Xd,Xd,by rw[Bool.true_and]at hR;exact hR⟩,Xd,?_⟩
      exact en5 hcI
    |true=>
     rw[ck,if_pos rfl]at hR
     cases bj with
     |false=>
      try simp only[go_sem,hg,ej,eq,cK,gg,ck]
      refine Tq0 ?_
      refine⟨(j+1,false,q+1),⟨Xd,Xd,by rw[Bool.false_and]at hR ⊢;exact hR⟩,Xd,?_⟩
      exact en5 hcI
     |true=>
      try simp only[go_sem,hg,ej,eq,cK,gg,ck]
      refine Tq0 ?_
      refine⟨(j+1,wB y.kind 1 4,q+1),⟨Xd,Xd,by rw[Bool.true_and]at hR;exact hR⟩,Xd,?_⟩
      exact en5 hcI
   ·skip
    have hj':x.keys.length≤j:=sHc
    clear hc
    rw[show x.keys.drop j=[] by rw[List.drop_eq_nil_iff];omega,ftB,← Ou]at hR
    cases bj with
    |false=>
     try simp only[go_sem,ek]
     exact⟨(k+1,false),⟨om5,by rw[Bool.false_and]at hR ⊢;exact hR⟩,om5,en5 hcH⟩
    |true=>
     try simp only[go_sem,ek]
     exact⟨(k+1,decide ((q:Int)<2)),⟨om5,by rw[Bool.true_and]at hR;exact hR⟩,om5,en5 hcH⟩
  ·skip
   replace hR:=ndL hk' hR
   subst hk'
   refine Tq32 ?_
   refine lpB S.states fsB (fun k bk=>[(3,.bool bk),(1,.ptr H.nx 0),(91,.slice .any 5 (S.states.map aE)),(92,.int .i64 (S.states.length:Int)),(93,.int .i64 (k:Int))]) (fJ H S) hR (en5 hcH) ?_
   clear hR
   intro k bk hk hR
   have hbk:=sl.sl
   refine Tq20 ?_
   refine csL hk (fun hk'=>?_) fun hk'=>?_
   ·skip
    obtain⟨x,hmk,hgk,hR⟩:=hdL aE rM hk' hR
    have ek:=ek5 k
    replace hR:=af (E:=x.select !=0||decide (x.cases.length=0)) hR
    cases bk with
    |false=>
     try simp only[go_sem,hgk,ek,cK,gg]
     exact Y23
    |true=>
     cases c1:(x.select !=0)with
     |false=>
      obtain⟨qc2,c2⟩:∃ q:Bool,(decide (x.cases.length=0))=q:=⟨_,rfl⟩
      have dc2:(((x.cases.length:Int)==0))=qc2:=(show(((x.cases.length:Int)==0))=(decide (x.cases.length=0)) from Pp).trans c2
      cases qc2 with
      |false=>
       try simp only[go_sem,hgk,ek,cK,gg,c1,c2,dc2]
       refine Tq0 ?_
       replace hR:=lf false hR (by simp only[c1,c2,dc2,tfC])
       exact Y26
      |true=>
       try simp only[go_sem,hgk,ek,cK,gg,c1,c2,dc2]
       refine Tq0 ?_
       replace hR:=lf true hR (by simp only[c1,c2,dc2,tfC])
       exact Y43
     |true=>
      try simp only[go_sem,hgk,ek,cK,gg,c1]
      refine Tq0 ?_
      replace hR:=lf true hR (by simp only[c1,tfC])
      exact Y43
   ·skip
    replace hR:=ndL hk' hR
    subst hk'
    refine Tq32 ?_
    refine lpB S.refs krB (fun k bk=>[(3,.bool bk),(111,.slice .any 6 (S.refs.map bc)),(112,.int .i64 (S.refs.length:Int)),(113,.int .i64 (k:Int))]) (fJ H S) hR (en5 hcH) ?_
    clear hR
    intro k bk hk hR
    have hbk:=hS.xl
    refine Tq20 ?_
    refine csL hk (fun hk'=>?_) fun hk'=>?_
    ·skip
     obtain⟨x,hmk,hgk,hR⟩:=hdL bc Gg hk' hR
     have ek:=ek5 k
     replace hR:=af (E:=(x.action==0&&x.param==0)||(x.action !=0&&x.key==0)) hR
     cases bk with
     |false=>
      try simp only[go_sem,hgk,ek,cK,gg]
      exact Y23
     |true=>
      cases a0:(x.action==0)with
      |false=>
       have na1:(x.action !=0)=true:=by rw[bne,a0];rfl
       cases k0:(x.key==0)with
       |false=>
        try simp only[go_sem,hgk,ek,cK,gg,a0,na1,k0]
        refine Tq0 ?_
        replace hR:=lf false hR (by simp only[a0,na1,k0,tfC])
        exact Y26
       |true=>
        try simp only[go_sem,hgk,ek,cK,gg,a0,na1,k0]
        refine Tq0 ?_
        replace hR:=lf true hR (by simp only[a0,na1,k0,tfC])
        exact Y43
      |true=>
       have na1:(x.action !=0)=false:=by rw[bne,a0];rfl
       cases p0:(x.param==0)with
       |false=>
        try simp only[go_sem,hgk,ek,cK,gg,a0,na1,p0]
        refine Tq0 ?_
        replace hR:=lf false hR (by simp only[a0,na1,p0,tfC])
        exact Y26
       |true=>
        try simp only[go_sem,hgk,ek,cK,gg,a0,na1,p0]
        refine Tq0 ?_
        replace hR:=lf true hR (by simp only[a0,na1,p0,tfC])
        exact Y43
    ·exact Y63
end Go.AL
