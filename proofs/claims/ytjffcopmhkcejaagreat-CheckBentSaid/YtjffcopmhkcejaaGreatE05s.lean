/- Lemmas of the proof; no condition. -/
import Derived.Test.YtjffcopmhkcejaaGreatE05l
import Derived.Test.YtjffcopmhkcejaaGreatE05b
set_option linter.all false
set_option maxRecDepth 10000
set_option maxHeartbeats 32000000
open Go Go.AL Go.Proofs
namespace Go.AL
def Sv{x y:Nat}:(((((x/2^64:Nat):Int)==((y/2^64:Nat):Int))&&(((x%2^64:Nat):Int)==((y%2^64:Nat):Int))) !=false)=decide (x=y):=by
 rw[Bool.bne_false,Bool.eq_iff_iff]
 simp
 omega
def mQ{S:Sch}{n:Int}(h:bp S n=true):Ce S n∧A4 S n=btF S n:=by
 have h0:Ce S n:=by
  have h1:decide (0≤ixP (fun t:SField=>t.id==n) S.fields 0)=true:=by rw[eY];exact h
  unfold Ce
  exact of_decide_eq_true h1
 obtain⟨i,x,h1,h2,h3,h4⟩:=Ax h0
 obtain⟨y,g1,g2⟩:=lj h
 obtain⟨i',k1,k2,_⟩:=mg g1
 have e:i'=i:=by rw[h2]at k1;omega
 subst e
 rw[h3]at k2;cases k2
 exact⟨h0,h4.trans g2⟩
def fD:PCt
 |[.agg l],_,K=>∃ S:Sch,(l=aR S∧SB S∧FitK S)∧K (.bool (pkB S))
 |_,_,_=>False
def KM:EPp 40 fD:=by
 refine Ype fun _ H K h=>?_
 unfold fD at h
 split at h<;>try exact h.elim
 rename_i l
 obtain⟨S,⟨rfl,hS,hF⟩,hK⟩:=h
 refine⟨_,hK,?_⟩
 clear hK
 obtain⟨E,hE⟩:∃ E:Bool,E=true:=⟨true,rfl⟩
 generalize hR:pkB S=R
 unfold pkB at hR
 have sl:=hS.sl
 replace hR:(true&&(((btF S 1==16)&&(btF S 2==16))&&((S.headers.all (hwB S))&&((S.states.all fun t=>t.cases.all fun p=>mV S t.select p)&&E))))=R:=by rw[← hR,hE];simp only[Bool.true_and,Bool.and_true,Bool.and_assoc]
 obtain⟨q1,q2⟩:=mQ hF.f1
 obtain⟨q3,q4⟩:=mQ hF.f2
 refine Yfw aD (tCq wY (tCq vj (tCq Oz tNq))) Tryz.func40 [.tmp 2] (nrq _) (T:=aC [(21,[[],[],[],[],[],[3],[],[],[],[5],[],[3,5,9],[],[],[],[5,11],[],[5,11],[3,5,9,11,15,17],[],[5,11]]),(2,[[1]])]) (h:=fun hcl=>?_)
 have hcH:=me (S:=S) hcl
 unfold aR
 apply jb (α:=Bool) (fun O=>[(1,.ptr H.nx 0),(3,.bool O)]) (fun _=>(fJ H S)) (fun O=>(O&&((S.headers.all (hwB S))&&((S.states.all fun t=>t.cases.all fun p=>mV S t.select p)&&E)))=R)
 ·intro J
  simp only[go_sem,cE,cG,ip,q2,q4]
  refine⟨S,⟨rfl,sl,q1⟩,?_⟩
  cases f1:btF S 1==16 with
  |false=>
   simp only[go_sem,cE,cG,ip,q2,q4,f1]
   exact bw J false (by rw[f1]at hR;exact hR) (en5 hcH)
  |true=>
   simp only[go_sem,cE,cG,ip,q2,q4,f1]
   refine⟨S,⟨rfl,sl,q3⟩,?_⟩
   cases f2:btF S 2==16 with
   |false=>
    simp only[go_sem,cE,cG,ip,q2,q4,f2]
    exact bw J false (by rw[f1,f2]at hR;exact hR) (en5 hcH)
   |true=>
    simp only[go_sem,cE,cG,ip,q2,q4,f2]
    exact bw J true (by rw[f1,f2]at hR;exact hR) (en5 hcH)
 clear hR
 intro b0 hR
 dsimp only at hR ⊢
 refine Tq32 ?_
 refine lpB S.headers (hwB S) (fun k bk=>[(3,.bool bk),(1,.ptr H.nx 0),(23,.slice .any 3 (S.headers.map az)),(24,.int .i64 (S.headers.length:Int)),(25,.int .i64 (k:Int))]) (fJ H S) hR (en5 hcH) ?_
 clear hR
 intro k bk hk hR
 have hbk:=sl.hl
 refine Tq20 ?_
 refine csL hk (fun hk'=>?_) fun hk'=>?_
 ·skip
  obtain⟨x,hmk,hgk,hR⟩:=hdL az nT hk' hR
  have ek:=ek5 k
  have hcI:=ye hcH x
  replace hR:(bk&&((x.fields.all fun f=>f !=1&&f !=2)&&((decide (smB S x.fields 0%8=0)&&decide (smB S x.fields 0≤512))&&((S.headers.drop (k+1)).all (hwB S)&&((S.states.all fun t=>t.cases.all fun p=>mV S t.select p)&&E)))))=R:=by
   rw[← hR];show _=(bk&&((((x.fields.all fun f=>f !=1&&f !=2)&&(decide (smB S x.fields 0%8=0)&&decide (smB S x.fields 0≤512)))&&_)&&_));simp only[Bool.and_assoc]
  obtain⟨hfl,hff⟩:=hF.h x hmk
  obtain⟨M,hM⟩:∃ M,smB S x.fields 0=M:=⟨_,rfl⟩
  rw[hM]at hR
  try simp only[go_sem,hgk,ek,iK]
  refine Tq0 ?_
  refine aG (A:=Nat × Bool × Int) (fun a=>[(1,.ptr H.nx 0),(3,.bool a.2.1),(6,.int .i64 a.2.2),(23,.slice .any 3 (S.headers.map az)),(24,.int .i64 (S.headers.length:Int)),(25,.int .i64 (k:Int)),(30,.slice .any 1 (inL x.fields)),(31,.int .i64 (x.fields.length:Int)),(32,.int .i64 (a.1:Int))]) (fun _=>((fJ H S).push (.cells (nT x))))
   (fun a=>a.1≤x.fields.length∧0≤a.2.2∧a.2.2≤(a.1:Int)*1000000∧smB S (x.fields.drop a.1) a.2.2=M∧(a.2.1&&((x.fields.drop a.1).all (fun f=>f !=1&&f !=2)&&((decide (M%8=0)&&decide (M≤512))&&((S.headers.drop (k+1)).all (hwB S)&&((S.states.all fun t=>t.cases.all fun p=>mV S t.select p)&&E)))))=R) (fun a=>x.fields.length-a.1) (0,_,0) ⟨Nat.zero_le _,Xd,Xd,hM,hR⟩ ?_ fun a ha=>?_
  ·skip
   exact en5 hcI
  clear hR hM
  obtain⟨j,bj,n⟩:=a
  obtain⟨hj,hn0,hn1,hM,hR⟩:=ha
  dsimp only at hj hn0 hn1 hM hR ⊢
  simp only[go_sem,inL]
  refine ax (fun hc=>?_) (fun hc=>?_)
  ·skip
   have hj':j<x.fields.length:=sHc
   clear hc
   obtain⟨y,hy⟩:∃ z0,z0=x.fields[j]:=⟨_,rfl⟩
   have hd:x.fields.drop j=y::x.fields.drop (j+1):=by rw[hy];exact dcq hj'
   have hmj:y∈x.fields:=by rw[hy];exact gMq hj'
   have hgj:=a9 (f:=AV.int .i64) (l:=x.fields) (k:=j) (x:=y) (by rw[gQq hj',hy])
   have ej:IntKind.i64.wrap ((j:Int)+1)=((j+1:Nat):Int):=Xe
   obtain⟨y1,y2,y3⟩:=hff y hmj
   obtain⟨y4,y5⟩:=mQ y1
   have en:IntKind.i64.wrap (n+btF S y)=n+btF S y:=Xe
   rw[hd,List.all_cons]at hR
   rw[hd,smB]at hM
   clear hy hd
   simp only[go_sem,hgj,ej,cE,cG,ip,y5,en]
   refine Tq0 ?_
   refine⟨S,⟨rfl,sl,y4⟩,?_⟩
   replace hR:(bj&&((y !=1&&y !=2)&&((x.fields.drop (j+1)).all (fun f=>f !=1&&f !=2)&&((decide (M%8=0)&&decide (M≤512))&&((S.headers.drop (k+1)).all (hwB S)&&((S.states.all fun t=>t.cases.all fun p=>mV S t.select p)&&E))))))=R:=by rw[← hR];show _=(bj&&(((y !=1&&y !=2)&&_)&&_));rw[Bool.and_assoc (y !=1&&y !=2)]
   replace hR:=ae (E:=y !=1&&y !=2) hR
   cases bj with
   |false=>
    try simp only[go_sem,hgj,ej,cE,cG,ip,y5,en]
    refine Tq0 ?_
    replace hR:=lff hR
    exact Y68
   |true=>
    cases c1:(y !=1)with
    |false=>
     try simp only[go_sem,hgj,ej,cE,cG,ip,y5,en,c1]
     refine Tq0 ?_
     replace hR:=lf false hR (by simp only[c1,tfC])
     exact Y68
    |true=>
     cases c2:(y !=2)with
     |false=>
      try simp only[go_sem,hgj,ej,cE,cG,ip,y5,en,c1,c2]
      refine Tq0 ?_
      replace hR:=lf false hR (by simp only[c1,c2,tfC])
      exact Y68
     |true=>
      try simp only[go_sem,hgj,ej,cE,cG,ip,y5,en,c1,c2]
      refine Tq0 ?_
      replace hR:=lf true hR (by simp only[c1,c2,tfC])
      refine⟨(j+1,true,n+btF S y),⟨Xd,Xd,by dsimp only;push_cast;omega,hM,hR⟩,Xd,?_⟩
      exact en5 hcI
  ·skip
   have hj':x.fields.length≤j:=sHc
   clear hc
   rw[show x.fields.drop j=[] by rw[List.drop_eq_nil_iff];omega]at hR hM
   rw[smB]at hM
   subst hM
   rw[List.all_nil,Bool.true_and]at hR
   have d8:(n.tmod 8==0)=decide (n%8=0):=by
    rw[Int.tmod_eq_emod_of_nonneg hn0,Bool.eq_iff_iff];simp
   replace hR:=ae (E:=decide (n%8=0)&&decide (n≤512)) hR
   cases bj with
   |false=>
    try simp only[go_sem,hgk,ek,cE,cG,ip,d8]
    exact Y23
   |true=>
    cases c1:(decide (n%8=0))with
    |false=>
     try simp only[go_sem,hgk,ek,cE,cG,ip,d8,c1]
     refine Tq0 ?_
     replace hR:=lf false hR (by simp only[c1,tfC])
     exact Y26
    |true=>
     cases c2:(decide (n≤512))with
     |false=>
      try simp only[go_sem,hgk,ek,cE,cG,ip,d8,c1,c2]
      refine Tq0 ?_
      replace hR:=lf false hR (by simp only[c1,c2,tfC])
      exact Y26
     |true=>
      try simp only[go_sem,hgk,ek,cE,cG,ip,d8,c1,c2]
      refine Tq0 ?_
      replace hR:=lf true hR (by simp only[c1,c2,tfC])
      exact Y43
 ·skip
  replace hR:=ndL hk' hR
  subst hk'
  refine Tq32 ?_
  refine lpB S.states (fun t=>t.cases.all fun p=>mV S t.select p) (fun k bk=>[(3,.bool bk),(1,.ptr H.nx 0),(63,.slice .any 5 (S.states.map aE)),(64,.int .i64 (S.states.length:Int)),(65,.int .i64 (k:Int))]) (fJ H S) hR (en5 hcH) ?_
  clear hR
  intro k bk hk hR
  have hbk:=sl.sl
  refine Tq20 ?_
  refine csL hk (fun hk'=>?_) fun hk'=>?_
  ·skip
   obtain⟨x,hmk,hgk,hR⟩:=hdL aE rM hk' hR
   have ek:=ek5 k
   have hcI:=Au hcH x
   rw[Bool.and_assoc]at hR
   refine Tq54 ?_
   refine Tq0 ?_
   refine lpB x.cases (fun p=>mV S x.select p) (fun j bj=>[(3,.bool bj),(1,.ptr H.nx 0),(63,.slice .any 5 (S.states.map aE)),(64,.int .i64 (S.states.length:Int)),(65,.int .i64 (k:Int)),(10,.ptr (H.nx+1) 0),(70,.slice .any 5 (x.cases.map ba)),(71,.int .i64 (x.cases.length:Int)),(72,.int .i64 (j:Int))]) ((fJ H S).push (.cells (rM x))) hR (en5 hcI) ?_
   clear hR
   intro j bj hj hR
   have hbj:=(hS.sn x hmk)
   refine Tq20 ?_
   refine csL hj (fun hj'=>?_) fun hj'=>?_
   ·skip
    obtain⟨y,hmj,hgj,hR⟩:=hdL ba Q3 hj' hR
    have ej:=ek5 j
    obtain⟨s1,v1,v2⟩:=hF.s x hmk y hmj
    obtain⟨y4,y5⟩:=mQ s1
    have iv:=qm v1
    have iw:=qm v2
    have vb:=kx y.value
    have wb:=kx y.mask
    simp only[go_sem,hgj,ej,cE,cG,ip,y5]
    refine Tq0 ?_
    refine⟨S,⟨rfl,sl,y4⟩,?_⟩
    replace hR:=af (E:=decide (((bl y.value:Nat):Int)≤btF S x.select)&&(decide (((bl y.mask:Nat):Int)≤btF S x.select)&&decide (y.value&&&y.mask=y.value))) hR
    cases bj with
    |false=>
     try simp only[go_sem,hgj,ej,cE,cG,ip,y5,iv,iw,vb,wb,p2V,vv,jx,jB,mH]
     exact Y24
    |true=>
     cases c1:(decide (((bl y.value:Nat):Int)≤btF S x.select))with
     |false=>
      try simp only[go_sem,hgj,ej,cE,cG,ip,y5,iv,iw,vb,wb,p2V,vv,jx,jB,mH,c1]
      refine Tq0 ?_
      replace hR:=lf false hR (by simp only[c1,tfC])
      exact Y25
     |true=>
      cases c2:(decide (((bl y.mask:Nat):Int)≤btF S x.select))with
      |false=>
       try simp only[go_sem,hgj,ej,cE,cG,ip,y5,iv,iw,vb,wb,p2V,vv,jx,jB,mH,c1,c2]
       refine Tq0 ?_
       replace hR:=lf false hR (by simp only[c1,c2,tfC])
       exact Y25
      |true=>
       try simp only[go_sem,hgj,ej,cE,cG,ip,y5,iv,iw,vb,wb,p2V,vv,jx,jB,mH,c1,c2]
       refine Tq0 ?_
       obtain⟨qc3,c3⟩:∃ q:Bool,(decide (y.value&&&y.mask=y.value))=q:=⟨_,rfl⟩
       have dc3:(((((y.value&&&y.mask)/2^64:Nat):Int)==((y.value/2^64:Nat):Int)&&((((y.value&&&y.mask)%2^64:Nat):Int)==((y.value%2^64:Nat):Int))) !=false)=qc3:=(show(((((y.value&&&y.mask)/2^64:Nat):Int)==((y.value/2^64:Nat):Int)&&((((y.value&&&y.mask)%2^64:Nat):Int)==((y.value%2^64:Nat):Int))) !=false)=(decide (y.value&&&y.mask=y.value)) from Sv).trans c3
       cases qc3 with
       |false=>
        try simp only[go_sem,hgj,ej,cE,cG,ip,y5,iv,iw,vb,wb,p2V,vv,jx,jB,mH,c1,c2,c3,dc3]
        refine Tq0 ?_
        replace hR:=lf false hR (by simp only[c1,c2,c3,dc3,tfC])
        exact Y25
       |true=>
        try simp only[go_sem,hgj,ej,cE,cG,ip,y5,iv,iw,vb,wb,p2V,vv,jx,jB,mH,c1,c2,c3,dc3]
        refine Tq0 ?_
        replace hR:=lf true hR (by simp only[c1,c2,c3,dc3,tfC])
        exact Y41
   ·exact Y34
  ·exact Y63
def UA{p:SPrim}(h:fpB p=true):lH p.op=(p.op==7||!decide (p.op>3)):=by
 unfold fpB at h
 rw[Bool.and_eq_true]at h
 have hw:=h.1
 unfold wB at hw
 simp only[Bool.and_eq_true,decide_eq_true_eq]at hw
 have h7:p.op=1∨p.op=2∨p.op=3∨p.op=4∨p.op=5∨p.op=6∨p.op=7:=Xa
 unfold lH
 rcases h7 with h|h|h|h|h|h|h<;>rw[h]<;>rfl
def SV{S:Sch}{np:Nat}{p:SPrim}(h:oP S np p=true)(hf:fpB p=true)(h7:(p.op==7)=false)(h3:decide (p.op>3)=false):bp S p.dst=true:=by
 unfold fpB at hf
 rw[Bool.and_eq_true]at hf
 have hw:=hf.1
 unfold wB at hw
 simp only[Bool.and_eq_true,decide_eq_true_eq]at hw
 have h3':=of_decide_eq_false h3
 have h7:p.op=1∨p.op=2∨p.op=3:=Xa
 unfold oP at h
 rw[if_pos (by rcases h7 with h|h|h<;>rw[h]<;>rfl),Bool.and_eq_true]at h
 exact h.1
def Hj{S:Sch}{np:Nat}{p:SPrim}(h:oP S np p=true)(ho:lH p.op=true):(if p.kind==2 then bp S p.n else if p.kind==3 then decide (p.n<(np:Int))else true)=true:=by
 unfold lH at ho
 unfold oP at h
 split at h
 ·rw[Bool.and_eq_true]at h;exact h.2
 ·rename_i h1
  split at h
  ·rename_i h2
   exfalso
   simp only[Bool.or_eq_true,beq_iff_eq]at h1 h2 ho
   omega
  ·exact h
def Eb{p:SPrim}(h:fpB p=true)(ho:lH p.op=true)(k1:(p.kind==1)=false)(k2:(p.kind==2)=false):(p.kind==3)=true:=by
 unfold fpB at h
 rw[ho,if_pos rfl,k1,if_neg Bool.false_ne_true,k2,Bool.false_or]at h
 simp only[Bool.and_eq_true]at h
 exact h.2.2.1
def getD_some{α:Type}{l:List α}{k:Nat}{d:α}(h:k<l.length):l[k]?=some (l.getD k d):=by
 rw[gEq,gQq h];rfl
def fy:PCt
 |[.agg l],_,K=>∃ S:Sch,(l=aR S∧SB S∧FitK S)∧K (.bool (atB S))
 |_,_,_=>False
def Hv:EPp 41 fy:=by
 refine Ype fun _ H K h=>?_
 unfold fy at h
 split at h<;>try exact h.elim
 rename_i l
 obtain⟨S,⟨rfl,hS,hF⟩,hK⟩:=h
 refine⟨_,hK,?_⟩
 clear hK
 obtain⟨E,hE⟩:∃ E:Bool,E=true:=⟨true,rfl⟩
 generalize hR:atB S=R
 unfold atB at hR
 have sl:=hS.sl
 replace hR:(true&&((S.actions.all fun t=>t.body.all fun p=>mI S t p)&&E))=R:=by rw[← hR,hE];simp only[Bool.true_and,Bool.and_true]
 refine Yfu aD (tCq wY (tCq vj tNq)) Tryz.func41 [.tmp 2] fun hcl=>?_
 have hcH:=me (S:=S) hcl
 unfold aR
 refine Tq20 ?_
 refine lpB S.actions (fun t=>t.body.all fun p=>mI S t p) (fun k bk=>[(3,.bool bk),(1,.ptr H.nx 0),(10,.slice .any 5 (S.actions.map ap)),(11,.int .i64 (S.actions.length:Int)),(12,.int .i64 (k:Int))]) (fJ H S) hR (en5 hcH) ?_
 clear hR
 intro k bk hk hR
 have hbk:=sl.al
 refine Tq20 ?_
 refine csL hk (fun hk'=>?_) fun hk'=>?_
 ·skip
  obtain⟨x,hmk,hgk,hR⟩:=hdL ap iV hk' hR
  have ek:=ek5 k
  have hcI:=oW hcH x
  rw[Bool.and_assoc]at hR
  refine Tq54 ?_
  refine Tq0 ?_
  refine lpB x.body (fun p=>mI S x p) (fun j bj=>[(3,.bool bj),(1,.ptr H.nx 0),(10,.slice .any 5 (S.actions.map ap)),(11,.int .i64 (S.actions.length:Int)),(12,.int .i64 (k:Int)),(5,.ptr (H.nx+1) 0),(17,.slice .any 6 (x.body.map aU)),(18,.int .i64 (x.body.length:Int)),(19,.int .i64 (j:Int))]) ((fJ H S).push (.cells (iV x))) hR (en5 hcI) ?_
  clear hR
  intro j bj hj hR
  have hbj:=(hS.an x hmk).2.2.1
  refine Tq20 ?_
  refine csL hj (fun hj'=>?_) fun hj'=>?_
  ·skip
   obtain⟨y,hmj,hgj,hR⟩:=hdL aU Ao hj' hR
   have ej:=ek5 j
   obtain⟨v1,v2,v3,v4⟩:=hF.a x hmk y hmj
   have iv:=qm v1
   have vb:=kx y.value
   have ho:=UA v3
   cases o7:y.op==7 with
   |true=>
    have n7:(y.op !=7)=false:=by rw[bne,o7];rfl
    rw[o7,Bool.true_or]at ho
    have hsr:=Hj v2 ho
    cases k1:y.kind==1 with
    |true=>
     replace hR:=af (E:=if lH y.op then(if y.kind==1 then decide (((bl y.value:Nat):Int)≤(if y.op==7 then 16 else btF S y.dst))else if y.kind==2 then decide (btF S y.n≤(if y.op==7 then 16 else btF S y.dst))else decide ((x.params.getD y.n.toNat ⟨[],0⟩).bits≤(if y.op==7 then 16 else btF S y.dst)))else true) hR
     cases bj with
     |false=>
      try simp only[go_sem,hgj,ej,cE,cG,iv,vb,o7,n7,ho,k1]
      exact Y24
     |true=>
      cases c1:(decide (((bl y.value:Nat):Int)≤16))with
      |false=>
       try simp only[go_sem,hgj,ej,cE,cG,iv,vb,o7,n7,ho,k1,c1]
       refine Tq0 ?_
       replace hR:=lf false hR (by simp only[o7,n7,ho,k1,c1,tfC])
       exact Y25
      |true=>
       try simp only[go_sem,hgj,ej,cE,cG,iv,vb,o7,n7,ho,k1,c1]
       refine Tq0 ?_
       replace hR:=lf true hR (by simp only[o7,n7,ho,k1,c1,tfC])
       exact Y41
    |false=>
     cases k2:y.kind==2 with
     |true=>
      rw[k2,if_pos rfl]at hsr
      obtain⟨z4,z5⟩:=mQ hsr
      replace hR:=af (E:=if lH y.op then(if y.kind==1 then decide (((bl y.value:Nat):Int)≤(if y.op==7 then 16 else btF S y.dst))else if y.kind==2 then decide (btF S y.n≤(if y.op==7 then 16 else btF S y.dst))else decide ((x.params.getD y.n.toNat ⟨[],0⟩).bits≤(if y.op==7 then 16 else btF S y.dst)))else true) hR
      cases bj with
      |false=>
       try simp only[go_sem,hgj,ej,cE,cG,iv,vb,z5,o7,n7,ho,k1,k2]
       exact Y24
      |true=>
       try simp only[go_sem,hgj,ej,cE,cG,iv,vb,z5,o7,n7,ho,k1,k2]
       refine Tq0 ?_
       refine⟨S,⟨rfl,sl,z4⟩,?_⟩
       cases c1:(decide (btF S y.n≤16))with
       |false=>
        try simp only[go_sem,hgj,ej,cE,cG,iv,vb,z5,o7,n7,ho,k1,k2,c1]
        refine Tq0 ?_
        replace hR:=lf false hR (by simp only[o7,n7,ho,k1,k2,c1,tfC])
        exact Y25
       |true=>
        try simp only[go_sem,hgj,ej,cE,cG,iv,vb,z5,o7,n7,ho,k1,k2,c1]
        refine Tq0 ?_
        replace hR:=lf true hR (by simp only[o7,n7,ho,k1,k2,c1,tfC])
        exact Y41
     |false=>
      have k3:=Eb v3 ho k1 k2
      rw[k2,if_neg Bool.false_ne_true,k3,if_pos rfl]at hsr
      have hnl:y.n.toNat<x.params.length:=by have:=of_decide_eq_true hsr;omega
      have gp:=a9 (f:=aL) (l:=x.params) (k:=y.n.toNat) (x:=x.params.getD y.n.toNat ⟨[],0⟩) (getD_some hnl)
      rw[show aL (x.params.getD y.n.toNat ⟨[],0⟩)=.agg [.str (x.params.getD y.n.toNat ⟨[],0⟩).name,.int .i64 (x.params.getD y.n.toNat ⟨[],0⟩).bits] from rfl]at gp
      replace hR:=af (E:=if lH y.op then(if y.kind==1 then decide (((bl y.value:Nat):Int)≤(if y.op==7 then 16 else btF S y.dst))else if y.kind==2 then decide (btF S y.n≤(if y.op==7 then 16 else btF S y.dst))else decide ((x.params.getD y.n.toNat ⟨[],0⟩).bits≤(if y.op==7 then 16 else btF S y.dst)))else true) hR
      cases bj with
      |false=>
       try simp only[go_sem,hgj,ej,cE,cG,iv,vb,gp,o7,n7,ho,k1,k2]
       exact Y24
      |true=>
       cases c1:(decide ((x.params.getD y.n.toNat ⟨[],0⟩).bits≤16))with
       |false=>
        try simp only[go_sem,hgj,ej,cE,cG,iv,vb,gp,o7,n7,ho,k1,k2,c1]
        refine Tq0 ?_
        replace hR:=lf false hR (by simp only[o7,n7,ho,k1,k2,c1,tfC])
        exact Y25
       |true=>
        try simp only[go_sem,hgj,ej,cE,cG,iv,vb,gp,o7,n7,ho,k1,k2,c1]
        refine Tq0 ?_
        replace hR:=lf true hR (by simp only[o7,n7,ho,k1,k2,c1,tfC])
        exact Y41
   |false=>
    have n7:(y.op !=7)=true:=by rw[bne,o7];rfl
    rw[o7,Bool.false_or]at ho
    cases o3:decide (y.op>3)with
    |true=>
     rw[o3,Bool.not_true]at ho
     try simp only[go_sem,hgj,ej,cE,cG,iv,vb,o7,n7,o3]
     refine Tq0 ?_
     try simp only[go_sem,hgj,ej,cE,cG,iv,vb,o7,n7,o3]
     replace hR:(bj&&((x.body.drop (j+1)).all (fun p=>mI S x p)&&((S.actions.drop (k+1)).all (fun t=>t.body.all fun p=>mI S t p)&&E)))=R:=by
      have hF2:mI S x y=true:=by unfold mI;rw[ho];rfl
      rw[← hR];show _=(bj&&((mI S x y&&_)&&_));rw[hF2,Bool.true_and]
     exact⟨(j+1,bj),⟨om5,hR⟩,om5,en5 hcI⟩
    |_=>
     rw[o3,Bool.not_false]at ho
     obtain⟨d4,d5⟩:=mQ (SV v2 v3 o7 o3)
     try simp only[go_sem,hgj,ej,cE,cG,iv,vb,o7,n7,o3,d5]
     refine Tq0 ?_
     refine⟨S,⟨rfl,sl,d4⟩,?_⟩
     have hsr:=Hj v2 ho
     cases k1:y.kind==1 with
     |true=>
      replace hR:=af (E:=if lH y.op then(if y.kind==1 then decide (((bl y.value:Nat):Int)≤(if y.op==7 then 16 else btF S y.dst))else if y.kind==2 then decide (btF S y.n≤(if y.op==7 then 16 else btF S y.dst))else decide ((x.params.getD y.n.toNat ⟨[],0⟩).bits≤(if y.op==7 then 16 else btF S y.dst)))else true) hR
      cases bj with
      |false=>
       try simp only[go_sem,hgj,ej,cE,cG,iv,vb,d5,o7,n7,o3,ho,k1]
       exact Y24
      |true=>
       cases c1:(decide (((bl y.value:Nat):Int)≤btF S y.dst))with
       |false=>
        try simp only[go_sem,hgj,ej,cE,cG,iv,vb,d5,o7,n7,o3,ho,k1,c1]
        refine Tq0 ?_
        replace hR:=lf false hR (by simp only[o7,n7,o3,ho,k1,c1,tfC])
        exact Y25
       |true=>
        try simp only[go_sem,hgj,ej,cE,cG,iv,vb,d5,o7,n7,o3,ho,k1,c1]
        refine Tq0 ?_
        replace hR:=lf true hR (by simp only[o7,n7,o3,ho,k1,c1,tfC])
        exact Y41
     |false=>
      cases k2:y.kind==2 with
      |true=>
       rw[k2,if_pos rfl]at hsr
       obtain⟨z4,z5⟩:=mQ hsr
       replace hR:=af (E:=if lH y.op then(if y.kind==1 then decide (((bl y.value:Nat):Int)≤(if y.op==7 then 16 else btF S y.dst))else if y.kind==2 then decide (btF S y.n≤(if y.op==7 then 16 else btF S y.dst))else decide ((x.params.getD y.n.toNat ⟨[],0⟩).bits≤(if y.op==7 then 16 else btF S y.dst)))else true) hR
       cases bj with
       |false=>
        try simp only[go_sem,hgj,ej,cE,cG,iv,vb,z5,d5,o7,n7,o3,ho,k1,k2]
        exact Y24
       |true=>
        try simp only[go_sem,hgj,ej,cE,cG,iv,vb,z5,d5,o7,n7,o3,ho,k1,k2]
        refine Tq0 ?_
        refine⟨S,⟨rfl,sl,z4⟩,?_⟩
        cases c1:(decide (btF S y.n≤btF S y.dst))with
        |false=>
         try simp only[go_sem,hgj,ej,cE,cG,iv,vb,z5,d5,o7,n7,o3,ho,k1,k2,c1]
         refine Tq0 ?_
         replace hR:=lf false hR (by simp only[o7,n7,o3,ho,k1,k2,c1,tfC])
         exact Y25
        |true=>
         try simp only[go_sem,hgj,ej,cE,cG,iv,vb,z5,d5,o7,n7,o3,ho,k1,k2,c1]
         refine Tq0 ?_
         replace hR:=lf true hR (by simp only[o7,n7,o3,ho,k1,k2,c1,tfC])
         exact Y41
      |false=>
       have k3:=Eb v3 ho k1 k2
       rw[k2,if_neg Bool.false_ne_true,k3,if_pos rfl]at hsr
       have hnl:y.n.toNat<x.params.length:=by have:=of_decide_eq_true hsr;omega
       have gp:=a9 (f:=aL) (l:=x.params) (k:=y.n.toNat) (x:=x.params.getD y.n.toNat ⟨[],0⟩) (getD_some hnl)
       rw[show aL (x.params.getD y.n.toNat ⟨[],0⟩)=.agg [.str (x.params.getD y.n.toNat ⟨[],0⟩).name,.int .i64 (x.params.getD y.n.toNat ⟨[],0⟩).bits] from rfl]at gp
       replace hR:=af (E:=if lH y.op then(if y.kind==1 then decide (((bl y.value:Nat):Int)≤(if y.op==7 then 16 else btF S y.dst))else if y.kind==2 then decide (btF S y.n≤(if y.op==7 then 16 else btF S y.dst))else decide ((x.params.getD y.n.toNat ⟨[],0⟩).bits≤(if y.op==7 then 16 else btF S y.dst)))else true) hR
       cases bj with
       |false=>
        try simp only[go_sem,hgj,ej,cE,cG,iv,vb,gp,d5,o7,n7,o3,ho,k1,k2]
        exact Y24
       |true=>
        cases c1:(decide ((x.params.getD y.n.toNat ⟨[],0⟩).bits≤btF S y.dst))with
        |false=>
         try simp only[go_sem,hgj,ej,cE,cG,iv,vb,gp,d5,o7,n7,o3,ho,k1,k2,c1]
         refine Tq0 ?_
         replace hR:=lf false hR (by simp only[o7,n7,o3,ho,k1,k2,c1,tfC])
         exact Y25
        |true=>
         try simp only[go_sem,hgj,ej,cE,cG,iv,vb,gp,d5,o7,n7,o3,ho,k1,k2,c1]
         refine Tq0 ?_
         replace hR:=lf true hR (by simp only[o7,n7,o3,ho,k1,k2,c1,tfC])
         exact Y41
  ·exact Y34
 ·exact Y63
def RT{S:Sch}{r:SRef}(h:qp S r):∃ b j,KeyAt S r.toTable r.toKey (m9 S r) b j∧b.keys[r.toKey.toNat]?=some (m9 S r):=by
 obtain⟨b,e1,e2,e3,_⟩:=pF h
 obtain⟨j,hj⟩:=zL e1 e2 e3
 exact⟨b,j,hj,e3⟩
def Ja{S:Sch}{r:SRef}(h:qp S r)(h0:(r.action==0)=true):∃ b j,KeyAt S r.table r.key (oO S r) b j∧b.keys[r.key.toNat]?=some (oO S r):=by
 obtain⟨b,e1,e2,e3,e4⟩:=pF h
 rw[if_pos h0]at e4
 obtain⟨a,a1,a2,a3⟩:=e4
 obtain⟨j,hj⟩:=zL a1 a2 a3
 exact⟨a,j,hj,a3⟩
structure ActAt(S:Sch)(n:Int)(a:SAction)(j:Nat):Prop where
 fd:S.actions.find? (fun t=>t.id==n)=some a
 ix:ixP (fun t:SAction=>t.id==n) S.actions 0=(j:Int)
 lt:j<S.actions.length
 gt:(S.actions.map ap).getD j .junk=.agg (iV a)
def Lc{S:Sch}{n:Int}{a:SAction}(h:S.actions.find? (fun t=>t.id==n)=some a):∃ j,ActAt S n a j:=by
 obtain⟨j,j1,g2,l2⟩:=mg h
 exact⟨j,h,j1,l2,a9 (f:=ap) (l:=S.actions) (k:=j) (x:=a) g2⟩
def SU{S:Sch}{n:Int}(h:fZ S n=true):∃ (b:STable) (j:Nat),S.tables.find? (fun t=>t.id==n)=some b∧ixP (fun t:STable=>t.id==n) S.tables 0=(j:Int)∧j<S.tables.length∧(S.tables.map au).getD j .junk=.agg (iO b):=by
 unfold fZ at h
 rw[List.any_eq_true]at h
 obtain⟨y,hy,h2⟩:=h
 cases hf:S.tables.find? (fun t=>t.id==n)with
 |none=>exact absurd h2 (by have:=List.find?_eq_none.1 hf y hy;simpa using this)
 |some b =>
  obtain⟨j,j1,g2,l2⟩:=mg hf
  exact⟨b,j,rfl,j1,l2,a9 (f:=au) (l:=S.tables) (k:=j) (x:=b) g2⟩
theorem zh{a b:Nat}:((a:Int)==(b:Int))=decide (a=b):=Xs
def fA:PCt
 |[.agg l],_,K=>∃ S:Sch,(l=aR S∧SB S∧FitK S∧∀ a∈S.actions,a.params.length≤1000)∧K (.bool (tbB S))
 |_,_,_=>False
def G3:EPp 42 fA:=by
 refine Ype fun _ H K h=>?_
 unfold fA at h
 split at h<;>try exact h.elim
 rename_i l
 obtain⟨S,⟨rfl,hS,hF,hpl⟩,hK⟩:=h
 refine⟨_,hK,?_⟩
 clear hK
 obtain⟨E,hE⟩:∃ E:Bool,E=true:=⟨true,rfl⟩
 generalize hR:tbB S=R
 unfold tbB at hR
 have sl:=hS.sl
 replace hR:(true&&((S.tables.all (tmF S))&&((S.roles.all fun t=>t.grants.all fun g=>gkB S g)&&((S.refs.all (mJ S))&&E))))=R:=by rw[← hR,hE];simp only[Bool.true_and,Bool.and_true]
 refine Yfw aD (tCq lc (tCq Ai (tCq jX (tCq BD tNq)))) Tryz.func42 [.tmp 2] (nrq _) (T:=aC [(5,[[],[],[],[],[],[],[],[4,6],[],[7],[],[],[3,4,6,7,9,11]]),(13,[[],[],[],[],[],[],[],[],[],[],[7,9],[],[],[10]]),(19,[[],[],[],[],[],[],[3,5],[],[6],[],[],[0,2,3,5,6,8,10]]),(22,[[],[],[],[],[],[],[3,5],[],[6],[],[],[0,2,3,5,6,8,10]]),(23,[[],[],[],[],[],[2,4],[],[],[5],[],[],[],[],[5]])]) (h:=fun hcl=>?_)
 have hcH:=me (S:=S) hcl
 unfold aR
 refine Tq20 ?_
 refine lpB S.tables (tmF S) (fun k bk=>[(3,.bool bk),(1,.ptr H.nx 0),(15,.slice .any 8 (S.tables.map au)),(16,.int .i64 (S.tables.length:Int)),(17,.int .i64 (k:Int))]) (fJ H S) hR (en5 hcH) ?_
 clear hR
 intro k bk hk hR
 have hbk:=sl.tl
 refine Tq20 ?_
 refine csL hk (fun hk'=>?_) fun hk'=>?_
 ·skip
  obtain⟨x,hmk,hgk,hR⟩:=hdL au iO hk' hR
  have ek:=ek5 k
  obtain⟨a,fa,q1,q2,q3⟩:=hF.t x hmk
  obtain⟨aj,⟨a1,a2,a3,a4⟩⟩:=Lc fa
  have hma:=List.mem_of_find?_eq_some fa
  have hpa:=hpl a hma
  have htm:tmF S x=xE a.params x.dargs:=by unfold tmF;rw[fa]
  replace hR:=af (E:=tmF S x) hR
  cases bk with
  |false=>
   try simp only[go_sem,hgk,ek,aW,dH,aS,dK,a2,a4,htm]
   exact Y23
  |true=>
   try simp only[go_sem,hgk,ek,aW,dH,aS,dK,a2,a4,htm]
   refine Tq0 ?_
   refine⟨S,⟨rfl,sl⟩,?_⟩
   try simp only[go_sem,a2,a4,aW,dH,aS,dK]
   refine Tq0 ?_
   refine⟨a,x.dargs,⟨rfl,rfl,hpa,q3⟩,?_⟩
   cases c0:(xE a.params x.dargs)with
   |false=>
    try simp only[go_sem,hgk,ek,aW,dH,aS,dK,a2,a4,htm,c0]
    refine Tq0 ?_
    replace hR:=lf false hR (by simp only[htm,c0,tfC])
    exact Y26
   |true=>
    try simp only[go_sem,hgk,ek,aW,dH,aS,dK,a2,a4,htm,c0]
    refine Tq0 ?_
    replace hR:=lf true hR (by simp only[htm,c0,tfC])
    exact Y43
 ·skip
  replace hR:=ndL hk' hR
  subst hk'
  refine Tq32 ?_
  refine lpB S.roles (fun t=>t.grants.all fun g=>gkB S g) (fun k bk=>[(3,.bool bk),(1,.ptr H.nx 0),(37,.slice .any 6 (S.roles.map aP)),(38,.int .i64 (S.roles.length:Int)),(39,.int .i64 (k:Int))]) (fJ H S) hR (en5 hcH) ?_
  clear hR
  intro k bk hk hR
  have hbk:=sl.rl
  refine Tq20 ?_
  refine csL hk (fun hk'=>?_) fun hk'=>?_
  ·skip
   obtain⟨x,hmk,hgk,hR⟩:=hdL aP nL hk' hR
   have ek:=ek5 k
   have hcI:=yS hcH x
   rw[Bool.and_assoc]at hR
   refine Tq54 ?_
   refine Tq0 ?_
   refine lpB x.grants (fun g=>gkB S g) (fun j bj=>[(3,.bool bj),(1,.ptr H.nx 0),(37,.slice .any 6 (S.roles.map aP)),(38,.int .i64 (S.roles.length:Int)),(39,.int .i64 (k:Int)),(44,.slice .any 4 (x.grants.map aK)),(45,.int .i64 (x.grants.length:Int)),(46,.int .i64 (j:Int))]) ((fJ H S).push (.cells (nL x))) hR (en5 hcI) ?_
   clear hR
   intro j bj hj hR
   have hbj:=(hS.rn x hmk).2.1
   refine Tq20 ?_
   refine csL hj (fun hj'=>?_) fun hj'=>?_
   ·skip
    obtain⟨y,hmj,hgj,hR⟩:=hdL aK y6 hj' hR
    have ej:=ek5 j
    obtain⟨tb,tj,fb,b1,b2,b3⟩:=SU (hF.r x hmk y hmj)
    have hgk2:gkB S y=decide (y.keys.length=tb.keys.length):=by unfold gkB;rw[fb]
    have hbl:(boL y.keys).length=y.keys.length:=by unfold boL;rw[ybb]
    replace hR:=af (E:=gkB S y) hR
    cases bj with
    |false=>
     try simp only[go_sem,hgj,ej,aW,dH,aS,dK,b1,b3,hbl,zh,hgk2]
     exact Y24
    |true=>
     try simp only[go_sem,hgj,ej,aW,dH,aS,dK,b1,b3,hbl,zh,hgk2]
     refine Tq0 ?_
     refine⟨S,⟨rfl,sl⟩,?_⟩
     cases c0:(decide (y.keys.length=tb.keys.length))with
     |false=>
      try simp only[go_sem,hgj,ej,aW,dH,aS,dK,b1,b3,hbl,zh,hgk2,c0]
      refine Tq0 ?_
      replace hR:=lf false hR (by simp only[hgk2,c0,tfC])
      exact Y25
     |true=>
      try simp only[go_sem,hgj,ej,aW,dH,aS,dK,b1,b3,hbl,zh,hgk2,c0]
      refine Tq0 ?_
      replace hR:=lf true hR (by simp only[hgk2,c0,tfC])
      exact Y41
   ·exact Y34
  ·skip
   replace hR:=ndL hk' hR
   subst hk'
   refine Tq32 ?_
   refine lpB S.refs (mJ S) (fun k bk=>[(3,.bool bk),(1,.ptr H.nx 0),(70,.slice .any 6 (S.refs.map bc)),(71,.int .i64 (S.refs.length:Int)),(72,.int .i64 (k:Int))]) (fJ H S) hR (en5 hcH) ?_
   clear hR
   intro k bk hk hR
   have hbk:=hS.xl
   refine Tq20 ?_
   refine csL hk (fun hk'=>?_) fun hk'=>?_
   ·skip
    obtain⟨x,hmk,hgk,hR⟩:=hdL bc Gg hk' hR
    have ek:=ek5 k
    obtain⟨ro,rt,rf⟩:=hF.x x hmk
    obtain⟨tb,tj,⟨t1,t2,t3,t4,t5,t6⟩,t7⟩:=RT ro
    obtain⟨z1,z2⟩:=mQ rt
    try simp only[go_sem,hgk,ek,aW,dH,aS,dK]
    refine Tq0 ?_
    refine⟨S,⟨rfl,sl⟩,?_⟩
    try simp only[go_sem,hgk,ek,aW,dH,aS,dK,t1,t3,t6]
    refine Tq0 ?_
    refine⟨S,tb,x.toKey.toNat,m9 S x,⟨rfl,rfl,Xa,t7,sl,z1⟩,?_⟩
    cases a0:x.action==0 with
    |true=>
     obtain⟨fb,fj,⟨f1,f2,f3,f4,f5,f6⟩,f7⟩:=Ja ro a0
     obtain⟨z3,z4⟩:=mQ (rf a0)
     have hrw:mJ S x=(btF S (oO S x).field==btF S (m9 S x).field):=by unfold mJ;rw[a0,if_pos rfl]
     try simp only[go_sem,hgk,ek,aW,dH,aS,dK,t1,t3,t6,z2,a0]
     refine Tq0 ?_
     refine⟨S,⟨rfl,sl⟩,?_⟩
     try simp only[go_sem,hgk,ek,aW,dH,aS,dK,f1,f3,f6,z2,a0]
     refine Tq0 ?_
     refine⟨S,fb,x.key.toNat,oO S x,⟨rfl,rfl,Xa,f7,sl,z3⟩,?_⟩
     replace hR:=af (E:=mJ S x) hR
     cases bk with
     |false=>
      try simp only[go_sem,hgk,ek,aW,dH,aS,dK,z2,z4,a0,hrw]
      exact Y23
     |true=>
      cases c0:(btF S (oO S x).field==btF S (m9 S x).field)with
      |false=>
       try simp only[go_sem,hgk,ek,aW,dH,aS,dK,z2,z4,a0,hrw,c0]
       refine Tq0 ?_
       replace hR:=lf false hR (by simp only[hrw,c0,tfC])
       exact Y26
      |true=>
       try simp only[go_sem,hgk,ek,aW,dH,aS,dK,z2,z4,a0,hrw,c0]
       refine Tq0 ?_
       replace hR:=lf true hR (by simp only[hrw,c0,tfC])
       exact Y43
    |false=>
     obtain⟨c,fc,hcp⟩:=Aq ro a0
     obtain⟨aj,⟨a1,a2,a3,a4⟩⟩:=Lc fc
     obtain⟨_,_,_,p0⟩:=ro
     have gp:=a9 (f:=aL) (l:=c.params) (k:=x.param.toNat) (x:=c.params.getD x.param.toNat ⟨[],0⟩) (getD_some hcp)
     rw[show aL (c.params.getD x.param.toNat ⟨[],0⟩)=.agg [.str (c.params.getD x.param.toNat ⟨[],0⟩).name,.int .i64 (c.params.getD x.param.toNat ⟨[],0⟩).bits] from rfl]at gp
     have hrw:mJ S x=((c.params.getD x.param.toNat ⟨[],0⟩).bits==btF S (m9 S x).field):=by unfold mJ;rw[a0,if_neg Bool.false_ne_true,fc]
     try simp only[go_sem,hgk,ek,aW,dH,aS,dK,t1,t3,t6,z2,a0]
     refine Tq0 ?_
     refine⟨S,⟨rfl,sl⟩,?_⟩
     try simp only[go_sem,hgk,ek,aW,dH,aS,dK,a2,a4,gp,z2,a0]
     refine Tq0 ?_
     replace hR:=af (E:=mJ S x) hR
     cases bk with
     |false=>
      try simp only[go_sem,hgk,ek,aW,dH,aS,dK,z2,a2,a4,gp,a0,hrw]
      exact Y23
     |true=>
      cases c0:((c.params.getD x.param.toNat ⟨[],0⟩).bits==btF S (m9 S x).field)with
      |false=>
       try simp only[go_sem,hgk,ek,aW,dH,aS,dK,z2,a2,a4,gp,a0,hrw,c0]
       refine Tq0 ?_
       replace hR:=lf false hR (by simp only[hrw,c0,tfC])
       exact Y26
      |true=>
       try simp only[go_sem,hgk,ek,aW,dH,aS,dK,z2,a2,a4,gp,a0,hrw,c0]
       refine Tq0 ?_
       replace hR:=lf true hR (by simp only[hrw,c0,tfC])
       exact Y43
   ·exact Y63
def oq(l:List Nat):List Int:=List.map (fun n:Nat=>(n:Int)) l
theorem Cb{n:Nat}:∀{l:List Nat},(oq l).contains (n:Int)=l.contains n
 |[]=>rfl
 |x::l=>by
  unfold oq
  rw[yae,List.contains_cons,List.contains_cons]
  have ih:=Cb (n:=n) (l:=l)
  unfold oq at ih
  rw[ih]
  have:((n:Int)==(x:Int))=(n==x):=Xs
  rw[this]
def zN{l:List Nat}:(oq l).length=l.length:=ybb _
def O5{l:List Nat}{i:Nat}:oq (l++[i])=oq l++[(i:Int)]:=by simp[oq]
def fnd(q:Nat→Bool)(n:Nat):Nat→Nat→Option Nat
 |0,_=>none
 |f+1,i=>if i<n then(if q i then some i else fnd q n f (i+1))else none
theorem xM{q:Nat→Bool}:∀{f i:Nat},fnd q (i+f) f i=(List.range' i f).find? q
 |0,i=>rfl
 |f+1,i=>by
  rw[fnd,if_pos Xa,List.range'_succ,List.find?_cons]
  cases h:q i with
  |true=>simp
  |_=>
   simp only[Bool.false_eq_true,if_false]
   rw[show i+(f+1)=i+1+f by omega]
   exact xM
def Nv{q:List Nat→Nat→Bool}{n:Nat}{o:List Nat}:rnd q n o=match fnd (q o) n n 0 with|some i=>o++[i]|none=>o:=by
 unfold rnd
 have:=xM (q:=q o) (f:=n) (i:=0)
 rw[nzq]at this
 rw[this,List.range_eq_range']
 cases List.find? (q o) (List.range' 0 n)<;>rfl
def gB:PCt
 |[.agg l],_,K=>∃ S:Sch,(l=aR S∧SB S∧uE S)∧K (.slice .any 1 (inL (oq (Bh S))))
 |_,_,_=>False
def Sr{S:Sch}{n:Int}(h:n∈iA S):ixP (fun t:STable=>t.id==n) S.tables 0=((ixT S n:Nat):Int):=by
 obtain⟨t,ht,rfl⟩:=List.mem_map.1 h
 have h1:decide (0≤ixP (fun x:STable=>x.id==t.id) S.tables 0)=true:=by rw[eY,List.any_eq_true];exact⟨t,ht,Xc⟩
 have h2:=of_decide_eq_true h1
 unfold ixT
 omega
def Qq:EPp 43 gB:=by
 refine Ype fun _ H K h=>?_
 unfold gB at h
 split at h<;>try exact h.elim
 rename_i l
 obtain⟨S,⟨rfl,hS,hI⟩,hK⟩:=h
 refine⟨_,hK,?_⟩
 clear hK
 have sl:=hS.sl
 have htl:=sl.tl
 have hxl:=hS.xl
 obtain⟨q,hq⟩:∃ q,q=uf (mA S.refs) (iA S) (ixT S):=⟨_,rfl⟩
 obtain⟨O,hO⟩:∃ O,Bh S=O:=⟨_,rfl⟩
 rw[hO]
 have hR:rS q S.tables.length S.tables.length []=O:=by rw[← hO,hq];rfl
 clear hO
 refine Yfu aD (tCq jE (tCq jX tNq)) Tryz.func43 [.tmp 2] fun hcl=>?_
 have hcp:(fJ H S).Closed:=ah hcl (tZ S)
 have hg0:(fJ H S).get H.nx=some (.cells [.slice .any 3 (S.fields.map aJ),.slice .any 3 (S.headers.map az),.slice .any 5 (S.states.map aE),.slice .any 5 (S.actions.map ap),.slice .any 8 (S.tables.map au),.slice .any 2 (S.stages.map aQ),.slice .any 6 (S.roles.map aP),.slice .any 6 (S.refs.map bc),.int .i64 S.maxBatch,.int .i64 S.budget]):=AHeap.get_push_new _ _
 obtain⟨Hb,hHb⟩:∃ Hb,(fJ H S)=Hb:=⟨_,rfl⟩
 have hnb:Hb.nx=H.nx+1:=by rw[← hHb];rfl
 have hHle:H.Le Hb:=by rw[← hHb];exact(lRq _).push _
 rw[hHb]at hcp hg0
 have hne0:(H.nx=Hb.nx)=False:=eFo
 have hcs0:=aB hg0
 have hne1:(H.nx=Hb.nx+1)=False:=eFo
 have hlo:∀ n' (L':List Int),Hb.nx<n'→AV.lt n' (.slice (.own Hb.nx) 1 (inL L')):=fun n' L' h=>by
  exact Y83
 unfold aR
 simp only[go_sem,hHb,ybb,hne0,hne1,hcs0]
 obtain⟨id,hid⟩:∃ id,id=Hb.nx+1:=⟨_,rfl⟩
 rw[← hid]
 have hlo:∀ n' (L':List Int),id<n'→AV.lt n' (.slice (.own id) 1 (inL L')):=fun n' L' h=>by
  exact Y83
 have hts:AV.lt 0 (.slice .any 8 (S.tables.map au)):=aa cZ
 have htm:∀ n',AV.lt n' (.slice .any 8 (S.tables.map au)):=fun n'=>aa cZ
 have hrm:∀ n',AV.lt n' (.slice .any 6 (S.refs.map bc)):=fun n'=>aa km
 have hlid:id<((Hb.push (.buf 1 0)).push (.buf 1 0)).nx:=by simp only[zlc];omega
 have hgi:((Hb.push (.buf 1 0)).push (.buf 1 0)).get id=some (.buf 1 0):=by rw[hid];exact AHeap.get_push_new (Hb.push (.buf 1 0)) _
 refine aG (A:=Nat × List Nat × AHeap) (fun a=>[(1,.ptr H.nx 0),(3,.slice (.own id) 1 (inL (oq a.2.1))),(11,.int .i64 (S.tables.length:Int)),(12,.int .i64 (a.1:Int))]) (fun a=>a.2.2)
  (fun a=>a.1≤S.tables.length∧rS q S.tables.length (S.tables.length-a.1) a.2.1=O∧a.2.1.length≤a.1∧Hb.Le a.2.2∧a.2.2.Closed∧a.2.2.get id=some (.buf 1 a.2.1.length)) (fun a=>S.tables.length-a.1) (0,[],(Hb.push (.buf 1 0)).push (.buf 1 0)) ⟨Nat.zero_le _,hR,nrq _,((lRq _).push _).push _,aY (aY hcp),hgi⟩ ?_ fun a ha=>?_
 ·have hcb:=@aY (Hb.push (.buf 1 0)) 1 0 (aY hcp)
  simp only[oq,inL,yaf]
  refine⟨by(try simp only[zko,zkt,zlc]);omega,lRq _,hcb,?_,?_⟩
  ·simp[ltF,znd,znl,zlc,cI,znt]
   try omega
  ·exact Y14
 obtain⟨k,out,Hc⟩:=a
 obtain⟨hk,hRn,hol,hle,hcc,hgi⟩:=ha
 dsimp only at hk hRn hol hle hcc hgi ⊢
 clear hR
 have hlnx:=glq hgi
 have hgc:=hle.get _ _ hg0
 have hcsc:=aB hgc
 have hneH:(H.nx=Hc.nx)=False:=eFo
 refine Tq20 ?_
 refine ax (fun hc=>?_) (fun hc=>?_)
 ·have hk':k<S.tables.length:=sHc
  clear hc
  have ek:IntKind.i64.wrap ((k:Int)+1)=((k+1:Nat):Int):=Xe
  rw[show S.tables.length-k=(S.tables.length-(k+1))+1 by omega,rS,Nv]at hRn
  simp only[go_sem,hcsc,ybb]
  obtain⟨FR,hFR⟩:∃ FR,fnd (q out) S.tables.length S.tables.length 0=FR:=⟨_,rfl⟩
  rw[hFR]at hRn
  refine aG (A:=Nat) (fun i=>[(1,.ptr H.nx 0),(3,.slice (.own id) 1 (inL (oq out))),(11,.int .i64 (S.tables.length:Int)),(12,.int .i64 (k:Int)),(15,.slice .any 8 (S.tables.map au)),(16,.int .i64 (S.tables.length:Int)),(17,.int .i64 (i:Int))]) (fun _=>Hc)
   (fun i=>i≤S.tables.length∧fnd (q out) S.tables.length (S.tables.length-i) i=FR) (fun i=>S.tables.length-i) 0 ⟨Nat.zero_le _,hFR⟩ ?_ fun i hi=>?_
  ·refine⟨by(try simp only[zko,zkt,zlc]);omega,lRq _,hcc,?_,?_⟩
   ·simp[ltF,znd,znl,zlc,htm,hlo _ _ hlnx]
    try omega
   ·exact Y151
  clear hFR
  obtain⟨hi,hFR⟩:=hi
  refine Tq20 ?_
  refine ax (fun hc=>?_) (fun hc=>?_)
  ·have hi':i<S.tables.length:=sHc
   clear hc
   obtain⟨x,hx⟩:∃ z0,z0=S.tables[i]:=⟨_,rfl⟩
   have hgx:=a9 (f:=au) (l:=S.tables) (k:=i) (x:=x) (by rw[gQq hi',hx])
   rw[show au x=.agg (iO x) from rfl]at hgx
   have ei:IntKind.i64.wrap ((i:Int)+1)=((i+1:Nat):Int):=Xe
   have hgD:(iA S).getD i 0=x.id:=by
    unfold iA
    rw[gEq,List.getElem?_map,gQq hi',hx];rfl
   have hQ:q out i=(!(out.contains i)&&S.refs.all fun r=>!(r.table==x.id)||out.contains (ixT S r.toTable)):=by
    rw[hq];unfold uf mA;rw[List.all_map,hgD];rfl
   have hin:decide (ixP (fun z=>z==(i:Int)) (oq out) 0<0)=!(out.contains i):=by
    rw[← Cb,← ix_has]
    by_cases h:ixP (fun z=>z==(i:Int)) (oq out) 0<0
    ·rw[dtq h,dfq (Xa)];rfl
    ·rw[dfq h,dtq (Xa)];rfl
   obtain⟨b0,hb0⟩:∃ b0,(!(out.contains i))=b0:=⟨_,rfl⟩
   have hneH2:(H.nx=Hc.nx+1)=False:=eFo
   have hob:(oq out).length≤1000000:=by rw[zN];omega
   obtain⟨E,hE⟩:∃ E:Bool,E=true:=⟨true,rfl⟩
   obtain⟨R,hRq⟩:∃ R,q out i=R:=⟨_,rfl⟩
   have hR:(!(out.contains i)&&((S.refs.all fun r=>!(r.table==x.id)||out.contains (ixT S r.toTable))&&E))=R:=by rw[← hRq,hQ,hE,Bool.and_true]
   rw[hb0]at hin hR
   simp only[go_sem,hgx,bz]
   refine Tq0 ?_
   refine⟨oq out,⟨rfl,hob⟩,?_⟩
   simp only[go_sem,hin,hneH,hcsc,ybb]
   have hcT:(Hc.push (.cells (iO x))).Closed:=ah hcc (by have:=cZ (n:=Hc.nx+1) x;simp only[au,znp]at this;exact this)
   refine lpB S.refs (fun r=>!(r.table==x.id)||out.contains (ixT S r.toTable)) (fun j bj=>[(6,.bool bj),(1,.ptr H.nx 0),(3,.slice (.own id) 1 (inL (oq out))),(4,.int .i64 (i:Int)),(5,.ptr Hc.nx 0),(11,.int .i64 (S.tables.length:Int)),(12,.int .i64 (k:Int)),(15,.slice .any 8 (S.tables.map au)),(16,.int .i64 (S.tables.length:Int)),(17,.int .i64 (i:Int)),(27,.slice .any 6 (S.refs.map bc)),(28,.int .i64 (S.refs.length:Int)),(29,.int .i64 (j:Int))]) (Hc.push (.cells (iO x))) hR (en5 hcT (d:=by(simp[ltF,zlc,znl,znd,zne,aa gL,aa fK,aa eL,aa gh,aa iH,aa fX,aa fo,aa jI,aa cZ,aa ir,aa gf,aa gO,aa km,lM,gS,htm,hrm,hlo _ _ (Nat.lt_succ_of_lt hlnx)];try omega))) ?_
   clear hR
   intro j bj hj hR
   have hbj:=hxl
   refine Tq20 ?_
   refine csL hj (fun hj'=>?_) fun hj'=>?_
   ·skip
    obtain⟨y,hmj,hgj,hR⟩:=hdL bc Gg hj' hR
    have ej:=ek5 j
    have ixt:=Sr (hI y hmj).2
    have hio:decide (ixP (fun z=>z==((ixT S y.toTable:Nat):Int)) (oq out) 0 ≥ 0)=out.contains (ixT S y.toTable):=ix_has.trans Cb
    replace hR:=af (E:=!(y.table==x.id)||out.contains (ixT S y.toTable)) hR
    cases bj with
    |false=>
     try simp only[go_sem,hgj,ej,bz,aS,hio,hcsc,hneH,hneH2]
     refine Tq0 ?_
     replace hR:=lff hR
     exact Y79
    |true=>
     cases c0:(y.table==x.id)with
     |false=>
      have na:(y.table !=x.id)=true:=by rw[bne,c0];rfl
      try simp only[go_sem,hgj,ej,bz,aS,hio,hcsc,hneH,hneH2,c0,na]
      refine Tq0 ?_
      replace hR:=lf true hR (by simp only[c0,na,tfC])
      exact Y80
     |true=>
      have na:(y.table !=x.id)=false:=by rw[bne,c0];rfl
      try simp only[go_sem,hgj,ej,bz,aS,hio,hcsc,hneH,hneH2,c0,na]
      refine Tq0 ?_
      refine⟨S,⟨rfl,sl⟩,?_⟩
      try simp only[go_sem,ixt,hgj,ej,bz,aS,hcsc,hneH,hneH2]
      refine Tq0 ?_
      refine⟨oq out,⟨rfl,hob⟩,?_⟩
      cases c1:(out.contains (ixT S y.toTable))with
      |false=>
       try simp only[go_sem,hgj,ej,bz,aS,hio,hcsc,hneH,hneH2,c0,na,c1]
       refine Tq0 ?_
       replace hR:=lf false hR (by simp only[c0,na,c1,tfC])
       exact Y79
      |true=>
       try simp only[go_sem,hgj,ej,bz,aS,hio,hcsc,hneH,hneH2,c0,na,c1]
       refine Tq0 ?_
       replace hR:=lf true hR (by simp only[c0,na,c1,tfC])
       exact Y80
   ·skip
    replace hR:=ndL hj' hR
    subst hj'
    rw[hE,Bool.and_true]at hR
    subst hR
    rw[show S.tables.length-i=(S.tables.length-(i+1))+1 by omega,fnd,if_pos hi']at hFR
    cases bj with
    |false=>
     rw[hRq,if_neg Bool.false_ne_true]at hFR
     try simp only[go_sem,ei]
     refine⟨i+1,⟨Xa,hFR⟩,Xa,by(try simp only[zko,zkt,zlc]);omega,by repeat first|exact .refl _|refine .push ?_ _,hcc,?_,?_⟩
     ·simp[ltF,znd,znl,htm,hlo _ _ hlnx]
      try omega
     ·exact Y151
    |true=>
     rw[hRq,if_pos rfl]at hFR
     subst hFR
     try simp only[go_sem,ek]
     have hln:(inL (oq out)).length=out.length:=by unfold inL;rw[ybb,zN]
     have hsn:inL (oq out)++[AV.int .i64 (i:Int)]=inL (oq (out++[i])):=by rw[O5];simp[inL]
     rw[hln,hsn]
     have hcs2:(Hc.set id (.buf 1 (out.length+1))).Closed:=bf hcc
     refine⟨⟨by rw[if_neg (by omega),if_neg (by omega)];exact hgi,Xa,Xa,fun z hz=>by rw[List.mem_singleton.1 hz];rfl⟩,(k+1,out++[i],Hc.set id (.buf 1 (out.length+1))),⟨Xd,hRn,by dsimp only;rw[lAq];simp;omega,cJ hle Xa,hcs2,?_⟩,Xd,?_⟩
     ·dsimp only
      rw[aF,if_pos rfl,if_pos hlnx,lAq];rfl
     ·rw[if_neg (show ¬ id=Hc.nx+1 by omega),if_neg (show ¬ id=Hc.nx by omega)]
      dsimp only
      refine eNt hcs2 ?_ ?_
      ·simp[ltF,znd,znl,zld,hlo _ _ hlnx]
       try omega
      ·exact Y151
  ·have hi':i=S.tables.length:=sHc
   clear hc
   rw[hi',Nat.sub_self,fnd]at hFR
   subst hFR
   simp only[go_sem,ek]
   refine⟨(k+1,out,Hc),⟨Xd,hRn,Xd,hle,hcc,hgi⟩,Xd,by(try simp only[zko,zkt]);omega,lRq _,hcc,?_,?_⟩
   ·simp[ltF,znd,znl,hlo _ _ hlnx]
    try omega
   ·exact Y151
 ·have hk':k=S.tables.length:=sHc
  subst hk'
  rw[Nat.sub_self,rS]at hRn
  subst hRn
  have hHl:=hHle.trans hle
  refine Tq20 ?_
  refine⟨by simp[wk,wk2,wk1,wkM,gr],hHl,hcl,?_⟩
  exact gS
def cj{n id:Nat}{xs:Wz}(h:id<n)(hx:ltL n xs):AV.lt n (.slice (.own id) 1 xs):=by
 rw[AV.lt]
 exact⟨fun i e=>by cases e;exact h,fun j hj=>ltL_iff.1 hx j hj⟩
def pB{n:Nat}{l:List (By)}:ltL n (l.map AV.str):=ltL_iff.2 fun j hj=>by rw[List.getElem_map,znf];trivial
def BM{n:Nat}{l:List Int}:ltL n (l.map (AV.int .i64)):=ltL_iff.2 fun j hj=>by rw[List.getElem_map,znd];trivial
def eP{n:Nat}{l:List (By)}:AV.lt n (.slice .any 1 (l.map AV.str)):=aa fun y=>by rw[znf];trivial
def fB:PCt
 |[.agg l],_,K=>∃ S:Sch,(l=aR S∧SB S∧SI S)∧K (.bool (GU S))
 |_,_,_=>False
def LT:EPp 35 fB:=by
 refine Ype fun _ H K h=>?_
 unfold fB at h
 split at h<;>try exact h.elim
 rename_i l
 obtain⟨S,⟨rfl,hS,hI⟩,hK⟩:=h
 refine⟨_,hK,?_⟩
 clear hK
 obtain⟨E,hE⟩:∃ E:Bool,E=true:=⟨true,rfl⟩
 generalize hR:GU S=R
 unfold GU at hR
 have sl:=hS.sl
 obtain⟨X3,hX3⟩:∃ z,z=(onF [] (S.fields.map (·.name))&&(onF [] (S.headers.map (·.name))&&(onF [] (S.actions.map (·.name))&&(onF [] (S.tables.map (·.name))&&(onF [] (S.roles.map (·.name))&&onF [] (S.headers.flatMap (·.fields))))))):=⟨_,rfl⟩
 obtain⟨X2,hX2⟩:∃ z,z=((S.roles.all fun t=>onF [] (t.grants.map (·.table))&&onF [] t.actions)&&X3):=⟨_,rfl⟩
 obtain⟨X1,hX1⟩:∃ z,z=((S.tables.all fun t=>onF [] (t.keys.map (·.name))&&onF [] t.actions)&&X2):=⟨_,rfl⟩
 obtain⟨X0,hX0⟩:∃ z,z=((S.actions.all fun t=>onF [] (t.params.map (·.name)))&&X1):=⟨_,rfl⟩
 replace hR:(true&&(((rU S).all fun l=>onF [] l)&&X0))=R:=by rw[← hR,hX0,hX1,hX2,hX3];rfl
 have hil:=DA sl
 refine Yfw aD (tCq Lx (tCq Ie (tCq pw tNq))) Tryz.func35 [.tmp 2] (nrq _) (T:=aC [(17,[[],[],[],[2],[2],[],[],[],[2,7]])]) (h:=fun hcl=>?_)
 have hcH:=me (S:=S) hcl
 have hg0:(fJ H S).get H.nx=some (.cells [.slice .any 3 (S.fields.map aJ),.slice .any 3 (S.headers.map az),.slice .any 5 (S.states.map aE),.slice .any 5 (S.actions.map ap),.slice .any 8 (S.tables.map au),.slice .any 2 (S.stages.map aQ),.slice .any 6 (S.roles.map aP),.slice .any 6 (S.refs.map bc),.int .i64 S.maxBatch,.int .i64 S.budget]):=AHeap.get_push_new _ _
 unfold aR
 simp only[go_sem,dN,dM,cq,dq]
 refine⟨S,⟨rfl,sl⟩,?_⟩
 refine Tq32 ?_
 have hidC:[sI (S.fields.map (·.id)),sI (S.headers.map (·.id)),sI (S.states.map (·.id)),sI (S.actions.map (·.id)),sI (S.tables.map (·.id)),sI (S.roles.map (·.id))]=(rU S).map sI:=rfl
 have hidN:(rU S).length=6:=rfl
 rw[hidC]
 obtain⟨D,hD⟩:∃ D,rU S=D:=⟨_,rfl⟩
 rw[hD]at hil hR hidN ⊢
 clear hD hidC
 have hLD:∀ n':Nat,ltL n' (D.map sI):=fun n'=>ltL_iff.2 fun j hj=>by rw[List.getElem_map];exact gS
 refine aG (A:=Nat × Bool) (fun a=>[(3,.bool a.2),(1,.ptr H.nx 0),(32,.agg (D.map sI)),(33,.int .i64 (a.1:Int))]) (fun _=>(fJ H S))
  (fun a=>a.1≤6∧(a.2&&((D.drop a.1).all (fun l=>onF [] l)&&X0))=R) (fun a=>6-a.1) (0,_) ⟨Nat.zero_le _,hR⟩ ?_ fun a ha=>?_
 ·skip
  exact Y82
 clear hR
 obtain⟨k,bk⟩:=a
 obtain⟨hk,hR⟩:=ha
 dsimp only at hk hR ⊢
 refine Tq20 ?_
 refine ax (fun hc=>?_) (fun hc=>?_)
 ·skip
  have hk':k<6:=sHc
  clear hc
  obtain⟨x,hxk⟩:∃ z0,z0=D[k]:=⟨_,rfl⟩
  have hdk:D.drop k=x::D.drop (k+1):=by rw[hxk];exact dcq (by omega)
  have hmk:x∈D:=by rw[hxk];exact gMq (by omega)
  have hgk:=a9 (f:=sI) (l:=D) (k:=k) (x:=x) (by rw[gQq (by omega),hxk])
  rw[show sI x=.slice .any 1 (inL x) from rfl]at hgk
  have ek:IntKind.i64.wrap ((k:Int)+1)=((k+1:Nat):Int):=Xe
  rw[hdk,List.all_cons]at hR
  clear hxk hdk
  replace hR:(bk&&((onF [] x)&&((D.drop (k+1)).all (fun l=>onF [] l)&&X0)))=R:=by rw[← hR,Bool.and_assoc]
  replace hR:=ae (E:=onF [] x) hR
  cases bk with
  |false=>
   try simp only[go_sem,hgk,ek,dN,dM,cq,dq,hidN]
   refine Tq0 ?_
   replace hR:=lff hR
   refine⟨(k+1,false),⟨Xd,hR⟩,Xd,?_⟩
   exact Y82
  |true=>
   try simp only[go_sem,hgk,ek,dN,dM,cq,dq,hidN]
   refine Tq0 ?_
   refine⟨x,⟨rfl,hil x hmk⟩,?_⟩
   cases c1:(onF [] x)with
   |false=>
    try simp only[go_sem,hgk,ek,dN,dM,cq,dq,hidN,c1]
    refine Tq0 ?_
    replace hR:=lf false hR (by simp only[c1,tfC])
    refine⟨(k+1,false),⟨Xd,hR⟩,Xd,?_⟩
    exact Y82
   |true=>
    try simp only[go_sem,hgk,ek,dN,dM,cq,dq,hidN,c1]
    refine Tq0 ?_
    replace hR:=lf true hR (by simp only[c1,tfC])
    refine⟨(k+1,true),⟨Xd,hR⟩,Xd,?_⟩
    exact Y82
 ·skip
  have hk':k=6:=sHc
  clear hc
  rw[show D.drop k=[] by rw[List.drop_eq_nil_iff];omega,List.all_nil,Bool.true_and]at hR
  clear hLD hil hidN hk hk'
  obtain⟨Hb,hHb⟩:∃ Hb,(fJ H S)=Hb:=⟨_,rfl⟩
  have hnb:Hb.nx=H.nx+1:=by rw[← hHb];rfl
  have hHle:H.Le Hb:=by rw[← hHb];exact(lRq _).push _
  rw[hHb]at hcH hg0 ⊢
  clear hHb
  have hcs0:=aB hg0
  have hnes:(H.nx=Hb.nx)=False∧(H.nx=Hb.nx+1)=False∧(H.nx=Hb.nx+1+1)=False∧(H.nx=Hb.nx+1+1+1)=False∧(H.nx=Hb.nx+1+1+1+1)=False∧(H.nx=Hb.nx+1+1+1+1+1)=False:=⟨eFo,eFo,eFo,eFo,eFo,eFo⟩
  try simp only[go_sem,hnes,hcs0,ybb]
  obtain⟨i11,h11⟩:∃ i,i=Hb.nx+1+1+1+1+1:=⟨_,rfl⟩
  obtain⟨i10,h10⟩:∃ i,i=Hb.nx+1+1+1+1:=⟨_,rfl⟩
  obtain⟨i9,h9⟩:∃ i,i=Hb.nx+1+1+1:=⟨_,rfl⟩
  obtain⟨i8,h8⟩:∃ i,i=Hb.nx+1+1:=⟨_,rfl⟩
  obtain⟨i7,h7⟩:∃ i,i=Hb.nx+1:=⟨_,rfl⟩
  obtain⟨i6,h6⟩:∃ i,i=Hb.nx:=⟨_,rfl⟩
  rw[← h11,← h10,← h9,← h8,← h7]
  obtain⟨HX,hHX⟩:∃ HX,(((((Hb.push (.buf 1 0)).push (.buf 1 0)).push (.buf 1 0)).push (.buf 1 0)).push (.buf 1 0)).push (.buf 1 0)=HX:=⟨_,rfl⟩
  have hXl:Hb.Le HX:=by rw[← hHX];repeat first|exact .refl _|refine .push ?_ _
  have hXc:HX.Closed:=by rw[← hHX];exact aY (aY (aY (aY (aY (aY hcH)))))
  have hXn:HX.nx=Hb.nx+6:=by rw[← hHX];simp only[zlc]
  have g6:HX.get i6=some (.buf 1 0):=by rw[← hHX,h6];simp[zlf,zlc]
  have g7:HX.get i7=some (.buf 1 0):=by rw[← hHX,h7];simp[zlf,zlc]
  have g8:HX.get i8=some (.buf 1 0):=by rw[← hHX,h8];simp[zlf,zlc]
  have g9:HX.get i9=some (.buf 1 0):=by rw[← hHX,h9];simp[zlf,zlc]
  have g10:HX.get i10=some (.buf 1 0):=by rw[← hHX,h10];simp[zlf,zlc]
  have g11:HX.get i11=some (.buf 1 0):=by rw[← hHX,h11];simp[zlf,zlc]
  rw[hHX]
  have hs6:AV.slice (.own Hb.nx) 1 []=AV.slice (.own i6) 1 []:=by rw[h6]
  rw[hs6]
  clear hHX hnes hs6
  obtain⟨T6,hT6⟩:∃ T6:Nat→Wz,T6=fun k=>((S.fields.take k).map (·.name)).map AV.str:=⟨_,rfl⟩
  have T60:T6 0=[]:=by rw[hT6];rfl
  have T6L:∀ n k,ltL n (T6 k):=fun n k=>by rw[hT6];exact pB
  have hn:=sl.fl
  refine aG (A:=Nat × AHeap) (fun a=>[(1,.ptr H.nx 0),(3,.bool bk),(6,.slice (.own i6) 1 (T6 a.1)),(7,.slice (.own i7) 1 []),(8,.slice (.own i8) 1 []),(9,.slice (.own i9) 1 []),(10,.slice (.own i10) 1 []),(11,.slice (.own i11) 1 []),(43,.slice .any 3 (S.fields.map aJ)),(44,.int .i64 (S.fields.length:Int)),(45,.int .i64 (a.1:Int))]) (fun a=>a.2)
   (fun a=>a.1≤S.fields.length∧Hb.Le a.2∧a.2.Closed∧a.2.get i6=some (.buf 1 a.1)∧a.2.get i7=some (.buf 1 0)∧a.2.get i8=some (.buf 1 0)∧a.2.get i9=some (.buf 1 0)∧a.2.get i10=some (.buf 1 0)∧a.2.get i11=some (.buf 1 0)) (fun a=>S.fields.length-a.1) (0,HX) ⟨Nat.zero_le _,hXl,hXc,g6,g7,g8,g9,g10,g11⟩ ?_ fun a ha=>?_
  ·simp only[T60]
   have o6:AV.lt HX.nx (.slice (.own i6) 1 []):=cj Xa trivial
   have o7:AV.lt HX.nx (.slice (.own i7) 1 []):=cj Xa trivial
   have o8:AV.lt HX.nx (.slice (.own i8) 1 []):=cj Xa trivial
   have o9:AV.lt HX.nx (.slice (.own i9) 1 []):=cj Xa trivial
   have o10:AV.lt HX.nx (.slice (.own i10) 1 []):=cj Xa trivial
   have o11:AV.lt HX.nx (.slice (.own i11) 1 []):=cj Xa trivial
   exact en5 hXc (d:=by(simp[ltF,zlc,zld,znl,znd,zne,ltZ,eP,o6,o7,o8,o9,o10,o11];try omega))
  clear g6 g7 g8 g9 g10 g11 hXl hXc hXn
  obtain⟨k,Hc⟩:=a
  obtain⟨hk,hle,hcc,g6,g7,g8,g9,g10,g11⟩:=ha
  dsimp only at hk hle hcc g6 g7 g8 g9 g10 g11 ⊢
  have n11:=glq g11
  have hgc:=hle.get _ _ hg0
  have hcsc:=aB hgc
  have hneH:(H.nx=Hc.nx)=False:=eFo
  refine Tq20 ?_
  refine ax (fun hc=>?_) (fun hc=>?_)
  ·skip
   have hk':k<S.fields.length:=sHc
   clear hc
   obtain⟨x,hxk⟩:∃ z0,z0=S.fields[k]:=⟨_,rfl⟩
   have hmk:x∈S.fields:=by rw[hxk];exact gMq hk'
   have htk:S.fields.take (k+1)=S.fields.take k++[x]:=by rw[hxk,List.take_succ_eq_append_getElem hk']
   have hgk:=a9 (f:=aJ) (l:=S.fields) (k:=k) (x:=x) (by rw[gQq hk',hxk])
   rw[show aJ x=.agg (Di x) from rfl]at hgk
   have ek:IntKind.i64.wrap ((k:Int)+1)=((k+1:Nat):Int):=Xe
   have hll:(T6 k).length=k:=by rw[hT6,ybb,ybb,List.length_take];omega
   have hsn:T6 k++[AV.str x.name]=T6 (k+1):=by rw[hT6];dsimp only;rw[htk];simp
   simp only[go_sem,hgk,ek]
   try simp only[hll,hsn]
   have hcs2:(Hc.set i6 (.buf 1 (k+1))).Closed:=bf hcc
   have o6:AV.lt Hc.nx (.slice (.own i6) 1 (T6 (k+1))):=cj Xa (T6L _ _)
   have o7:AV.lt Hc.nx (.slice (.own i7) 1 []):=cj Xa trivial
   have o8:AV.lt Hc.nx (.slice (.own i8) 1 []):=cj Xa trivial
   have o9:AV.lt Hc.nx (.slice (.own i9) 1 []):=cj Xa trivial
   have o10:AV.lt Hc.nx (.slice (.own i10) 1 []):=cj Xa trivial
   have o11:AV.lt Hc.nx (.slice (.own i11) 1 []):=cj Xa trivial
   refine⟨⟨Xa,Xa⟩,⟨by rw[if_neg (by omega),if_neg (by omega)];exact g6,Xa,Xa,fun z hz=>by rw[List.mem_singleton.1 hz];rfl⟩,(k+1,Hc.set i6 (.buf 1 (k+1))),⟨Xd,cJ hle Xa,hcs2,by dsimp only;rw[aF,if_pos rfl,if_pos (by omega)],by dsimp only;rw[aF,if_neg (by omega)];exact g7,by dsimp only;rw[aF,if_neg (by omega)];exact g8,by dsimp only;rw[aF,if_neg (by omega)];exact g9,by dsimp only;rw[aF,if_neg (by omega)];exact g10,by dsimp only;rw[aF,if_neg (by omega)];exact g11⟩,Xd,?_⟩
   rw[if_neg (show ¬ i6=Hc.nx+1 by omega),if_neg (show ¬ i6=Hc.nx by omega)]
   dsimp only
   exact en5 hcs2 (d:=by(simp[ltF,zlc,zld,znl,znd,zne,ltZ,eP,o6,o7,o8,o9,o10,o11];try omega))
  ·have hk':k=S.fields.length:=sHc
   subst hk'
   clear hc
   have hT:T6 S.fields.length=((S.fields.map (·.name)).map AV.str):=by rw[hT6];dsimp only;rw[List.take_length]
   rw[hT]
   clear hT T60 T6L hT6
   refine Tq75 ?_
   obtain⟨T7,hT7⟩:∃ T7:Nat→Wz,T7=fun k=>((S.headers.take k).map (·.name)).map AV.str:=⟨_,rfl⟩
   have T70:T7 0=[]:=by rw[hT7];rfl
   have T7L:∀ n k,ltL n (T7 k):=fun n k=>by rw[hT7];exact pB
   obtain⟨T11,hT11⟩:∃ T11:Nat→Wz,T11=fun k=>((S.headers.take k).flatMap (·.fields)).map (AV.int .i64):=⟨_,rfl⟩
   have T110:T11 0=[]:=by rw[hT11];rfl
   have T11L:∀ n k,ltL n (T11 k):=fun n k=>by rw[hT11];exact BM
   have hn2:=sl.hl
   obtain⟨q11,hq11⟩:∃ q:Nat→Nat,q=fun k=>((S.headers.take k).flatMap (·.fields)).length:=⟨_,rfl⟩
   have q110:q11 0=0:=by rw[hq11];rfl
   refine aG (A:=Nat × AHeap) (fun a=>[(1,.ptr H.nx 0),(3,.bool bk),(6,.slice .any 1 ((S.fields.map (·.name)).map AV.str)),(7,.slice (.own i7) 1 (T7 a.1)),(8,.slice (.own i8) 1 []),(9,.slice (.own i9) 1 []),(10,.slice (.own i10) 1 []),(11,.slice (.own i11) 1 (T11 a.1)),(56,.slice .any 3 (S.headers.map az)),(57,.int .i64 (S.headers.length:Int)),(58,.int .i64 (a.1:Int))]) (fun a=>a.2)
    (fun a=>a.1≤S.headers.length∧Hb.Le a.2∧a.2.Closed∧a.2.get i7=some (.buf 1 a.1)∧a.2.get i8=some (.buf 1 0)∧a.2.get i9=some (.buf 1 0)∧a.2.get i10=some (.buf 1 0)∧a.2.get i11=some (.buf 1 (q11 a.1))) (fun a=>S.headers.length-a.1) (0,Hc) ⟨Nat.zero_le _,hle,hcc,g7,g8,g9,g10,by dsimp only;rw[q110];exact g11⟩ ?_ fun a ha=>?_
   ·simp only[T70,T110]
    have hst:AV.lt Hc.nx (.slice .any 1 ((S.fields.map (·.name)).map AV.str)):=eP
    generalize ((S.fields.map (·.name)).map AV.str)=T6 at *
    have o7:AV.lt Hc.nx (.slice (.own i7) 1 []):=cj Xa trivial
    have o8:AV.lt Hc.nx (.slice (.own i8) 1 []):=cj Xa trivial
    have o9:AV.lt Hc.nx (.slice (.own i9) 1 []):=cj Xa trivial
    have o10:AV.lt Hc.nx (.slice (.own i10) 1 []):=cj Xa trivial
    have o11:AV.lt Hc.nx (.slice (.own i11) 1 []):=cj Xa trivial
    exact en5 hcc (d:=by(simp[ltF,zlc,zld,znl,znd,zne,ltZ,eP,o7,o8,o9,o10,o11,hst];try omega))
   clear g6 g7 g8 g9 g10 g11 hle hcc hgc hcsc hneH n11
   have hst:∀ n,AV.lt n (.slice .any 1 ((S.fields.map (·.name)).map AV.str)):=fun _=>eP
   obtain⟨T6,hT6⟩:∃ T6,((S.fields.map (·.name)).map AV.str)=T6:=⟨_,rfl⟩
   rw[hT6]at hst ⊢
   obtain⟨k,Hc⟩:=a
   obtain⟨hk,hle,hcc,g7,g8,g9,g10,g11⟩:=ha
   dsimp only at hk hle hcc g7 g8 g9 g10 g11 ⊢
   have n11:=glq g11
   have hgc:=hle.get _ _ hg0
   have hcsc:=aB hgc
   have hneH:(H.nx=Hc.nx)=False:=eFo
   refine Tq20 ?_
   refine ax (fun hc=>?_) (fun hc=>?_)
   ·skip
    have hk':k<S.headers.length:=sHc
    clear hc
    obtain⟨x,hxk⟩:∃ z0,z0=S.headers[k]:=⟨_,rfl⟩
    have hmk:x∈S.headers:=by rw[hxk];exact gMq hk'
    have htk:S.headers.take (k+1)=S.headers.take k++[x]:=by rw[hxk,List.take_succ_eq_append_getElem hk']
    have hgk:=a9 (f:=az) (l:=S.headers) (k:=k) (x:=x) (by rw[gQq hk',hxk])
    rw[show az x=.agg (nT x) from rfl]at hgk
    have ek:IntKind.i64.wrap ((k:Int)+1)=((k+1:Nat):Int):=Xe
    have hll:(T7 k).length=k:=by rw[hT7,ybb,ybb,List.length_take];omega
    have hll2:(T11 k).length=q11 k:=by rw[hT11,hq11];exact ybb _
    have hsn:T7 k++[AV.str x.name]=T7 (k+1):=by rw[hT7];dsimp only;rw[htk];simp
    have hfn:T11 k++inL x.fields=T11 (k+1):=by rw[hT11];dsimp only;rw[htk];simp[inL]
    have hfk:q11 (k+1)=q11 k+x.fields.length:=by rw[hq11];dsimp only;rw[htk];simp
    have hfl:q11 (k+1)≤1000000:=by
     have h1:S.headers.flatMap (·.fields)=((S.headers.take (k+1)).flatMap (·.fields))++((S.headers.drop (k+1)).flatMap (·.fields)):=by rw[← List.flatMap_append,List.take_append_drop]
     have h2:=hI.ul
     rw[h1,lAq]at h2
     rw[hq11];dsimp only;omega
    have nf:(i7=Hc.nx)=False∧(i7=Hc.nx+1)=False∧(i11=Hc.nx)=False∧(i11=Hc.nx+1)=False∧(i7=i11)=False∧(i11=i7)=False∧(Hc.nx=i7)=False∧(Hc.nx=i11)=False:=⟨eFo,eFo,eFo,eFo,eFo,eFo,eFo,eFo⟩
    simp only[go_sem,hgk,ek,nf,hll,hll2,hsn,hfn,iK,← hfk]
    try simp only[go_sem,hll,hll2,hsn,hfn,iK,← hfk,nf]
    have hcs2:((Hc.set i7 (.buf 1 (k+1))).set i11 (.buf 1 (q11 (k+1)))).Closed:=bf (bf hcc)
    have o7:AV.lt Hc.nx (.slice (.own i7) 1 (T7 (k+1))):=cj Xa (T7L _ _)
    have o11:AV.lt Hc.nx (.slice (.own i11) 1 (T11 (k+1))):=cj Xa (T11L _ _)
    have o8:AV.lt Hc.nx (.slice (.own i8) 1 []):=cj Xa trivial
    have o9:AV.lt Hc.nx (.slice (.own i9) 1 []):=cj Xa trivial
    have o10:AV.lt Hc.nx (.slice (.own i10) 1 []):=cj Xa trivial
    refine⟨⟨Xa,Xa⟩,⟨g7,Xa,Xa,fun z hz=>by rw[List.mem_singleton.1 hz];rfl⟩,⟨by rw[aF,if_neg (by omega)];exact g11,Xa,Xa,fun z hz=>by(simp only[inL,List.mem_map]at hz;obtain⟨n,_,rfl⟩:=hz;rfl)⟩,(k+1,(Hc.set i7 (.buf 1 (k+1))).set i11 (.buf 1 (q11 (k+1)))),⟨Xd,cJ (cJ hle Xa) Xa,hcs2,by dsimp only;rw[aF,if_neg (by omega),aF,if_pos rfl,if_pos (by omega)],by dsimp only;rw[aF,if_neg (by omega),aF,if_neg (by omega)];exact g8,by dsimp only;rw[aF,if_neg (by omega),aF,if_neg (by omega)];exact g9,by dsimp only;rw[aF,if_neg (by omega),aF,if_neg (by omega)];exact g10,by dsimp only;rw[aF,if_pos rfl,if_pos (by rw[zld];omega)]⟩,Xd,?_⟩
    dsimp only
    exact en5 hcs2 (d:=by(simp[ltF,zlc,zld,znl,znd,zne,ltZ,eP,o7,o11,o8,o9,o10,hst];try omega))
   ·have hk':k=S.headers.length:=sHc
    subst hk'
    clear hc
    have hT:T7 S.headers.length=((S.headers.map (·.name)).map AV.str):=by rw[hT7];dsimp only;rw[List.take_length]
    have hTb:T11 S.headers.length=((S.headers.flatMap (·.fields)).map (AV.int .i64)):=by rw[hT11];dsimp only;rw[List.take_length]
    rw[hT,hTb]
    clear hT hTb T70 T7L hT7 T110 T11L hT11 q110 hst
    refine Tq75 ?_
    obtain⟨T7,hT7⟩:∃ T7,((S.headers.map (·.name)).map AV.str)=T7:=⟨_,rfl⟩
    obtain⟨T11,hT11⟩:∃ T11,((S.headers.flatMap (·.fields)).map (AV.int .i64))=T11:=⟨_,rfl⟩
    rw[hT7,hT11]
    have hst6:∀ n,AV.lt n (.slice .any 1 T6):=fun _=>by rw[← hT6];exact eP
    have hst7:∀ n,AV.lt n (.slice .any 1 T7):=fun _=>by rw[← hT7];exact eP
    have hst11:∀ n,AV.lt n (.slice .any 1 T11):=fun _=>by rw[← hT11];exact lM
    clear hq11 g7 g11
    obtain⟨U8,hU8⟩:∃ U8:Nat→Wz,U8=fun k=>((S.actions.take k).map (·.name)).map AV.str:=⟨_,rfl⟩
    have U80:U8 0=[]:=by rw[hU8];rfl
    have U8L:∀ n k,ltL n (U8 k):=fun n k=>by rw[hU8];exact pB
    have hn8:=sl.al
    rw[hX0]at hR
    refine aG (A:=Nat × Bool × AHeap) (fun a=>[(1,.ptr H.nx 0),(3,.bool a.2.1),(6,.slice .any 1 T6),(7,.slice .any 1 T7),(11,.slice .any 1 T11),(8,.slice (.own i8) 1 (U8 a.1)),(9,.slice (.own i9) 1 []),(10,.slice (.own i10) 1 []),(73,.slice .any 5 (S.actions.map ap)),(74,.int .i64 (S.actions.length:Int)),(75,.int .i64 (a.1:Int))]) (fun a=>a.2.2)
     (fun a=>a.1≤S.actions.length∧Hb.Le a.2.2∧a.2.2.Closed∧a.2.2.get i8=some (.buf 1 a.1)∧a.2.2.get i9=some (.buf 1 0)∧a.2.2.get i10=some (.buf 1 0)∧(a.2.1&&((S.actions.drop a.1).all (fun t=>onF [] (t.params.map (·.name)))&&X1))=R) (fun a=>S.actions.length-a.1) (0,_,Hc) ⟨Nat.zero_le _,hle,hcc,g8,g9,g10,hR⟩ ?_ fun a ha=>?_
    ·simp only[U80]
     have o8:AV.lt Hc.nx (.slice (.own i8) 1 []):=cj Xa trivial
     have o9:AV.lt Hc.nx (.slice (.own i9) 1 []):=cj Xa trivial
     have o10:AV.lt Hc.nx (.slice (.own i10) 1 []):=cj Xa trivial
     exact en5 hcc (d:=by(simp[ltF,zlc,zld,znl,znd,zne,ltZ,eP,o8,o9,o10,hst6,hst7,hst11];try omega))
    clear hR g8 g9 g10 hle hcc hgc hcsc hneH n11
    obtain⟨k,bk,Hc⟩:=a
    obtain⟨hk,hle,hcc,g8,g9,g10,hR⟩:=ha
    dsimp only at hk hle hcc g8 g9 g10 hR ⊢
    have n10:=glq g10
    have hgc:=hle.get _ _ hg0
    have hcsc:=aB hgc
    have hneH:(H.nx=Hc.nx)=False:=eFo
    refine Tq20 ?_
    refine ax (fun hc=>?_) (fun hc=>?_)
    ·skip
     have hk':k<S.actions.length:=sHc
     clear hc
     obtain⟨x,hxk⟩:∃ z0,z0=S.actions[k]:=⟨_,rfl⟩
     have hmk:x∈S.actions:=by rw[hxk];exact gMq hk'
     have htk:S.actions.take (k+1)=S.actions.take k++[x]:=by rw[hxk,List.take_succ_eq_append_getElem hk']
     have hgk:=a9 (f:=ap) (l:=S.actions) (k:=k) (x:=x) (by rw[gQq hk',hxk])
     rw[show ap x=.agg (iV x) from rfl]at hgk
     have ek:IntKind.i64.wrap ((k:Int)+1)=((k+1:Nat):Int):=Xe
     have hdk:S.actions.drop k=x::S.actions.drop (k+1):=by rw[hxk];exact dcq hk'
     rw[hdk,List.all_cons]at hR
     have hll:(U8 k).length=k:=by rw[hU8,ybb,ybb,List.length_take];omega
     have hsn:U8 k++[AV.str x.name]=U8 (k+1):=by rw[hU8];dsimp only;rw[htk];simp
     have nf:(i8=Hc.nx)=False∧(i8=Hc.nx+1)=False∧(i8=Hc.nx+1+1)=False∧(Hc.nx=i8)=False:=⟨eFo,eFo,eFo,eFo⟩
     refine Tq56 ?_
     refine⟨⟨Xa,Xa⟩,⟨g8,Xa,Xa,fun z hz=>by rw[List.mem_singleton.1 hz];rfl⟩,?_⟩
     obtain⟨HI,hHI⟩:∃ HI,((Hc.set i8 (.buf 1 (k+1))).push (.cells (iV x))).push (.buf 1 1)=HI:=⟨_,rfl⟩
     rw[hHI]
     have hcs2:(Hc.set i8 (.buf 1 (k+1))).Closed:=bf hcc
     have hIn:HI.nx=Hc.nx+1+1:=by rw[← hHI];rfl
     have hIl:(Hc.set i8 (.buf 1 (k+1))).Le HI:=by rw[← hHI];repeat first|exact .refl _|refine .push ?_ _
     have hIc:HI.Closed:=by
      rw[← hHI]
      exact aY (ah hcs2 (by have:=fo (n:=Hc.nx+1) x;simp only[ap,znp]at this;exact this))
     have hIo:HI.get Hc.nx=some (.cells (iV x)):=by
      rw[← hHI,zlf,if_neg (Xk)]
      exact AHeap.get_push_new (Hc.set i8 (.buf 1 (k+1))) _
     clear hHI
     obtain⟨ji,hji⟩:∃ j,j=Hc.nx+1+1:=⟨_,rfl⟩
     rw[← hji]
     obtain⟨V,hV⟩:∃ V:Nat→Wz,V=fun k=>((x.params.take k).map (·.name)).map AV.str:=⟨_,rfl⟩
     have V0:V 0=[]:=by rw[hV];rfl
     have VL:∀ n k,ltL n (V k):=fun n k=>by rw[hV];exact pB
     have hmI:=(hS.an x hmk).2.1
     have hgV:(HI.push (.buf 1 0)).get ji=some (.buf 1 0):=by rw[hji,← hIn];exact AHeap.get_push_new _ _
     refine aG (A:=Nat × AHeap) (fun a=>[(1,.ptr H.nx 0),(3,.bool bk),(6,.slice .any 1 T6),(7,.slice .any 1 T7),(11,.slice .any 1 T11),(8,.slice (.own i8) 1 (U8 (k+1))),(9,.slice (.own i9) 1 []),(10,.slice (.own i10) 1 []),(18,.slice (.own ji) 1 (V a.1)),(73,.slice .any 5 (S.actions.map ap)),(74,.int .i64 (S.actions.length:Int)),(75,.int .i64 (k:Int)),(85,.slice .any 2 (x.params.map aL)),(86,.int .i64 (x.params.length:Int)),(87,.int .i64 (a.1:Int))]) (fun a=>a.2)
      (fun a=>a.1≤x.params.length∧HI.Le a.2∧a.2.Closed∧a.2.get ji=some (.buf 1 a.1)) (fun a=>x.params.length-a.1) (0,HI.push (.buf 1 0)) ⟨Nat.zero_le _,(lRq _).push _,aY hIc,hgV⟩ ?_ fun a ha=>?_
     ·simp only[V0]
      have oV:AV.lt (HI.nx+1) (.slice (.own ji) 1 []):=cj Xa trivial
      have o8:AV.lt (HI.nx+1) (.slice (.own i8) 1 (U8 (k+1))):=cj Xa (U8L _ _)
      have o9:AV.lt (HI.nx+1) (.slice (.own i9) 1 []):=cj Xa trivial
      have o10:AV.lt (HI.nx+1) (.slice (.own i10) 1 []):=cj Xa trivial
      exact en5 (aY hIc) (d:=by(simp[ltF,zlc,zld,znl,znd,zne,ltZ,eP,o8,o9,o10,oV,hst6,hst7,hst11];try omega))
     clear hgV
     obtain⟨j,Hi⟩:=a
     obtain⟨hj,hle2,hcc2,gV⟩:=ha
     dsimp only at hj hle2 hcc2 gV ⊢
     have nV:=glq gV
     have hIoc:=aB (hle2.get _ _ hIo)
     have hnxi:HI.nx≤Hi.nx:=hle2.nx
     refine Tq20 ?_
     refine ax (fun hc=>?_) (fun hc=>?_)
     ·skip
      have hj':j<x.params.length:=sHc
      clear hc
      obtain⟨y,hxj⟩:∃ z0,z0=x.params[j]:=⟨_,rfl⟩
      have hmj:y∈x.params:=by rw[hxj];exact gMq hj'
      have htj:x.params.take (j+1)=x.params.take j++[y]:=by rw[hxj,List.take_succ_eq_append_getElem hj']
      have hgj:=a9 (f:=aL) (l:=x.params) (k:=j) (x:=y) (by rw[gQq hj',hxj])
      rw[show aL y=.agg (Cz y) from rfl]at hgj
      have ej:IntKind.i64.wrap ((j:Int)+1)=((j+1:Nat):Int):=Xe
      have hllV:(V j).length=j:=by rw[hV,ybb,ybb,List.length_take];omega
      have hsnV:V j++[AV.str y.name]=V (j+1):=by rw[hV];dsimp only;rw[htj];simp
      have nf2:(ji=Hi.nx)=False∧(ji=Hi.nx+1)=False∧(Hi.nx=ji)=False∧(Hc.nx=Hi.nx)=False∧(Hc.nx=Hi.nx+1)=False:=⟨eFo,eFo,eFo,eFo,eFo⟩
      refine Tq49 ?_
      have hcsV:(Hi.set ji (.buf 1 (j+1))).Closed:=bf hcc2
      have oV:AV.lt Hi.nx (.slice (.own ji) 1 (V (j+1))):=cj Xa (VL _ _)
      have o8:AV.lt Hi.nx (.slice (.own i8) 1 (U8 (k+1))):=cj Xa (U8L _ _)
      have o9:AV.lt Hi.nx (.slice (.own i9) 1 []):=cj Xa trivial
      have o10:AV.lt Hi.nx (.slice (.own i10) 1 []):=cj Xa trivial
      refine⟨⟨Xa,Xa⟩,⟨gV,Xa,Xa,fun z hz=>by rw[List.mem_singleton.1 hz];rfl⟩,(j+1,Hi.set ji (.buf 1 (j+1))),⟨Xd,cJ hle2 Xa,hcsV,by dsimp only;rw[aF,if_pos rfl,if_pos (by omega)]⟩,Xd,?_⟩
      dsimp only
      exact en5 hcsV (d:=by(simp[ltF,zlc,zld,znl,znd,zne,ltZ,eP,o8,o9,o10,oV,hst6,hst7,hst11];try omega))
     ·skip
      have hj':j=x.params.length:=sHc
      subst hj'
      clear hc
      have hVm:V x.params.length=(x.params.map (·.name)).map AV.str:=by rw[hV];dsimp only;rw[List.take_length]
      rw[hVm]
      clear hVm V0 VL hV gV
      replace hR:(bk&&((onF [] (x.params.map (·.name)))&&((S.actions.drop (k+1)).all (fun t=>onF [] (t.params.map (·.name)))&&X1)))=R:=by rw[← hR];show _=(bk&&(((onF [] (x.params.map (·.name)))&&_)&&_));rw[Bool.and_assoc]
      replace hR:=ae (E:=onF [] (x.params.map (·.name))) hR
      cases bk with
      |false=>
       refine Tq47 ?_
       refine Tq0 ?_
       replace hR:=lff hR
       exact Y45
      |true=>
       refine Tq47 ?_
       refine Tq0 ?_
       refine⟨x.params.map (·.name),⟨rfl,by rw[ybb];exact hmI⟩,?_⟩
       cases c1:(onF [] (x.params.map (·.name)))with
       |false=>
        refine Tq41 ?_
        refine Tq0 ?_
        replace hR:=lf false hR (by simp only[c1,tfC])
        exact Y45
       |true=>
        refine Tq41 ?_
        refine Tq0 ?_
        replace hR:=lf true hR (by simp only[c1,tfC])
        have o8:AV.lt Hc.nx (.slice (.own i8) 1 (U8 (k+1))):=cj Xa (U8L _ _)
        have o9:AV.lt Hc.nx (.slice (.own i9) 1 []):=cj Xa trivial
        have o10:AV.lt Hc.nx (.slice (.own i10) 1 []):=cj Xa trivial
        refine⟨(k+1,true,Hc.set i8 (.buf 1 (k+1))),⟨Xd,cJ hle Xa,hcs2,by dsimp only;rw[aF,if_pos rfl,if_pos (by omega)],by dsimp only;rw[aF,if_neg (by omega)];exact g9,by dsimp only;rw[aF,if_neg (by omega)];exact g10,hR⟩,Xd,Xy,hIl.trans hle2,hcs2,by(simp[ltF,zld,znl,znd,zne,ltZ,eP,o8,o9,o10,hst6,hst7,hst11];try omega),Xz⟩
    ·have hk':k=S.actions.length:=sHc
     subst hk'
     clear hc
     rw[List.drop_length,List.all_nil,Bool.true_and]at hR
     have hT:U8 S.actions.length=((S.actions.map (·.name)).map AV.str):=by rw[hU8];dsimp only;rw[List.take_length]
     rw[hT]
     clear hT U80 U8L hU8
     obtain⟨T8,hT8⟩:∃ T8,((S.actions.map (·.name)).map AV.str)=T8:=⟨_,rfl⟩
     rw[hT8]
     have hst8:∀ n,AV.lt n (.slice .any 1 T8):=fun _=>by rw[← hT8];exact eP
     refine Tq75 ?_
     obtain⟨U9,hU9⟩:∃ U9:Nat→Wz,U9=fun k=>((S.tables.take k).map (·.name)).map AV.str:=⟨_,rfl⟩
     have U90:U9 0=[]:=by rw[hU9];rfl
     have U9L:∀ n k,ltL n (U9 k):=fun n k=>by rw[hU9];exact pB
     have hn9:=sl.tl
     rw[hX1]at hR
     refine aG (A:=Nat × Bool × AHeap) (fun a=>[(1,.ptr H.nx 0),(3,.bool a.2.1),(6,.slice .any 1 T6),(7,.slice .any 1 T7),(8,.slice .any 1 T8),(11,.slice .any 1 T11),(9,.slice (.own i9) 1 (U9 a.1)),(10,.slice (.own i10) 1 []),(104,.slice .any 8 (S.tables.map au)),(105,.int .i64 (S.tables.length:Int)),(106,.int .i64 (a.1:Int))]) (fun a=>a.2.2)
      (fun a=>a.1≤S.tables.length∧Hb.Le a.2.2∧a.2.2.Closed∧a.2.2.get i9=some (.buf 1 a.1)∧a.2.2.get i10=some (.buf 1 0)∧(a.2.1&&((S.tables.drop a.1).all (fun t=>onF [] (t.keys.map (·.name))&&onF [] t.actions)&&X2))=R) (fun a=>S.tables.length-a.1) (0,_,Hc) ⟨Nat.zero_le _,hle,hcc,g9,g10,hR⟩ ?_ fun a ha=>?_
     ·simp only[U90]
      have o9:AV.lt Hc.nx (.slice (.own i9) 1 []):=cj Xa trivial
      have o10:AV.lt Hc.nx (.slice (.own i10) 1 []):=cj Xa trivial
      exact en5 hcc (d:=by(simp[ltF,zlc,zld,znl,znd,zne,ltZ,eP,o9,o10,hst6,hst7,hst8,hst11];try omega))
     clear hR g9 g10 hle hcc hgc hcsc hneH n10
     obtain⟨k,bk,Hc⟩:=a
     obtain⟨hk,hle,hcc,g9,g10,hR⟩:=ha
     dsimp only at hk hle hcc g9 g10 hR ⊢
     have n10:=glq g10
     have hgc:=hle.get _ _ hg0
     have hcsc:=aB hgc
     have hneH:(H.nx=Hc.nx)=False:=eFo
     refine Tq20 ?_
     refine ax (fun hc=>?_) (fun hc=>?_)
     ·skip
      have hk':k<S.tables.length:=sHc
      clear hc
      obtain⟨x,hxk⟩:∃ z0,z0=S.tables[k]:=⟨_,rfl⟩
      have hmk:x∈S.tables:=by rw[hxk];exact gMq hk'
      have htk:S.tables.take (k+1)=S.tables.take k++[x]:=by rw[hxk,List.take_succ_eq_append_getElem hk']
      have hgk:=a9 (f:=au) (l:=S.tables) (k:=k) (x:=x) (by rw[gQq hk',hxk])
      rw[show au x=.agg (iO x) from rfl]at hgk
      have ek:IntKind.i64.wrap ((k:Int)+1)=((k+1:Nat):Int):=Xe
      have hdk:S.tables.drop k=x::S.tables.drop (k+1):=by rw[hxk];exact dcq hk'
      rw[hdk,List.all_cons]at hR
      have hll:(U9 k).length=k:=by rw[hU9,ybb,ybb,List.length_take];omega
      have hsn:U9 k++[AV.str x.name]=U9 (k+1):=by rw[hU9];dsimp only;rw[htk];simp
      have nf:(i9=Hc.nx)=False∧(i9=Hc.nx+1)=False∧(i9=Hc.nx+1+1)=False∧(Hc.nx=i9)=False:=⟨eFo,eFo,eFo,eFo⟩
      refine Tq56 ?_
      refine⟨⟨Xa,Xa⟩,⟨g9,Xa,Xa,fun z hz=>by rw[List.mem_singleton.1 hz];rfl⟩,?_⟩
      obtain⟨HI,hHI⟩:∃ HI,((Hc.set i9 (.buf 1 (k+1))).push (.cells (iO x))).push (.buf 1 1)=HI:=⟨_,rfl⟩
      rw[hHI]
      have hcs2:(Hc.set i9 (.buf 1 (k+1))).Closed:=bf hcc
      have hIn:HI.nx=Hc.nx+1+1:=by rw[← hHI];rfl
      have hIl:(Hc.set i9 (.buf 1 (k+1))).Le HI:=by rw[← hHI];repeat first|exact .refl _|refine .push ?_ _
      have hIc:HI.Closed:=by
       rw[← hHI]
       exact aY (ah hcs2 (by have:=cZ (n:=Hc.nx+1) x;simp only[au,znp]at this;exact this))
      have hIo:HI.get Hc.nx=some (.cells (iO x)):=by
       rw[← hHI,zlf,if_neg (Xk)]
       exact AHeap.get_push_new (Hc.set i9 (.buf 1 (k+1))) _
      clear hHI
      obtain⟨ji,hji⟩:∃ j,j=Hc.nx+1+1:=⟨_,rfl⟩
      rw[← hji]
      obtain⟨V,hV⟩:∃ V:Nat→Wz,V=fun k=>((x.keys.take k).map (·.name)).map AV.str:=⟨_,rfl⟩
      have V0:V 0=[]:=by rw[hV];rfl
      have VL:∀ n k,ltL n (V k):=fun n k=>by rw[hV];exact pB
      have hmI:=(hS.tn x hmk).2.1
      have hgV:(HI.push (.buf 1 0)).get ji=some (.buf 1 0):=by rw[hji,← hIn];exact AHeap.get_push_new _ _
      refine aG (A:=Nat × AHeap) (fun a=>[(1,.ptr H.nx 0),(3,.bool bk),(6,.slice .any 1 T6),(7,.slice .any 1 T7),(8,.slice .any 1 T8),(11,.slice .any 1 T11),(9,.slice (.own i9) 1 (U9 (k+1))),(10,.slice (.own i10) 1 []),(22,.ptr Hc.nx 0),(23,.slice (.own ji) 1 (V a.1)),(104,.slice .any 8 (S.tables.map au)),(105,.int .i64 (S.tables.length:Int)),(106,.int .i64 (k:Int)),(116,.slice .any 3 (x.keys.map aZ)),(117,.int .i64 (x.keys.length:Int)),(118,.int .i64 (a.1:Int))]) (fun a=>a.2)
       (fun a=>a.1≤x.keys.length∧HI.Le a.2∧a.2.Closed∧a.2.get ji=some (.buf 1 a.1)) (fun a=>x.keys.length-a.1) (0,HI.push (.buf 1 0)) ⟨Nat.zero_le _,(lRq _).push _,aY hIc,hgV⟩ ?_ fun a ha=>?_
      ·simp only[V0]
       have oV:AV.lt (HI.nx+1) (.slice (.own ji) 1 []):=cj Xa trivial
       have o9:AV.lt (HI.nx+1) (.slice (.own i9) 1 (U9 (k+1))):=cj Xa (U9L _ _)
       have o10:AV.lt (HI.nx+1) (.slice (.own i10) 1 []):=cj Xa trivial
       exact en5 (aY hIc) (d:=by(simp[ltF,zlc,zld,znl,znd,zne,ltZ,eP,o9,o10,oV,hst6,hst7,hst8,hst11];try omega))
      clear hgV
      obtain⟨j,Hi⟩:=a
      obtain⟨hj,hle2,hcc2,gV⟩:=ha
      dsimp only at hj hle2 hcc2 gV ⊢
      have nV:=glq gV
      have hIoc:=aB (hle2.get _ _ hIo)
      have hnxi:HI.nx≤Hi.nx:=hle2.nx
      refine Tq20 ?_
      refine ax (fun hc=>?_) (fun hc=>?_)
      ·skip
       have hj':j<x.keys.length:=sHc
       clear hc
       obtain⟨y,hxj⟩:∃ z0,z0=x.keys[j]:=⟨_,rfl⟩
       have hmj:y∈x.keys:=by rw[hxj];exact gMq hj'
       have htj:x.keys.take (j+1)=x.keys.take j++[y]:=by rw[hxj,List.take_succ_eq_append_getElem hj']
       have hgj:=a9 (f:=aZ) (l:=x.keys) (k:=j) (x:=y) (by rw[gQq hj',hxj])
       rw[show aZ y=.agg (KX y) from rfl]at hgj
       have ej:IntKind.i64.wrap ((j:Int)+1)=((j+1:Nat):Int):=Xe
       have hllV:(V j).length=j:=by rw[hV,ybb,ybb,List.length_take];omega
       have hsnV:V j++[AV.str y.name]=V (j+1):=by rw[hV];dsimp only;rw[htj];simp
       have nf2:(ji=Hi.nx)=False∧(ji=Hi.nx+1)=False∧(Hi.nx=ji)=False∧(Hc.nx=Hi.nx)=False∧(Hc.nx=Hi.nx+1)=False:=⟨eFo,eFo,eFo,eFo,eFo⟩
       refine Tq49 ?_
       have hcsV:(Hi.set ji (.buf 1 (j+1))).Closed:=bf hcc2
       have oV:AV.lt Hi.nx (.slice (.own ji) 1 (V (j+1))):=cj Xa (VL _ _)
       have o9:AV.lt Hi.nx (.slice (.own i9) 1 (U9 (k+1))):=cj Xa (U9L _ _)
       have o10:AV.lt Hi.nx (.slice (.own i10) 1 []):=cj Xa trivial
       refine⟨⟨Xa,Xa⟩,⟨gV,Xa,Xa,fun z hz=>by rw[List.mem_singleton.1 hz];rfl⟩,(j+1,Hi.set ji (.buf 1 (j+1))),⟨Xd,cJ hle2 Xa,hcsV,by dsimp only;rw[aF,if_pos rfl,if_pos (by omega)]⟩,Xd,?_⟩
       dsimp only
       exact en5 hcsV (d:=by(simp[ltF,zlc,zld,znl,znd,zne,ltZ,eP,o9,o10,oV,hst6,hst7,hst8,hst11];try omega))
      ·skip
       have hj':j=x.keys.length:=sHc
       subst hj'
       clear hc
       have hVm:V x.keys.length=(x.keys.map (·.name)).map AV.str:=by rw[hV];dsimp only;rw[List.take_length]
       rw[hVm]
       clear hVm V0 VL hV gV
       replace hR:(bk&&((onF [] (x.keys.map (·.name))&&onF [] x.actions)&&((S.tables.drop (k+1)).all (fun t=>onF [] (t.keys.map (·.name))&&onF [] t.actions)&&X2)))=R:=by rw[← hR];show _=(bk&&(((onF [] (x.keys.map (·.name))&&onF [] x.actions)&&_)&&_));rw[Bool.and_assoc (onF [] (x.keys.map (·.name))&&onF [] x.actions)]
       replace hR:=ae (E:=onF [] (x.keys.map (·.name))&&onF [] x.actions) hR
       cases bk with
       |false=>
        refine Tq47 ?_
        refine Tq0 ?_
        replace hR:=lff hR
        exact Y30
       |true=>
        refine Tq47 ?_
        refine Tq0 ?_
        refine⟨x.keys.map (·.name),⟨rfl,by rw[ybb];exact hmI⟩,?_⟩
        cases c1:(onF [] (x.keys.map (·.name)))with
        |false=>
         refine Tq41 ?_
         refine Tq0 ?_
         replace hR:=lf false hR (by simp only[c1,tfC])
         exact Y30
        |true=>
         refine Tq41 ?_
         refine Tq0 ?_
         refine⟨x.actions,⟨rfl,(hS.tn x hmk).2.2.1⟩,?_⟩
         cases c2:(onF [] x.actions)with
         |false=>
          refine Tq64 ?_
          refine Tq0 ?_
          replace hR:=lf false hR (by simp only[c1,c2,tfC])
          exact Y30
         |true=>
          refine Tq64 ?_
          refine Tq0 ?_
          replace hR:=lf true hR (by simp only[c1,c2,tfC])
          have o9:AV.lt Hc.nx (.slice (.own i9) 1 (U9 (k+1))):=cj Xa (U9L _ _)
          have o10:AV.lt Hc.nx (.slice (.own i10) 1 []):=cj Xa trivial
          refine⟨(k+1,true,Hc.set i9 (.buf 1 (k+1))),⟨Xd,cJ hle Xa,hcs2,by dsimp only;rw[aF,if_pos rfl,if_pos (by omega)],by dsimp only;rw[aF,if_neg (by omega)];exact g10,hR⟩,Xd,Xy,hIl.trans hle2,hcs2,by(simp[ltF,zld,znl,znd,zne,ltZ,eP,o9,o10,hst6,hst7,hst8,hst11];try omega),Xz⟩
     ·have hk':k=S.tables.length:=sHc
      subst hk'
      clear hc
      rw[List.drop_length,List.all_nil,Bool.true_and]at hR
      have hT:U9 S.tables.length=((S.tables.map (·.name)).map AV.str):=by rw[hU9];dsimp only;rw[List.take_length]
      rw[hT]
      clear hT U90 U9L hU9
      obtain⟨T9,hT9⟩:∃ T9,((S.tables.map (·.name)).map AV.str)=T9:=⟨_,rfl⟩
      rw[hT9]
      have hst9:∀ n,AV.lt n (.slice .any 1 T9):=fun _=>by rw[← hT9];exact eP
      refine Tq75 ?_
      obtain⟨U10,hU10⟩:∃ U10:Nat→Wz,U10=fun k=>((S.roles.take k).map (·.name)).map AV.str:=⟨_,rfl⟩
      have U100:U10 0=[]:=by rw[hU10];rfl
      have U10L:∀ n k,ltL n (U10 k):=fun n k=>by rw[hU10];exact pB
      have hn10:=sl.rl
      rw[hX2]at hR
      refine aG (A:=Nat × Bool × AHeap) (fun a=>[(3,.bool a.2.1),(6,.slice .any 1 T6),(7,.slice .any 1 T7),(8,.slice .any 1 T8),(9,.slice .any 1 T9),(11,.slice .any 1 T11),(10,.slice (.own i10) 1 (U10 a.1)),(140,.slice .any 6 (S.roles.map aP)),(141,.int .i64 (S.roles.length:Int)),(142,.int .i64 (a.1:Int))]) (fun a=>a.2.2)
       (fun a=>a.1≤S.roles.length∧Hb.Le a.2.2∧a.2.2.Closed∧a.2.2.get i10=some (.buf 1 a.1)∧(a.2.1&&((S.roles.drop a.1).all (fun t=>onF [] (t.grants.map (·.table))&&onF [] t.actions)&&X3))=R) (fun a=>S.roles.length-a.1) (0,_,Hc) ⟨Nat.zero_le _,hle,hcc,g10,hR⟩ ?_ fun a ha=>?_
      ·simp only[U100]
       have o10:AV.lt Hc.nx (.slice (.own i10) 1 []):=cj Xa trivial
       exact en5 hcc (d:=by(simp[ltF,zlc,zld,znl,znd,zne,ltZ,eP,o10,hst6,hst7,hst8,hst9,hst11];try omega))
      clear hR g10 hle hcc hgc hcsc hneH n10
      obtain⟨k,bk,Hc⟩:=a
      obtain⟨hk,hle,hcc,g10,hR⟩:=ha
      dsimp only at hk hle hcc g10 hR ⊢
      have n10:=glq g10
      have hgc:=hle.get _ _ hg0
      have hcsc:=aB hgc
      have hneH:(H.nx=Hc.nx)=False:=eFo
      refine Tq20 ?_
      refine ax (fun hc=>?_) (fun hc=>?_)
      ·skip
       have hk':k<S.roles.length:=sHc
       clear hc
       obtain⟨x,hxk⟩:∃ z0,z0=S.roles[k]:=⟨_,rfl⟩
       have hmk:x∈S.roles:=by rw[hxk];exact gMq hk'
       have htk:S.roles.take (k+1)=S.roles.take k++[x]:=by rw[hxk,List.take_succ_eq_append_getElem hk']
       have hgk:=a9 (f:=aP) (l:=S.roles) (k:=k) (x:=x) (by rw[gQq hk',hxk])
       rw[show aP x=.agg (nL x) from rfl]at hgk
       have ek:IntKind.i64.wrap ((k:Int)+1)=((k+1:Nat):Int):=Xe
       have hdk:S.roles.drop k=x::S.roles.drop (k+1):=by rw[hxk];exact dcq hk'
       rw[hdk,List.all_cons]at hR
       have hll:(U10 k).length=k:=by rw[hU10,ybb,ybb,List.length_take];omega
       have hsn:U10 k++[AV.str x.name]=U10 (k+1):=by rw[hU10];dsimp only;rw[htk];simp
       have nf:(i10=Hc.nx)=False∧(i10=Hc.nx+1)=False∧(i10=Hc.nx+1+1)=False∧(Hc.nx=i10)=False:=⟨eFo,eFo,eFo,eFo⟩
       refine Tq56 ?_
       refine⟨⟨Xa,Xa⟩,⟨g10,Xa,Xa,fun z hz=>by rw[List.mem_singleton.1 hz];rfl⟩,?_⟩
       obtain⟨HI,hHI⟩:∃ HI,((Hc.set i10 (.buf 1 (k+1))).push (.cells (nL x))).push (.buf 1 1)=HI:=⟨_,rfl⟩
       rw[hHI]
       have hcs2:(Hc.set i10 (.buf 1 (k+1))).Closed:=bf hcc
       have hIn:HI.nx=Hc.nx+1+1:=by rw[← hHI];rfl
       have hIl:(Hc.set i10 (.buf 1 (k+1))).Le HI:=by rw[← hHI];repeat first|exact .refl _|refine .push ?_ _
       have hIc:HI.Closed:=by
        rw[← hHI]
        exact aY (ah hcs2 (by have:=gO (n:=Hc.nx+1) x;simp only[aP,znp]at this;exact this))
       have hIo:HI.get Hc.nx=some (.cells (nL x)):=by
        rw[← hHI,zlf,if_neg (Xk)]
        exact AHeap.get_push_new (Hc.set i10 (.buf 1 (k+1))) _
       clear hHI
       obtain⟨ji,hji⟩:∃ j,j=Hc.nx+1+1:=⟨_,rfl⟩
       rw[← hji]
       obtain⟨V,hV⟩:∃ V:Nat→Wz,V=fun k=>((x.grants.take k).map (·.table)).map (AV.int .i64):=⟨_,rfl⟩
       have V0:V 0=[]:=by rw[hV];rfl
       have VL:∀ n k,ltL n (V k):=fun n k=>by rw[hV];exact BM
       have hmI:=(hS.rn x hmk).2.1
       have hgV:(HI.push (.buf 1 0)).get ji=some (.buf 1 0):=by rw[hji,← hIn];exact AHeap.get_push_new _ _
       refine aG (A:=Nat × AHeap) (fun a=>[(3,.bool bk),(6,.slice .any 1 T6),(7,.slice .any 1 T7),(8,.slice .any 1 T8),(9,.slice .any 1 T9),(11,.slice .any 1 T11),(10,.slice (.own i10) 1 (U10 (k+1))),(27,.ptr Hc.nx 0),(28,.slice (.own ji) 1 (V a.1)),(140,.slice .any 6 (S.roles.map aP)),(141,.int .i64 (S.roles.length:Int)),(142,.int .i64 (k:Int)),(152,.slice .any 4 (x.grants.map aK)),(153,.int .i64 (x.grants.length:Int)),(154,.int .i64 (a.1:Int))]) (fun a=>a.2)
        (fun a=>a.1≤x.grants.length∧HI.Le a.2∧a.2.Closed∧a.2.get ji=some (.buf 1 a.1)) (fun a=>x.grants.length-a.1) (0,HI.push (.buf 1 0)) ⟨Nat.zero_le _,(lRq _).push _,aY hIc,hgV⟩ ?_ fun a ha=>?_
       ·simp only[V0]
        have oV:AV.lt (HI.nx+1) (.slice (.own ji) 1 []):=cj Xa trivial
        have o10:AV.lt (HI.nx+1) (.slice (.own i10) 1 (U10 (k+1))):=cj Xa (U10L _ _)
        exact en5 (aY hIc) (d:=by(simp[ltF,zlc,zld,znl,znd,zne,ltZ,eP,o10,oV,hst6,hst7,hst8,hst9,hst11];try omega))
       clear hgV
       obtain⟨j,Hi⟩:=a
       obtain⟨hj,hle2,hcc2,gV⟩:=ha
       dsimp only at hj hle2 hcc2 gV ⊢
       have nV:=glq gV
       have hIoc:=aB (hle2.get _ _ hIo)
       have hnxi:HI.nx≤Hi.nx:=hle2.nx
       refine Tq20 ?_
       refine ax (fun hc=>?_) (fun hc=>?_)
       ·skip
        have hj':j<x.grants.length:=sHc
        clear hc
        obtain⟨y,hxj⟩:∃ z0,z0=x.grants[j]:=⟨_,rfl⟩
        have hmj:y∈x.grants:=by rw[hxj];exact gMq hj'
        have htj:x.grants.take (j+1)=x.grants.take j++[y]:=by rw[hxj,List.take_succ_eq_append_getElem hj']
        have hgj:=a9 (f:=aK) (l:=x.grants) (k:=j) (x:=y) (by rw[gQq hj',hxj])
        rw[show aK y=.agg (y6 y) from rfl]at hgj
        have ej:IntKind.i64.wrap ((j:Int)+1)=((j+1:Nat):Int):=Xe
        have hllV:(V j).length=j:=by rw[hV,ybb,ybb,List.length_take];omega
        have hsnV:V j++[AV.int .i64 y.table]=V (j+1):=by rw[hV];dsimp only;rw[htj];simp
        have nf2:(ji=Hi.nx)=False∧(ji=Hi.nx+1)=False∧(Hi.nx=ji)=False∧(Hc.nx=Hi.nx)=False∧(Hc.nx=Hi.nx+1)=False:=⟨eFo,eFo,eFo,eFo,eFo⟩
        refine Tq49 ?_
        have hcsV:(Hi.set ji (.buf 1 (j+1))).Closed:=bf hcc2
        have oV:AV.lt Hi.nx (.slice (.own ji) 1 (V (j+1))):=cj Xa (VL _ _)
        have o10:AV.lt Hi.nx (.slice (.own i10) 1 (U10 (k+1))):=cj Xa (U10L _ _)
        refine⟨⟨Xa,Xa⟩,⟨gV,Xa,Xa,fun z hz=>by rw[List.mem_singleton.1 hz];rfl⟩,(j+1,Hi.set ji (.buf 1 (j+1))),⟨Xd,cJ hle2 Xa,hcsV,by dsimp only;rw[aF,if_pos rfl,if_pos (by omega)]⟩,Xd,?_⟩
        dsimp only
        exact en5 hcsV (d:=by(simp[ltF,zlc,zld,znl,znd,zne,ltZ,eP,o10,oV,hst6,hst7,hst8,hst9,hst11];try omega))
       ·skip
        have hj':j=x.grants.length:=sHc
        subst hj'
        clear hc
        have hVm:V x.grants.length=(x.grants.map (·.table)).map (AV.int .i64):=by rw[hV];dsimp only;rw[List.take_length]
        rw[hVm]
        clear hVm V0 VL hV gV
        replace hR:(bk&&((onF [] (x.grants.map (·.table))&&onF [] x.actions)&&((S.roles.drop (k+1)).all (fun t=>onF [] (t.grants.map (·.table))&&onF [] t.actions)&&X3)))=R:=by rw[← hR];show _=(bk&&(((onF [] (x.grants.map (·.table))&&onF [] x.actions)&&_)&&_));rw[Bool.and_assoc (onF [] (x.grants.map (·.table))&&onF [] x.actions)]
        replace hR:=ae (E:=onF [] (x.grants.map (·.table))&&onF [] x.actions) hR
        cases bk with
        |false=>
         refine Tq47 ?_
         refine Tq0 ?_
         replace hR:=lff hR
         exact Y38
        |true=>
         refine Tq47 ?_
         refine Tq0 ?_
         refine⟨x.grants.map (·.table),⟨rfl,by rw[ybb];exact hmI⟩,?_⟩
         cases c1:(onF [] (x.grants.map (·.table)))with
         |false=>
          refine Tq41 ?_
          refine Tq0 ?_
          replace hR:=lf false hR (by simp only[c1,tfC])
          exact Y38
         |true=>
          refine Tq41 ?_
          refine Tq0 ?_
          refine⟨x.actions,⟨rfl,(hS.rn x hmk).2.2.1⟩,?_⟩
          cases c2:(onF [] x.actions)with
          |false=>
           refine Tq64 ?_
           refine Tq0 ?_
           replace hR:=lf false hR (by simp only[c1,c2,tfC])
           exact Y38
          |true=>
           refine Tq64 ?_
           refine Tq0 ?_
           replace hR:=lf true hR (by simp only[c1,c2,tfC])
           have o10:AV.lt Hc.nx (.slice (.own i10) 1 (U10 (k+1))):=cj Xa (U10L _ _)
           refine⟨(k+1,true,Hc.set i10 (.buf 1 (k+1))),⟨Xd,cJ hle Xa,hcs2,by dsimp only;rw[aF,if_pos rfl,if_pos (by omega)],hR⟩,Xd,Xy,hIl.trans hle2,hcs2,by(simp[ltF,zld,znl,znd,zne,ltZ,eP,o10,hst6,hst7,hst8,hst9,hst11];try omega),Xz⟩
      ·have hk':k=S.roles.length:=sHc
       subst hk'
       clear hc
       rw[List.drop_length,List.all_nil,Bool.true_and]at hR
       have hT:U10 S.roles.length=((S.roles.map (·.name)).map AV.str):=by rw[hU10];dsimp only;rw[List.take_length]
       rw[hT]
       clear hT U100 U10L hU10
       obtain⟨T10,hT10⟩:∃ T10,((S.roles.map (·.name)).map AV.str)=T10:=⟨_,rfl⟩
       rw[hT10]
       have hst10:∀ n,AV.lt n (.slice .any 1 T10):=fun _=>by rw[← hT10];exact eP
       refine Tq75 ?_
       subst hT6 hT7 hT8 hT9 hT10 hT11
       rw[hX3]at hR
       have hHl:=hHle.trans hle
       cases bk with
       |false=>
        rw[Bool.false_and]at hR
        subst hR
        try simp only[go_sem,dN,dM,cq,dq]
        exact Y66
       |true=>
        rw[Bool.true_and]at hR
        try simp only[go_sem,dN,dM,cq,dq]
        refine⟨S.fields.map (·.name),⟨rfl,by rw[ybb];exact sl.fl⟩,?_⟩
        cases n0:(onF [] (S.fields.map (·.name)))with
        |false=>
         simp only[n0,tfC]at hR
         subst hR
         try simp only[go_sem,dN,dM,cq,dq,n0]
         exact Y66
        |true=>
         try simp only[go_sem,dN,dM,cq,dq,n0]
         refine⟨S.headers.map (·.name),⟨rfl,by rw[ybb];exact sl.hl⟩,?_⟩
         cases n1:(onF [] (S.headers.map (·.name)))with
         |false=>
          simp only[n0,n1,tfC]at hR
          subst hR
          try simp only[go_sem,dN,dM,cq,dq,n0,n1]
          exact Y66
         |true=>
          try simp only[go_sem,dN,dM,cq,dq,n0,n1]
          refine⟨S.actions.map (·.name),⟨rfl,by rw[ybb];exact sl.al⟩,?_⟩
          cases n2:(onF [] (S.actions.map (·.name)))with
          |false=>
           simp only[n0,n1,n2,tfC]at hR
           subst hR
           try simp only[go_sem,dN,dM,cq,dq,n0,n1,n2]
           exact Y66
          |true=>
           try simp only[go_sem,dN,dM,cq,dq,n0,n1,n2]
           refine⟨S.tables.map (·.name),⟨rfl,by rw[ybb];exact sl.tl⟩,?_⟩
           cases n3:(onF [] (S.tables.map (·.name)))with
           |false=>
            simp only[n0,n1,n2,n3,tfC]at hR
            subst hR
            try simp only[go_sem,dN,dM,cq,dq,n0,n1,n2,n3]
            exact Y66
           |true=>
            try simp only[go_sem,dN,dM,cq,dq,n0,n1,n2,n3]
            refine⟨S.roles.map (·.name),⟨rfl,by rw[ybb];exact sl.rl⟩,?_⟩
            cases n4:(onF [] (S.roles.map (·.name)))with
            |false=>
             simp only[n0,n1,n2,n3,n4,tfC]at hR
             subst hR
             try simp only[go_sem,dN,dM,cq,dq,n0,n1,n2,n3,n4]
             exact Y66
            |true=>
             try simp only[go_sem,dN,dM,cq,dq,n0,n1,n2,n3,n4]
             refine⟨S.headers.flatMap (·.fields),⟨rfl,hI.ul⟩,?_⟩
             cases n5:(onF [] (S.headers.flatMap (·.fields)))with
             |false=>
              simp only[n0,n1,n2,n3,n4,n5,tfC]at hR
              subst hR
              try simp only[go_sem,dN,dM,cq,dq,n0,n1,n2,n3,n4,n5]
              exact Y66
             |true=>
              simp only[n0,n1,n2,n3,n4,n5,tfC]at hR
              subst hR
              try simp only[go_sem,dN,dM,cq,dq,n0,n1,n2,n3,n4,n5]
              exact Y66
def CF{S:Sch}(h:oL S=true):(iA S).Nodup:=by
 unfold oL at h
 simp only[Bool.and_eq_true]at h
 obtain⟨_,_,_,_,h5,_⟩:=h
 rw[Eo]at h5
 exact(xU h5).1
def PF{S:Sch}(hr:uE S)(hn:(iA S).Nodup):decide (((Bh S).length:Int)<(S.tables.length:Int))=!rD S:=by
 rw[← Pq hr hn,decide_eq_decide];omega
def CE:PCt
 |[.agg l],_,K=>∃ S:Sch,(l=aR S∧OkSch S∧(iP S).b.length≤dX)∧K (.int .i64 (zA S))
 |_,_,_=>False
def OJ:EPp 9 CE:=by
 refine Ype fun _ H K h=>?_
 unfold CE at h
 split at h<;>try exact h.elim
 rename_i l
 obtain⟨S,⟨rfl,hk,hl⟩,hK⟩:=h
 refine⟨_,hK,?_⟩
 clear hK
 generalize hR:zA S=R
 unfold zA at hR
 refine Yfw aD (tCq Qr (tCq FG (tCq L0 (tCq LT (tCq FM (tCq Fu (tCq FP (tCq Ft (tCq KM (tCq Hv (tCq G3 (tCq Qq tNq)))))))))))) Tryz.func9 [.tmp 2] (nrq _) (T:=aC [(18,[[],[0]])]) (h:=fun hcl=>?_)
 have hPE:Dt=kw:=rfl
 have dn1:(!true)=false:=rfl
 have dn2:(!false)=true:=rfl
 have eA:Gz S=tt S:=P6
 have eD:GU S=oL S:=NO
 have eK:GF S=mK S:=O0
 have eX:exA S=S.refs.all (exB S):=rfl
 unfold aR
 simp only[go_sem,hPE,kw,dn1,dn2,eA,eD,eK,eX,eC,fC,fB,ep,eE,eI,eu,fD,fy,fA,gB]
 refine⟨S,⟨rfl,hk,hl⟩,?_⟩
 cases c0:((sk S).2 !=0)with
 |true=>
  simp only[c0,if_true]at hR
  subst hR
  simp only[go_sem,hPE,kw,dn1,dn2,eA,eD,eK,eX,eC,fC,fB,ep,eE,eI,eu,fD,fy,fA,gB,c0]
  exact Z1
 |_=>
  have bd:=Rv (LX (S:=S) (by simpa using c0))
  have sb:=RA bd
  have si:=RJ bd
  have rg:=LN bd hk
  rw[c0]at hR
  simp only[Bool.false_eq_true,if_false]at hR
  simp only[go_sem,hPE,kw,dn1,dn2,eA,eD,eK,eX,eC,fC,fB,ep,eE,eI,eu,fD,fy,fA,gB,c0]
  refine⟨S,⟨rfl,sb⟩,?_⟩
  cases c1:nc S with
  |false=>
   rw[c1]at hR
   simp only[if_true]at hR
   subst hR
   try simp only[go_sem,hPE,kw,dn1,dn2,eA,eD,eK,eX,eC,fC,fB,ep,eE,eI,eu,fD,fy,fA,gB,c0,c1]
   exact Z1
  |true=>
   rw[c1]at hR
   simp only[reduceCtorEq,if_false]at hR
   simp only[go_sem,hPE,kw,dn1,dn2,eA,eD,eK,eX,eC,fC,fB,ep,eE,eI,eu,fD,fy,fA,gB,c0,c1]
   refine⟨S,⟨rfl,sb⟩,?_⟩
   cases c2:tt S with
   |false=>
    rw[c2]at hR
    simp only[if_true]at hR
    subst hR
    try simp only[go_sem,hPE,kw,dn1,dn2,eA,eD,eK,eX,eC,fC,fB,ep,eE,eI,eu,fD,fy,fA,gB,c0,c1,c2]
    exact Z1
   |true=>
    rw[c2]at hR
    simp only[reduceCtorEq,if_false]at hR
    simp only[go_sem,hPE,kw,dn1,dn2,eA,eD,eK,eX,eC,fC,fB,ep,eE,eI,eu,fD,fy,fA,gB,c0,c1,c2]
    refine⟨S,⟨rfl,sb,si⟩,?_⟩
    cases c3:oL S with
    |false=>
     rw[c3]at hR
     simp only[if_true]at hR
     subst hR
     try simp only[go_sem,hPE,kw,dn1,dn2,eA,eD,eK,eX,eC,fC,fB,ep,eE,eI,eu,fD,fy,fA,gB,c0,c1,c2,c3]
     exact Z1
    |true=>
     rw[c3]at hR
     simp only[reduceCtorEq,if_false]at hR
     simp only[go_sem,hPE,kw,dn1,dn2,eA,eD,eK,eX,eC,fC,fB,ep,eE,eI,eu,fD,fy,fA,gB,c0,c1,c2,c3]
     refine⟨S,⟨rfl,sb,fun a ha x hx=>(rg.pv a ha x hx).1⟩,?_⟩
     cases c4:mK S with
     |false=>
      rw[c4]at hR
      simp only[if_true]at hR
      subst hR
      try simp only[go_sem,hPE,kw,dn1,dn2,eA,eD,eK,eX,eC,fC,fB,ep,eE,eI,eu,fD,fy,fA,gB,c0,c1,c2,c3,c4]
      exact Z1
     |true=>
      rw[c4]at hR
      simp only[reduceCtorEq,if_false]at hR
      rw[← DV c4]at hR
      simp only[go_sem,hPE,kw,dn1,dn2,eA,eD,eK,eX,eC,fC,fB,ep,eE,eI,eu,fD,fy,fA,gB,c0,c1,c2,c3,c4]
      refine⟨S,⟨rfl,sb⟩,?_⟩
      cases k1:kwB S with
      |false=>
       rw[k1,Bool.false_and]at hR
       simp only[if_true]at hR
       subst hR
       try simp only[go_sem,hPE,kw,dn1,dn2,eA,eD,eK,eX,eC,fC,fB,ep,eE,eI,eu,fD,fy,fA,gB,c0,c1,c2,c3,c4,k1]
       exact Z1
      |true=>
       rw[k1,Bool.true_and]at hR
       simp only[go_sem,hPE,kw,dn1,dn2,eA,eD,eK,eX,eC,fC,fB,ep,eE,eI,eu,fD,fy,fA,gB,c0,c1,c2,c3,c4,k1]
       refine⟨S,⟨rfl,sb⟩,?_⟩
       cases k2:grB S with
       |false=>
        rw[k2]at hR
        simp only[if_true]at hR
        subst hR
        try simp only[go_sem,hPE,kw,dn1,dn2,eA,eD,eK,eX,eC,fC,fB,ep,eE,eI,eu,fD,fy,fA,gB,c0,c1,c2,c3,c4,k1,k2]
        exact Z1
       |true=>
        rw[k2]at hR
        simp only[reduceCtorEq,if_false]at hR
        have c5:kg S=true:=by rw[← DV c4,k1,k2];rfl
        have fk:=DK sb c5 c2 c4 rg
        simp only[go_sem,hPE,kw,dn1,dn2,eA,eD,eK,eX,eC,fC,fB,ep,eE,eI,eu,fD,fy,fA,gB,c0,c1,c2,c3,c4,k1,k2]
        refine⟨S,⟨rfl,sb,vS c5 rg⟩,?_⟩
        cases c6:S.refs.all (exB S)with
        |false=>
         rw[c6]at hR
         simp only[if_true]at hR
         subst hR
         try simp only[go_sem,hPE,kw,dn1,dn2,eA,eD,eK,eX,eC,fC,fB,ep,eE,eI,eu,fD,fy,fA,gB,c0,c1,c2,c3,c4,k1,k2,c6]
         exact Z1
        |true=>
         rw[c6]at hR
         simp only[reduceCtorEq,if_false]at hR
         rw[← QY]at hR
         simp only[go_sem,hPE,kw,dn1,dn2,eA,eD,eK,eX,eC,fC,fB,ep,eE,eI,eu,fD,fy,fA,gB,c0,c1,c2,c3,c4,k1,k2,c6]
         refine⟨S,⟨rfl,sb,fk⟩,?_⟩
         cases w1:pkB S with
         |false=>
          simp only[w1,Bool.false_and,Bool.and_false,if_true]at hR
          subst hR
          try simp only[go_sem,hPE,kw,dn1,dn2,eA,eD,eK,eX,eC,fC,fB,ep,eE,eI,eu,fD,fy,fA,gB,c0,c1,c2,c3,c4,k1,k2,c6,w1]
          exact Z1
         |true=>
          simp only[w1,Bool.true_and,Bool.and_true,reduceCtorEq,if_false]at hR
          simp only[go_sem,hPE,kw,dn1,dn2,eA,eD,eK,eX,eC,fC,fB,ep,eE,eI,eu,fD,fy,fA,gB,c0,c1,c2,c3,c4,k1,k2,c6,w1]
          refine⟨S,⟨rfl,sb,fk⟩,?_⟩
          cases w2:atB S with
          |false=>
           simp only[w2,Bool.false_and,Bool.and_false,if_true]at hR
           subst hR
           try simp only[go_sem,hPE,kw,dn1,dn2,eA,eD,eK,eX,eC,fC,fB,ep,eE,eI,eu,fD,fy,fA,gB,c0,c1,c2,c3,c4,k1,k2,c6,w1,w2]
           exact Z1
          |true=>
           simp only[w2,Bool.true_and,Bool.and_true,reduceCtorEq,if_false]at hR
           simp only[go_sem,hPE,kw,dn1,dn2,eA,eD,eK,eX,eC,fC,fB,ep,eE,eI,eu,fD,fy,fA,gB,c0,c1,c2,c3,c4,k1,k2,c6,w1,w2]
           refine⟨S,⟨rfl,sb,fk,fun a ha=>by have:=((bd.a.2 a ha).2.2.1).1;omega⟩,?_⟩
           cases w3:tbB S with
           |false=>
            simp only[w3,Bool.false_and,Bool.and_false,if_true]at hR
            subst hR
            try simp only[go_sem,hPE,kw,dn1,dn2,eA,eD,eK,eX,eC,fC,fB,ep,eE,eI,eu,fD,fy,fA,gB,c0,c1,c2,c3,c4,k1,k2,c6,w1,w2,w3]
            exact Z1
           |true=>
            simp only[w3,Bool.true_and,Bool.and_true,reduceCtorEq,if_false]at hR
            simp only[go_sem,hPE,kw,dn1,dn2,eA,eD,eK,eX,eC,fC,fB,ep,eE,eI,eu,fD,fy,fA,gB,c0,c1,c2,c3,c4,k1,k2,c6,w1,w2,w3]
            refine⟨S,⟨rfl,sb,wx c5⟩,?_⟩
            have ad:=PF (wx c5) (CF c3)
            cases c8:rD S with
            |false=>
             rw[c8]at ad
             rw[c8]at hR
             simp only[if_true]at hR
             exact Y107
            |true=>
             rw[c8]at ad
             rw[c8]at hR
             simp only[reduceCtorEq,if_false]at hR
             exact Y107
end Go.AL
