/- Lemmas of the proof; no condition. -/
import Derived.Test.YthnlhjalhflgfaaGreatE05l
import Derived.Test.YthnlhjalhflgfaaGreatE05b
set_option linter.all false
set_option maxRecDepth 10000
set_option maxHeartbeats 32000000
open Go Go.AL Go.Proofs
namespace Go.AL
theorem Qd {x y:Nat}:(((((x/2^64:Nat):Int)==((y/2^64:Nat):Int))&&(((x % 2^64:Nat):Int)==((y % 2^64:Nat):Int))) != false)=decide (x=y):=by
 rw [Bool.bne_false,Bool.eq_iff_iff]
 simp
 omega
theorem lW {S:Sch} {n:Int} (h:bz S n=true):Bm S n∧yJ S n=btF S n:=by
 have h0:Bm S n:=by
  have h1:decide (0≤ixP (fun t:SField=>t.id==n) S.fields 0)=true:=by rw [eC];exact h
  unfold Bm
  exact of_decide_eq_true h1
 obtain ⟨i,x,h1,h2,h3,h4⟩:=zD h0
 obtain ⟨y,g1,g2⟩:=ky h
 obtain ⟨i',k1,k2,_⟩:=lz g1
 have e:i'=i:=by rw [h2] at k1;omega
 subst e
 rw [h3] at k2;cases k2
 exact ⟨h0,h4.trans g2⟩
def eR:PCt
 |[.agg l],_,K=>∃ S:Sch,(l=aR S∧SB S∧FitK S)∧K (.bool (pkB S))
 |_,_,_=>False
theorem Im:EPp 47 eR:=by
 refine Ype fun _ H K h=>?_
 unfold eR at h
 split at h<;>try exact h.elim
 rename_i l
 obtain ⟨S,⟨rfl,hS,hF⟩,hK⟩:=h
 refine ⟨_,hK,?_⟩
 clear hK
 obtain ⟨E,hE⟩:∃ E:Bool,E=true:=⟨true,rfl⟩
 generalize hR:pkB S=R
 unfold pkB at hR
 have sl:=hS.sl
 replace hR:(true&&(((btF S 1==16)&&(btF S 2==16))&&((S.headers.all (hwB S))&&((S.states.all fun t=>t.cases.all fun p=>nt S t.select p)&&E))))=R:=by rw [← hR,hE];simp only [Bool.true_and,Bool.and_true,Bool.and_assoc]
 obtain ⟨q1,q2⟩:=lW hF.f1
 obtain ⟨q3,q4⟩:=lW hF.f2
 refine Yfw aE (tCq uA (tCq tS (tCq O7 tNq))) Tryz.func47 [.tmp 2] (nrq _) (T:=aB [(21,[[],[],[],[],[],[3],[],[],[],[5],[],[3,5,9],[],[],[],[5,11],[],[5,11],[3,5,9,11,15,17],[],[5,11]]),(2,[[1]])]) (h:=fun hcl=>?_)
 have hcH:=lm (S:=S) hcl
 unfold aR
 apply iG (α:=Bool) (fun O=>[(1,.ptr H.nx 0),(3,.bool O)]) (fun _=>(ff H S)) (fun O=>(O&&((S.headers.all (hwB S))&&((S.states.all fun t=>t.cases.all fun p=>nt S t.select p)&&E)))=R)
 ·intro J
  simp only [go_sem,cz,cy,gU,q2,q4]
  refine ⟨S,⟨rfl,sl,q1⟩,?_⟩
  cases f1:btF S 1==16 with
  |false =>
   simp only [go_sem,cz,cy,gU,q2,q4,f1]
   exact bC J false (by rw [f1] at hR;exact hR) (en5 hcH)
  |true =>
   simp only [go_sem,cz,cy,gU,q2,q4,f1]
   refine ⟨S,⟨rfl,sl,q3⟩,?_⟩
   cases f2:btF S 2==16 with
   |false =>
    simp only [go_sem,cz,cy,gU,q2,q4,f2]
    exact bC J false (by rw [f1,f2] at hR;exact hR) (en5 hcH)
   |true =>
    simp only [go_sem,cz,cy,gU,q2,q4,f2]
    exact bC J true (by rw [f1,f2] at hR;exact hR) (en5 hcH)
 clear hR
 intro b0 hR
 dsimp only at hR ⊢
 refine Tq28 ?_
 refine lpB S.headers (hwB S) (fun k bk=>[(3,.bool bk),(1,.ptr H.nx 0),(23,.slice .any 3 (S.headers.map az)),(24,.int .i64 (S.headers.length:Int)),(25,.int .i64 (k:Int))]) (ff H S) hR (en5 hcH) ?_
 clear hR
 intro k bk hk hR
 have hbk:=sl.hl
 refine Tq15 ?_
 refine csL hk (fun hk'=>?_) fun hk'=>?_
 ·skip
  obtain ⟨x,hmk,hgk,hR⟩:=hdL az mR hk' hR
  have ek:=ek5 k
  have hcI:=wx hcH x
  replace hR:(bk&&((x.fields.all fun f=>f != 1&&f != 2)&&((decide (smB S x.fields 0 % 8=0)&&decide (smB S x.fields 0≤512))&&((S.headers.drop (k+1)).all (hwB S)&&((S.states.all fun t=>t.cases.all fun p=>nt S t.select p)&&E)))))=R:=by
   rw [← hR];show _=(bk&&((((x.fields.all fun f=>f != 1&&f != 2)&&(decide (smB S x.fields 0 % 8=0)&&decide (smB S x.fields 0≤512)))&&_)&&_));simp only [Bool.and_assoc]
  obtain ⟨hfl,hff⟩:=hF.h x hmk
  obtain ⟨M,hM⟩:∃ M,smB S x.fields 0=M:=⟨_,rfl⟩
  rw [hM] at hR
  try simp only [go_sem,hgk,ek,ib]
  refine Tq0 ?_
  refine aC (A:=Nat × Bool × Int) (fun a=>[(1,.ptr H.nx 0),(3,.bool a.2.1),(6,.int .i64 a.2.2),(23,.slice .any 3 (S.headers.map az)),(24,.int .i64 (S.headers.length:Int)),(25,.int .i64 (k:Int)),(30,.slice .any 1 (inL x.fields)),(31,.int .i64 (x.fields.length:Int)),(32,.int .i64 (a.1:Int))]) (fun _=>((ff H S).push (.cells (mR x))))
   (fun a=>a.1≤x.fields.length∧0≤a.2.2∧a.2.2≤(a.1:Int)*1000000∧smB S (x.fields.drop a.1) a.2.2=M∧(a.2.1&&((x.fields.drop a.1).all (fun f=>f != 1&&f != 2)&&((decide (M % 8=0)&&decide (M≤512))&&((S.headers.drop (k+1)).all (hwB S)&&((S.states.all fun t=>t.cases.all fun p=>nt S t.select p)&&E)))))=R) (fun a=>x.fields.length - a.1) (0,_,0) ⟨Nat.zero_le _,by dsimp only;omega,by dsimp only;omega,hM,hR⟩ ?_ fun a ha=>?_
  ·skip
   exact en5 hcI
  clear hR hM
  obtain ⟨j,bj,n⟩:=a
  obtain ⟨hj,hn0,hn1,hM,hR⟩:=ha
  dsimp only at hj hn0 hn1 hM hR ⊢
  simp only [go_sem,inL]
  refine au (fun hc=>?_) (fun hc=>?_)
  ·skip
   have hj':j<x.fields.length:=sHc
   clear hc
   obtain ⟨y,hy⟩:∃ z0,z0=x.fields[j]:=⟨_,rfl⟩
   have hd:x.fields.drop j=y::x.fields.drop (j+1):=by rw [hy];exact dcq hj'
   have hmj:y∈x.fields:=by rw [hy];exact gMq hj'
   have hgj:=aV (f:=AV.int .i64) (l:=x.fields) (k:=j) (x:=y) (by rw [gQq hj',hy])
   have ej:IntKind.i64.wrap ((j:Int)+1)=((j+1:Nat):Int):=by rw [wrap_i64]<;>omega
   obtain ⟨y1,y2,y3⟩:=hff y hmj
   obtain ⟨y4,y5⟩:=lW y1
   have en:IntKind.i64.wrap (n+btF S y)=n+btF S y:=by rw [wrap_i64]<;>omega
   rw [hd,List.all_cons] at hR
   rw [hd,smB] at hM
   clear hy hd
   simp only [go_sem,hgj,ej,cz,cy,gU,y5,en]
   refine Tq0 ?_
   refine ⟨S,⟨rfl,sl,y4⟩,?_⟩
   replace hR:(bj&&((y != 1&&y != 2)&&((x.fields.drop (j+1)).all (fun f=>f != 1&&f != 2)&&((decide (M % 8=0)&&decide (M≤512))&&((S.headers.drop (k+1)).all (hwB S)&&((S.states.all fun t=>t.cases.all fun p=>nt S t.select p)&&E))))))=R:=by rw [← hR];show _=(bj&&(((y != 1&&y != 2)&&_)&&_));rw [Bool.and_assoc (y != 1&&y != 2)]
   replace hR:=ae (E:=y != 1&&y != 2) hR
   cases bj with
   |false =>
    try simp only [go_sem,hgj,ej,cz,cy,gU,y5,en]
    refine Tq0 ?_
    replace hR:=lff hR
    exact Y65
   |true =>
    cases c1:(y != 1) with
    |false =>
     try simp only [go_sem,hgj,ej,cz,cy,gU,y5,en,c1]
     refine Tq0 ?_
     replace hR:=lf false hR (by simp only [c1,tfC])
     exact Y65
    |true =>
     cases c2:(y != 2) with
     |false =>
      try simp only [go_sem,hgj,ej,cz,cy,gU,y5,en,c1,c2]
      refine Tq0 ?_
      replace hR:=lf false hR (by simp only [c1,c2,tfC])
      exact Y65
     |true =>
      try simp only [go_sem,hgj,ej,cz,cy,gU,y5,en,c1,c2]
      refine Tq0 ?_
      replace hR:=lf true hR (by simp only [c1,c2,tfC])
      refine ⟨(j+1,true,n+btF S y),⟨by dsimp only;omega,by dsimp only;omega,by dsimp only;push_cast;omega,hM,hR⟩,by dsimp only;omega,?_⟩
      exact en5 hcI
  ·skip
   have hj':x.fields.length≤j:=sHc
   clear hc
   rw [show x.fields.drop j=[] by rw [List.drop_eq_nil_iff];omega] at hR hM
   rw [smB] at hM
   subst hM
   rw [List.all_nil,Bool.true_and] at hR
   have d8:(n.tmod 8==0)=decide (n % 8=0):=by
    rw [Int.tmod_eq_emod_of_nonneg hn0,Bool.eq_iff_iff];simp
   replace hR:=ae (E:=decide (n % 8=0)&&decide (n≤512)) hR
   cases bj with
   |false =>
    try simp only [go_sem,hgk,ek,cz,cy,gU,d8]
    exact Y23
   |true =>
    cases c1:(decide (n % 8=0)) with
    |false =>
     try simp only [go_sem,hgk,ek,cz,cy,gU,d8,c1]
     refine Tq0 ?_
     replace hR:=lf false hR (by simp only [c1,tfC])
     exact Y26
    |true =>
     cases c2:(decide (n≤512)) with
     |false =>
      try simp only [go_sem,hgk,ek,cz,cy,gU,d8,c1,c2]
      refine Tq0 ?_
      replace hR:=lf false hR (by simp only [c1,c2,tfC])
      exact Y26
     |true =>
      try simp only [go_sem,hgk,ek,cz,cy,gU,d8,c1,c2]
      refine Tq0 ?_
      replace hR:=lf true hR (by simp only [c1,c2,tfC])
      exact Y43
 ·skip
  replace hR:=ndL hk' hR
  subst hk'
  refine Tq28 ?_
  refine lpB S.states (fun t=>t.cases.all fun p=>nt S t.select p) (fun k bk=>[(3,.bool bk),(1,.ptr H.nx 0),(63,.slice .any 5 (S.states.map aA)),(64,.int .i64 (S.states.length:Int)),(65,.int .i64 (k:Int))]) (ff H S) hR (en5 hcH) ?_
  clear hR
  intro k bk hk hR
  have hbk:=sl.sl
  refine Tq15 ?_
  refine csL hk (fun hk'=>?_) fun hk'=>?_
  ·skip
   obtain ⟨x,hmk,hgk,hR⟩:=hdL aA qv hk' hR
   have ek:=ek5 k
   have hcI:=yV hcH x
   rw [Bool.and_assoc] at hR
   refine Tq45 ?_
   refine Tq0 ?_
   refine lpB x.cases (fun p=>nt S x.select p) (fun j bj=>[(3,.bool bj),(1,.ptr H.nx 0),(63,.slice .any 5 (S.states.map aA)),(64,.int .i64 (S.states.length:Int)),(65,.int .i64 (k:Int)),(10,.ptr (H.nx+1) 0),(70,.slice .any 5 (x.cases.map bb)),(71,.int .i64 (x.cases.length:Int)),(72,.int .i64 (j:Int))]) ((ff H S).push (.cells (qv x))) hR (en5 hcI) ?_
   clear hR
   intro j bj hj hR
   have hbj:=(hS.sn x hmk)
   refine Tq15 ?_
   refine csL hj (fun hj'=>?_) fun hj'=>?_
   ·skip
    obtain ⟨y,hmj,hgj,hR⟩:=hdL bb PE hj' hR
    have ej:=ek5 j
    obtain ⟨s1,v1,v2⟩:=hF.s x hmk y hmj
    obtain ⟨y4,y5⟩:=lW s1
    have iv:=ph v1
    have iw:=ph v2
    have vb:=jI y.value
    have wb:=jI y.mask
    simp only [go_sem,hgj,ej,cz,cy,gU,y5]
    refine Tq0 ?_
    refine ⟨S,⟨rfl,sl,y4⟩,?_⟩
    replace hR:=af (E:=decide (((bl y.value:Nat):Int)≤btF S x.select)&&(decide (((bl y.mask:Nat):Int)≤btF S x.select)&&decide (y.value &&& y.mask=y.value))) hR
    cases bj with
    |false =>
     try simp only [go_sem,hgj,ej,cz,cy,gU,y5,iv,iw,vb,wb,p2V,vv,jd,jb,lL]
     exact Y24
    |true =>
     cases c1:(decide (((bl y.value:Nat):Int)≤btF S x.select)) with
     |false =>
      try simp only [go_sem,hgj,ej,cz,cy,gU,y5,iv,iw,vb,wb,p2V,vv,jd,jb,lL,c1]
      refine Tq0 ?_
      replace hR:=lf false hR (by simp only [c1,tfC])
      exact Y25
     |true =>
      cases c2:(decide (((bl y.mask:Nat):Int)≤btF S x.select)) with
      |false =>
       try simp only [go_sem,hgj,ej,cz,cy,gU,y5,iv,iw,vb,wb,p2V,vv,jd,jb,lL,c1,c2]
       refine Tq0 ?_
       replace hR:=lf false hR (by simp only [c1,c2,tfC])
       exact Y25
      |true =>
       try simp only [go_sem,hgj,ej,cz,cy,gU,y5,iv,iw,vb,wb,p2V,vv,jd,jb,lL,c1,c2]
       refine Tq0 ?_
       obtain ⟨qc3,c3⟩:∃ q:Bool,(decide (y.value &&& y.mask=y.value))=q:=⟨_,rfl⟩
       have dc3:(((((y.value &&& y.mask)/2^64:Nat):Int)==((y.value/2^64:Nat):Int)&&((((y.value &&& y.mask) % 2^64:Nat):Int)==((y.value % 2^64:Nat):Int))) != false)=qc3:=(show (((((y.value &&& y.mask)/2^64:Nat):Int)==((y.value/2^64:Nat):Int)&&((((y.value &&& y.mask) % 2^64:Nat):Int)==((y.value % 2^64:Nat):Int))) != false)=(decide (y.value &&& y.mask=y.value)) from Qd).trans c3
       cases qc3 with
       |false =>
        try simp only [go_sem,hgj,ej,cz,cy,gU,y5,iv,iw,vb,wb,p2V,vv,jd,jb,lL,c1,c2,c3,dc3]
        refine Tq0 ?_
        replace hR:=lf false hR (by simp only [c1,c2,c3,dc3,tfC])
        exact Y25
       |true =>
        try simp only [go_sem,hgj,ej,cz,cy,gU,y5,iv,iw,vb,wb,p2V,vv,jd,jb,lL,c1,c2,c3,dc3]
        refine Tq0 ?_
        replace hR:=lf true hR (by simp only [c1,c2,c3,dc3,tfC])
        exact Y41
   ·exact Y34
  ·exact Y62
theorem R8 {p:SPrim} (h:fpB p=true):kM p.op=(p.op==7||!decide (p.op > 3)):=by
 unfold fpB at h
 rw [Bool.and_eq_true] at h
 have hw:=h.1
 unfold wB at hw
 simp only [Bool.and_eq_true,decide_eq_true_eq] at hw
 have h7:p.op=1∨p.op=2∨p.op=3∨p.op=4∨p.op=5∨p.op=6∨p.op=7:=by omega
 unfold kM
 rcases h7 with h|h|h|h|h|h|h<;>rw [h]<;>rfl
theorem PP {S:Sch} {np:Nat} {p:SPrim} (h:nD S np p=true) (hf:fpB p=true) (h7:(p.op==7)=false) (h3:decide (p.op > 3)=false):bz S p.dst=true:=by
 unfold fpB at hf
 rw [Bool.and_eq_true] at hf
 have hw:=hf.1
 unfold wB at hw
 simp only [Bool.and_eq_true,decide_eq_true_eq] at hw
 have h3':=of_decide_eq_false h3
 have h7:p.op=1∨p.op=2∨p.op=3:=by omega
 unfold nD at h
 rw [if_pos (by rcases h7 with h|h|h<;>rw [h]<;>rfl),Bool.and_eq_true] at h
 exact h.1
theorem Ho {S:Sch} {np:Nat} {p:SPrim} (h:nD S np p=true) (ho:kM p.op=true):(if p.kind==2 then bz S p.n else if p.kind==3 then decide (p.n<(np:Int)) else true)=true:=by
 unfold kM at ho
 unfold nD at h
 split at h
 ·rw [Bool.and_eq_true] at h;exact h.2
 ·rename_i h1
  split at h
  ·rename_i h2
   exfalso
   simp only [Bool.or_eq_true,beq_iff_eq] at h1 h2 ho
   omega
  ·exact h
theorem CO {p:SPrim} (h:fpB p=true) (ho:kM p.op=true) (k1:(p.kind==1)=false) (k2:(p.kind==2)=false):(p.kind==3)=true:=by
 unfold fpB at h
 rw [ho,if_pos rfl,k1,if_neg Bool.false_ne_true,k2,Bool.false_or] at h
 simp only [Bool.and_eq_true] at h
 exact h.2.2.1
theorem getD_some {α:Type} {l:List α} {k:Nat} {d:α} (h:k<l.length):l[k]?=some (l.getD k d):=by
 rw [gEq,gQq h];rfl
def eU:PCt
 |[.agg l],_,K=>∃ S:Sch,(l=aR S∧SB S∧FitK S)∧K (.bool (atB S))
 |_,_,_=>False
theorem Hy:EPp 48 eU:=by
 refine Ype fun _ H K h=>?_
 unfold eU at h
 split at h<;>try exact h.elim
 rename_i l
 obtain ⟨S,⟨rfl,hS,hF⟩,hK⟩:=h
 refine ⟨_,hK,?_⟩
 clear hK
 obtain ⟨E,hE⟩:∃ E:Bool,E=true:=⟨true,rfl⟩
 generalize hR:atB S=R
 unfold atB at hR
 have sl:=hS.sl
 replace hR:(true&&((S.actions.all fun t=>t.body.all fun p=>mV S t p)&&E))=R:=by rw [← hR,hE];simp only [Bool.true_and,Bool.and_true]
 refine Yfu aE (tCq uA (tCq tS tNq)) Tryz.func48 [.tmp 2] fun hcl=>?_
 have hcH:=lm (S:=S) hcl
 unfold aR
 refine Tq15 ?_
 refine lpB S.actions (fun t=>t.body.all fun p=>mV S t p) (fun k bk=>[(3,.bool bk),(1,.ptr H.nx 0),(10,.slice .any 5 (S.actions.map ap)),(11,.int .i64 (S.actions.length:Int)),(12,.int .i64 (k:Int))]) (ff H S) hR (en5 hcH) ?_
 clear hR
 intro k bk hk hR
 have hbk:=sl.al
 refine Tq15 ?_
 refine csL hk (fun hk'=>?_) fun hk'=>?_
 ·skip
  obtain ⟨x,hmk,hgk,hR⟩:=hdL ap iA hk' hR
  have ek:=ek5 k
  have hcI:=nc hcH x
  rw [Bool.and_assoc] at hR
  refine Tq45 ?_
  refine Tq0 ?_
  refine lpB x.body (fun p=>mV S x p) (fun j bj=>[(3,.bool bj),(1,.ptr H.nx 0),(10,.slice .any 5 (S.actions.map ap)),(11,.int .i64 (S.actions.length:Int)),(12,.int .i64 (k:Int)),(5,.ptr (H.nx+1) 0),(17,.slice .any 6 (x.body.map aT)),(18,.int .i64 (x.body.length:Int)),(19,.int .i64 (j:Int))]) ((ff H S).push (.cells (iA x))) hR (en5 hcI) ?_
  clear hR
  intro j bj hj hR
  have hbj:=(hS.an x hmk).2.2.1
  refine Tq15 ?_
  refine csL hj (fun hj'=>?_) fun hj'=>?_
  ·skip
   obtain ⟨y,hmj,hgj,hR⟩:=hdL aT zY hj' hR
   have ej:=ek5 j
   obtain ⟨v1,v2,v3,v4⟩:=hF.a x hmk y hmj
   have iv:=ph v1
   have vb:=jI y.value
   have ho:=R8 v3
   cases o7:y.op==7 with
   |true =>
    have n7:(y.op != 7)=false:=by rw [bne,o7];rfl
    rw [o7,Bool.true_or] at ho
    have hsr:=Ho v2 ho
    cases k1:y.kind==1 with
    |true =>
     replace hR:=af (E:=if kM y.op then (if y.kind==1 then decide (((bl y.value:Nat):Int)≤(if y.op==7 then 16 else btF S y.dst)) else if y.kind==2 then decide (btF S y.n≤(if y.op==7 then 16 else btF S y.dst)) else decide ((x.params.getD y.n.toNat ⟨[],0⟩).bits≤(if y.op==7 then 16 else btF S y.dst))) else true) hR
     cases bj with
     |false =>
      try simp only [go_sem,hgj,ej,cz,cy,iv,vb,o7,n7,ho,k1]
      exact Y24
     |true =>
      cases c1:(decide (((bl y.value:Nat):Int)≤16)) with
      |false =>
       try simp only [go_sem,hgj,ej,cz,cy,iv,vb,o7,n7,ho,k1,c1]
       refine Tq0 ?_
       replace hR:=lf false hR (by simp only [o7,n7,ho,k1,c1,tfC])
       exact Y25
      |true =>
       try simp only [go_sem,hgj,ej,cz,cy,iv,vb,o7,n7,ho,k1,c1]
       refine Tq0 ?_
       replace hR:=lf true hR (by simp only [o7,n7,ho,k1,c1,tfC])
       exact Y41
    |false =>
     cases k2:y.kind==2 with
     |true =>
      rw [k2,if_pos rfl] at hsr
      obtain ⟨z4,z5⟩:=lW hsr
      replace hR:=af (E:=if kM y.op then (if y.kind==1 then decide (((bl y.value:Nat):Int)≤(if y.op==7 then 16 else btF S y.dst)) else if y.kind==2 then decide (btF S y.n≤(if y.op==7 then 16 else btF S y.dst)) else decide ((x.params.getD y.n.toNat ⟨[],0⟩).bits≤(if y.op==7 then 16 else btF S y.dst))) else true) hR
      cases bj with
      |false =>
       try simp only [go_sem,hgj,ej,cz,cy,iv,vb,z5,o7,n7,ho,k1,k2]
       exact Y24
      |true =>
       try simp only [go_sem,hgj,ej,cz,cy,iv,vb,z5,o7,n7,ho,k1,k2]
       refine Tq0 ?_
       refine ⟨S,⟨rfl,sl,z4⟩,?_⟩
       cases c1:(decide (btF S y.n≤16)) with
       |false =>
        try simp only [go_sem,hgj,ej,cz,cy,iv,vb,z5,o7,n7,ho,k1,k2,c1]
        refine Tq0 ?_
        replace hR:=lf false hR (by simp only [o7,n7,ho,k1,k2,c1,tfC])
        exact Y25
       |true =>
        try simp only [go_sem,hgj,ej,cz,cy,iv,vb,z5,o7,n7,ho,k1,k2,c1]
        refine Tq0 ?_
        replace hR:=lf true hR (by simp only [o7,n7,ho,k1,k2,c1,tfC])
        exact Y41
     |false =>
      have k3:=CO v3 ho k1 k2
      rw [k2,if_neg Bool.false_ne_true,k3,if_pos rfl] at hsr
      have hnl:y.n.toNat<x.params.length:=by have:=of_decide_eq_true hsr;omega
      have gp:=aV (f:=aL) (l:=x.params) (k:=y.n.toNat) (x:=x.params.getD y.n.toNat ⟨[],0⟩) (getD_some hnl)
      rw [show aL (x.params.getD y.n.toNat ⟨[],0⟩)=.agg [.str (x.params.getD y.n.toNat ⟨[],0⟩).name,.int .i64 (x.params.getD y.n.toNat ⟨[],0⟩).bits] from rfl] at gp
      replace hR:=af (E:=if kM y.op then (if y.kind==1 then decide (((bl y.value:Nat):Int)≤(if y.op==7 then 16 else btF S y.dst)) else if y.kind==2 then decide (btF S y.n≤(if y.op==7 then 16 else btF S y.dst)) else decide ((x.params.getD y.n.toNat ⟨[],0⟩).bits≤(if y.op==7 then 16 else btF S y.dst))) else true) hR
      cases bj with
      |false =>
       try simp only [go_sem,hgj,ej,cz,cy,iv,vb,gp,o7,n7,ho,k1,k2]
       exact Y24
      |true =>
       cases c1:(decide ((x.params.getD y.n.toNat ⟨[],0⟩).bits≤16)) with
       |false =>
        try simp only [go_sem,hgj,ej,cz,cy,iv,vb,gp,o7,n7,ho,k1,k2,c1]
        refine Tq0 ?_
        replace hR:=lf false hR (by simp only [o7,n7,ho,k1,k2,c1,tfC])
        exact Y25
       |true =>
        try simp only [go_sem,hgj,ej,cz,cy,iv,vb,gp,o7,n7,ho,k1,k2,c1]
        refine Tq0 ?_
        replace hR:=lf true hR (by simp only [o7,n7,ho,k1,k2,c1,tfC])
        exact Y41
   |false =>
    have n7:(y.op != 7)=true:=by rw [bne,o7];rfl
    rw [o7,Bool.false_or] at ho
    cases o3:decide (y.op > 3) with
    |true =>
     rw [o3,Bool.not_true] at ho
     try simp only [go_sem,hgj,ej,cz,cy,iv,vb,o7,n7,o3]
     refine Tq0 ?_
     try simp only [go_sem,hgj,ej,cz,cy,iv,vb,o7,n7,o3]
     replace hR:(bj&&((x.body.drop (j+1)).all (fun p=>mV S x p)&&((S.actions.drop (k+1)).all (fun t=>t.body.all fun p=>mV S t p)&&E)))=R:=by
      have hF2:mV S x y=true:=by unfold mV;rw [ho];rfl
      rw [← hR];show _=(bj&&((mV S x y&&_)&&_));rw [hF2,Bool.true_and]
     exact ⟨(j+1,bj),⟨om5,hR⟩,om5,en5 hcI⟩
    |false =>
     rw [o3,Bool.not_false] at ho
     obtain ⟨d4,d5⟩:=lW (PP v2 v3 o7 o3)
     try simp only [go_sem,hgj,ej,cz,cy,iv,vb,o7,n7,o3,d5]
     refine Tq0 ?_
     refine ⟨S,⟨rfl,sl,d4⟩,?_⟩
     have hsr:=Ho v2 ho
     cases k1:y.kind==1 with
     |true =>
      replace hR:=af (E:=if kM y.op then (if y.kind==1 then decide (((bl y.value:Nat):Int)≤(if y.op==7 then 16 else btF S y.dst)) else if y.kind==2 then decide (btF S y.n≤(if y.op==7 then 16 else btF S y.dst)) else decide ((x.params.getD y.n.toNat ⟨[],0⟩).bits≤(if y.op==7 then 16 else btF S y.dst))) else true) hR
      cases bj with
      |false =>
       try simp only [go_sem,hgj,ej,cz,cy,iv,vb,d5,o7,n7,o3,ho,k1]
       exact Y24
      |true =>
       cases c1:(decide (((bl y.value:Nat):Int)≤btF S y.dst)) with
       |false =>
        try simp only [go_sem,hgj,ej,cz,cy,iv,vb,d5,o7,n7,o3,ho,k1,c1]
        refine Tq0 ?_
        replace hR:=lf false hR (by simp only [o7,n7,o3,ho,k1,c1,tfC])
        exact Y25
       |true =>
        try simp only [go_sem,hgj,ej,cz,cy,iv,vb,d5,o7,n7,o3,ho,k1,c1]
        refine Tq0 ?_
        replace hR:=lf true hR (by simp only [o7,n7,o3,ho,k1,c1,tfC])
        exact Y41
     |false =>
      cases k2:y.kind==2 with
      |true =>
       rw [k2,if_pos rfl] at hsr
       obtain ⟨z4,z5⟩:=lW hsr
       replace hR:=af (E:=if kM y.op then (if y.kind==1 then decide (((bl y.value:Nat):Int)≤(if y.op==7 then 16 else btF S y.dst)) else if y.kind==2 then decide (btF S y.n≤(if y.op==7 then 16 else btF S y.dst)) else decide ((x.params.getD y.n.toNat ⟨[],0⟩).bits≤(if y.op==7 then 16 else btF S y.dst))) else true) hR
       cases bj with
       |false =>
        try simp only [go_sem,hgj,ej,cz,cy,iv,vb,z5,d5,o7,n7,o3,ho,k1,k2]
        exact Y24
       |true =>
        try simp only [go_sem,hgj,ej,cz,cy,iv,vb,z5,d5,o7,n7,o3,ho,k1,k2]
        refine Tq0 ?_
        refine ⟨S,⟨rfl,sl,z4⟩,?_⟩
        cases c1:(decide (btF S y.n≤btF S y.dst)) with
        |false =>
         try simp only [go_sem,hgj,ej,cz,cy,iv,vb,z5,d5,o7,n7,o3,ho,k1,k2,c1]
         refine Tq0 ?_
         replace hR:=lf false hR (by simp only [o7,n7,o3,ho,k1,k2,c1,tfC])
         exact Y25
        |true =>
         try simp only [go_sem,hgj,ej,cz,cy,iv,vb,z5,d5,o7,n7,o3,ho,k1,k2,c1]
         refine Tq0 ?_
         replace hR:=lf true hR (by simp only [o7,n7,o3,ho,k1,k2,c1,tfC])
         exact Y41
      |false =>
       have k3:=CO v3 ho k1 k2
       rw [k2,if_neg Bool.false_ne_true,k3,if_pos rfl] at hsr
       have hnl:y.n.toNat<x.params.length:=by have:=of_decide_eq_true hsr;omega
       have gp:=aV (f:=aL) (l:=x.params) (k:=y.n.toNat) (x:=x.params.getD y.n.toNat ⟨[],0⟩) (getD_some hnl)
       rw [show aL (x.params.getD y.n.toNat ⟨[],0⟩)=.agg [.str (x.params.getD y.n.toNat ⟨[],0⟩).name,.int .i64 (x.params.getD y.n.toNat ⟨[],0⟩).bits] from rfl] at gp
       replace hR:=af (E:=if kM y.op then (if y.kind==1 then decide (((bl y.value:Nat):Int)≤(if y.op==7 then 16 else btF S y.dst)) else if y.kind==2 then decide (btF S y.n≤(if y.op==7 then 16 else btF S y.dst)) else decide ((x.params.getD y.n.toNat ⟨[],0⟩).bits≤(if y.op==7 then 16 else btF S y.dst))) else true) hR
       cases bj with
       |false =>
        try simp only [go_sem,hgj,ej,cz,cy,iv,vb,gp,d5,o7,n7,o3,ho,k1,k2]
        exact Y24
       |true =>
        cases c1:(decide ((x.params.getD y.n.toNat ⟨[],0⟩).bits≤btF S y.dst)) with
        |false =>
         try simp only [go_sem,hgj,ej,cz,cy,iv,vb,gp,d5,o7,n7,o3,ho,k1,k2,c1]
         refine Tq0 ?_
         replace hR:=lf false hR (by simp only [o7,n7,o3,ho,k1,k2,c1,tfC])
         exact Y25
        |true =>
         try simp only [go_sem,hgj,ej,cz,cy,iv,vb,gp,d5,o7,n7,o3,ho,k1,k2,c1]
         refine Tq0 ?_
         replace hR:=lf true hR (by simp only [o7,n7,o3,ho,k1,k2,c1,tfC])
         exact Y41
  ·exact Y34
 ·exact Y62
theorem QM {S:Sch} {r:SRef} (h:pt S r):∃ b j,KeyAt S r.toTable r.toKey (mi S r) b j∧b.keys[r.toKey.toNat]?=some (mi S r):=by
 obtain ⟨b,e1,e2,e3,_⟩:=nO h
 obtain ⟨j,hj⟩:=yu e1 e2 e3
 exact ⟨b,j,hj,e3⟩
theorem HU {S:Sch} {r:SRef} (h:pt S r) (h0:(r.action==0)=true):∃ b j,KeyAt S r.table r.key (nv S r) b j∧b.keys[r.key.toNat]?=some (nv S r):=by
 obtain ⟨b,e1,e2,e3,e4⟩:=nO h
 rw [if_pos h0] at e4
 obtain ⟨a,a1,a2,a3⟩:=e4
 obtain ⟨j,hj⟩:=yu a1 a2 a3
 exact ⟨a,j,hj,a3⟩
structure ActAt (S:Sch) (n:Int) (a:SAction) (j:Nat):Prop where
 fd:S.actions.find? (fun t=>t.id==n)=some a
 ix:ixP (fun t:SAction=>t.id==n) S.actions 0=(j:Int)
 lt:j<S.actions.length
 gt:(S.actions.map ap).getD j .junk=.agg (iA a)
theorem KK {S:Sch} {n:Int} {a:SAction} (h:S.actions.find? (fun t=>t.id==n)=some a):∃ j,ActAt S n a j:=by
 obtain ⟨j,j1,g2,l2⟩:=lz h
 exact ⟨j,h,j1,l2,aV (f:=ap) (l:=S.actions) (k:=j) (x:=a) g2⟩
theorem PZ {S:Sch} {n:Int} (h:gy S n=true):∃ (b:STable) (j:Nat),S.tables.find? (fun t=>t.id==n)=some b∧ixP (fun t:STable=>t.id==n) S.tables 0=(j:Int)∧j<S.tables.length∧(S.tables.map ax).getD j .junk=.agg (ip b):=by
 unfold gy at h
 rw [List.any_eq_true] at h
 obtain ⟨y,hy,h2⟩:=h
 cases hf:S.tables.find? (fun t=>t.id==n) with
 |none=>exact absurd h2 (by have:=List.find?_eq_none.1 hf y hy;simpa using this)
 |some b =>
  obtain ⟨j,j1,g2,l2⟩:=lz hf
  exact ⟨b,j,rfl,j1,l2,aV (f:=ax) (l:=S.tables) (k:=j) (x:=b) g2⟩
theorem yb {a b:Nat}:((a:Int)==(b:Int))=decide (a=b):=by rw [Bool.eq_iff_iff];simp;omega
def eT:PCt
 |[.agg l],_,K=>∃ S:Sch,(l=aR S∧SB S∧FitK S∧∀ a∈S.actions,a.params.length≤1000)∧K (.bool (tbB S))
 |_,_,_=>False
theorem FC:EPp 49 eT:=by
 refine Ype fun _ H K h=>?_
 unfold eT at h
 split at h<;>try exact h.elim
 rename_i l
 obtain ⟨S,⟨rfl,hS,hF,hpl⟩,hK⟩:=h
 refine ⟨_,hK,?_⟩
 clear hK
 obtain ⟨E,hE⟩:∃ E:Bool,E=true:=⟨true,rfl⟩
 generalize hR:tbB S=R
 unfold tbB at hR
 have sl:=hS.sl
 replace hR:(true&&((S.tables.all (tmF S))&&((S.roles.all fun t=>t.grants.all fun g=>gkB S g)&&((S.refs.all (ma S))&&E))))=R:=by rw [← hR,hE];simp only [Bool.true_and,Bool.and_true]
 refine Yfw aE (tCq kv (tCq yS (tCq jr (tCq yK tNq)))) Tryz.func49 [.tmp 2] (nrq _) (T:=aB [(5,[[],[],[],[],[],[],[],[4,6],[],[7],[],[],[3,4,6,7,9,11]]),(13,[[],[],[],[],[],[],[],[],[],[],[7,9],[],[],[10]]),(19,[[],[],[],[],[],[],[3,5],[],[6],[],[],[0,2,3,5,6,8,10]]),(22,[[],[],[],[],[],[],[3,5],[],[6],[],[],[0,2,3,5,6,8,10]]),(23,[[],[],[],[],[],[2,4],[],[],[5],[],[],[],[],[5]])]) (h:=fun hcl=>?_)
 have hcH:=lm (S:=S) hcl
 unfold aR
 refine Tq15 ?_
 refine lpB S.tables (tmF S) (fun k bk=>[(3,.bool bk),(1,.ptr H.nx 0),(15,.slice .any 8 (S.tables.map ax)),(16,.int .i64 (S.tables.length:Int)),(17,.int .i64 (k:Int))]) (ff H S) hR (en5 hcH) ?_
 clear hR
 intro k bk hk hR
 have hbk:=sl.tl
 refine Tq15 ?_
 refine csL hk (fun hk'=>?_) fun hk'=>?_
 ·skip
  obtain ⟨x,hmk,hgk,hR⟩:=hdL ax ip hk' hR
  have ek:=ek5 k
  obtain ⟨a,fa,q1,q2,q3⟩:=hF.t x hmk
  obtain ⟨aj,⟨a1,a2,a3,a4⟩⟩:=KK fa
  have hma:=List.mem_of_find?_eq_some fa
  have hpa:=hpl a hma
  have htm:tmF S x=xE a.params x.dargs:=by unfold tmF;rw [fa]
  replace hR:=af (E:=tmF S x) hR
  cases bk with
  |false =>
   try simp only [go_sem,hgk,ek,aU,dt,aP,dq,a2,a4,htm]
   exact Y23
  |true =>
   try simp only [go_sem,hgk,ek,aU,dt,aP,dq,a2,a4,htm]
   refine Tq0 ?_
   refine ⟨S,⟨rfl,sl⟩,?_⟩
   try simp only [go_sem,a2,a4,aU,dt,aP,dq]
   refine Tq0 ?_
   refine ⟨a,x.dargs,⟨rfl,rfl,hpa,q3⟩,?_⟩
   cases c0:(xE a.params x.dargs) with
   |false =>
    try simp only [go_sem,hgk,ek,aU,dt,aP,dq,a2,a4,htm,c0]
    refine Tq0 ?_
    replace hR:=lf false hR (by simp only [htm,c0,tfC])
    exact Y26
   |true =>
    try simp only [go_sem,hgk,ek,aU,dt,aP,dq,a2,a4,htm,c0]
    refine Tq0 ?_
    replace hR:=lf true hR (by simp only [htm,c0,tfC])
    exact Y43
 ·skip
  replace hR:=ndL hk' hR
  subst hk'
  refine Tq28 ?_
  refine lpB S.roles (fun t=>t.grants.all fun g=>gkB S g) (fun k bk=>[(3,.bool bk),(1,.ptr H.nx 0),(37,.slice .any 6 (S.roles.map aN)),(38,.int .i64 (S.roles.length:Int)),(39,.int .i64 (k:Int))]) (ff H S) hR (en5 hcH) ?_
  clear hR
  intro k bk hk hR
  have hbk:=sl.rl
  refine Tq15 ?_
  refine csL hk (fun hk'=>?_) fun hk'=>?_
  ·skip
   obtain ⟨x,hmk,hgk,hR⟩:=hdL aN mQ hk' hR
   have ek:=ek5 k
   have hcI:=yp hcH x
   rw [Bool.and_assoc] at hR
   refine Tq45 ?_
   refine Tq0 ?_
   refine lpB x.grants (fun g=>gkB S g) (fun j bj=>[(3,.bool bj),(1,.ptr H.nx 0),(37,.slice .any 6 (S.roles.map aN)),(38,.int .i64 (S.roles.length:Int)),(39,.int .i64 (k:Int)),(44,.slice .any 4 (x.grants.map aJ)),(45,.int .i64 (x.grants.length:Int)),(46,.int .i64 (j:Int))]) ((ff H S).push (.cells (mQ x))) hR (en5 hcI) ?_
   clear hR
   intro j bj hj hR
   have hbj:=(hS.rn x hmk).2.1
   refine Tq15 ?_
   refine csL hj (fun hj'=>?_) fun hj'=>?_
   ·skip
    obtain ⟨y,hmj,hgj,hR⟩:=hdL aJ yw hj' hR
    have ej:=ek5 j
    obtain ⟨tb,tj,fb,b1,b2,b3⟩:=PZ (hF.r x hmk y hmj)
    have hgk2:gkB S y=decide (y.keys.length=tb.keys.length):=by unfold gkB;rw [fb]
    have hbl:(boL y.keys).length=y.keys.length:=by unfold boL;rw [ybb]
    replace hR:=af (E:=gkB S y) hR
    cases bj with
    |false =>
     try simp only [go_sem,hgj,ej,aU,dt,aP,dq,b1,b3,hbl,yb,hgk2]
     exact Y24
    |true =>
     try simp only [go_sem,hgj,ej,aU,dt,aP,dq,b1,b3,hbl,yb,hgk2]
     refine Tq0 ?_
     refine ⟨S,⟨rfl,sl⟩,?_⟩
     cases c0:(decide (y.keys.length=tb.keys.length)) with
     |false =>
      try simp only [go_sem,hgj,ej,aU,dt,aP,dq,b1,b3,hbl,yb,hgk2,c0]
      refine Tq0 ?_
      replace hR:=lf false hR (by simp only [hgk2,c0,tfC])
      exact Y25
     |true =>
      try simp only [go_sem,hgj,ej,aU,dt,aP,dq,b1,b3,hbl,yb,hgk2,c0]
      refine Tq0 ?_
      replace hR:=lf true hR (by simp only [hgk2,c0,tfC])
      exact Y41
   ·exact Y34
  ·skip
   replace hR:=ndL hk' hR
   subst hk'
   refine Tq28 ?_
   refine lpB S.refs (ma S) (fun k bk=>[(3,.bool bk),(1,.ptr H.nx 0),(70,.slice .any 6 (S.refs.map a9)),(71,.int .i64 (S.refs.length:Int)),(72,.int .i64 (k:Int))]) (ff H S) hR (en5 hcH) ?_
   clear hR
   intro k bk hk hR
   have hbk:=hS.xl
   refine Tq15 ?_
   refine csL hk (fun hk'=>?_) fun hk'=>?_
   ·skip
    obtain ⟨x,hmk,hgk,hR⟩:=hdL a9 D6 hk' hR
    have ek:=ek5 k
    obtain ⟨ro,rt,rf⟩:=hF.x x hmk
    obtain ⟨tb,tj,⟨t1,t2,t3,t4,t5,t6⟩,t7⟩:=QM ro
    obtain ⟨z1,z2⟩:=lW rt
    try simp only [go_sem,hgk,ek,aU,dt,aP,dq]
    refine Tq0 ?_
    refine ⟨S,⟨rfl,sl⟩,?_⟩
    try simp only [go_sem,hgk,ek,aU,dt,aP,dq,t1,t3,t6]
    refine Tq0 ?_
    refine ⟨S,tb,x.toKey.toNat,mi S x,⟨rfl,rfl,by omega,t7,sl,z1⟩,?_⟩
    cases a0:x.action==0 with
    |true =>
     obtain ⟨fb,fj,⟨f1,f2,f3,f4,f5,f6⟩,f7⟩:=HU ro a0
     obtain ⟨z3,z4⟩:=lW (rf a0)
     have hrw:ma S x=(btF S (nv S x).field==btF S (mi S x).field):=by unfold ma;rw [a0,if_pos rfl]
     try simp only [go_sem,hgk,ek,aU,dt,aP,dq,t1,t3,t6,z2,a0]
     refine Tq0 ?_
     refine ⟨S,⟨rfl,sl⟩,?_⟩
     try simp only [go_sem,hgk,ek,aU,dt,aP,dq,f1,f3,f6,z2,a0]
     refine Tq0 ?_
     refine ⟨S,fb,x.key.toNat,nv S x,⟨rfl,rfl,by omega,f7,sl,z3⟩,?_⟩
     replace hR:=af (E:=ma S x) hR
     cases bk with
     |false =>
      try simp only [go_sem,hgk,ek,aU,dt,aP,dq,z2,z4,a0,hrw]
      exact Y23
     |true =>
      cases c0:(btF S (nv S x).field==btF S (mi S x).field) with
      |false =>
       try simp only [go_sem,hgk,ek,aU,dt,aP,dq,z2,z4,a0,hrw,c0]
       refine Tq0 ?_
       replace hR:=lf false hR (by simp only [hrw,c0,tfC])
       exact Y26
      |true =>
       try simp only [go_sem,hgk,ek,aU,dt,aP,dq,z2,z4,a0,hrw,c0]
       refine Tq0 ?_
       replace hR:=lf true hR (by simp only [hrw,c0,tfC])
       exact Y43
    |false =>
     obtain ⟨c,fc,hcp⟩:=yE ro a0
     obtain ⟨aj,⟨a1,a2,a3,a4⟩⟩:=KK fc
     obtain ⟨_,_,_,p0⟩:=ro
     have gp:=aV (f:=aL) (l:=c.params) (k:=x.param.toNat) (x:=c.params.getD x.param.toNat ⟨[],0⟩) (getD_some hcp)
     rw [show aL (c.params.getD x.param.toNat ⟨[],0⟩)=.agg [.str (c.params.getD x.param.toNat ⟨[],0⟩).name,.int .i64 (c.params.getD x.param.toNat ⟨[],0⟩).bits] from rfl] at gp
     have hrw:ma S x=((c.params.getD x.param.toNat ⟨[],0⟩).bits==btF S (mi S x).field):=by unfold ma;rw [a0,if_neg Bool.false_ne_true,fc]
     try simp only [go_sem,hgk,ek,aU,dt,aP,dq,t1,t3,t6,z2,a0]
     refine Tq0 ?_
     refine ⟨S,⟨rfl,sl⟩,?_⟩
     try simp only [go_sem,hgk,ek,aU,dt,aP,dq,a2,a4,gp,z2,a0]
     refine Tq0 ?_
     replace hR:=af (E:=ma S x) hR
     cases bk with
     |false =>
      try simp only [go_sem,hgk,ek,aU,dt,aP,dq,z2,a2,a4,gp,a0,hrw]
      exact Y23
     |true =>
      cases c0:((c.params.getD x.param.toNat ⟨[],0⟩).bits==btF S (mi S x).field) with
      |false =>
       try simp only [go_sem,hgk,ek,aU,dt,aP,dq,z2,a2,a4,gp,a0,hrw,c0]
       refine Tq0 ?_
       replace hR:=lf false hR (by simp only [hrw,c0,tfC])
       exact Y26
      |true =>
       try simp only [go_sem,hgk,ek,aU,dt,aP,dq,z2,a2,a4,gp,a0,hrw,c0]
       refine Tq0 ?_
       replace hR:=lf true hR (by simp only [hrw,c0,tfC])
       exact Y43
   ·exact Y62
def iN (l:List Nat):List Int:=List.map (fun n:Nat=>(n:Int)) l
theorem ub {n:Nat}:∀ {l:List Nat},(iN l).contains (n:Int)=l.contains n
 |[]=>rfl
 |x::l=>by
  unfold iN
  rw [yae,List.contains_cons,List.contains_cons]
  have ih:=ub (n:=n) (l:=l)
  unfold iN at ih
  rw [ih]
  have:((n:Int)==(x:Int))=(n==x):=by rw [Bool.eq_iff_iff];simp;omega
  rw [this]
theorem pr {l:List Nat}:(iN l).length=l.length:=ybb _
theorem M7 {l:List Nat} {i:Nat}:iN (l++[i])=iN l++[(i:Int)]:=by simp [iN]
def fnd (q:Nat→Bool) (n:Nat):Nat→Nat→Option Nat
 |0,_=>none
 |f+1,i=>if i<n then (if q i then some i else fnd q n f (i+1)) else none
theorem wa {q:Nat→Bool}:∀ {f i:Nat},fnd q (i+f) f i=(List.range' i f).find? q
 |0,i=>rfl
 |f+1,i=>by
  rw [fnd,if_pos (by omega),List.range'_succ,List.find?_cons]
  cases h:q i with
  |true=>simp
  |false =>
   simp only [Bool.false_eq_true,if_false]
   rw [show i+(f+1)=i+1+f by omega]
   exact wa
theorem De {q:List Nat→Nat→Bool} {n:Nat} {o:List Nat}:rnd q n o=match fnd (q o) n n 0 with|some i=>o++[i]|none=>o:=by
 unfold rnd
 have:=wa (q:=q o) (f:=n) (i:=0)
 rw [nzq] at this
 rw [this,List.range_eq_range']
 cases List.find? (q o) (List.range' 0 n)<;>rfl
def fQ:PCt
 |[.agg l],_,K=>∃ S:Sch,(l=aR S∧SB S∧ov S)∧K (.slice .any 1 (inL (iN (l8 S))))
 |_,_,_=>False
theorem xB {S:Sch} {n:Int} (h:n∈fE S):ixP (fun t:STable=>t.id==n) S.tables 0=((ixT S n:Nat):Int):=by
 obtain ⟨t,ht,rfl⟩:=List.mem_map.1 h
 have h1:decide (0≤ixP (fun x:STable=>x.id==t.id) S.tables 0)=true:=by rw [eC,List.any_eq_true];exact ⟨t,ht,by simp⟩
 have h2:=of_decide_eq_true h1
 unfold ixT
 omega
theorem B3:EPp 18 fQ:=by
 refine Ype fun _ H K h=>?_
 unfold fQ at h
 split at h<;>try exact h.elim
 rename_i l
 obtain ⟨S,⟨rfl,hS,hI⟩,hK⟩:=h
 refine ⟨_,hK,?_⟩
 clear hK
 have sl:=hS.sl
 have htl:=sl.tl
 have hxl:=hS.xl
 obtain ⟨q,hq⟩:∃ q,q=oJ (kh S.refs) (fE S) (ixT S):=⟨_,rfl⟩
 obtain ⟨O,hO⟩:∃ O,l8 S=O:=⟨_,rfl⟩
 rw [hO]
 have hR:nT q S.tables.length S.tables.length []=O:=by rw [← hO,hq];rfl
 clear hO
 refine Yfu aE (tCq je (tCq jr tNq)) Tryz.func18 [.tmp 2] fun hcl=>?_
 have hcp:(ff H S).Closed:=ah hcl (nJ S)
 have hg0:(ff H S).get H.nx=some (.cells [.slice .any 3 (S.fields.map aG),.slice .any 3 (S.headers.map az),.slice .any 5 (S.states.map aA),.slice .any 5 (S.actions.map ap),.slice .any 8 (S.tables.map ax),.slice .any 2 (S.stages.map aO),.slice .any 6 (S.roles.map aN),.slice .any 6 (S.refs.map a9),.int .i64 S.maxBatch,.int .i64 S.budget]):=AHeap.get_push_new _ _
 obtain ⟨Hb,hHb⟩:∃ Hb,(ff H S)=Hb:=⟨_,rfl⟩
 have hnb:Hb.nx=H.nx+1:=by rw [← hHb];rfl
 have hHle:H.Le Hb:=by rw [← hHb];exact (lRq _).push _
 rw [hHb] at hcp hg0
 have hne0:(H.nx=Hb.nx)=False:=eFo
 have hcs0:=aM hg0
 have hne1:(H.nx=Hb.nx+1)=False:=eFo
 have hlo:∀ n' (L':List Int),Hb.nx<n'→AV.lt n' (.slice (.own Hb.nx) 1 (inL L')):=fun n' L' h=>by
  exact Y79
 unfold aR
 simp only [go_sem,hHb,ybb,hne0,hne1,hcs0]
 obtain ⟨id,hid⟩:∃ id,id=Hb.nx+1:=⟨_,rfl⟩
 rw [← hid]
 have hlo:∀ n' (L':List Int),id<n'→AV.lt n' (.slice (.own id) 1 (inL L')):=fun n' L' h=>by
  exact Y79
 have hts:AV.lt 0 (.slice .any 8 (S.tables.map ax)):=aa cS
 have htm:∀ n',AV.lt n' (.slice .any 8 (S.tables.map ax)):=fun n'=>aa cS
 have hrm:∀ n',AV.lt n' (.slice .any 6 (S.refs.map a9)):=fun n'=>aa iJ
 have hlid:id<((Hb.push (.buf 1 0)).push (.buf 1 0)).nx:=by simp only [zle];omega
 have hgi:((Hb.push (.buf 1 0)).push (.buf 1 0)).get id=some (.buf 1 0):=by rw [hid];exact AHeap.get_push_new (Hb.push (.buf 1 0)) _
 refine aC (A:=Nat × List Nat × AHeap) (fun a=>[(1,.ptr H.nx 0),(3,.slice (.own id) 1 (inL (iN a.2.1))),(11,.int .i64 (S.tables.length:Int)),(12,.int .i64 (a.1:Int))]) (fun a=>a.2.2)
  (fun a=>a.1≤S.tables.length∧nT q S.tables.length (S.tables.length - a.1) a.2.1=O∧a.2.1.length≤a.1∧Hb.Le a.2.2∧a.2.2.Closed∧a.2.2.get id=some (.buf 1 a.2.1.length)) (fun a=>S.tables.length - a.1) (0,[],(Hb.push (.buf 1 0)).push (.buf 1 0)) ⟨Nat.zero_le _,hR,nrq _,((lRq _).push _).push _,bc (bc hcp),hgi⟩ ?_ fun a ha=>?_
 ·have hcb:=@bc (Hb.push (.buf 1 0)) 1 0 (bc hcp)
  simp only [iN,inL,yaf]
  refine ⟨by (try simp only [zkq,zkv,zle]);omega,lRq _,hcb,?_,?_⟩
  ·simp [ltF,znf,znn,zle,cC,znv]
   try omega
  ·exact Y13
 obtain ⟨k,out,Hc⟩:=a
 obtain ⟨hk,hRn,hol,hle,hcc,hgi⟩:=ha
 dsimp only at hk hRn hol hle hcc hgi ⊢
 clear hR
 have hlnx:=glq hgi
 have hgc:=hle.get _ _ hg0
 have hcsc:=aM hgc
 have hneH:(H.nx=Hc.nx)=False:=eFo
 refine Tq15 ?_
 refine au (fun hc=>?_) (fun hc=>?_)
 ·have hk':k<S.tables.length:=sHc
  clear hc
  have ek:IntKind.i64.wrap ((k:Int)+1)=((k+1:Nat):Int):=by rw [wrap_i64]<;>omega
  rw [show S.tables.length - k=(S.tables.length - (k+1))+1 by omega,nT,De] at hRn
  simp only [go_sem,hcsc,ybb]
  obtain ⟨FR,hFR⟩:∃ FR,fnd (q out) S.tables.length S.tables.length 0=FR:=⟨_,rfl⟩
  rw [hFR] at hRn
  refine aC (A:=Nat) (fun i=>[(1,.ptr H.nx 0),(3,.slice (.own id) 1 (inL (iN out))),(11,.int .i64 (S.tables.length:Int)),(12,.int .i64 (k:Int)),(15,.slice .any 8 (S.tables.map ax)),(16,.int .i64 (S.tables.length:Int)),(17,.int .i64 (i:Int))]) (fun _=>Hc)
   (fun i=>i≤S.tables.length∧fnd (q out) S.tables.length (S.tables.length - i) i=FR) (fun i=>S.tables.length - i) 0 ⟨Nat.zero_le _,hFR⟩ ?_ fun i hi=>?_
  ·refine ⟨by (try simp only [zkq,zkv,zle]);omega,lRq _,hcc,?_,?_⟩
   ·simp [ltF,znf,znn,zle,htm,hlo _ _ hlnx]
    try omega
   ·exact Y150
  clear hFR
  obtain ⟨hi,hFR⟩:=hi
  refine Tq15 ?_
  refine au (fun hc=>?_) (fun hc=>?_)
  ·have hi':i<S.tables.length:=sHc
   clear hc
   obtain ⟨x,hx⟩:∃ z0,z0=S.tables[i]:=⟨_,rfl⟩
   have hgx:=aV (f:=ax) (l:=S.tables) (k:=i) (x:=x) (by rw [gQq hi',hx])
   rw [show ax x=.agg (ip x) from rfl] at hgx
   have ei:IntKind.i64.wrap ((i:Int)+1)=((i+1:Nat):Int):=by rw [wrap_i64]<;>omega
   have hgD:(fE S).getD i 0=x.id:=by
    unfold fE
    rw [gEq,List.getElem?_map,gQq hi',hx];rfl
   have hQ:q out i=(!(out.contains i)&&S.refs.all fun r=>!(r.table==x.id)||out.contains (ixT S r.toTable)):=by
    rw [hq];unfold oJ kh;rw [List.all_map,hgD];rfl
   have hin:decide (ixP (fun z=>z==(i:Int)) (iN out) 0<0)=!(out.contains i):=by
    rw [← ub,← ix_has]
    by_cases h:ixP (fun z=>z==(i:Int)) (iN out) 0<0
    ·rw [dtq h,dfq (by omega)];rfl
    ·rw [dfq h,dtq (by omega)];rfl
   obtain ⟨b0,hb0⟩:∃ b0,(!(out.contains i))=b0:=⟨_,rfl⟩
   have hneH2:(H.nx=Hc.nx+1)=False:=eFo
   have hob:(iN out).length≤1000000:=by rw [pr];omega
   obtain ⟨E,hE⟩:∃ E:Bool,E=true:=⟨true,rfl⟩
   obtain ⟨R,hRq⟩:∃ R,q out i=R:=⟨_,rfl⟩
   have hR:(!(out.contains i)&&((S.refs.all fun r=>!(r.table==x.id)||out.contains (ixT S r.toTable))&&E))=R:=by rw [← hRq,hQ,hE,Bool.and_true]
   rw [hb0] at hin hR
   simp only [go_sem,hgx,bD]
   refine Tq0 ?_
   refine ⟨iN out,⟨rfl,hob⟩,?_⟩
   simp only [go_sem,hin,hneH,hcsc,ybb]
   have hcT:(Hc.push (.cells (ip x))).Closed:=ah hcc (by have:=cS (n:=Hc.nx+1) x;simp only [ax,znr] at this;exact this)
   refine lpB S.refs (fun r=>!(r.table==x.id)||out.contains (ixT S r.toTable)) (fun j bj=>[(6,.bool bj),(1,.ptr H.nx 0),(3,.slice (.own id) 1 (inL (iN out))),(4,.int .i64 (i:Int)),(5,.ptr Hc.nx 0),(11,.int .i64 (S.tables.length:Int)),(12,.int .i64 (k:Int)),(15,.slice .any 8 (S.tables.map ax)),(16,.int .i64 (S.tables.length:Int)),(17,.int .i64 (i:Int)),(27,.slice .any 6 (S.refs.map a9)),(28,.int .i64 (S.refs.length:Int)),(29,.int .i64 (j:Int))]) (Hc.push (.cells (ip x))) hR (en5 hcT (d:=by (simp [ltF,zle,znn,znf,zng,aa gD,aa fA,aa ey,aa iU,aa iC,aa fH,aa eP,aa j3,aa cS,aa gX,aa fV,aa gM,aa iJ,kS,fD,htm,hrm,hlo _ _ (Nat.lt_succ_of_lt hlnx)];try omega))) ?_
   clear hR
   intro j bj hj hR
   have hbj:=hxl
   refine Tq15 ?_
   refine csL hj (fun hj'=>?_) fun hj'=>?_
   ·skip
    obtain ⟨y,hmj,hgj,hR⟩:=hdL a9 D6 hj' hR
    have ej:=ek5 j
    have ixt:=xB (hI y hmj).2
    have hio:decide (ixP (fun z=>z==((ixT S y.toTable:Nat):Int)) (iN out) 0 ≥ 0)=out.contains (ixT S y.toTable):=ix_has.trans ub
    replace hR:=af (E:=!(y.table==x.id)||out.contains (ixT S y.toTable)) hR
    cases bj with
    |false =>
     try simp only [go_sem,hgj,ej,bD,aP,hio,hcsc,hneH,hneH2]
     refine Tq0 ?_
     replace hR:=lff hR
     exact Y75
    |true =>
     cases c0:(y.table==x.id) with
     |false =>
      have na:(y.table != x.id)=true:=by rw [bne,c0];rfl
      try simp only [go_sem,hgj,ej,bD,aP,hio,hcsc,hneH,hneH2,c0,na]
      refine Tq0 ?_
      replace hR:=lf true hR (by simp only [c0,na,tfC])
      exact Y76
     |true =>
      have na:(y.table != x.id)=false:=by rw [bne,c0];rfl
      try simp only [go_sem,hgj,ej,bD,aP,hio,hcsc,hneH,hneH2,c0,na]
      refine Tq0 ?_
      refine ⟨S,⟨rfl,sl⟩,?_⟩
      try simp only [go_sem,ixt,hgj,ej,bD,aP,hcsc,hneH,hneH2]
      refine Tq0 ?_
      refine ⟨iN out,⟨rfl,hob⟩,?_⟩
      cases c1:(out.contains (ixT S y.toTable)) with
      |false =>
       try simp only [go_sem,hgj,ej,bD,aP,hio,hcsc,hneH,hneH2,c0,na,c1]
       refine Tq0 ?_
       replace hR:=lf false hR (by simp only [c0,na,c1,tfC])
       exact Y75
      |true =>
       try simp only [go_sem,hgj,ej,bD,aP,hio,hcsc,hneH,hneH2,c0,na,c1]
       refine Tq0 ?_
       replace hR:=lf true hR (by simp only [c0,na,c1,tfC])
       exact Y76
   ·skip
    replace hR:=ndL hj' hR
    subst hj'
    rw [hE,Bool.and_true] at hR
    subst hR
    rw [show S.tables.length - i=(S.tables.length - (i+1))+1 by omega,fnd,if_pos hi'] at hFR
    cases bj with
    |false =>
     rw [hRq,if_neg Bool.false_ne_true] at hFR
     try simp only [go_sem,ei]
     refine ⟨i+1,⟨by omega,hFR⟩,by omega,by (try simp only [zkq,zkv,zle]);omega,by repeat first|exact .refl _|refine .push ?_ _,hcc,?_,?_⟩
     ·simp [ltF,znf,znn,htm,hlo _ _ hlnx]
      try omega
     ·exact Y150
    |true =>
     rw [hRq,if_pos rfl] at hFR
     subst hFR
     try simp only [go_sem,ek]
     have hln:(inL (iN out)).length=out.length:=by unfold inL;rw [ybb,pr]
     have hsn:inL (iN out)++[AV.int .i64 (i:Int)]=inL (iN (out++[i])):=by rw [M7];simp [inL]
     rw [hln,hsn]
     have hcs2:(Hc.set id (.buf 1 (out.length+1))).Closed:=bh hcc
     refine ⟨⟨by rw [if_neg (by omega),if_neg (by omega)];exact hgi,by omega,by omega,fun z hz=>by rw [List.mem_singleton.1 hz];rfl⟩,(k+1,out++[i],Hc.set id (.buf 1 (out.length+1))),⟨by dsimp only;omega,hRn,by dsimp only;rw [lAq];simp;omega,cB hle (by omega),hcs2,?_⟩,by dsimp only;omega,?_⟩
     ·dsimp only
      rw [aI,if_pos rfl,if_pos hlnx,lAq];rfl
     ·rw [if_neg (show ¬ id=Hc.nx+1 by omega),if_neg (show ¬ id=Hc.nx by omega)]
      dsimp only
      refine eNt hcs2 ?_ ?_
      ·simp [ltF,znf,znn,zlf,hlo _ _ hlnx]
       try omega
      ·exact Y150
  ·have hi':i=S.tables.length:=sHc
   clear hc
   rw [hi',Nat.sub_self,fnd] at hFR
   subst hFR
   simp only [go_sem,ek]
   refine ⟨(k+1,out,Hc),⟨by dsimp only;omega,hRn,by dsimp only;omega,hle,hcc,hgi⟩,by dsimp only;omega,by (try simp only [zkq,zkv]);omega,lRq _,hcc,?_,?_⟩
   ·simp [ltF,znf,znn,hlo _ _ hlnx]
    try omega
   ·exact Y150
 ·have hk':k=S.tables.length:=sHc
  subst hk'
  rw [Nat.sub_self,nT] at hRn
  subst hRn
  have hHl:=hHle.trans hle
  refine Tq15 ?_
  refine ⟨by simp [wk,wk2,wk1,wkM,fJ],hHl,hcl,?_⟩
  exact fD
theorem cf {n id:Nat} {xs:List AV} (h:id<n) (hx:ltL n xs):AV.lt n (.slice (.own id) 1 xs):=by
 rw [AV.lt]
 exact ⟨fun i e=>by cases e;exact h,fun j hj=>ltL_iff.1 hx j hj⟩
theorem n6 {n:Nat} {l:List (List UInt8)}:ltL n (l.map AV.str):=ltL_iff.2 fun j hj=>by rw [List.getElem_map,znh];trivial
theorem zh {n:Nat} {l:List Int}:ltL n (l.map (AV.int .i64)):=ltL_iff.2 fun j hj=>by rw [List.getElem_map,znf];trivial
theorem eb {n:Nat} {l:List (List UInt8)}:AV.lt n (.slice .any 1 (l.map AV.str)):=aa fun y=>by rw [znh];trivial
def eY:PCt
 |[.agg l],_,K=>∃ S:Sch,(l=aR S∧SB S∧SI S)∧K (.bool (D3 S))
 |_,_,_=>False
theorem Il:EPp 42 eY:=by
 refine Ype fun _ H K h=>?_
 unfold eY at h
 split at h<;>try exact h.elim
 rename_i l
 obtain ⟨S,⟨rfl,hS,hI⟩,hK⟩:=h
 refine ⟨_,hK,?_⟩
 clear hK
 obtain ⟨E,hE⟩:∃ E:Bool,E=true:=⟨true,rfl⟩
 generalize hR:D3 S=R
 unfold D3 at hR
 have sl:=hS.sl
 obtain ⟨X3,hX3⟩:∃ z,z=(onF [] (S.fields.map (·.name))&&(onF [] (S.headers.map (·.name))&&(onF [] (S.actions.map (·.name))&&(onF [] (S.tables.map (·.name))&&(onF [] (S.roles.map (·.name))&&onF [] (S.headers.flatMap (·.fields))))))):=⟨_,rfl⟩
 obtain ⟨X2,hX2⟩:∃ z,z=((S.roles.all fun t=>onF [] (t.grants.map (·.table))&&onF [] t.actions)&&X3):=⟨_,rfl⟩
 obtain ⟨X1,hX1⟩:∃ z,z=((S.tables.all fun t=>onF [] (t.keys.map (·.name))&&onF [] t.actions)&&X2):=⟨_,rfl⟩
 obtain ⟨X0,hX0⟩:∃ z,z=((S.actions.all fun t=>onF [] (t.params.map (·.name)))&&X1):=⟨_,rfl⟩
 replace hR:(true&&(((qB S).all fun l=>onF [] l)&&X0))=R:=by rw [← hR,hX0,hX1,hX2,hX3];rfl
 have hil:=CX sl
 refine Yfw aE (tCq F7 (tCq J7 (tCq nA tNq))) Tryz.func42 [.tmp 2] (nrq _) (T:=aB [(17,[[],[],[],[2],[2],[],[],[],[2,7]])]) (h:=fun hcl=>?_)
 have hcH:=lm (S:=S) hcl
 have hg0:(ff H S).get H.nx=some (.cells [.slice .any 3 (S.fields.map aG),.slice .any 3 (S.headers.map az),.slice .any 5 (S.states.map aA),.slice .any 5 (S.actions.map ap),.slice .any 8 (S.tables.map ax),.slice .any 2 (S.stages.map aO),.slice .any 6 (S.roles.map aN),.slice .any 6 (S.refs.map a9),.int .i64 S.maxBatch,.int .i64 S.budget]):=AHeap.get_push_new _ _
 unfold aR
 simp only [go_sem,dw,du,cm,dd]
 refine ⟨S,⟨rfl,sl⟩,?_⟩
 refine Tq28 ?_
 have hidC:[sI (S.fields.map (·.id)),sI (S.headers.map (·.id)),sI (S.states.map (·.id)),sI (S.actions.map (·.id)),sI (S.tables.map (·.id)),sI (S.roles.map (·.id))]=(qB S).map sI:=rfl
 have hidN:(qB S).length=6:=rfl
 rw [hidC]
 obtain ⟨D,hD⟩:∃ D,qB S=D:=⟨_,rfl⟩
 rw [hD] at hil hR hidN ⊢
 clear hD hidC
 have hLD:∀ n':Nat,ltL n' (D.map sI):=fun n'=>ltL_iff.2 fun j hj=>by rw [List.getElem_map];exact fD
 refine aC (A:=Nat × Bool) (fun a=>[(3,.bool a.2),(1,.ptr H.nx 0),(32,.agg (D.map sI)),(33,.int .i64 (a.1:Int))]) (fun _=>(ff H S))
  (fun a=>a.1≤6∧(a.2&&((D.drop a.1).all (fun l=>onF [] l)&&X0))=R) (fun a=>6 - a.1) (0,_) ⟨Nat.zero_le _,hR⟩ ?_ fun a ha=>?_
 ·skip
  exact Y78
 clear hR
 obtain ⟨k,bk⟩:=a
 obtain ⟨hk,hR⟩:=ha
 dsimp only at hk hR ⊢
 refine Tq15 ?_
 refine au (fun hc=>?_) (fun hc=>?_)
 ·skip
  have hk':k<6:=sHc
  clear hc
  obtain ⟨x,hxk⟩:∃ z0,z0=D[k]:=⟨_,rfl⟩
  have hdk:D.drop k=x::D.drop (k+1):=by rw [hxk];exact dcq (by omega)
  have hmk:x∈D:=by rw [hxk];exact gMq (by omega)
  have hgk:=aV (f:=sI) (l:=D) (k:=k) (x:=x) (by rw [gQq (by omega),hxk])
  rw [show sI x=.slice .any 1 (inL x) from rfl] at hgk
  have ek:IntKind.i64.wrap ((k:Int)+1)=((k+1:Nat):Int):=by rw [wrap_i64]<;>omega
  rw [hdk,List.all_cons] at hR
  clear hxk hdk
  replace hR:(bk&&((onF [] x)&&((D.drop (k+1)).all (fun l=>onF [] l)&&X0)))=R:=by rw [← hR,Bool.and_assoc]
  replace hR:=ae (E:=onF [] x) hR
  cases bk with
  |false =>
   try simp only [go_sem,hgk,ek,dw,du,cm,dd,hidN]
   refine Tq0 ?_
   replace hR:=lff hR
   refine ⟨(k+1,false),⟨by dsimp only;omega,hR⟩,by dsimp only;omega,?_⟩
   exact Y78
  |true =>
   try simp only [go_sem,hgk,ek,dw,du,cm,dd,hidN]
   refine Tq0 ?_
   refine ⟨x,⟨rfl,hil x hmk⟩,?_⟩
   cases c1:(onF [] x) with
   |false =>
    try simp only [go_sem,hgk,ek,dw,du,cm,dd,hidN,c1]
    refine Tq0 ?_
    replace hR:=lf false hR (by simp only [c1,tfC])
    refine ⟨(k+1,false),⟨by dsimp only;omega,hR⟩,by dsimp only;omega,?_⟩
    exact Y78
   |true =>
    try simp only [go_sem,hgk,ek,dw,du,cm,dd,hidN,c1]
    refine Tq0 ?_
    replace hR:=lf true hR (by simp only [c1,tfC])
    refine ⟨(k+1,true),⟨by dsimp only;omega,hR⟩,by dsimp only;omega,?_⟩
    exact Y78
 ·skip
  have hk':k=6:=sHc
  clear hc
  rw [show D.drop k=[] by rw [List.drop_eq_nil_iff];omega,List.all_nil,Bool.true_and] at hR
  clear hLD hil hidN hk hk'
  obtain ⟨Hb,hHb⟩:∃ Hb,(ff H S)=Hb:=⟨_,rfl⟩
  have hnb:Hb.nx=H.nx+1:=by rw [← hHb];rfl
  have hHle:H.Le Hb:=by rw [← hHb];exact (lRq _).push _
  rw [hHb] at hcH hg0 ⊢
  clear hHb
  have hcs0:=aM hg0
  have hnes:(H.nx=Hb.nx)=False∧(H.nx=Hb.nx+1)=False∧(H.nx=Hb.nx+1+1)=False∧(H.nx=Hb.nx+1+1+1)=False∧(H.nx=Hb.nx+1+1+1+1)=False∧(H.nx=Hb.nx+1+1+1+1+1)=False:=⟨eFo,eFo,eFo,eFo,eFo,eFo⟩
  try simp only [go_sem,hnes,hcs0,ybb]
  obtain ⟨i11,h11⟩:∃ i,i=Hb.nx+1+1+1+1+1:=⟨_,rfl⟩
  obtain ⟨i10,h10⟩:∃ i,i=Hb.nx+1+1+1+1:=⟨_,rfl⟩
  obtain ⟨i9,h9⟩:∃ i,i=Hb.nx+1+1+1:=⟨_,rfl⟩
  obtain ⟨i8,h8⟩:∃ i,i=Hb.nx+1+1:=⟨_,rfl⟩
  obtain ⟨i7,h7⟩:∃ i,i=Hb.nx+1:=⟨_,rfl⟩
  obtain ⟨i6,h6⟩:∃ i,i=Hb.nx:=⟨_,rfl⟩
  rw [← h11,← h10,← h9,← h8,← h7]
  obtain ⟨HX,hHX⟩:∃ HX,(((((Hb.push (.buf 1 0)).push (.buf 1 0)).push (.buf 1 0)).push (.buf 1 0)).push (.buf 1 0)).push (.buf 1 0)=HX:=⟨_,rfl⟩
  have hXl:Hb.Le HX:=by rw [← hHX];repeat first|exact .refl _|refine .push ?_ _
  have hXc:HX.Closed:=by rw [← hHX];exact bc (bc (bc (bc (bc (bc hcH)))))
  have hXn:HX.nx=Hb.nx+6:=by rw [← hHX];simp only [zle]
  have g6:HX.get i6=some (.buf 1 0):=by rw [← hHX,h6];simp [zlh,zle]
  have g7:HX.get i7=some (.buf 1 0):=by rw [← hHX,h7];simp [zlh,zle]
  have g8:HX.get i8=some (.buf 1 0):=by rw [← hHX,h8];simp [zlh,zle]
  have g9:HX.get i9=some (.buf 1 0):=by rw [← hHX,h9];simp [zlh,zle]
  have g10:HX.get i10=some (.buf 1 0):=by rw [← hHX,h10];simp [zlh,zle]
  have g11:HX.get i11=some (.buf 1 0):=by rw [← hHX,h11];simp [zlh,zle]
  rw [hHX]
  have hs6:AV.slice (.own Hb.nx) 1 []=AV.slice (.own i6) 1 []:=by rw [h6]
  rw [hs6]
  clear hHX hnes hs6
  obtain ⟨T6,hT6⟩:∃ T6:Nat→List AV,T6=fun k=>((S.fields.take k).map (·.name)).map AV.str:=⟨_,rfl⟩
  have T60:T6 0=[]:=by rw [hT6];rfl
  have T6L:∀ n k,ltL n (T6 k):=fun n k=>by rw [hT6];exact n6
  have hn:=sl.fl
  refine aC (A:=Nat × AHeap) (fun a=>[(1,.ptr H.nx 0),(3,.bool bk),(6,.slice (.own i6) 1 (T6 a.1)),(7,.slice (.own i7) 1 []),(8,.slice (.own i8) 1 []),(9,.slice (.own i9) 1 []),(10,.slice (.own i10) 1 []),(11,.slice (.own i11) 1 []),(43,.slice .any 3 (S.fields.map aG)),(44,.int .i64 (S.fields.length:Int)),(45,.int .i64 (a.1:Int))]) (fun a=>a.2)
   (fun a=>a.1≤S.fields.length∧Hb.Le a.2∧a.2.Closed∧a.2.get i6=some (.buf 1 a.1)∧a.2.get i7=some (.buf 1 0)∧a.2.get i8=some (.buf 1 0)∧a.2.get i9=some (.buf 1 0)∧a.2.get i10=some (.buf 1 0)∧a.2.get i11=some (.buf 1 0)) (fun a=>S.fields.length - a.1) (0,HX) ⟨Nat.zero_le _,hXl,hXc,g6,g7,g8,g9,g10,g11⟩ ?_ fun a ha=>?_
  ·simp only [T60]
   have o6:AV.lt HX.nx (.slice (.own i6) 1 []):=cf (by omega) trivial
   have o7:AV.lt HX.nx (.slice (.own i7) 1 []):=cf (by omega) trivial
   have o8:AV.lt HX.nx (.slice (.own i8) 1 []):=cf (by omega) trivial
   have o9:AV.lt HX.nx (.slice (.own i9) 1 []):=cf (by omega) trivial
   have o10:AV.lt HX.nx (.slice (.own i10) 1 []):=cf (by omega) trivial
   have o11:AV.lt HX.nx (.slice (.own i11) 1 []):=cf (by omega) trivial
   exact en5 hXc (d:=by (simp [ltF,zle,zlf,znn,znf,zng,ltZ,eb,o6,o7,o8,o9,o10,o11];try omega))
  clear g6 g7 g8 g9 g10 g11 hXl hXc hXn
  obtain ⟨k,Hc⟩:=a
  obtain ⟨hk,hle,hcc,g6,g7,g8,g9,g10,g11⟩:=ha
  dsimp only at hk hle hcc g6 g7 g8 g9 g10 g11 ⊢
  have n11:=glq g11
  have hgc:=hle.get _ _ hg0
  have hcsc:=aM hgc
  have hneH:(H.nx=Hc.nx)=False:=eFo
  refine Tq15 ?_
  refine au (fun hc=>?_) (fun hc=>?_)
  ·skip
   have hk':k<S.fields.length:=sHc
   clear hc
   obtain ⟨x,hxk⟩:∃ z0,z0=S.fields[k]:=⟨_,rfl⟩
   have hmk:x∈S.fields:=by rw [hxk];exact gMq hk'
   have htk:S.fields.take (k+1)=S.fields.take k++[x]:=by rw [hxk,List.take_succ_eq_append_getElem hk']
   have hgk:=aV (f:=aG) (l:=S.fields) (k:=k) (x:=x) (by rw [gQq hk',hxk])
   rw [show aG x=.agg (AO x) from rfl] at hgk
   have ek:IntKind.i64.wrap ((k:Int)+1)=((k+1:Nat):Int):=by rw [wrap_i64]<;>omega
   have hll:(T6 k).length=k:=by rw [hT6,ybb,ybb,List.length_take];omega
   have hsn:T6 k++[AV.str x.name]=T6 (k+1):=by rw [hT6];dsimp only;rw [htk];simp
   simp only [go_sem,hgk,ek]
   try simp only [hll,hsn]
   have hcs2:(Hc.set i6 (.buf 1 (k+1))).Closed:=bh hcc
   have o6:AV.lt Hc.nx (.slice (.own i6) 1 (T6 (k+1))):=cf (by omega) (T6L _ _)
   have o7:AV.lt Hc.nx (.slice (.own i7) 1 []):=cf (by omega) trivial
   have o8:AV.lt Hc.nx (.slice (.own i8) 1 []):=cf (by omega) trivial
   have o9:AV.lt Hc.nx (.slice (.own i9) 1 []):=cf (by omega) trivial
   have o10:AV.lt Hc.nx (.slice (.own i10) 1 []):=cf (by omega) trivial
   have o11:AV.lt Hc.nx (.slice (.own i11) 1 []):=cf (by omega) trivial
   refine ⟨⟨by omega,by omega⟩,⟨by rw [if_neg (by omega),if_neg (by omega)];exact g6,by omega,by omega,fun z hz=>by rw [List.mem_singleton.1 hz];rfl⟩,(k+1,Hc.set i6 (.buf 1 (k+1))),⟨by dsimp only;omega,cB hle (by omega),hcs2,by dsimp only;rw [aI,if_pos rfl,if_pos (by omega)],by dsimp only;rw [aI,if_neg (by omega)];exact g7,by dsimp only;rw [aI,if_neg (by omega)];exact g8,by dsimp only;rw [aI,if_neg (by omega)];exact g9,by dsimp only;rw [aI,if_neg (by omega)];exact g10,by dsimp only;rw [aI,if_neg (by omega)];exact g11⟩,by dsimp only;omega,?_⟩
   rw [if_neg (show ¬ i6=Hc.nx+1 by omega),if_neg (show ¬ i6=Hc.nx by omega)]
   dsimp only
   exact en5 hcs2 (d:=by (simp [ltF,zle,zlf,znn,znf,zng,ltZ,eb,o6,o7,o8,o9,o10,o11];try omega))
  ·have hk':k=S.fields.length:=sHc
   subst hk'
   clear hc
   have hT:T6 S.fields.length=((S.fields.map (·.name)).map AV.str):=by rw [hT6];dsimp only;rw [List.take_length]
   rw [hT]
   clear hT T60 T6L hT6
   refine Tq75 ?_
   obtain ⟨T7,hT7⟩:∃ T7:Nat→List AV,T7=fun k=>((S.headers.take k).map (·.name)).map AV.str:=⟨_,rfl⟩
   have T70:T7 0=[]:=by rw [hT7];rfl
   have T7L:∀ n k,ltL n (T7 k):=fun n k=>by rw [hT7];exact n6
   obtain ⟨T11,hT11⟩:∃ T11:Nat→List AV,T11=fun k=>((S.headers.take k).flatMap (·.fields)).map (AV.int .i64):=⟨_,rfl⟩
   have T110:T11 0=[]:=by rw [hT11];rfl
   have T11L:∀ n k,ltL n (T11 k):=fun n k=>by rw [hT11];exact zh
   have hn2:=sl.hl
   obtain ⟨q11,hq11⟩:∃ q:Nat→Nat,q=fun k=>((S.headers.take k).flatMap (·.fields)).length:=⟨_,rfl⟩
   have q110:q11 0=0:=by rw [hq11];rfl
   refine aC (A:=Nat × AHeap) (fun a=>[(1,.ptr H.nx 0),(3,.bool bk),(6,.slice .any 1 ((S.fields.map (·.name)).map AV.str)),(7,.slice (.own i7) 1 (T7 a.1)),(8,.slice (.own i8) 1 []),(9,.slice (.own i9) 1 []),(10,.slice (.own i10) 1 []),(11,.slice (.own i11) 1 (T11 a.1)),(56,.slice .any 3 (S.headers.map az)),(57,.int .i64 (S.headers.length:Int)),(58,.int .i64 (a.1:Int))]) (fun a=>a.2)
    (fun a=>a.1≤S.headers.length∧Hb.Le a.2∧a.2.Closed∧a.2.get i7=some (.buf 1 a.1)∧a.2.get i8=some (.buf 1 0)∧a.2.get i9=some (.buf 1 0)∧a.2.get i10=some (.buf 1 0)∧a.2.get i11=some (.buf 1 (q11 a.1))) (fun a=>S.headers.length - a.1) (0,Hc) ⟨Nat.zero_le _,hle,hcc,g7,g8,g9,g10,by dsimp only;rw [q110];exact g11⟩ ?_ fun a ha=>?_
   ·simp only [T70,T110]
    have hst:AV.lt Hc.nx (.slice .any 1 ((S.fields.map (·.name)).map AV.str)):=eb
    generalize ((S.fields.map (·.name)).map AV.str)=T6 at *
    have o7:AV.lt Hc.nx (.slice (.own i7) 1 []):=cf (by omega) trivial
    have o8:AV.lt Hc.nx (.slice (.own i8) 1 []):=cf (by omega) trivial
    have o9:AV.lt Hc.nx (.slice (.own i9) 1 []):=cf (by omega) trivial
    have o10:AV.lt Hc.nx (.slice (.own i10) 1 []):=cf (by omega) trivial
    have o11:AV.lt Hc.nx (.slice (.own i11) 1 []):=cf (by omega) trivial
    exact en5 hcc (d:=by (simp [ltF,zle,zlf,znn,znf,zng,ltZ,eb,o7,o8,o9,o10,o11,hst];try omega))
   clear g6 g7 g8 g9 g10 g11 hle hcc hgc hcsc hneH n11
   have hst:∀ n,AV.lt n (.slice .any 1 ((S.fields.map (·.name)).map AV.str)):=fun _=>eb
   obtain ⟨T6,hT6⟩:∃ T6,((S.fields.map (·.name)).map AV.str)=T6:=⟨_,rfl⟩
   rw [hT6] at hst ⊢
   obtain ⟨k,Hc⟩:=a
   obtain ⟨hk,hle,hcc,g7,g8,g9,g10,g11⟩:=ha
   dsimp only at hk hle hcc g7 g8 g9 g10 g11 ⊢
   have n11:=glq g11
   have hgc:=hle.get _ _ hg0
   have hcsc:=aM hgc
   have hneH:(H.nx=Hc.nx)=False:=eFo
   refine Tq15 ?_
   refine au (fun hc=>?_) (fun hc=>?_)
   ·skip
    have hk':k<S.headers.length:=sHc
    clear hc
    obtain ⟨x,hxk⟩:∃ z0,z0=S.headers[k]:=⟨_,rfl⟩
    have hmk:x∈S.headers:=by rw [hxk];exact gMq hk'
    have htk:S.headers.take (k+1)=S.headers.take k++[x]:=by rw [hxk,List.take_succ_eq_append_getElem hk']
    have hgk:=aV (f:=az) (l:=S.headers) (k:=k) (x:=x) (by rw [gQq hk',hxk])
    rw [show az x=.agg (mR x) from rfl] at hgk
    have ek:IntKind.i64.wrap ((k:Int)+1)=((k+1:Nat):Int):=by rw [wrap_i64]<;>omega
    have hll:(T7 k).length=k:=by rw [hT7,ybb,ybb,List.length_take];omega
    have hll2:(T11 k).length=q11 k:=by rw [hT11,hq11];exact ybb _
    have hsn:T7 k++[AV.str x.name]=T7 (k+1):=by rw [hT7];dsimp only;rw [htk];simp
    have hfn:T11 k++inL x.fields=T11 (k+1):=by rw [hT11];dsimp only;rw [htk];simp [inL]
    have hfk:q11 (k+1)=q11 k+x.fields.length:=by rw [hq11];dsimp only;rw [htk];simp
    have hfl:q11 (k+1)≤1000000:=by
     have h1:S.headers.flatMap (·.fields)=((S.headers.take (k+1)).flatMap (·.fields))++((S.headers.drop (k+1)).flatMap (·.fields)):=by rw [← List.flatMap_append,List.take_append_drop]
     have h2:=hI.ul
     rw [h1,lAq] at h2
     rw [hq11];dsimp only;omega
    have nf:(i7=Hc.nx)=False∧(i7=Hc.nx+1)=False∧(i11=Hc.nx)=False∧(i11=Hc.nx+1)=False∧(i7=i11)=False∧(i11=i7)=False∧(Hc.nx=i7)=False∧(Hc.nx=i11)=False:=⟨eFo,eFo,eFo,eFo,eFo,eFo,eFo,eFo⟩
    simp only [go_sem,hgk,ek,nf,hll,hll2,hsn,hfn,ib,← hfk]
    try simp only [go_sem,hll,hll2,hsn,hfn,ib,← hfk,nf]
    have hcs2:((Hc.set i7 (.buf 1 (k+1))).set i11 (.buf 1 (q11 (k+1)))).Closed:=bh (bh hcc)
    have o7:AV.lt Hc.nx (.slice (.own i7) 1 (T7 (k+1))):=cf (by omega) (T7L _ _)
    have o11:AV.lt Hc.nx (.slice (.own i11) 1 (T11 (k+1))):=cf (by omega) (T11L _ _)
    have o8:AV.lt Hc.nx (.slice (.own i8) 1 []):=cf (by omega) trivial
    have o9:AV.lt Hc.nx (.slice (.own i9) 1 []):=cf (by omega) trivial
    have o10:AV.lt Hc.nx (.slice (.own i10) 1 []):=cf (by omega) trivial
    refine ⟨⟨by omega,by omega⟩,⟨g7,by omega,by omega,fun z hz=>by rw [List.mem_singleton.1 hz];rfl⟩,⟨by rw [aI,if_neg (by omega)];exact g11,by omega,by omega,fun z hz=>by (simp only [inL,List.mem_map] at hz;obtain ⟨n,_,rfl⟩:=hz;rfl)⟩,(k+1,(Hc.set i7 (.buf 1 (k+1))).set i11 (.buf 1 (q11 (k+1)))),⟨by dsimp only;omega,cB (cB hle (by omega)) (by omega),hcs2,by dsimp only;rw [aI,if_neg (by omega),aI,if_pos rfl,if_pos (by omega)],by dsimp only;rw [aI,if_neg (by omega),aI,if_neg (by omega)];exact g8,by dsimp only;rw [aI,if_neg (by omega),aI,if_neg (by omega)];exact g9,by dsimp only;rw [aI,if_neg (by omega),aI,if_neg (by omega)];exact g10,by dsimp only;rw [aI,if_pos rfl,if_pos (by rw [zlf];omega)]⟩,by dsimp only;omega,?_⟩
    dsimp only
    exact en5 hcs2 (d:=by (simp [ltF,zle,zlf,znn,znf,zng,ltZ,eb,o7,o11,o8,o9,o10,hst];try omega))
   ·have hk':k=S.headers.length:=sHc
    subst hk'
    clear hc
    have hT:T7 S.headers.length=((S.headers.map (·.name)).map AV.str):=by rw [hT7];dsimp only;rw [List.take_length]
    have hTb:T11 S.headers.length=((S.headers.flatMap (·.fields)).map (AV.int .i64)):=by rw [hT11];dsimp only;rw [List.take_length]
    rw [hT,hTb]
    clear hT hTb T70 T7L hT7 T110 T11L hT11 q110 hst
    refine Tq75 ?_
    obtain ⟨T7,hT7⟩:∃ T7,((S.headers.map (·.name)).map AV.str)=T7:=⟨_,rfl⟩
    obtain ⟨T11,hT11⟩:∃ T11,((S.headers.flatMap (·.fields)).map (AV.int .i64))=T11:=⟨_,rfl⟩
    rw [hT7,hT11]
    have hst6:∀ n,AV.lt n (.slice .any 1 T6):=fun _=>by rw [← hT6];exact eb
    have hst7:∀ n,AV.lt n (.slice .any 1 T7):=fun _=>by rw [← hT7];exact eb
    have hst11:∀ n,AV.lt n (.slice .any 1 T11):=fun _=>by rw [← hT11];exact kS
    clear hq11 g7 g11
    obtain ⟨U8,hU8⟩:∃ U8:Nat→List AV,U8=fun k=>((S.actions.take k).map (·.name)).map AV.str:=⟨_,rfl⟩
    have U80:U8 0=[]:=by rw [hU8];rfl
    have U8L:∀ n k,ltL n (U8 k):=fun n k=>by rw [hU8];exact n6
    have hn8:=sl.al
    rw [hX0] at hR
    refine aC (A:=Nat × Bool × AHeap) (fun a=>[(1,.ptr H.nx 0),(3,.bool a.2.1),(6,.slice .any 1 T6),(7,.slice .any 1 T7),(11,.slice .any 1 T11),(8,.slice (.own i8) 1 (U8 a.1)),(9,.slice (.own i9) 1 []),(10,.slice (.own i10) 1 []),(73,.slice .any 5 (S.actions.map ap)),(74,.int .i64 (S.actions.length:Int)),(75,.int .i64 (a.1:Int))]) (fun a=>a.2.2)
     (fun a=>a.1≤S.actions.length∧Hb.Le a.2.2∧a.2.2.Closed∧a.2.2.get i8=some (.buf 1 a.1)∧a.2.2.get i9=some (.buf 1 0)∧a.2.2.get i10=some (.buf 1 0)∧(a.2.1&&((S.actions.drop a.1).all (fun t=>onF [] (t.params.map (·.name)))&&X1))=R) (fun a=>S.actions.length - a.1) (0,_,Hc) ⟨Nat.zero_le _,hle,hcc,g8,g9,g10,hR⟩ ?_ fun a ha=>?_
    ·simp only [U80]
     have o8:AV.lt Hc.nx (.slice (.own i8) 1 []):=cf (by omega) trivial
     have o9:AV.lt Hc.nx (.slice (.own i9) 1 []):=cf (by omega) trivial
     have o10:AV.lt Hc.nx (.slice (.own i10) 1 []):=cf (by omega) trivial
     exact en5 hcc (d:=by (simp [ltF,zle,zlf,znn,znf,zng,ltZ,eb,o8,o9,o10,hst6,hst7,hst11];try omega))
    clear hR g8 g9 g10 hle hcc hgc hcsc hneH n11
    obtain ⟨k,bk,Hc⟩:=a
    obtain ⟨hk,hle,hcc,g8,g9,g10,hR⟩:=ha
    dsimp only at hk hle hcc g8 g9 g10 hR ⊢
    have n10:=glq g10
    have hgc:=hle.get _ _ hg0
    have hcsc:=aM hgc
    have hneH:(H.nx=Hc.nx)=False:=eFo
    refine Tq15 ?_
    refine au (fun hc=>?_) (fun hc=>?_)
    ·skip
     have hk':k<S.actions.length:=sHc
     clear hc
     obtain ⟨x,hxk⟩:∃ z0,z0=S.actions[k]:=⟨_,rfl⟩
     have hmk:x∈S.actions:=by rw [hxk];exact gMq hk'
     have htk:S.actions.take (k+1)=S.actions.take k++[x]:=by rw [hxk,List.take_succ_eq_append_getElem hk']
     have hgk:=aV (f:=ap) (l:=S.actions) (k:=k) (x:=x) (by rw [gQq hk',hxk])
     rw [show ap x=.agg (iA x) from rfl] at hgk
     have ek:IntKind.i64.wrap ((k:Int)+1)=((k+1:Nat):Int):=by rw [wrap_i64]<;>omega
     have hdk:S.actions.drop k=x::S.actions.drop (k+1):=by rw [hxk];exact dcq hk'
     rw [hdk,List.all_cons] at hR
     have hll:(U8 k).length=k:=by rw [hU8,ybb,ybb,List.length_take];omega
     have hsn:U8 k++[AV.str x.name]=U8 (k+1):=by rw [hU8];dsimp only;rw [htk];simp
     have nf:(i8=Hc.nx)=False∧(i8=Hc.nx+1)=False∧(i8=Hc.nx+1+1)=False∧(Hc.nx=i8)=False:=⟨eFo,eFo,eFo,eFo⟩
     refine Tq47 ?_
     refine ⟨⟨by omega,by omega⟩,⟨g8,by omega,by omega,fun z hz=>by rw [List.mem_singleton.1 hz];rfl⟩,?_⟩
     obtain ⟨HI,hHI⟩:∃ HI,((Hc.set i8 (.buf 1 (k+1))).push (.cells (iA x))).push (.buf 1 1)=HI:=⟨_,rfl⟩
     rw [hHI]
     have hcs2:(Hc.set i8 (.buf 1 (k+1))).Closed:=bh hcc
     have hIn:HI.nx=Hc.nx+1+1:=by rw [← hHI];rfl
     have hIl:(Hc.set i8 (.buf 1 (k+1))).Le HI:=by rw [← hHI];repeat first|exact .refl _|refine .push ?_ _
     have hIc:HI.Closed:=by
      rw [← hHI]
      exact bc (ah hcs2 (by have:=eP (n:=Hc.nx+1) x;simp only [ap,znr] at this;exact this))
     have hIo:HI.get Hc.nx=some (.cells (iA x)):=by
      rw [← hHI,zlh,if_neg (by simp only [zle,zlf];omega)]
      exact AHeap.get_push_new (Hc.set i8 (.buf 1 (k+1))) _
     clear hHI
     obtain ⟨ji,hji⟩:∃ j,j=Hc.nx+1+1:=⟨_,rfl⟩
     rw [← hji]
     obtain ⟨V,hV⟩:∃ V:Nat→List AV,V=fun k=>((x.params.take k).map (·.name)).map AV.str:=⟨_,rfl⟩
     have V0:V 0=[]:=by rw [hV];rfl
     have VL:∀ n k,ltL n (V k):=fun n k=>by rw [hV];exact n6
     have hmI:=(hS.an x hmk).2.1
     have hgV:(HI.push (.buf 1 0)).get ji=some (.buf 1 0):=by rw [hji,← hIn];exact AHeap.get_push_new _ _
     refine aC (A:=Nat × AHeap) (fun a=>[(1,.ptr H.nx 0),(3,.bool bk),(6,.slice .any 1 T6),(7,.slice .any 1 T7),(11,.slice .any 1 T11),(8,.slice (.own i8) 1 (U8 (k+1))),(9,.slice (.own i9) 1 []),(10,.slice (.own i10) 1 []),(18,.slice (.own ji) 1 (V a.1)),(73,.slice .any 5 (S.actions.map ap)),(74,.int .i64 (S.actions.length:Int)),(75,.int .i64 (k:Int)),(85,.slice .any 2 (x.params.map aL)),(86,.int .i64 (x.params.length:Int)),(87,.int .i64 (a.1:Int))]) (fun a=>a.2)
      (fun a=>a.1≤x.params.length∧HI.Le a.2∧a.2.Closed∧a.2.get ji=some (.buf 1 a.1)) (fun a=>x.params.length - a.1) (0,HI.push (.buf 1 0)) ⟨Nat.zero_le _,(lRq _).push _,bc hIc,hgV⟩ ?_ fun a ha=>?_
     ·simp only [V0]
      have oV:AV.lt (HI.nx+1) (.slice (.own ji) 1 []):=cf (by omega) trivial
      have o8:AV.lt (HI.nx+1) (.slice (.own i8) 1 (U8 (k+1))):=cf (by omega) (U8L _ _)
      have o9:AV.lt (HI.nx+1) (.slice (.own i9) 1 []):=cf (by omega) trivial
      have o10:AV.lt (HI.nx+1) (.slice (.own i10) 1 []):=cf (by omega) trivial
      exact en5 (bc hIc) (d:=by (simp [ltF,zle,zlf,znn,znf,zng,ltZ,eb,o8,o9,o10,oV,hst6,hst7,hst11];try omega))
     clear hgV
     obtain ⟨j,Hi⟩:=a
     obtain ⟨hj,hle2,hcc2,gV⟩:=ha
     dsimp only at hj hle2 hcc2 gV ⊢
     have nV:=glq gV
     have hIoc:=aM (hle2.get _ _ hIo)
     have hnxi:HI.nx≤Hi.nx:=hle2.nx
     refine Tq15 ?_
     refine au (fun hc=>?_) (fun hc=>?_)
     ·skip
      have hj':j<x.params.length:=sHc
      clear hc
      obtain ⟨y,hxj⟩:∃ z0,z0=x.params[j]:=⟨_,rfl⟩
      have hmj:y∈x.params:=by rw [hxj];exact gMq hj'
      have htj:x.params.take (j+1)=x.params.take j++[y]:=by rw [hxj,List.take_succ_eq_append_getElem hj']
      have hgj:=aV (f:=aL) (l:=x.params) (k:=j) (x:=y) (by rw [gQq hj',hxj])
      rw [show aL y=.agg (BM y) from rfl] at hgj
      have ej:IntKind.i64.wrap ((j:Int)+1)=((j+1:Nat):Int):=by rw [wrap_i64]<;>omega
      have hllV:(V j).length=j:=by rw [hV,ybb,ybb,List.length_take];omega
      have hsnV:V j++[AV.str y.name]=V (j+1):=by rw [hV];dsimp only;rw [htj];simp
      have nf2:(ji=Hi.nx)=False∧(ji=Hi.nx+1)=False∧(Hi.nx=ji)=False∧(Hc.nx=Hi.nx)=False∧(Hc.nx=Hi.nx+1)=False:=⟨eFo,eFo,eFo,eFo,eFo⟩
      refine Tq41 ?_
      have hcsV:(Hi.set ji (.buf 1 (j+1))).Closed:=bh hcc2
      have oV:AV.lt Hi.nx (.slice (.own ji) 1 (V (j+1))):=cf (by omega) (VL _ _)
      have o8:AV.lt Hi.nx (.slice (.own i8) 1 (U8 (k+1))):=cf (by omega) (U8L _ _)
      have o9:AV.lt Hi.nx (.slice (.own i9) 1 []):=cf (by omega) trivial
      have o10:AV.lt Hi.nx (.slice (.own i10) 1 []):=cf (by omega) trivial
      refine ⟨⟨by omega,by omega⟩,⟨gV,by omega,by omega,fun z hz=>by rw [List.mem_singleton.1 hz];rfl⟩,(j+1,Hi.set ji (.buf 1 (j+1))),⟨by dsimp only;omega,cB hle2 (by omega),hcsV,by dsimp only;rw [aI,if_pos rfl,if_pos (by omega)]⟩,by dsimp only;omega,?_⟩
      dsimp only
      exact en5 hcsV (d:=by (simp [ltF,zle,zlf,znn,znf,zng,ltZ,eb,o8,o9,o10,oV,hst6,hst7,hst11];try omega))
     ·skip
      have hj':j=x.params.length:=sHc
      subst hj'
      clear hc
      have hVm:V x.params.length=(x.params.map (·.name)).map AV.str:=by rw [hV];dsimp only;rw [List.take_length]
      rw [hVm]
      clear hVm V0 VL hV gV
      replace hR:(bk&&((onF [] (x.params.map (·.name)))&&((S.actions.drop (k+1)).all (fun t=>onF [] (t.params.map (·.name)))&&X1)))=R:=by rw [← hR];show _=(bk&&(((onF [] (x.params.map (·.name)))&&_)&&_));rw [Bool.and_assoc]
      replace hR:=ae (E:=onF [] (x.params.map (·.name))) hR
      cases bk with
      |false =>
       refine Tq37 ?_
       refine Tq0 ?_
       replace hR:=lff hR
       exact Y45
      |true =>
       refine Tq37 ?_
       refine Tq0 ?_
       refine ⟨x.params.map (·.name),⟨rfl,by rw [ybb];exact hmI⟩,?_⟩
       cases c1:(onF [] (x.params.map (·.name))) with
       |false =>
        refine Tq32 ?_
        refine Tq0 ?_
        replace hR:=lf false hR (by simp only [c1,tfC])
        exact Y45
       |true =>
        refine Tq32 ?_
        refine Tq0 ?_
        replace hR:=lf true hR (by simp only [c1,tfC])
        have o8:AV.lt Hc.nx (.slice (.own i8) 1 (U8 (k+1))):=cf (by omega) (U8L _ _)
        have o9:AV.lt Hc.nx (.slice (.own i9) 1 []):=cf (by omega) trivial
        have o10:AV.lt Hc.nx (.slice (.own i10) 1 []):=cf (by omega) trivial
        refine ⟨(k+1,true,Hc.set i8 (.buf 1 (k+1))),⟨by dsimp only;omega,cB hle (by omega),hcs2,by dsimp only;rw [aI,if_pos rfl,if_pos (by omega)],by dsimp only;rw [aI,if_neg (by omega)];exact g9,by dsimp only;rw [aI,if_neg (by omega)];exact g10,hR⟩,by dsimp only;omega,by (try simp only [zkq,zkv,zle,zlf]);omega,hIl.trans hle2,hcs2,by (simp [ltF,zlf,znn,znf,zng,ltZ,eb,o8,o9,o10,hst6,hst7,hst11];try omega),by simp [bg,wk2,wk1,wkM,Fr.get,fJ]⟩
    ·have hk':k=S.actions.length:=sHc
     subst hk'
     clear hc
     rw [List.drop_length,List.all_nil,Bool.true_and] at hR
     have hT:U8 S.actions.length=((S.actions.map (·.name)).map AV.str):=by rw [hU8];dsimp only;rw [List.take_length]
     rw [hT]
     clear hT U80 U8L hU8
     obtain ⟨T8,hT8⟩:∃ T8,((S.actions.map (·.name)).map AV.str)=T8:=⟨_,rfl⟩
     rw [hT8]
     have hst8:∀ n,AV.lt n (.slice .any 1 T8):=fun _=>by rw [← hT8];exact eb
     refine Tq75 ?_
     obtain ⟨U9,hU9⟩:∃ U9:Nat→List AV,U9=fun k=>((S.tables.take k).map (·.name)).map AV.str:=⟨_,rfl⟩
     have U90:U9 0=[]:=by rw [hU9];rfl
     have U9L:∀ n k,ltL n (U9 k):=fun n k=>by rw [hU9];exact n6
     have hn9:=sl.tl
     rw [hX1] at hR
     refine aC (A:=Nat × Bool × AHeap) (fun a=>[(1,.ptr H.nx 0),(3,.bool a.2.1),(6,.slice .any 1 T6),(7,.slice .any 1 T7),(8,.slice .any 1 T8),(11,.slice .any 1 T11),(9,.slice (.own i9) 1 (U9 a.1)),(10,.slice (.own i10) 1 []),(104,.slice .any 8 (S.tables.map ax)),(105,.int .i64 (S.tables.length:Int)),(106,.int .i64 (a.1:Int))]) (fun a=>a.2.2)
      (fun a=>a.1≤S.tables.length∧Hb.Le a.2.2∧a.2.2.Closed∧a.2.2.get i9=some (.buf 1 a.1)∧a.2.2.get i10=some (.buf 1 0)∧(a.2.1&&((S.tables.drop a.1).all (fun t=>onF [] (t.keys.map (·.name))&&onF [] t.actions)&&X2))=R) (fun a=>S.tables.length - a.1) (0,_,Hc) ⟨Nat.zero_le _,hle,hcc,g9,g10,hR⟩ ?_ fun a ha=>?_
     ·simp only [U90]
      have o9:AV.lt Hc.nx (.slice (.own i9) 1 []):=cf (by omega) trivial
      have o10:AV.lt Hc.nx (.slice (.own i10) 1 []):=cf (by omega) trivial
      exact en5 hcc (d:=by (simp [ltF,zle,zlf,znn,znf,zng,ltZ,eb,o9,o10,hst6,hst7,hst8,hst11];try omega))
     clear hR g9 g10 hle hcc hgc hcsc hneH n10
     obtain ⟨k,bk,Hc⟩:=a
     obtain ⟨hk,hle,hcc,g9,g10,hR⟩:=ha
     dsimp only at hk hle hcc g9 g10 hR ⊢
     have n10:=glq g10
     have hgc:=hle.get _ _ hg0
     have hcsc:=aM hgc
     have hneH:(H.nx=Hc.nx)=False:=eFo
     refine Tq15 ?_
     refine au (fun hc=>?_) (fun hc=>?_)
     ·skip
      have hk':k<S.tables.length:=sHc
      clear hc
      obtain ⟨x,hxk⟩:∃ z0,z0=S.tables[k]:=⟨_,rfl⟩
      have hmk:x∈S.tables:=by rw [hxk];exact gMq hk'
      have htk:S.tables.take (k+1)=S.tables.take k++[x]:=by rw [hxk,List.take_succ_eq_append_getElem hk']
      have hgk:=aV (f:=ax) (l:=S.tables) (k:=k) (x:=x) (by rw [gQq hk',hxk])
      rw [show ax x=.agg (ip x) from rfl] at hgk
      have ek:IntKind.i64.wrap ((k:Int)+1)=((k+1:Nat):Int):=by rw [wrap_i64]<;>omega
      have hdk:S.tables.drop k=x::S.tables.drop (k+1):=by rw [hxk];exact dcq hk'
      rw [hdk,List.all_cons] at hR
      have hll:(U9 k).length=k:=by rw [hU9,ybb,ybb,List.length_take];omega
      have hsn:U9 k++[AV.str x.name]=U9 (k+1):=by rw [hU9];dsimp only;rw [htk];simp
      have nf:(i9=Hc.nx)=False∧(i9=Hc.nx+1)=False∧(i9=Hc.nx+1+1)=False∧(Hc.nx=i9)=False:=⟨eFo,eFo,eFo,eFo⟩
      refine Tq47 ?_
      refine ⟨⟨by omega,by omega⟩,⟨g9,by omega,by omega,fun z hz=>by rw [List.mem_singleton.1 hz];rfl⟩,?_⟩
      obtain ⟨HI,hHI⟩:∃ HI,((Hc.set i9 (.buf 1 (k+1))).push (.cells (ip x))).push (.buf 1 1)=HI:=⟨_,rfl⟩
      rw [hHI]
      have hcs2:(Hc.set i9 (.buf 1 (k+1))).Closed:=bh hcc
      have hIn:HI.nx=Hc.nx+1+1:=by rw [← hHI];rfl
      have hIl:(Hc.set i9 (.buf 1 (k+1))).Le HI:=by rw [← hHI];repeat first|exact .refl _|refine .push ?_ _
      have hIc:HI.Closed:=by
       rw [← hHI]
       exact bc (ah hcs2 (by have:=cS (n:=Hc.nx+1) x;simp only [ax,znr] at this;exact this))
      have hIo:HI.get Hc.nx=some (.cells (ip x)):=by
       rw [← hHI,zlh,if_neg (by simp only [zle,zlf];omega)]
       exact AHeap.get_push_new (Hc.set i9 (.buf 1 (k+1))) _
      clear hHI
      obtain ⟨ji,hji⟩:∃ j,j=Hc.nx+1+1:=⟨_,rfl⟩
      rw [← hji]
      obtain ⟨V,hV⟩:∃ V:Nat→List AV,V=fun k=>((x.keys.take k).map (·.name)).map AV.str:=⟨_,rfl⟩
      have V0:V 0=[]:=by rw [hV];rfl
      have VL:∀ n k,ltL n (V k):=fun n k=>by rw [hV];exact n6
      have hmI:=(hS.tn x hmk).2.1
      have hgV:(HI.push (.buf 1 0)).get ji=some (.buf 1 0):=by rw [hji,← hIn];exact AHeap.get_push_new _ _
      refine aC (A:=Nat × AHeap) (fun a=>[(1,.ptr H.nx 0),(3,.bool bk),(6,.slice .any 1 T6),(7,.slice .any 1 T7),(8,.slice .any 1 T8),(11,.slice .any 1 T11),(9,.slice (.own i9) 1 (U9 (k+1))),(10,.slice (.own i10) 1 []),(22,.ptr Hc.nx 0),(23,.slice (.own ji) 1 (V a.1)),(104,.slice .any 8 (S.tables.map ax)),(105,.int .i64 (S.tables.length:Int)),(106,.int .i64 (k:Int)),(116,.slice .any 3 (x.keys.map ba)),(117,.int .i64 (x.keys.length:Int)),(118,.int .i64 (a.1:Int))]) (fun a=>a.2)
       (fun a=>a.1≤x.keys.length∧HI.Le a.2∧a.2.Closed∧a.2.get ji=some (.buf 1 a.1)) (fun a=>x.keys.length - a.1) (0,HI.push (.buf 1 0)) ⟨Nat.zero_le _,(lRq _).push _,bc hIc,hgV⟩ ?_ fun a ha=>?_
      ·simp only [V0]
       have oV:AV.lt (HI.nx+1) (.slice (.own ji) 1 []):=cf (by omega) trivial
       have o9:AV.lt (HI.nx+1) (.slice (.own i9) 1 (U9 (k+1))):=cf (by omega) (U9L _ _)
       have o10:AV.lt (HI.nx+1) (.slice (.own i10) 1 []):=cf (by omega) trivial
       exact en5 (bc hIc) (d:=by (simp [ltF,zle,zlf,znn,znf,zng,ltZ,eb,o9,o10,oV,hst6,hst7,hst8,hst11];try omega))
      clear hgV
      obtain ⟨j,Hi⟩:=a
      obtain ⟨hj,hle2,hcc2,gV⟩:=ha
      dsimp only at hj hle2 hcc2 gV ⊢
      have nV:=glq gV
      have hIoc:=aM (hle2.get _ _ hIo)
      have hnxi:HI.nx≤Hi.nx:=hle2.nx
      refine Tq15 ?_
      refine au (fun hc=>?_) (fun hc=>?_)
      ·skip
       have hj':j<x.keys.length:=sHc
       clear hc
       obtain ⟨y,hxj⟩:∃ z0,z0=x.keys[j]:=⟨_,rfl⟩
       have hmj:y∈x.keys:=by rw [hxj];exact gMq hj'
       have htj:x.keys.take (j+1)=x.keys.take j++[y]:=by rw [hxj,List.take_succ_eq_append_getElem hj']
       have hgj:=aV (f:=ba) (l:=x.keys) (k:=j) (x:=y) (by rw [gQq hj',hxj])
       rw [show ba y=.agg (Hq y) from rfl] at hgj
       have ej:IntKind.i64.wrap ((j:Int)+1)=((j+1:Nat):Int):=by rw [wrap_i64]<;>omega
       have hllV:(V j).length=j:=by rw [hV,ybb,ybb,List.length_take];omega
       have hsnV:V j++[AV.str y.name]=V (j+1):=by rw [hV];dsimp only;rw [htj];simp
       have nf2:(ji=Hi.nx)=False∧(ji=Hi.nx+1)=False∧(Hi.nx=ji)=False∧(Hc.nx=Hi.nx)=False∧(Hc.nx=Hi.nx+1)=False:=⟨eFo,eFo,eFo,eFo,eFo⟩
       refine Tq41 ?_
       have hcsV:(Hi.set ji (.buf 1 (j+1))).Closed:=bh hcc2
       have oV:AV.lt Hi.nx (.slice (.own ji) 1 (V (j+1))):=cf (by omega) (VL _ _)
       have o9:AV.lt Hi.nx (.slice (.own i9) 1 (U9 (k+1))):=cf (by omega) (U9L _ _)
       have o10:AV.lt Hi.nx (.slice (.own i10) 1 []):=cf (by omega) trivial
       refine ⟨⟨by omega,by omega⟩,⟨gV,by omega,by omega,fun z hz=>by rw [List.mem_singleton.1 hz];rfl⟩,(j+1,Hi.set ji (.buf 1 (j+1))),⟨by dsimp only;omega,cB hle2 (by omega),hcsV,by dsimp only;rw [aI,if_pos rfl,if_pos (by omega)]⟩,by dsimp only;omega,?_⟩
       dsimp only
       exact en5 hcsV (d:=by (simp [ltF,zle,zlf,znn,znf,zng,ltZ,eb,o9,o10,oV,hst6,hst7,hst8,hst11];try omega))
      ·skip
       have hj':j=x.keys.length:=sHc
       subst hj'
       clear hc
       have hVm:V x.keys.length=(x.keys.map (·.name)).map AV.str:=by rw [hV];dsimp only;rw [List.take_length]
       rw [hVm]
       clear hVm V0 VL hV gV
       replace hR:(bk&&((onF [] (x.keys.map (·.name))&&onF [] x.actions)&&((S.tables.drop (k+1)).all (fun t=>onF [] (t.keys.map (·.name))&&onF [] t.actions)&&X2)))=R:=by rw [← hR];show _=(bk&&(((onF [] (x.keys.map (·.name))&&onF [] x.actions)&&_)&&_));rw [Bool.and_assoc (onF [] (x.keys.map (·.name))&&onF [] x.actions)]
       replace hR:=ae (E:=onF [] (x.keys.map (·.name))&&onF [] x.actions) hR
       cases bk with
       |false =>
        refine Tq37 ?_
        refine Tq0 ?_
        replace hR:=lff hR
        exact Y30
       |true =>
        refine Tq37 ?_
        refine Tq0 ?_
        refine ⟨x.keys.map (·.name),⟨rfl,by rw [ybb];exact hmI⟩,?_⟩
        cases c1:(onF [] (x.keys.map (·.name))) with
        |false =>
         refine Tq32 ?_
         refine Tq0 ?_
         replace hR:=lf false hR (by simp only [c1,tfC])
         exact Y30
        |true =>
         refine Tq32 ?_
         refine Tq0 ?_
         refine ⟨x.actions,⟨rfl,(hS.tn x hmk).2.2.1⟩,?_⟩
         cases c2:(onF [] x.actions) with
         |false =>
          refine Tq57 ?_
          refine Tq0 ?_
          replace hR:=lf false hR (by simp only [c1,c2,tfC])
          exact Y30
         |true =>
          refine Tq57 ?_
          refine Tq0 ?_
          replace hR:=lf true hR (by simp only [c1,c2,tfC])
          have o9:AV.lt Hc.nx (.slice (.own i9) 1 (U9 (k+1))):=cf (by omega) (U9L _ _)
          have o10:AV.lt Hc.nx (.slice (.own i10) 1 []):=cf (by omega) trivial
          refine ⟨(k+1,true,Hc.set i9 (.buf 1 (k+1))),⟨by dsimp only;omega,cB hle (by omega),hcs2,by dsimp only;rw [aI,if_pos rfl,if_pos (by omega)],by dsimp only;rw [aI,if_neg (by omega)];exact g10,hR⟩,by dsimp only;omega,by (try simp only [zkq,zkv,zle,zlf]);omega,hIl.trans hle2,hcs2,by (simp [ltF,zlf,znn,znf,zng,ltZ,eb,o9,o10,hst6,hst7,hst8,hst11];try omega),by simp [bg,wk2,wk1,wkM,Fr.get,fJ]⟩
     ·have hk':k=S.tables.length:=sHc
      subst hk'
      clear hc
      rw [List.drop_length,List.all_nil,Bool.true_and] at hR
      have hT:U9 S.tables.length=((S.tables.map (·.name)).map AV.str):=by rw [hU9];dsimp only;rw [List.take_length]
      rw [hT]
      clear hT U90 U9L hU9
      obtain ⟨T9,hT9⟩:∃ T9,((S.tables.map (·.name)).map AV.str)=T9:=⟨_,rfl⟩
      rw [hT9]
      have hst9:∀ n,AV.lt n (.slice .any 1 T9):=fun _=>by rw [← hT9];exact eb
      refine Tq75 ?_
      obtain ⟨U10,hU10⟩:∃ U10:Nat→List AV,U10=fun k=>((S.roles.take k).map (·.name)).map AV.str:=⟨_,rfl⟩
      have U100:U10 0=[]:=by rw [hU10];rfl
      have U10L:∀ n k,ltL n (U10 k):=fun n k=>by rw [hU10];exact n6
      have hn10:=sl.rl
      rw [hX2] at hR
      refine aC (A:=Nat × Bool × AHeap) (fun a=>[(3,.bool a.2.1),(6,.slice .any 1 T6),(7,.slice .any 1 T7),(8,.slice .any 1 T8),(9,.slice .any 1 T9),(11,.slice .any 1 T11),(10,.slice (.own i10) 1 (U10 a.1)),(140,.slice .any 6 (S.roles.map aN)),(141,.int .i64 (S.roles.length:Int)),(142,.int .i64 (a.1:Int))]) (fun a=>a.2.2)
       (fun a=>a.1≤S.roles.length∧Hb.Le a.2.2∧a.2.2.Closed∧a.2.2.get i10=some (.buf 1 a.1)∧(a.2.1&&((S.roles.drop a.1).all (fun t=>onF [] (t.grants.map (·.table))&&onF [] t.actions)&&X3))=R) (fun a=>S.roles.length - a.1) (0,_,Hc) ⟨Nat.zero_le _,hle,hcc,g10,hR⟩ ?_ fun a ha=>?_
      ·simp only [U100]
       have o10:AV.lt Hc.nx (.slice (.own i10) 1 []):=cf (by omega) trivial
       exact en5 hcc (d:=by (simp [ltF,zle,zlf,znn,znf,zng,ltZ,eb,o10,hst6,hst7,hst8,hst9,hst11];try omega))
      clear hR g10 hle hcc hgc hcsc hneH n10
      obtain ⟨k,bk,Hc⟩:=a
      obtain ⟨hk,hle,hcc,g10,hR⟩:=ha
      dsimp only at hk hle hcc g10 hR ⊢
      have n10:=glq g10
      have hgc:=hle.get _ _ hg0
      have hcsc:=aM hgc
      have hneH:(H.nx=Hc.nx)=False:=eFo
      refine Tq15 ?_
      refine au (fun hc=>?_) (fun hc=>?_)
      ·skip
       have hk':k<S.roles.length:=sHc
       clear hc
       obtain ⟨x,hxk⟩:∃ z0,z0=S.roles[k]:=⟨_,rfl⟩
       have hmk:x∈S.roles:=by rw [hxk];exact gMq hk'
       have htk:S.roles.take (k+1)=S.roles.take k++[x]:=by rw [hxk,List.take_succ_eq_append_getElem hk']
       have hgk:=aV (f:=aN) (l:=S.roles) (k:=k) (x:=x) (by rw [gQq hk',hxk])
       rw [show aN x=.agg (mQ x) from rfl] at hgk
       have ek:IntKind.i64.wrap ((k:Int)+1)=((k+1:Nat):Int):=by rw [wrap_i64]<;>omega
       have hdk:S.roles.drop k=x::S.roles.drop (k+1):=by rw [hxk];exact dcq hk'
       rw [hdk,List.all_cons] at hR
       have hll:(U10 k).length=k:=by rw [hU10,ybb,ybb,List.length_take];omega
       have hsn:U10 k++[AV.str x.name]=U10 (k+1):=by rw [hU10];dsimp only;rw [htk];simp
       have nf:(i10=Hc.nx)=False∧(i10=Hc.nx+1)=False∧(i10=Hc.nx+1+1)=False∧(Hc.nx=i10)=False:=⟨eFo,eFo,eFo,eFo⟩
       refine Tq47 ?_
       refine ⟨⟨by omega,by omega⟩,⟨g10,by omega,by omega,fun z hz=>by rw [List.mem_singleton.1 hz];rfl⟩,?_⟩
       obtain ⟨HI,hHI⟩:∃ HI,((Hc.set i10 (.buf 1 (k+1))).push (.cells (mQ x))).push (.buf 1 1)=HI:=⟨_,rfl⟩
       rw [hHI]
       have hcs2:(Hc.set i10 (.buf 1 (k+1))).Closed:=bh hcc
       have hIn:HI.nx=Hc.nx+1+1:=by rw [← hHI];rfl
       have hIl:(Hc.set i10 (.buf 1 (k+1))).Le HI:=by rw [← hHI];repeat first|exact .refl _|refine .push ?_ _
       have hIc:HI.Closed:=by
        rw [← hHI]
        exact bc (ah hcs2 (by have:=gM (n:=Hc.nx+1) x;simp only [aN,znr] at this;exact this))
       have hIo:HI.get Hc.nx=some (.cells (mQ x)):=by
        rw [← hHI,zlh,if_neg (by simp only [zle,zlf];omega)]
        exact AHeap.get_push_new (Hc.set i10 (.buf 1 (k+1))) _
       clear hHI
       obtain ⟨ji,hji⟩:∃ j,j=Hc.nx+1+1:=⟨_,rfl⟩
       rw [← hji]
       obtain ⟨V,hV⟩:∃ V:Nat→List AV,V=fun k=>((x.grants.take k).map (·.table)).map (AV.int .i64):=⟨_,rfl⟩
       have V0:V 0=[]:=by rw [hV];rfl
       have VL:∀ n k,ltL n (V k):=fun n k=>by rw [hV];exact zh
       have hmI:=(hS.rn x hmk).2.1
       have hgV:(HI.push (.buf 1 0)).get ji=some (.buf 1 0):=by rw [hji,← hIn];exact AHeap.get_push_new _ _
       refine aC (A:=Nat × AHeap) (fun a=>[(3,.bool bk),(6,.slice .any 1 T6),(7,.slice .any 1 T7),(8,.slice .any 1 T8),(9,.slice .any 1 T9),(11,.slice .any 1 T11),(10,.slice (.own i10) 1 (U10 (k+1))),(27,.ptr Hc.nx 0),(28,.slice (.own ji) 1 (V a.1)),(140,.slice .any 6 (S.roles.map aN)),(141,.int .i64 (S.roles.length:Int)),(142,.int .i64 (k:Int)),(152,.slice .any 4 (x.grants.map aJ)),(153,.int .i64 (x.grants.length:Int)),(154,.int .i64 (a.1:Int))]) (fun a=>a.2)
        (fun a=>a.1≤x.grants.length∧HI.Le a.2∧a.2.Closed∧a.2.get ji=some (.buf 1 a.1)) (fun a=>x.grants.length - a.1) (0,HI.push (.buf 1 0)) ⟨Nat.zero_le _,(lRq _).push _,bc hIc,hgV⟩ ?_ fun a ha=>?_
       ·simp only [V0]
        have oV:AV.lt (HI.nx+1) (.slice (.own ji) 1 []):=cf (by omega) trivial
        have o10:AV.lt (HI.nx+1) (.slice (.own i10) 1 (U10 (k+1))):=cf (by omega) (U10L _ _)
        exact en5 (bc hIc) (d:=by (simp [ltF,zle,zlf,znn,znf,zng,ltZ,eb,o10,oV,hst6,hst7,hst8,hst9,hst11];try omega))
       clear hgV
       obtain ⟨j,Hi⟩:=a
       obtain ⟨hj,hle2,hcc2,gV⟩:=ha
       dsimp only at hj hle2 hcc2 gV ⊢
       have nV:=glq gV
       have hIoc:=aM (hle2.get _ _ hIo)
       have hnxi:HI.nx≤Hi.nx:=hle2.nx
       refine Tq15 ?_
       refine au (fun hc=>?_) (fun hc=>?_)
       ·skip
        have hj':j<x.grants.length:=sHc
        clear hc
        obtain ⟨y,hxj⟩:∃ z0,z0=x.grants[j]:=⟨_,rfl⟩
        have hmj:y∈x.grants:=by rw [hxj];exact gMq hj'
        have htj:x.grants.take (j+1)=x.grants.take j++[y]:=by rw [hxj,List.take_succ_eq_append_getElem hj']
        have hgj:=aV (f:=aJ) (l:=x.grants) (k:=j) (x:=y) (by rw [gQq hj',hxj])
        rw [show aJ y=.agg (yw y) from rfl] at hgj
        have ej:IntKind.i64.wrap ((j:Int)+1)=((j+1:Nat):Int):=by rw [wrap_i64]<;>omega
        have hllV:(V j).length=j:=by rw [hV,ybb,ybb,List.length_take];omega
        have hsnV:V j++[AV.int .i64 y.table]=V (j+1):=by rw [hV];dsimp only;rw [htj];simp
        have nf2:(ji=Hi.nx)=False∧(ji=Hi.nx+1)=False∧(Hi.nx=ji)=False∧(Hc.nx=Hi.nx)=False∧(Hc.nx=Hi.nx+1)=False:=⟨eFo,eFo,eFo,eFo,eFo⟩
        refine Tq41 ?_
        have hcsV:(Hi.set ji (.buf 1 (j+1))).Closed:=bh hcc2
        have oV:AV.lt Hi.nx (.slice (.own ji) 1 (V (j+1))):=cf (by omega) (VL _ _)
        have o10:AV.lt Hi.nx (.slice (.own i10) 1 (U10 (k+1))):=cf (by omega) (U10L _ _)
        refine ⟨⟨by omega,by omega⟩,⟨gV,by omega,by omega,fun z hz=>by rw [List.mem_singleton.1 hz];rfl⟩,(j+1,Hi.set ji (.buf 1 (j+1))),⟨by dsimp only;omega,cB hle2 (by omega),hcsV,by dsimp only;rw [aI,if_pos rfl,if_pos (by omega)]⟩,by dsimp only;omega,?_⟩
        dsimp only
        exact en5 hcsV (d:=by (simp [ltF,zle,zlf,znn,znf,zng,ltZ,eb,o10,oV,hst6,hst7,hst8,hst9,hst11];try omega))
       ·skip
        have hj':j=x.grants.length:=sHc
        subst hj'
        clear hc
        have hVm:V x.grants.length=(x.grants.map (·.table)).map (AV.int .i64):=by rw [hV];dsimp only;rw [List.take_length]
        rw [hVm]
        clear hVm V0 VL hV gV
        replace hR:(bk&&((onF [] (x.grants.map (·.table))&&onF [] x.actions)&&((S.roles.drop (k+1)).all (fun t=>onF [] (t.grants.map (·.table))&&onF [] t.actions)&&X3)))=R:=by rw [← hR];show _=(bk&&(((onF [] (x.grants.map (·.table))&&onF [] x.actions)&&_)&&_));rw [Bool.and_assoc (onF [] (x.grants.map (·.table))&&onF [] x.actions)]
        replace hR:=ae (E:=onF [] (x.grants.map (·.table))&&onF [] x.actions) hR
        cases bk with
        |false =>
         refine Tq37 ?_
         refine Tq0 ?_
         replace hR:=lff hR
         exact Y38
        |true =>
         refine Tq37 ?_
         refine Tq0 ?_
         refine ⟨x.grants.map (·.table),⟨rfl,by rw [ybb];exact hmI⟩,?_⟩
         cases c1:(onF [] (x.grants.map (·.table))) with
         |false =>
          refine Tq32 ?_
          refine Tq0 ?_
          replace hR:=lf false hR (by simp only [c1,tfC])
          exact Y38
         |true =>
          refine Tq32 ?_
          refine Tq0 ?_
          refine ⟨x.actions,⟨rfl,(hS.rn x hmk).2.2.1⟩,?_⟩
          cases c2:(onF [] x.actions) with
          |false =>
           refine Tq57 ?_
           refine Tq0 ?_
           replace hR:=lf false hR (by simp only [c1,c2,tfC])
           exact Y38
          |true =>
           refine Tq57 ?_
           refine Tq0 ?_
           replace hR:=lf true hR (by simp only [c1,c2,tfC])
           have o10:AV.lt Hc.nx (.slice (.own i10) 1 (U10 (k+1))):=cf (by omega) (U10L _ _)
           refine ⟨(k+1,true,Hc.set i10 (.buf 1 (k+1))),⟨by dsimp only;omega,cB hle (by omega),hcs2,by dsimp only;rw [aI,if_pos rfl,if_pos (by omega)],hR⟩,by dsimp only;omega,by (try simp only [zkq,zkv,zle,zlf]);omega,hIl.trans hle2,hcs2,by (simp [ltF,zlf,znn,znf,zng,ltZ,eb,o10,hst6,hst7,hst8,hst9,hst11];try omega),by simp [bg,wk2,wk1,wkM,Fr.get,fJ]⟩
      ·have hk':k=S.roles.length:=sHc
       subst hk'
       clear hc
       rw [List.drop_length,List.all_nil,Bool.true_and] at hR
       have hT:U10 S.roles.length=((S.roles.map (·.name)).map AV.str):=by rw [hU10];dsimp only;rw [List.take_length]
       rw [hT]
       clear hT U100 U10L hU10
       obtain ⟨T10,hT10⟩:∃ T10,((S.roles.map (·.name)).map AV.str)=T10:=⟨_,rfl⟩
       rw [hT10]
       have hst10:∀ n,AV.lt n (.slice .any 1 T10):=fun _=>by rw [← hT10];exact eb
       refine Tq75 ?_
       subst hT6 hT7 hT8 hT9 hT10 hT11
       rw [hX3] at hR
       have hHl:=hHle.trans hle
       cases bk with
       |false =>
        rw [Bool.false_and] at hR
        subst hR
        try simp only [go_sem,dw,du,cm,dd]
        exact Y63
       |true =>
        rw [Bool.true_and] at hR
        try simp only [go_sem,dw,du,cm,dd]
        refine ⟨S.fields.map (·.name),⟨rfl,by rw [ybb];exact sl.fl⟩,?_⟩
        cases n0:(onF [] (S.fields.map (·.name))) with
        |false =>
         simp only [n0,tfC] at hR
         subst hR
         try simp only [go_sem,dw,du,cm,dd,n0]
         exact Y63
        |true =>
         try simp only [go_sem,dw,du,cm,dd,n0]
         refine ⟨S.headers.map (·.name),⟨rfl,by rw [ybb];exact sl.hl⟩,?_⟩
         cases n1:(onF [] (S.headers.map (·.name))) with
         |false =>
          simp only [n0,n1,tfC] at hR
          subst hR
          try simp only [go_sem,dw,du,cm,dd,n0,n1]
          exact Y63
         |true =>
          try simp only [go_sem,dw,du,cm,dd,n0,n1]
          refine ⟨S.actions.map (·.name),⟨rfl,by rw [ybb];exact sl.al⟩,?_⟩
          cases n2:(onF [] (S.actions.map (·.name))) with
          |false =>
           simp only [n0,n1,n2,tfC] at hR
           subst hR
           try simp only [go_sem,dw,du,cm,dd,n0,n1,n2]
           exact Y63
          |true =>
           try simp only [go_sem,dw,du,cm,dd,n0,n1,n2]
           refine ⟨S.tables.map (·.name),⟨rfl,by rw [ybb];exact sl.tl⟩,?_⟩
           cases n3:(onF [] (S.tables.map (·.name))) with
           |false =>
            simp only [n0,n1,n2,n3,tfC] at hR
            subst hR
            try simp only [go_sem,dw,du,cm,dd,n0,n1,n2,n3]
            exact Y63
           |true =>
            try simp only [go_sem,dw,du,cm,dd,n0,n1,n2,n3]
            refine ⟨S.roles.map (·.name),⟨rfl,by rw [ybb];exact sl.rl⟩,?_⟩
            cases n4:(onF [] (S.roles.map (·.name))) with
            |false =>
             simp only [n0,n1,n2,n3,n4,tfC] at hR
             subst hR
             try simp only [go_sem,dw,du,cm,dd,n0,n1,n2,n3,n4]
             exact Y63
            |true =>
             try simp only [go_sem,dw,du,cm,dd,n0,n1,n2,n3,n4]
             refine ⟨S.headers.flatMap (·.fields),⟨rfl,hI.ul⟩,?_⟩
             cases n5:(onF [] (S.headers.flatMap (·.fields))) with
             |false =>
              simp only [n0,n1,n2,n3,n4,n5,tfC] at hR
              subst hR
              try simp only [go_sem,dw,du,cm,dd,n0,n1,n2,n3,n4,n5]
              exact Y63
             |true =>
              simp only [n0,n1,n2,n3,n4,n5,tfC] at hR
              subst hR
              try simp only [go_sem,dw,du,cm,dd,n0,n1,n2,n3,n4,n5]
              exact Y63
theorem AR {S:Sch} (h:oU S=true):(fE S).Nodup:=by
 unfold oU at h
 simp only [Bool.and_eq_true] at h
 obtain ⟨_,_,_,_,h5,_⟩:=h
 rw [Cb] at h5
 exact (wP h5).1
theorem MO {S:Sch} (hr:ov S) (hn:(fE S).Nodup):decide (((l8 S).length:Int)<(S.tables.length:Int))=!nS S:=by
 rw [← Cd hr hn,decide_eq_decide];omega
def Bg:PCt
 |[.agg l],_,K=>∃ S:Sch,(l=aR S∧OkSch S∧(jf S).b.length≤dB)∧K (.int .i64 (x6 S))
 |_,_,_=>False
theorem Og:EPp 13 Bg:=by
 refine Ype fun _ H K h=>?_
 unfold Bg at h
 split at h<;>try exact h.elim
 rename_i l
 obtain ⟨S,⟨rfl,hk,hl⟩,hK⟩:=h
 refine ⟨_,hK,?_⟩
 clear hK
 generalize hR:x6 S=R
 unfold x6 at hR
 refine Yfw aE (tCq Mc (tCq EI (tCq Gg (tCq Il (tCq Fi (tCq Eu (tCq E3 (tCq EL (tCq Im (tCq Hy (tCq FC (tCq B3 tNq)))))))))))) Tryz.func13 [.tmp 2] (nrq _) (T:=aB [(18,[[],[0]])]) (h:=fun hcl=>?_)
 have hPE:Bu=jM:=rfl
 have dn1:(!true)=false:=rfl
 have dn2:(!false)=true:=rfl
 have eA:En S=uN S:=OI
 have eD:D3 S=oU S:=Mz
 have eK:DN S=mw S:=Ma
 have eX:exA S=S.refs.all (exB S):=rfl
 unfold aR
 simp only [go_sem,hPE,jM,dn1,dn2,eA,eD,eK,eX,dV,eV,eY,dW,dX,d7,dZ,eR,eU,eT,fQ]
 refine ⟨S,⟨rfl,hk,hl⟩,?_⟩
 cases c0:((rU S).2 != 0) with
 |true =>
  simp only [c0,if_true] at hR
  subst hR
  simp only [go_sem,hPE,jM,dn1,dn2,eA,eD,eK,eX,dV,eV,eY,dW,dX,d7,dZ,eR,eU,eT,fQ,c0]
  exact Z1
 |false =>
  have bd:=PM (Hr (S:=S) (by simpa using c0))
  have sb:=Pu bd
  have si:=Ph bd
  have rg:=Fu bd hk
  rw [c0] at hR
  simp only [Bool.false_eq_true,if_false] at hR
  simp only [go_sem,hPE,jM,dn1,dn2,eA,eD,eK,eX,dV,eV,eY,dW,dX,d7,dZ,eR,eU,eT,fQ,c0]
  refine ⟨S,⟨rfl,sb⟩,?_⟩
  cases c1:nZ S with
  |false =>
   rw [c1] at hR
   simp only [if_true] at hR
   subst hR
   try simp only [go_sem,hPE,jM,dn1,dn2,eA,eD,eK,eX,dV,eV,eY,dW,dX,d7,dZ,eR,eU,eT,fQ,c0,c1]
   exact Z1
  |true =>
   rw [c1] at hR
   simp only [reduceCtorEq,if_false] at hR
   simp only [go_sem,hPE,jM,dn1,dn2,eA,eD,eK,eX,dV,eV,eY,dW,dX,d7,dZ,eR,eU,eT,fQ,c0,c1]
   refine ⟨S,⟨rfl,sb⟩,?_⟩
   cases c2:uN S with
   |false =>
    rw [c2] at hR
    simp only [if_true] at hR
    subst hR
    try simp only [go_sem,hPE,jM,dn1,dn2,eA,eD,eK,eX,dV,eV,eY,dW,dX,d7,dZ,eR,eU,eT,fQ,c0,c1,c2]
    exact Z1
   |true =>
    rw [c2] at hR
    simp only [reduceCtorEq,if_false] at hR
    simp only [go_sem,hPE,jM,dn1,dn2,eA,eD,eK,eX,dV,eV,eY,dW,dX,d7,dZ,eR,eU,eT,fQ,c0,c1,c2]
    refine ⟨S,⟨rfl,sb,si⟩,?_⟩
    cases c3:oU S with
    |false =>
     rw [c3] at hR
     simp only [if_true] at hR
     subst hR
     try simp only [go_sem,hPE,jM,dn1,dn2,eA,eD,eK,eX,dV,eV,eY,dW,dX,d7,dZ,eR,eU,eT,fQ,c0,c1,c2,c3]
     exact Z1
    |true =>
     rw [c3] at hR
     simp only [reduceCtorEq,if_false] at hR
     simp only [go_sem,hPE,jM,dn1,dn2,eA,eD,eK,eX,dV,eV,eY,dW,dX,d7,dZ,eR,eU,eT,fQ,c0,c1,c2,c3]
     refine ⟨S,⟨rfl,sb,fun a ha x hx=>(rg.pv a ha x hx).1⟩,?_⟩
     cases c4:mw S with
     |false =>
      rw [c4] at hR
      simp only [if_true] at hR
      subst hR
      try simp only [go_sem,hPE,jM,dn1,dn2,eA,eD,eK,eX,dV,eV,eY,dW,dX,d7,dZ,eR,eU,eT,fQ,c0,c1,c2,c3,c4]
      exact Z1
     |true =>
      rw [c4] at hR
      simp only [reduceCtorEq,if_false] at hR
      rw [← C5 c4] at hR
      simp only [go_sem,hPE,jM,dn1,dn2,eA,eD,eK,eX,dV,eV,eY,dW,dX,d7,dZ,eR,eU,eT,fQ,c0,c1,c2,c3,c4]
      refine ⟨S,⟨rfl,sb⟩,?_⟩
      cases k1:kwB S with
      |false =>
       rw [k1,Bool.false_and] at hR
       simp only [if_true] at hR
       subst hR
       try simp only [go_sem,hPE,jM,dn1,dn2,eA,eD,eK,eX,dV,eV,eY,dW,dX,d7,dZ,eR,eU,eT,fQ,c0,c1,c2,c3,c4,k1]
       exact Z1
      |true =>
       rw [k1,Bool.true_and] at hR
       simp only [go_sem,hPE,jM,dn1,dn2,eA,eD,eK,eX,dV,eV,eY,dW,dX,d7,dZ,eR,eU,eT,fQ,c0,c1,c2,c3,c4,k1]
       refine ⟨S,⟨rfl,sb⟩,?_⟩
       cases k2:grB S with
       |false =>
        rw [k2] at hR
        simp only [if_true] at hR
        subst hR
        try simp only [go_sem,hPE,jM,dn1,dn2,eA,eD,eK,eX,dV,eV,eY,dW,dX,d7,dZ,eR,eU,eT,fQ,c0,c1,c2,c3,c4,k1,k2]
        exact Z1
       |true =>
        rw [k2] at hR
        simp only [reduceCtorEq,if_false] at hR
        have c5:kB S=true:=by rw [← C5 c4,k1,k2];rfl
        have fk:=CL sb c5 c2 c4 rg
        simp only [go_sem,hPE,jM,dn1,dn2,eA,eD,eK,eX,dV,eV,eY,dW,dX,d7,dZ,eR,eU,eT,fQ,c0,c1,c2,c3,c4,k1,k2]
        refine ⟨S,⟨rfl,sb,tL c5 rg⟩,?_⟩
        cases c6:S.refs.all (exB S) with
        |false =>
         rw [c6] at hR
         simp only [if_true] at hR
         subst hR
         try simp only [go_sem,hPE,jM,dn1,dn2,eA,eD,eK,eX,dV,eV,eY,dW,dX,d7,dZ,eR,eU,eT,fQ,c0,c1,c2,c3,c4,k1,k2,c6]
         exact Z1
        |true =>
         rw [c6] at hR
         simp only [reduceCtorEq,if_false] at hR
         rw [← Mt] at hR
         simp only [go_sem,hPE,jM,dn1,dn2,eA,eD,eK,eX,dV,eV,eY,dW,dX,d7,dZ,eR,eU,eT,fQ,c0,c1,c2,c3,c4,k1,k2,c6]
         refine ⟨S,⟨rfl,sb,fk⟩,?_⟩
         cases w1:pkB S with
         |false =>
          simp only [w1,Bool.false_and,Bool.and_false,if_true] at hR
          subst hR
          try simp only [go_sem,hPE,jM,dn1,dn2,eA,eD,eK,eX,dV,eV,eY,dW,dX,d7,dZ,eR,eU,eT,fQ,c0,c1,c2,c3,c4,k1,k2,c6,w1]
          exact Z1
         |true =>
          simp only [w1,Bool.true_and,Bool.and_true,reduceCtorEq,if_false] at hR
          simp only [go_sem,hPE,jM,dn1,dn2,eA,eD,eK,eX,dV,eV,eY,dW,dX,d7,dZ,eR,eU,eT,fQ,c0,c1,c2,c3,c4,k1,k2,c6,w1]
          refine ⟨S,⟨rfl,sb,fk⟩,?_⟩
          cases w2:atB S with
          |false =>
           simp only [w2,Bool.false_and,Bool.and_false,if_true] at hR
           subst hR
           try simp only [go_sem,hPE,jM,dn1,dn2,eA,eD,eK,eX,dV,eV,eY,dW,dX,d7,dZ,eR,eU,eT,fQ,c0,c1,c2,c3,c4,k1,k2,c6,w1,w2]
           exact Z1
          |true =>
           simp only [w2,Bool.true_and,Bool.and_true,reduceCtorEq,if_false] at hR
           simp only [go_sem,hPE,jM,dn1,dn2,eA,eD,eK,eX,dV,eV,eY,dW,dX,d7,dZ,eR,eU,eT,fQ,c0,c1,c2,c3,c4,k1,k2,c6,w1,w2]
           refine ⟨S,⟨rfl,sb,fk,fun a ha=>by have:=((bd.a.2 a ha).2.2.1).1;omega⟩,?_⟩
           cases w3:tbB S with
           |false =>
            simp only [w3,Bool.false_and,Bool.and_false,if_true] at hR
            subst hR
            try simp only [go_sem,hPE,jM,dn1,dn2,eA,eD,eK,eX,dV,eV,eY,dW,dX,d7,dZ,eR,eU,eT,fQ,c0,c1,c2,c3,c4,k1,k2,c6,w1,w2,w3]
            exact Z1
           |true =>
            simp only [w3,Bool.true_and,Bool.and_true,reduceCtorEq,if_false] at hR
            simp only [go_sem,hPE,jM,dn1,dn2,eA,eD,eK,eX,dV,eV,eY,dW,dX,d7,dZ,eR,eU,eT,fQ,c0,c1,c2,c3,c4,k1,k2,c6,w1,w2,w3]
            refine ⟨S,⟨rfl,sb,u1 c5⟩,?_⟩
            have ad:=MO (u1 c5) (AR c3)
            cases c8:nS S with
            |false =>
             rw [c8] at ad
             rw [c8] at hR
             simp only [if_true] at hR
             exact Y104
            |true =>
             rw [c8] at ad
             rw [c8] at hR
             simp only [reduceCtorEq,if_false] at hR
             exact Y104
end Go.AL
