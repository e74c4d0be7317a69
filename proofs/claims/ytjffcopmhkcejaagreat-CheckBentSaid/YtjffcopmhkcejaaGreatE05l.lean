/- Lemmas of the proof; no condition. -/
import Derived.Test.YtjffcopmhkcejaaGreatE05i
set_option linter.all false
set_option maxRecDepth 10000
set_option maxHeartbeats 32000000
open Go Go.AL Go.Proofs
namespace Go.AL
def eE:PCt
 |[.agg l],_,K=>∃ S:Sch,(l=aR S∧SB S)∧K (.bool (kwB S))
 |_,_,_=>False
def Fu:EPp 37 eE:=by
 refine Ype fun _ H K h=>?_
 unfold eE at h
 split at h<;>try exact h.elim
 rename_i l
 obtain⟨S,⟨rfl,hS⟩,hK⟩:=h
 refine⟨_,hK,?_⟩
 clear hK
 obtain⟨E,hE⟩:∃ E:Bool,E=true:=⟨true,rfl⟩
 generalize hR:kwB S=R
 unfold kwB at hR
 have sl:=hS.sl
 replace hR:(true&&((bp S 1&&bp S 2)&&((S.headers.all (rR S))&&((S.states.all (pR S))&&((S.actions.all fun a=>a.body.all fun p=>rpB S a.params.length p)&&E)))))=R:=by rw[← hR,hE];simp only[Bool.true_and,Bool.and_true,Bool.and_assoc]
 have hxF:∀ n:Int,decide (ixP (fun t:SField=>t.id==n) S.fields 0 ≥ 0)=bp S n:=fun _=>eY
 have hxH:∀ n:Int,decide (ixP (fun t:SHeader=>t.id==n) S.headers 0 ≥ 0)=fu S n:=fun _=>eY
 refine Yfw aD (tCq pW (tCq sX (tCq QI tNq))) Tryz.func37 [.tmp 2] (nrq _) (T:=aC [(2,[[1]]),(15,[[1]]),(35,[[1]])]) (h:=fun hcl=>?_)
 have hcH:=me (S:=S) hcl
 unfold aR
 apply jb (α:=Bool) (fun O=>[(1,.ptr H.nx 0),(3,.bool O)]) (fun _=>(fJ H S)) (fun O=>(O&&((S.headers.all (rR S))&&((S.states.all (pR S))&&((S.actions.all fun a=>a.body.all fun p=>rpB S a.params.length p)&&E))))=R)
 ·intro J
  simp only[go_sem,aM,aH,cn,hxF,hxH]
  refine⟨S,⟨rfl,sl⟩,?_⟩
  cases f1:bp S 1 with
  |false=>
   simp only[go_sem,aM,aH,cn,hxF,hxH,f1]
   exact bw J false (by rw[f1]at hR;exact hR) (en5 hcH)
  |true=>
   simp only[go_sem,aM,aH,cn,hxF,hxH,f1]
   refine⟨S,⟨rfl,sl⟩,?_⟩
   cases f2:bp S 2 with
   |false=>
    simp only[go_sem,aM,aH,cn,hxF,hxH,f2]
    exact bw J false (by rw[f1,f2]at hR;exact hR) (en5 hcH)
   |true=>
    simp only[go_sem,aM,aH,cn,hxF,hxH,f2]
    exact bw J true (by rw[f1,f2]at hR;exact hR) (en5 hcH)
 clear hR
 intro b0 hR
 dsimp only at hR ⊢
 refine Tq32 ?_
 refine lpB S.headers (rR S) (fun k bk=>[(3,.bool bk),(1,.ptr H.nx 0),(25,.slice .any 3 (S.headers.map az)),(26,.int .i64 (S.headers.length:Int)),(27,.int .i64 (k:Int))]) (fJ H S) hR (en5 hcH) ?_
 clear hR
 intro k bk hk hR
 have hbk:=sl.hl
 refine Tq20 ?_
 refine csL hk (fun hk'=>?_) fun hk'=>?_
 ·skip
  obtain⟨x,hmk,hgk,hR⟩:=hdL az nT hk' hR
  have ek:=ek5 k
  have hcI:=ye hcH x
  replace hR:(bk&&((x.fields.all fun n=>bp S n)&&((S.headers.drop (k+1)).all (rR S)&&((S.states.all (pR S))&&((S.actions.all fun a=>a.body.all fun p=>rpB S a.params.length p)&&E)))))=R:=by rw[← hR];show _=(bk&&(((x.fields.all fun n=>bp S n)&&_)&&_));rw[Bool.and_assoc]
  try simp only[go_sem,hgk,ek,iK]
  refine Tq0 ?_
  refine lpB x.fields (fun n=>bp S n) (fun j bj=>[(3,.bool bj),(1,.ptr H.nx 0),(25,.slice .any 3 (S.headers.map az)),(26,.int .i64 (S.headers.length:Int)),(27,.int .i64 (k:Int)),(32,.slice .any 1 (inL x.fields)),(33,.int .i64 (x.fields.length:Int)),(34,.int .i64 (j:Int))]) ((fJ H S).push (.cells (nT x))) hR (en5 hcI) ?_
  clear hR
  intro j bj hj hR
  have hbj:=(hS.hn x hmk).2
  simp only[go_sem,inL]
  refine csL hj (fun hj'=>?_) fun hj'=>?_
  ·skip
   obtain⟨y,hmj,hgj,hR⟩:=hdI hj' hR
   have ej:=ek5 j
   replace hR:=af (E:=bp S y) hR
   cases bj with
   |false=>
    refine Tq51 ?_
    exact Y24
   |true=>
    refine Tq51 ?_
    refine Tq0 ?_
    refine⟨S,⟨rfl,sl⟩,?_⟩
    cases c1:(bp S y)with
    |false=>
     refine Tq61 ?_
     refine Tq0 ?_
     replace hR:=lf false hR (by simp only[c1,tfC])
     exact Y25
    |true=>
     refine Tq61 ?_
     refine Tq0 ?_
     replace hR:=lf true hR (by simp only[c1,tfC])
     exact Y41
  ·exact Y34
 ·skip
  replace hR:=ndL hk' hR
  subst hk'
  refine Tq32 ?_
  refine lpB S.states (pR S) (fun k bk=>[(3,.bool bk),(1,.ptr H.nx 0),(48,.slice .any 5 (S.states.map aE)),(49,.int .i64 (S.states.length:Int)),(50,.int .i64 (k:Int))]) (fJ H S) hR (en5 hcH) ?_
  clear hR
  intro k bk hk hR
  have hbk:=sl.sl
  refine Tq20 ?_
  refine csL hk (fun hk'=>?_) fun hk'=>?_
  ·skip
   obtain⟨x,hmk,hgk,hR⟩:=hdL aE rM hk' hR
   have ek:=ek5 k
   have hcI:=Au hcH x
   replace hR:(bk&&(((x.header==0||fu S x.header)&&((x.select==0||bp S x.select)&&j4 S x.dflt))&&((x.cases.all fun c=>j4 S c.next)&&((S.states.drop (k+1)).all (pR S)&&((S.actions.all fun a=>a.body.all fun p=>rpB S a.params.length p)&&E)))))=R:=by
    rw[← hR];show _=(bk&&((((x.header==0||fu S x.header)&&((x.select==0||bp S x.select)&&(j4 S x.dflt&&(x.cases.all fun c=>j4 S c.next))))&&_)&&_));simp only[Bool.and_assoc]
   apply jb (α:=Bool) (fun O=>[(1,.ptr H.nx 0),(48,.slice .any 5 (S.states.map aE)),(49,.int .i64 (S.states.length:Int)),(50,.int .i64 (k:Int)),(9,.ptr (H.nx+1) 0),(3,.bool O)]) (fun _=>((fJ H S).push (.cells (rM x)))) (fun O=>(O&&((x.cases.all fun c=>j4 S c.next)&&((S.states.drop (k+1)).all (pR S)&&((S.actions.all fun a=>a.body.all fun p=>rpB S a.params.length p)&&E))))=R)
   ·intro J
    replace hR:=ae (E:=(x.header==0||fu S x.header)&&((x.select==0||bp S x.select)&&j4 S x.dflt)) hR
    cases bk with
    |false=>
     try simp only[go_sem,hgk,ek,aM,aH,cn,hxF,hxH]
     refine Tq0 ?_
     replace hR:=lff hR
     exact Y106
    |true=>
     cases h0:(x.header==0)with
     |false=>
      try simp only[go_sem,hgk,ek,aM,aH,cn,hxF,hxH,h0]
      refine Tq0 ?_
      refine⟨S,⟨rfl,sl⟩,?_⟩
      cases h1:(fu S x.header)with
      |false=>
       try simp only[go_sem,hgk,ek,aM,aH,cn,hxF,hxH,h0,h1]
       refine Tq0 ?_
       replace hR:=lf false hR (by simp only[h0,h1,tfC])
       exact Y106
      |true=>
       cases s0:(x.select==0)with
       |false=>
        try simp only[go_sem,hgk,ek,aM,aH,cn,hxF,hxH,h0,h1,s0]
        refine Tq0 ?_
        refine⟨S,⟨rfl,sl⟩,?_⟩
        cases s1:(bp S x.select)with
        |false=>
         try simp only[go_sem,hgk,ek,aM,aH,cn,hxF,hxH,h0,h1,s0,s1]
         refine Tq0 ?_
         replace hR:=lf false hR (by simp only[h0,h1,s0,s1,tfC])
         exact Y106
        |true=>
         try simp only[go_sem,hgk,ek,aM,aH,cn,hxF,hxH,h0,h1,s0,s1]
         refine Tq0 ?_
         refine⟨S,⟨rfl,sl⟩,?_⟩
         cases c3:(j4 S x.dflt)with
         |false=>
          try simp only[go_sem,hgk,ek,aM,aH,cn,hxF,hxH,h0,h1,s0,s1,c3]
          refine Tq0 ?_
          replace hR:=lf false hR (by simp only[h0,h1,s0,s1,c3,tfC])
          exact Y106
         |true=>
          try simp only[go_sem,hgk,ek,aM,aH,cn,hxF,hxH,h0,h1,s0,s1,c3]
          refine Tq0 ?_
          replace hR:=lf true hR (by simp only[h0,h1,s0,s1,c3,tfC])
          exact bw J true hR (en5 hcI)
       |true=>
        try simp only[go_sem,hgk,ek,aM,aH,cn,hxF,hxH,h0,h1,s0]
        refine Tq0 ?_
        refine⟨S,⟨rfl,sl⟩,?_⟩
        cases c3:(j4 S x.dflt)with
        |false=>
         try simp only[go_sem,hgk,ek,aM,aH,cn,hxF,hxH,h0,h1,s0,c3]
         refine Tq0 ?_
         replace hR:=lf false hR (by simp only[h0,h1,s0,c3,tfC])
         exact Y106
        |true=>
         try simp only[go_sem,hgk,ek,aM,aH,cn,hxF,hxH,h0,h1,s0,c3]
         refine Tq0 ?_
         replace hR:=lf true hR (by simp only[h0,h1,s0,c3,tfC])
         exact bw J true hR (en5 hcI)
     |true=>
      cases s0:(x.select==0)with
      |false=>
       try simp only[go_sem,hgk,ek,aM,aH,cn,hxF,hxH,h0,s0]
       refine Tq0 ?_
       refine⟨S,⟨rfl,sl⟩,?_⟩
       cases s1:(bp S x.select)with
       |false=>
        try simp only[go_sem,hgk,ek,aM,aH,cn,hxF,hxH,h0,s0,s1]
        refine Tq0 ?_
        replace hR:=lf false hR (by simp only[h0,s0,s1,tfC])
        exact Y106
       |true=>
        try simp only[go_sem,hgk,ek,aM,aH,cn,hxF,hxH,h0,s0,s1]
        refine Tq0 ?_
        refine⟨S,⟨rfl,sl⟩,?_⟩
        cases c3:(j4 S x.dflt)with
        |false=>
         try simp only[go_sem,hgk,ek,aM,aH,cn,hxF,hxH,h0,s0,s1,c3]
         refine Tq0 ?_
         replace hR:=lf false hR (by simp only[h0,s0,s1,c3,tfC])
         exact Y106
        |true=>
         try simp only[go_sem,hgk,ek,aM,aH,cn,hxF,hxH,h0,s0,s1,c3]
         refine Tq0 ?_
         replace hR:=lf true hR (by simp only[h0,s0,s1,c3,tfC])
         exact bw J true hR (en5 hcI)
      |true=>
       try simp only[go_sem,hgk,ek,aM,aH,cn,hxF,hxH,h0,s0]
       refine Tq0 ?_
       refine⟨S,⟨rfl,sl⟩,?_⟩
       cases c3:(j4 S x.dflt)with
       |false=>
        try simp only[go_sem,hgk,ek,aM,aH,cn,hxF,hxH,h0,s0,c3]
        refine Tq0 ?_
        replace hR:=lf false hR (by simp only[h0,s0,c3,tfC])
        exact Y106
       |true=>
        try simp only[go_sem,hgk,ek,aM,aH,cn,hxF,hxH,h0,s0,c3]
        refine Tq0 ?_
        replace hR:=lf true hR (by simp only[h0,s0,c3,tfC])
        exact bw J true hR (en5 hcI)
   clear hR
   intro b0 hR
   dsimp only at hR ⊢
   refine Tq54 ?_
   refine Tq0 ?_
   refine lpB x.cases (fun c=>j4 S c.next) (fun j bj=>[(3,.bool bj),(1,.ptr H.nx 0),(48,.slice .any 5 (S.states.map aE)),(49,.int .i64 (S.states.length:Int)),(50,.int .i64 (k:Int)),(86,.slice .any 5 (x.cases.map ba)),(87,.int .i64 (x.cases.length:Int)),(88,.int .i64 (j:Int))]) ((fJ H S).push (.cells (rM x))) hR (en5 hcI) ?_
   clear hR
   intro j bj hj hR
   have hbj:=(hS.sn x hmk)
   refine Tq20 ?_
   refine csL hj (fun hj'=>?_) fun hj'=>?_
   ·skip
    obtain⟨y,hmj,hgj,hR⟩:=hdL ba Q3 hj' hR
    have ej:=ek5 j
    replace hR:=af (E:=j4 S y.next) hR
    cases bj with
    |false=>
     refine Tq51 ?_
     exact Y24
    |true=>
     refine Tq51 ?_
     refine Tq0 ?_
     refine⟨S,⟨rfl,sl⟩,?_⟩
     cases c1:(j4 S y.next)with
     |false=>
      refine Tq61 ?_
      refine Tq0 ?_
      replace hR:=lf false hR (by simp only[c1,tfC])
      exact Y25
     |true=>
      refine Tq61 ?_
      refine Tq0 ?_
      replace hR:=lf true hR (by simp only[c1,tfC])
      exact Y41
   ·exact Y34
  ·skip
   replace hR:=ndL hk' hR
   subst hk'
   refine Tq32 ?_
   refine lpB S.actions (fun a=>a.body.all fun p=>rpB S a.params.length p) (fun k bk=>[(3,.bool bk),(1,.ptr H.nx 0),(102,.slice .any 5 (S.actions.map ap)),(103,.int .i64 (S.actions.length:Int)),(104,.int .i64 (k:Int))]) (fJ H S) hR (en5 hcH) ?_
   clear hR
   intro k bk hk hR
   have hbk:=sl.al
   refine Tq20 ?_
   refine csL hk (fun hk'=>?_) fun hk'=>?_
   ·skip
    obtain⟨x,hmk,hgk,hR⟩:=hdL ap iV hk' hR
    have ek:=ek5 k
    have hcI:=oW hcH x
    rw[Bool.and_assoc]at hR
    refine Tq54 ?_
    refine Tq0 ?_
    refine lpB x.body (fun p=>rpB S x.params.length p) (fun j bj=>[(3,.bool bj),(1,.ptr H.nx 0),(102,.slice .any 5 (S.actions.map ap)),(103,.int .i64 (S.actions.length:Int)),(104,.int .i64 (k:Int)),(13,.ptr (H.nx+1) 0),(109,.slice .any 6 (x.body.map aU)),(110,.int .i64 (x.body.length:Int)),(111,.int .i64 (j:Int))]) ((fJ H S).push (.cells (iV x))) hR (en5 hcI) ?_
    clear hR
    intro j bj hj hR
    have hbj:=(hS.an x hmk).2.2.1
    refine Tq20 ?_
    refine csL hj (fun hj'=>?_) fun hj'=>?_
    ·skip
     obtain⟨y,hmj,hgj,hR⟩:=hdL aU Ao hj' hR
     have ej:=ek5 j
     have hcJ:=Pt hcI y
     replace hR:(bj&&((if y.op==1||(y.op==2||y.op==3)then bp S y.dst else if y.op==4||y.op==5 then fu S y.dst else true)&&((y.kind !=2||bp S y.n)&&((y.kind !=3||decide (y.n<(x.params.length:Int)))&&((x.body.drop (j+1)).all (fun p=>rpB S x.params.length p)&&((S.actions.drop (k+1)).all (fun a=>a.body.all fun p=>rpB S a.params.length p)&&E))))))=R:=by
      rw[← hR];show _=(bj&&((((if y.op==1||(y.op==2||y.op==3)then bp S y.dst else if y.op==4||y.op==5 then fu S y.dst else true)&&((y.kind !=2||bp S y.n)&&(y.kind !=3||decide (y.n<(x.params.length:Int)))))&&_)&&_));simp only[Bool.and_assoc]
     apply jb (α:=Bool) (fun O=>[(1,.ptr H.nx 0),(102,.slice .any 5 (S.actions.map ap)),(103,.int .i64 (S.actions.length:Int)),(104,.int .i64 (k:Int)),(13,.ptr (H.nx+1) 0),(109,.slice .any 6 (x.body.map aU)),(110,.int .i64 (x.body.length:Int)),(111,.int .i64 (j:Int)),(15,.ptr (H.nx+1+1) 0),(3,.bool O)]) (fun _=>(((fJ H S).push (.cells (iV x))).push (.cells (Ao y)))) (fun O=>(O&&((y.kind !=2||bp S y.n)&&((y.kind !=3||decide (y.n<(x.params.length:Int)))&&((x.body.drop (j+1)).all (fun p=>rpB S x.params.length p)&&((S.actions.drop (k+1)).all (fun a=>a.body.all fun p=>rpB S a.params.length p)&&E)))))=R)
     ·intro J
      cases o1:y.op==1 with
      |true=>
       have hO:(if y.op==1||(y.op==2||y.op==3)then bp S y.dst else if y.op==4||y.op==5 then fu S y.dst else true)=bp S y.dst:=by simp only[o1,tfB,if_true,if_false,reduceCtorEq,if_true,if_false,Bool.false_eq_true,ite_true,ite_false]
       rw[hO]at hR
       cases bj with
       |false=>
        try simp only[go_sem,hgj,ej,aM,aH,cn,hxF,hxH,o1]
        exact Y47
       |true=>
        try simp only[go_sem,hgj,ej,aM,aH,cn,hxF,hxH,o1]
        refine Tq0 ?_
        refine⟨S,⟨rfl,sl⟩,?_⟩
        cases cd:bp S y.dst with
        |false=>
         try simp only[go_sem,hgj,ej,aM,aH,cn,hxF,hxH,o1,cd]
         exact Y54
        |true=>
         try simp only[go_sem,hgj,ej,aM,aH,cn,hxF,hxH,o1,cd]
         exact Y55
      |false=>
       cases o2:y.op==2 with
       |true=>
        have hO:(if y.op==1||(y.op==2||y.op==3)then bp S y.dst else if y.op==4||y.op==5 then fu S y.dst else true)=bp S y.dst:=by simp only[o1,o2,tfB,if_true,if_false,reduceCtorEq,if_true,if_false,Bool.false_eq_true,ite_true,ite_false]
        rw[hO]at hR
        cases bj with
        |false=>
         try simp only[go_sem,hgj,ej,aM,aH,cn,hxF,hxH,o1,o2]
         exact Y47
        |true=>
         try simp only[go_sem,hgj,ej,aM,aH,cn,hxF,hxH,o1,o2]
         refine Tq0 ?_
         refine⟨S,⟨rfl,sl⟩,?_⟩
         cases cd:bp S y.dst with
         |false=>
          try simp only[go_sem,hgj,ej,aM,aH,cn,hxF,hxH,o1,o2,cd]
          exact Y54
         |true=>
          try simp only[go_sem,hgj,ej,aM,aH,cn,hxF,hxH,o1,o2,cd]
          exact Y55
       |false=>
        cases o3:y.op==3 with
        |true=>
         have hO:(if y.op==1||(y.op==2||y.op==3)then bp S y.dst else if y.op==4||y.op==5 then fu S y.dst else true)=bp S y.dst:=by simp only[o1,o2,o3,tfB,if_true,if_false,reduceCtorEq,if_true,if_false,Bool.false_eq_true,ite_true,ite_false]
         rw[hO]at hR
         cases bj with
         |false=>
          try simp only[go_sem,hgj,ej,aM,aH,cn,hxF,hxH,o1,o2,o3]
          exact Y47
         |true=>
          try simp only[go_sem,hgj,ej,aM,aH,cn,hxF,hxH,o1,o2,o3]
          refine Tq0 ?_
          refine⟨S,⟨rfl,sl⟩,?_⟩
          cases cd:bp S y.dst with
          |false=>
           try simp only[go_sem,hgj,ej,aM,aH,cn,hxF,hxH,o1,o2,o3,cd]
           exact Y54
          |true=>
           try simp only[go_sem,hgj,ej,aM,aH,cn,hxF,hxH,o1,o2,o3,cd]
           exact Y55
        |false=>
         cases o4:y.op==4 with
         |true=>
          have hO:(if y.op==1||(y.op==2||y.op==3)then bp S y.dst else if y.op==4||y.op==5 then fu S y.dst else true)=fu S y.dst:=by simp only[o1,o2,o3,o4,tfB,if_true,if_false,reduceCtorEq,if_true,if_false,Bool.false_eq_true,ite_true,ite_false]
          rw[hO]at hR
          cases bj with
          |false=>
           try simp only[go_sem,hgj,ej,aM,aH,cn,hxF,hxH,o1,o2,o3,o4]
           exact Y47
          |true=>
           try simp only[go_sem,hgj,ej,aM,aH,cn,hxF,hxH,o1,o2,o3,o4]
           refine Tq0 ?_
           refine⟨S,⟨rfl,sl⟩,?_⟩
           cases cd:fu S y.dst with
           |false=>
            try simp only[go_sem,hgj,ej,aM,aH,cn,hxF,hxH,o1,o2,o3,o4,cd]
            exact Y54
           |true=>
            try simp only[go_sem,hgj,ej,aM,aH,cn,hxF,hxH,o1,o2,o3,o4,cd]
            exact Y55
         |false=>
          cases o5:y.op==5 with
          |true=>
           have hO:(if y.op==1||(y.op==2||y.op==3)then bp S y.dst else if y.op==4||y.op==5 then fu S y.dst else true)=fu S y.dst:=by simp only[o1,o2,o3,o4,o5,tfB,if_true,if_false,reduceCtorEq,if_true,if_false,Bool.false_eq_true,ite_true,ite_false]
           rw[hO]at hR
           cases bj with
           |false=>
            refine Tq46 ?_
            exact Y47
           |true=>
            refine Tq46 ?_
            refine Tq0 ?_
            refine⟨S,⟨rfl,sl⟩,?_⟩
            cases cd:fu S y.dst with
            |false=>
             try simp only[go_sem,hgj,ej,aM,aH,cn,hxF,hxH,o1,o2,o3,o4,o5,cd]
             exact Y54
            |true=>
             try simp only[go_sem,hgj,ej,aM,aH,cn,hxF,hxH,o1,o2,o3,o4,o5,cd]
             exact Y55
          |false=>
           have hO:(if y.op==1||(y.op==2||y.op==3)then bp S y.dst else if y.op==4||y.op==5 then fu S y.dst else true)=true:=by simp only[o1,o2,o3,o4,o5,tfB,if_true,if_false,reduceCtorEq,if_true,if_false,Bool.false_eq_true,ite_true,ite_false]
           rw[hO]at hR
           cases bj with
           |false=>
            refine Tq46 ?_
            exact Y47
           |true=>
            refine Tq46 ?_
            refine Tq0 ?_
            exact bw J true (by rw[Bool.true_and]at hR;exact hR) (en5 hcJ)
     clear hR
     intro b0 hR
     dsimp only at hR ⊢
     replace hR:(b0&&(((y.kind !=2||bp S y.n)&&(y.kind !=3||decide (y.n<(x.params.length:Int))))&&((x.body.drop (j+1)).all (fun p=>rpB S x.params.length p)&&((S.actions.drop (k+1)).all (fun a=>a.body.all fun p=>rpB S a.params.length p)&&E))))=R:=by rw[← hR,Bool.and_assoc]
     replace hR:=ae (E:=(y.kind !=2||bp S y.n)&&(y.kind !=3||decide (y.n<(x.params.length:Int)))) hR
     cases b0 with
     |false=>
      refine Tq51 ?_
      exact Y24
     |true=>
      cases k2:(y.kind !=2)with
      |false=>
       try simp only[go_sem,hgj,ej,aM,aH,cn,hxF,hxH,k2]
       refine Tq0 ?_
       refine⟨S,⟨rfl,sl⟩,?_⟩
       cases f2:(bp S y.n)with
       |false=>
        try simp only[go_sem,hgj,ej,aM,aH,cn,hxF,hxH,k2,f2]
        refine Tq0 ?_
        replace hR:=lf false hR (by simp only[k2,f2,tfC])
        exact Y25
       |true=>
        cases k3:(y.kind !=3)with
        |false=>
         cases n3:(decide (y.n<(x.params.length:Int)))with
         |false=>
          try simp only[go_sem,hgj,ej,aM,aH,cn,hxF,hxH,k2,f2,k3,n3]
          refine Tq0 ?_
          replace hR:=lf false hR (by simp only[k2,f2,k3,n3,tfC])
          exact Y25
         |true=>
          try simp only[go_sem,hgj,ej,aM,aH,cn,hxF,hxH,k2,f2,k3,n3]
          refine Tq0 ?_
          replace hR:=lf true hR (by simp only[k2,f2,k3,n3,tfC])
          exact Y41
        |true=>
         try simp only[go_sem,hgj,ej,aM,aH,cn,hxF,hxH,k2,f2,k3]
         refine Tq0 ?_
         replace hR:=lf true hR (by simp only[k2,f2,k3,tfC])
         exact Y41
      |true=>
       cases k3:(y.kind !=3)with
       |false=>
        cases n3:(decide (y.n<(x.params.length:Int)))with
        |false=>
         try simp only[go_sem,hgj,ej,aM,aH,cn,hxF,hxH,k2,k3,n3]
         refine Tq0 ?_
         replace hR:=lf false hR (by simp only[k2,k3,n3,tfC])
         exact Y25
        |true=>
         try simp only[go_sem,hgj,ej,aM,aH,cn,hxF,hxH,k2,k3,n3]
         refine Tq0 ?_
         replace hR:=lf true hR (by simp only[k2,k3,n3,tfC])
         exact Y41
       |true=>
        try simp only[go_sem,hgj,ej,aM,aH,cn,hxF,hxH,k2,k3]
        refine Tq0 ?_
        replace hR:=lf true hR (by simp only[k2,k3,tfC])
        exact Y41
    ·exact Y34
   ·skip
    replace hR:=ndL hk' hR
    subst hk'
    exact Y74
def eI:PCt
 |[.agg l],_,K=>∃ S:Sch,(l=aR S∧SB S)∧K (.bool (grB S))
 |_,_,_=>False
def FP:EPp 38 eI:=by
 refine Ype fun _ H K h=>?_
 unfold eI at h
 split at h<;>try exact h.elim
 rename_i l
 obtain⟨S,⟨rfl,hS⟩,hK⟩:=h
 refine⟨_,hK,?_⟩
 clear hK
 obtain⟨E,hE⟩:∃ E:Bool,E=true:=⟨true,rfl⟩
 generalize hR:grB S=R
 unfold grB at hR
 have sl:=hS.sl
 have hxF:∀ n:Int,decide (ixP (fun t:SField=>t.id==n) S.fields 0 ≥ 0)=bp S n:=fun _=>eY
 have hxH:∀ n:Int,decide (ixP (fun t:SHeader=>t.id==n) S.headers 0 ≥ 0)=fu S n:=fun _=>eY
 have hxT:∀ n:Int,decide (ixP (fun t:STable=>t.id==n) S.tables 0 ≥ 0)=fZ S n:=fun _=>eY
 have hxA:∀ n:Int,decide (ixP (fun t:SAction=>t.id==n) S.actions 0 ≥ 0)=fh S n:=fun _=>eY
 refine Yfu aD (tCq pW (tCq sX (tCq jX (tCq lc (tCq jE (tCq Pi tNq)))))) Tryz.func38 [.tmp 2] fun hcl=>?_
 have hcH:=me (S:=S) hcl
 unfold aR
 refine Tq20 ?_
 cases hT:S.tables.all (nd S)with
 |false=>
  have hR0:R=false:=by rw[← hR,hT,Bool.false_and]
  clear hR
  subst hR0
  obtain⟨R,hR1⟩:∃ R:Bool,R=false:=⟨false,rfl⟩
  have hR:(true&&((S.tables.all (nd S))&&E))=R:=by rw[hT,hR1];rfl
  clear hT
  refine lpB S.tables (nd S) (fun k bk=>[(3,.bool bk),(1,.ptr H.nx 0),(21,.slice .any 8 (S.tables.map au)),(22,.int .i64 (S.tables.length:Int)),(23,.int .i64 (k:Int))]) (fJ H S) hR (en5 hcH) ?_
  clear hR
  intro k bk hk hR
  have hbk:=sl.tl
  refine Tq20 ?_
  refine csL hk (fun hk'=>?_) fun hk'=>?_
  ·skip
   obtain⟨x,hmk,hgk,hR⟩:=hdL au iO hk' hR
   have ek:=ek5 k
   have hcI:=sG hcH x
   replace hR:(bk&&((x.keys.all fun k=>bp S k.field)&&((x.actions.all fun a=>fh S a)&&(x.actions.contains x.dflt&&((S.tables.drop (k+1)).all (nd S)&&E)))))=R:=by
    exact Y101
   exact Y10
  ·skip
   replace hR:=ndL hk' hR
   subst hk'
   rw[hE,Bool.and_true,hR1]at hR
   subst hR
   refine Tq32 ?_
   refine lpF S.stages.length (fun k=>[(3,.bool false),(1,.ptr H.nx 0),(69,.slice .any 2 (S.stages.map aQ)),(70,.int .i64 (S.stages.length:Int)),(71,.int .i64 (k:Int))]) (fJ H S) (en5 hcH) fun k hk=>?_
   have hbk:=hS.gl
   refine Tq20 ?_
   refine csL hk (fun hk'=>?_) fun hk'=>?_
   ·skip
    obtain⟨x,hmk,hgk⟩:=hdF aQ MN (l:=S.stages) hk'
    exact Y124
   ·skip
    refine Tq32 ?_
    refine lpF S.roles.length (fun k=>[(3,.bool false),(1,.ptr H.nx 0),(97,.slice .any 6 (S.roles.map aP)),(98,.int .i64 (S.roles.length:Int)),(99,.int .i64 (k:Int))]) (fJ H S) (en5 hcH) fun k hk=>?_
    have hbk:=sl.rl
    refine Tq20 ?_
    refine csL hk (fun hk'=>?_) fun hk'=>?_
    ·skip
     obtain⟨x,hmk,hgk⟩:=hdF aP nL (l:=S.roles) hk'
     have ek:=ek5 k
     try simp only[go_sem,hgk,ek,iK]
     refine Tq0 ?_
     have hcI:=yS hcH x
     refine lpF x.grants.length (fun j=>[(3,.bool false),(1,.ptr H.nx 0),(97,.slice .any 6 (S.roles.map aP)),(98,.int .i64 (S.roles.length:Int)),(99,.int .i64 (k:Int)),(13,.ptr (H.nx+1) 0),(104,.slice .any 4 (x.grants.map aK)),(105,.int .i64 (x.grants.length:Int)),(106,.int .i64 (j:Int))]) ((fJ H S).push (.cells (nL x))) (en5 hcI) fun j hj=>?_
     have hbj:=(hS.rn x hmk).2.1
     refine Tq20 ?_
     refine csL hj (fun hj'=>?_) fun hj'=>?_
     ·skip
      obtain⟨y,hmj,hgj⟩:=hdF aK y6 (l:=x.grants) hj'
      have ej:=ek5 j
      try simp only[go_sem,hgj,ej,iK]
      refine Tq0 ?_
      exact⟨j+1,Xa,Xa,en5 hcI⟩
     ·skip
      try simp only[go_sem,iK]
      refine lpF x.actions.length (fun i=>[(3,.bool false),(1,.ptr H.nx 0),(97,.slice .any 6 (S.roles.map aP)),(98,.int .i64 (S.roles.length:Int)),(99,.int .i64 (k:Int)),(120,.slice .any 1 (inL x.actions)),(121,.int .i64 (x.actions.length:Int)),(122,.int .i64 (i:Int))]) ((fJ H S).push (.cells (nL x))) (en5 hcI) fun i hi=>?_
      have hbi:=(hS.rn x hmk).2.2.1
      simp only[go_sem,inL]
      refine csL hi (fun hi'=>?_) fun hi'=>?_
      ·skip
       obtain⟨z,hmi,hgi⟩:=hdG (l:=x.actions) hi'
       have ei:=ek5 i
       try simp only[go_sem,hgi,ei,iK]
       refine Tq0 ?_
       exact⟨i+1,Xa,Xa,en5 hcI⟩
      ·skip
       try simp only[go_sem,ek]
       exact⟨k+1,Xa,Xa,en5 hcH⟩
    ·skip
     refine Tq32 ?_
     refine lpF S.refs.length (fun k=>[(3,.bool false),(1,.ptr H.nx 0),(136,.slice .any 6 (S.refs.map bc)),(137,.int .i64 (S.refs.length:Int)),(138,.int .i64 (k:Int))]) (fJ H S) (en5 hcH) fun k hk=>?_
     have hbk:=hS.xl
     refine Tq20 ?_
     refine csL hk (fun hk'=>?_) fun hk'=>?_
     ·skip
      obtain⟨x,hmk,hgk⟩:=hdF bc Gg (l:=S.refs) hk'
      exact Y124
     ·skip
      refine Tq32 ?_
      exact Z3
 |true=>
  have hA:∀ t∈S.tables,∀ a∈t.actions,fh S a=true:=fun t ht a ha=>by
   have h1:=List.all_eq_true.1 hT t ht
   unfold nd at h1
   simp only[Bool.and_eq_true]at h1
   exact List.all_eq_true.1 h1.2.1 a ha
  clear hT
  replace hR:(true&&((S.tables.all (nd S))&&((S.stages.all (th S))&&((S.roles.all (t9 S))&&((S.refs.all (nD S))&&E)))))=R:=by rw[← hR,hE];simp only[Bool.true_and,Bool.and_true]
  refine lpB S.tables (nd S) (fun k bk=>[(3,.bool bk),(1,.ptr H.nx 0),(21,.slice .any 8 (S.tables.map au)),(22,.int .i64 (S.tables.length:Int)),(23,.int .i64 (k:Int))]) (fJ H S) hR (en5 hcH) ?_
  clear hR
  intro k bk hk hR
  have hbk:=sl.tl
  refine Tq20 ?_
  refine csL hk (fun hk'=>?_) fun hk'=>?_
  ·skip
   obtain⟨x,hmk,hgk,hR⟩:=hdL au iO hk' hR
   have ek:=ek5 k
   have hcI:=sG hcH x
   replace hR:(bk&&((x.keys.all fun k=>bp S k.field)&&((x.actions.all fun a=>fh S a)&&(x.actions.contains x.dflt&&((S.tables.drop (k+1)).all (nd S)&&((S.stages.all (th S))&&((S.roles.all (t9 S))&&((S.refs.all (nD S))&&E))))))))=R:=by
    exact Y101
   exact Y10
  ·skip
   replace hR:=ndL hk' hR
   subst hk'
   refine Tq32 ?_
   refine lpB S.stages (th S) (fun k bk=>[(3,.bool bk),(1,.ptr H.nx 0),(69,.slice .any 2 (S.stages.map aQ)),(70,.int .i64 (S.stages.length:Int)),(71,.int .i64 (k:Int))]) (fJ H S) hR (en5 hcH) ?_
   clear hR
   intro k bk hk hR
   have hbk:=hS.gl
   refine Tq20 ?_
   refine csL hk (fun hk'=>?_) fun hk'=>?_
   ·skip
    obtain⟨x,hmk,hgk,hR⟩:=hdL aQ MN hk' hR
    have ek:=ek5 k
    replace hR:=af (E:=fZ S x.table&&(x.header==0||fu S x.header)) hR
    cases bk with
    |false=>
     refine Tq45 ?_
     exact Y23
    |true=>
     refine Tq45 ?_
     refine Tq0 ?_
     refine⟨S,⟨rfl,sl⟩,?_⟩
     cases c1:(fZ S x.table)with
     |false=>
      refine Tq62 ?_
      refine Tq0 ?_
      replace hR:=lf false hR (by simp only[c1,tfC])
      exact Y26
     |true=>
      cases h0:(x.header==0)with
      |false=>
       try simp only[go_sem,hgk,ek,aM,aH,aS,aW,bz,dW,hxF,hxH,hxT,hxA,c1,h0]
       refine Tq0 ?_
       refine⟨S,⟨rfl,sl⟩,?_⟩
       cases h1:(fu S x.header)with
       |false=>
        try simp only[go_sem,hgk,ek,aM,aH,aS,aW,bz,dW,hxF,hxH,hxT,hxA,c1,h0,h1]
        refine Tq0 ?_
        replace hR:=lf false hR (by simp only[c1,h0,h1,tfC])
        exact Y26
       |true=>
        try simp only[go_sem,hgk,ek,aM,aH,aS,aW,bz,dW,hxF,hxH,hxT,hxA,c1,h0,h1]
        refine Tq0 ?_
        replace hR:=lf true hR (by simp only[c1,h0,h1,tfC])
        exact Y43
      |true=>
       try simp only[go_sem,hgk,ek,aM,aH,aS,aW,bz,dW,hxF,hxH,hxT,hxA,c1,h0]
       refine Tq0 ?_
       replace hR:=lf true hR (by simp only[c1,h0,tfC])
       exact Y43
   ·skip
    replace hR:=ndL hk' hR
    subst hk'
    refine Tq32 ?_
    refine lpB S.roles (t9 S) (fun k bk=>[(3,.bool bk),(1,.ptr H.nx 0),(97,.slice .any 6 (S.roles.map aP)),(98,.int .i64 (S.roles.length:Int)),(99,.int .i64 (k:Int))]) (fJ H S) hR (en5 hcH) ?_
    clear hR
    intro k bk hk hR
    have hbk:=sl.rl
    refine Tq20 ?_
    refine csL hk (fun hk'=>?_) fun hk'=>?_
    ·skip
     obtain⟨x,hmk,hgk,hR⟩:=hdL aP nL hk' hR
     have ek:=ek5 k
     have hcI:=yS hcH x
     replace hR:(bk&&((x.grants.all fun g=>fZ S g.table)&&((x.actions.all fun a=>fh S a)&&((S.roles.drop (k+1)).all (t9 S)&&((S.refs.all (nD S))&&E)))))=R:=by
      rw[← hR];show _=(bk&&((((x.grants.all fun g=>fZ S g.table)&&(x.actions.all fun a=>fh S a))&&_)&&_));simp only[Bool.and_assoc]
     refine Tq54 ?_
     refine Tq0 ?_
     refine lpB x.grants (fun g=>fZ S g.table) (fun j bj=>[(3,.bool bj),(1,.ptr H.nx 0),(97,.slice .any 6 (S.roles.map aP)),(98,.int .i64 (S.roles.length:Int)),(99,.int .i64 (k:Int)),(13,.ptr (H.nx+1) 0),(104,.slice .any 4 (x.grants.map aK)),(105,.int .i64 (x.grants.length:Int)),(106,.int .i64 (j:Int))]) ((fJ H S).push (.cells (nL x))) hR (en5 hcI) ?_
     clear hR
     intro j bj hj hR
     have hbj:=(hS.rn x hmk).2.1
     refine Tq20 ?_
     refine csL hj (fun hj'=>?_) fun hj'=>?_
     ·skip
      obtain⟨y,hmj,hgj,hR⟩:=hdL aK y6 hj' hR
      have ej:=ek5 j
      replace hR:=af (E:=fZ S y.table) hR
      cases bj with
      |false=>
       try simp only[go_sem,hgj,ej,aM,aH,aS,aW,bz,dW,hxF,hxH,hxT,hxA]
       exact Y24
      |true=>
       try simp only[go_sem,hgj,ej,aM,aH,aS,aW,bz,dW,hxF,hxH,hxT,hxA]
       refine Tq0 ?_
       refine⟨S,⟨rfl,sl⟩,?_⟩
       cases c1:(fZ S y.table)with
       |false=>
        try simp only[go_sem,hgj,ej,aM,aH,aS,aW,bz,dW,hxF,hxH,hxT,hxA,c1]
        refine Tq0 ?_
        replace hR:=lf false hR (by simp only[c1,tfC])
        exact Y25
       |true=>
        try simp only[go_sem,hgj,ej,aM,aH,aS,aW,bz,dW,hxF,hxH,hxT,hxA,c1]
        refine Tq0 ?_
        replace hR:=lf true hR (by simp only[c1,tfC])
        exact Y41
     ·skip
      replace hR:=ndL hj' hR
      subst hj'
      try simp only[go_sem,iK]
      refine lpB x.actions (fun a=>fh S a) (fun i bi=>[(3,.bool bi),(1,.ptr H.nx 0),(97,.slice .any 6 (S.roles.map aP)),(98,.int .i64 (S.roles.length:Int)),(99,.int .i64 (k:Int)),(120,.slice .any 1 (inL x.actions)),(121,.int .i64 (x.actions.length:Int)),(122,.int .i64 (i:Int))]) ((fJ H S).push (.cells (nL x))) hR (en5 hcI) ?_
      clear hR
      intro i bi hi hR
      have hbi:=(hS.rn x hmk).2.2.1
      simp only[go_sem,inL]
      refine csL hi (fun hi'=>?_) fun hi'=>?_
      ·skip
       obtain⟨z,hmi,hgi,hR⟩:=hdI hi' hR
       have ei:=ek5 i
       replace hR:=af (E:=fh S z) hR
       cases bi with
       |false=>
        try simp only[go_sem,hgi,ei,aM,aH,aS,aW,bz,dW,hxF,hxH,hxT,hxA]
        refine Tq0 ?_
        replace hR:=lff hR
        exact⟨(i+1,false),⟨om5,hR⟩,om5,en5 hcI⟩
       |true=>
        try simp only[go_sem,hgi,ei,aM,aH,aS,aW,bz,dW,hxF,hxH,hxT,hxA]
        refine Tq0 ?_
        refine⟨S,⟨rfl,sl⟩,?_⟩
        cases c1:(fh S z)with
        |false=>
         try simp only[go_sem,hgi,ei,aM,aH,aS,aW,bz,dW,hxF,hxH,hxT,hxA,c1]
         refine Tq0 ?_
         replace hR:=lf false hR (by simp only[c1,tfC])
         exact⟨(i+1,false),⟨om5,hR⟩,om5,en5 hcI⟩
        |true=>
         try simp only[go_sem,hgi,ei,aM,aH,aS,aW,bz,dW,hxF,hxH,hxT,hxA,c1]
         refine Tq0 ?_
         replace hR:=lf true hR (by simp only[c1,tfC])
         exact⟨(i+1,true),⟨om5,hR⟩,om5,en5 hcI⟩
      ·skip
       replace hR:=ndL hi' hR
       subst hi'
       try simp only[go_sem,ek]
       exact⟨(k+1,bi),⟨om5,hR⟩,om5,en5 hcH⟩
    ·skip
     replace hR:=ndL hk' hR
     subst hk'
     refine Tq32 ?_
     refine lpB S.refs (nD S) (fun k bk=>[(3,.bool bk),(1,.ptr H.nx 0),(136,.slice .any 6 (S.refs.map bc)),(137,.int .i64 (S.refs.length:Int)),(138,.int .i64 (k:Int))]) (fJ H S) hR (en5 hcH) ?_
     clear hR
     intro k bk hk hR
     have hbk:=hS.xl
     refine Tq20 ?_
     refine csL hk (fun hk'=>?_) fun hk'=>?_
     ·skip
      obtain⟨x,hmk,hgk,hR⟩:=hdL bc Gg hk' hR
      have ek:=ek5 k
      replace hR:=af (E:=nD S x) hR
      cases bk with
      |false=>
       refine Tq45 ?_
       exact Y23
      |true=>
       refine Tq45 ?_
       refine Tq0 ?_
       refine⟨S,x,⟨rfl,rfl,hS,hA⟩,?_⟩
       cases c1:(nD S x)with
       |false=>
        refine Tq62 ?_
        refine Tq0 ?_
        replace hR:=lf false hR (by simp only[c1,tfC])
        exact Y26
       |true=>
        refine Tq62 ?_
        refine Tq0 ?_
        replace hR:=lf true hR (by simp only[c1,tfC])
        exact Y43
     ·skip
      replace hR:=ndL hk' hR
      subst hk'
      exact Y74
structure KeyAt(S:Sch)(n k:Int)(x:SKey)(b:STable)(j:Nat):Prop where
 ix:ixP (fun t:STable=>t.id==n) S.tables 0=(j:Int)
 lt:j<S.tables.length
 gt:(S.tables.map au).getD j .junk=.agg (iO b)
 k0:0≤k
 kl:k.toNat<b.keys.length
 gk:(b.keys.map aZ).getD k.toNat .junk=.agg [.str (x).name,.int .i64 (x).field,.int .i64 (x).kind]
def zL{S:Sch}{n k:Int}{x:SKey}{b:STable}(hb:S.tables.find? (fun t=>t.id==n)=some b)(h0:0≤k)(hk:b.keys[k.toNat]?=some x):∃ j,KeyAt S n k x b j:=by
 obtain⟨j,j1,g2,l2⟩:=mg hb
 have gb:=a9 (f:=au) (l:=S.tables) (k:=j) (x:=b) g2
 have gk:=a9 (f:=aZ) (l:=b.keys) (k:=k.toNat) (x:=x) hk
 have hl:k.toNat<b.keys.length:=by
  rcases Nat.lt_or_ge k.toNat b.keys.length with h|h
  ·exact h
  ·rw[gNq h]at hk;cases hk
 exact⟨j,j1,l2,gb,h0,hl,gk⟩
def TY{S:Sch}{r:SRef}(h:qp S r):∃ b j,KeyAt S r.toTable r.toKey (m9 S r) b j:=by
 obtain⟨b,e1,e2,e3,_⟩:=pF h
 obtain⟨j,hj⟩:=zL e1 e2 e3
 exact⟨b,j,hj⟩
def OH{S:Sch}{r:SRef}(h:qp S r)(h0:(r.action==0)=true):∃ b j,KeyAt S r.table r.key (oO S r) b j:=by
 obtain⟨b,e1,e2,e3,e4⟩:=pF h
 rw[if_pos h0]at e4
 obtain⟨a,a1,a2,a3⟩:=e4
 obtain⟨j,hj⟩:=zL a1 a2 a3
 exact⟨a,j,hj⟩
def exA(S:Sch):Bool:=S.refs.all (exB S)
def eu:PCt
 |[.agg l],_,K=>∃ S:Sch,(l=aR S∧SB S∧∀ r∈S.refs,qp S r)∧K (.bool (exA S))
 |_,_,_=>False
def Ft:EPp 39 eu:=by
 refine Ype fun _ H K h=>?_
 unfold eu at h
 split at h<;>try exact h.elim
 rename_i l
 obtain⟨S,⟨rfl,hS,hro⟩,hK⟩:=h
 refine⟨_,hK,?_⟩
 clear hK
 obtain⟨E,hE⟩:∃ E:Bool,E=true:=⟨true,rfl⟩
 generalize hR:exA S=R
 unfold exA at hR
 have sl:=hS.sl
 replace hR:(true&&((S.refs.all (exB S))&&E))=R:=by rw[← hR,hE];simp only[Bool.true_and,Bool.and_true]
 refine Yfw aD (tCq jX tNq) Tryz.func39 [.tmp 2] (nrq _) (T:=aC [(5,[[],[],[],[],[],[],[],[4,6],[],[],[7],[],[],[],[],[7]]),(7,[[],[],[],[],[],[],[],[4,6],[],[],[7],[],[],[],[],[7]])]) (h:=fun hcl=>?_)
 have hcH:=me (S:=S) hcl
 unfold aR
 refine Tq20 ?_
 refine lpB S.refs (exB S) (fun k bk=>[(3,.bool bk),(1,.ptr H.nx 0),(7,.slice .any 6 (S.refs.map bc)),(8,.int .i64 (S.refs.length:Int)),(9,.int .i64 (k:Int))]) (fJ H S) hR (en5 hcH) ?_
 clear hR
 intro k bk hk hR
 have hbk:=hS.xl
 refine Tq20 ?_
 refine csL hk (fun hk'=>?_) fun hk'=>?_
 ·skip
  obtain⟨x,hmk,hgk,hR⟩:=hdL bc Gg hk' hR
  have ek:=ek5 k
  obtain⟨tb,tj,⟨t1,t2,t3,t4,t5,t6⟩⟩:=TY (hro x hmk)
  cases a0:x.action==0 with
  |false=>
   have na:(x.action !=0)=true:=by rw[bne,a0];rfl
   replace hR:=af (E:=(m9 S x).kind==1&&(x.action !=0||(oO S x).kind==1)) hR
   cases bk with
   |false=>
    try simp only[go_sem,hgk,ek,aS,t1,t3,t6,a0,na]
    exact Y23
   |true=>
    try simp only[go_sem,hgk,ek,aS,t1,t3,t6,a0,na]
    refine Tq0 ?_
    refine⟨S,⟨rfl,sl⟩,?_⟩
    cases c1:((m9 S x).kind==1)with
    |false=>
     try simp only[go_sem,hgk,ek,aS,t1,t3,t6,a0,na,c1]
     refine Tq0 ?_
     replace hR:=lf false hR (by simp only[a0,na,c1,tfC])
     exact Y26
    |true=>
     try simp only[go_sem,hgk,ek,aS,t1,t3,t6,a0,na,c1]
     refine Tq0 ?_
     replace hR:=lf true hR (by simp only[a0,na,c1,tfC])
     exact Y43
  |true=>
   have na:(x.action !=0)=false:=by rw[bne,a0];rfl
   obtain⟨fb,fj,⟨f1,f2,f3,f4,f5,f6⟩⟩:=OH (hro x hmk) a0
   replace hR:=af (E:=(m9 S x).kind==1&&(x.action !=0||(oO S x).kind==1)) hR
   cases bk with
   |false=>
    try simp only[go_sem,hgk,ek,aS,t1,t3,t6,f1,f3,f6,a0,na]
    exact Y23
   |true=>
    try simp only[go_sem,hgk,ek,aS,t1,t3,t6,f1,f3,f6,a0,na]
    refine Tq0 ?_
    refine⟨S,⟨rfl,sl⟩,?_⟩
    cases c1:((m9 S x).kind==1)with
    |false=>
     try simp only[go_sem,hgk,ek,aS,t1,t3,t6,f1,f3,f6,a0,na,c1]
     refine Tq0 ?_
     replace hR:=lf false hR (by simp only[a0,na,c1,tfC])
     exact Y26
    |true=>
     try simp only[go_sem,hgk,ek,aS,t1,t3,t6,f1,f3,f6,a0,na,c1]
     refine Tq0 ?_
     refine⟨S,⟨rfl,sl⟩,?_⟩
     cases c2:((oO S x).kind==1)with
     |false=>
      try simp only[go_sem,hgk,ek,aS,t1,t3,t6,f1,f3,f6,a0,na,c1,c2]
      refine Tq0 ?_
      replace hR:=lf false hR (by simp only[a0,na,c1,c2,tfC])
      exact Y26
     |true=>
      try simp only[go_sem,hgk,ek,aS,t1,t3,t6,f1,f3,f6,a0,na,c1,c2]
      refine Tq0 ?_
      replace hR:=lf true hR (by simp only[a0,na,c1,c2,tfC])
      exact Y43
 ·skip
  replace hR:=ndL hk' hR
  subst hk'
  exact Y74
end Go.AL
