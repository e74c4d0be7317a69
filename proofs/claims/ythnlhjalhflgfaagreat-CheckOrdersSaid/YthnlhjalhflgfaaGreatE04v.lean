/- Lemmas of the proof; no condition. -/
import Derived.Test.YthnlhjalhflgfaaGreatE04j
import Derived.Test.YthnlhjalhflgfaaGreatS12k
set_option linter.all false
set_option maxRecDepth 10000
set_option maxHeartbeats 32000000
open Go Go.AL Go.Proofs
namespace Go.AL
theorem A5:ti Tryz.prog 207=some ⟨.struct [(0,34,false)],10,208,.agg [.slice .nil 1 [],.slice .nil 1 [],.slice .nil 1 [],.slice .nil 1 [],.slice .nil 1 [],.slice .nil 1 [],.slice .nil 1 [],.slice .nil 1 [],.int .i64 0,.int .i64 0]⟩:=krf
attribute [go_sem] A5
def bz (S:Sch) (n:Int):Bool:=S.fields.any fun t=>t.id==n
def br:PCt
 |[.agg l,.int .i64 n],_,K=>∃ S:Sch,(l=aR S∧SLen S)∧K (.bool (bz S n))
 |_,_,_=>False
theorem rE:EPp 127 br:=by
 refine Ype fun _ H K h=>?_
 unfold br at h
 split at h<;>try exact h.elim
 rename_i l n
 obtain ⟨S,⟨rfl,hS⟩,hK⟩:=h
 refine ⟨_,hK,?_⟩
 clear hK
 have hR:decide (0≤ixP (fun t:SField=>t.id==n) S.fields 0)=bz S n:=eC
 generalize bz S n=R at *
 refine Yfu aE (tCq sQ tNq) Tryz.func127 [.tmp 4] fun hcl=>?_
 simp only [go_sem,aR,nK]
 refine ⟨S,⟨rfl,hS.fl⟩,?_⟩
 have hR':decide (ixP (fun t:SField=>t.id==n) S.fields 0 ≥ 0)=R:=hR
 exact Y90
def fh (S:Sch) (n:Int):Bool:=S.headers.any fun t=>t.id==n
def bF:PCt
 |[.agg l,.int .i64 n],_,K=>∃ S:Sch,(l=aR S∧SLen S)∧K (.bool (fh S n))
 |_,_,_=>False
theorem xU:EPp 138 bF:=by
 refine Ype fun _ H K h=>?_
 unfold bF at h
 split at h<;>try exact h.elim
 rename_i l n
 obtain ⟨S,⟨rfl,hS⟩,hK⟩:=h
 refine ⟨_,hK,?_⟩
 clear hK
 have hR:decide (0≤ixP (fun t:SHeader=>t.id==n) S.headers 0)=fh S n:=eC
 generalize fh S n=R at *
 refine Yfu aE (tCq xS tNq) Tryz.func138 [.tmp 4] fun hcl=>?_
 simp only [go_sem,aR,pj]
 refine ⟨S,⟨rfl,hS.hl⟩,?_⟩
 have hR':decide (ixP (fun t:SHeader=>t.id==n) S.headers 0 ≥ 0)=R:=hR
 exact Y90
def gy (S:Sch) (n:Int):Bool:=S.tables.any fun t=>t.id==n
def hY:PCt
 |[.agg l,.int .i64 n],_,K=>∃ S:Sch,(l=aR S∧SLen S)∧K (.bool (gy S n))
 |_,_,_=>False
theorem BT:EPp 137 hY:=by
 refine Ype fun _ H K h=>?_
 unfold hY at h
 split at h<;>try exact h.elim
 rename_i l n
 obtain ⟨S,⟨rfl,hS⟩,hK⟩:=h
 refine ⟨_,hK,?_⟩
 clear hK
 have hR:decide (0≤ixP (fun t:STable=>t.id==n) S.tables 0)=gy S n:=eC
 generalize gy S n=R at *
 refine Yfu aE (tCq gO tNq) Tryz.func137 [.tmp 4] fun hcl=>?_
 simp only [go_sem,aR,d9]
 refine ⟨S,⟨rfl,hS.tl⟩,?_⟩
 have hR':decide (ixP (fun t:STable=>t.id==n) S.tables 0 ≥ 0)=R:=hR
 exact Y90
def fm (S:Sch) (n:Int):Bool:=S.actions.any fun t=>t.id==n
def FZ:PCt
 |[.agg l,.int .i64 n],_,K=>∃ S:Sch,(l=aR S∧SLen S)∧K (.bool (fm S n))
 |_,_,_=>False
theorem BW:EPp 142 FZ:=by
 refine Ype fun _ H K h=>?_
 unfold FZ at h
 split at h<;>try exact h.elim
 rename_i l n
 obtain ⟨S,⟨rfl,hS⟩,hK⟩:=h
 refine ⟨_,hK,?_⟩
 clear hK
 have hR:decide (0≤ixP (fun t:SAction=>t.id==n) S.actions 0)=fm S n:=eC
 generalize fm S n=R at *
 refine Yfu aE (tCq jz tNq) Tryz.func142 [.tmp 4] fun hcl=>?_
 simp only [go_sem,aR,ic]
 refine ⟨S,⟨rfl,hS.al⟩,?_⟩
 have hR':decide (ixP (fun t:SAction=>t.id==n) S.actions 0 ≥ 0)=R:=hR
 exact Y90
def jE (S:Sch) (n:Int):Bool:=n==0||(n==65535||S.states.any fun t=>t.id==n)
def fM:PCt
 |[.agg l,.int .i64 n],_,K=>∃ S:Sch,(l=aR S∧SLen S)∧K (.bool (jE S n))
 |_,_,_=>False
theorem Cu:EPp 265 fM:=by
 refine Ype fun _ H K h=>?_
 unfold fM at h
 split at h<;>try exact h.elim
 rename_i l n
 obtain ⟨S,⟨rfl,hS⟩,hK⟩:=h
 refine ⟨_,hK,?_⟩
 clear hK
 unfold jE
 have hR':decide (ixP (fun t:SState=>t.id==n) S.states 0 ≥ 0)=S.states.any (fun t=>t.id==n):=eC
 generalize S.states.any (fun t=>t.id==n)=b at *
 refine Yfu aE (tCq yO tNq) Tryz.func265 [.tmp 4] fun hcl=>?_
 cases c1:n==0 with
 |true =>
  simp only [Bool.true_or]
  simp only [go_sem,aR,mm,c1]
  exact Z1
 |false =>
  cases c2:n==65535 with
  |true =>
   simp only [Bool.true_or,Bool.or_true]
   simp only [go_sem,aR,mm,c1,c2]
   exact Z1
  |false =>
   simp only [Bool.false_or]
   simp only [go_sem,aR,mm,c1,c2]
   refine ⟨S,⟨rfl,hS.sl⟩,?_⟩
   exact Y90
def Ci:PCt
 |[x,.ptr c 0],H,K=>∃ (t:SCase) (S:Sch),(x=bb t∧H.get c=some (.cells (aR S))∧SLen S)∧K (.bool (jE S t.next))
 |_,_,_=>False
theorem rb:EPp 266 Ci:=by
 refine Ype fun _ H K h=>?_
 unfold Ci at h
 split at h<;>try exact h.elim
 rename_i x c
 obtain ⟨t,S,⟨rfl,hg,hS⟩,hK⟩:=h
 refine ⟨_,hK,?_⟩
 clear hK
 have hl:=glq hg
 have hne:(c=H.nx)=False:=eFo
 have hcs:=aM hg
 generalize hR:jE S t.next=R at *
 unfold bb vc
 unfold aR at hg hcs
 refine Yfu aE (tCq Cu tNq) Tryz.func266 [.tmp 3] fun hcl=>?_
 simp only [go_sem,hcs,hne,hg,fM]
 refine ⟨S,⟨rfl,hS⟩,?_⟩
 exact Y50
def qV (S:Sch) (t:SState):Bool:=(t.header==0||fh S t.header)&&((t.select==0||bz S t.select)&&(jE S t.dflt&&t.cases.all fun c=>jE S c.next))
def Lh:PCt
 |[.agg l,x],_,K=>∃ (S:Sch) (t:SState),(l=aR S∧x=aA t∧SLen S∧t.cases.length≤1000000)∧K (.bool (qV S t))
 |_,_,_=>False
theorem Na:EPp 130 Lh:=by
 refine Ype fun _ H K h=>?_
 unfold Lh at h
 split at h<;>try exact h.elim
 rename_i l x
 obtain ⟨S,t,⟨rfl,rfl,hS,hcl0⟩,hK⟩:=h
 refine ⟨_,hK,?_⟩
 clear hK
 generalize hR:qV S t=R
 unfold qV at hR
 unfold aA
 refine Yfu aE (tCq xU (tCq rE (tCq Cu (tCq zG tNq)))) Tryz.func130 [.tmp 4] fun hcl=>?_
 unfold aR
 cases h0:t.header==0 with
 |true =>
  cases s0:t.select==0 with
  |true =>
   try simp only [aD,go_sem,bF,br,fM,cX,h0,s0]
   refine ⟨S,⟨rfl,hS⟩,?_⟩
   cases n1:jE S t.dflt with
   |false =>
    simp only [h0,s0,n1,tfC] at hR
    subst hR
    try simp only [aD,go_sem,bF,br,fM,cX,h0,s0,n1]
    exact Z1
   |true =>
    try simp only [aD,go_sem,bF,br,fM,cX,h0,s0,n1]
    refine ⟨t.cases,(fun c=>jE S c.next),⟨rfl,hcl0,fun x hx H' hle' hcl'=>clB rb ⟨x,S,⟨rfl,hle'.get _ _ (by (try simp only [go_sem]);first|done|rfl),hS⟩,rfl⟩⟩,?_⟩
    cases k1:t.cases.all fun c=>jE S c.next with
    |false =>
     exact Y118
    |true =>
     exact Y118
  |false =>
   try simp only [aD,go_sem,bF,br,fM,cX,h0,s0]
   refine ⟨S,⟨rfl,hS⟩,?_⟩
   cases s1:bz S t.select with
   |false =>
    simp only [h0,s0,s1,tfC] at hR
    subst hR
    try simp only [aD,go_sem,bF,br,fM,cX,h0,s0,s1]
    exact Z1
   |true =>
    try simp only [aD,go_sem,bF,br,fM,cX,h0,s0,s1]
    refine ⟨S,⟨rfl,hS⟩,?_⟩
    cases n1:jE S t.dflt with
    |false =>
     simp only [h0,s0,s1,n1,tfC] at hR
     subst hR
     try simp only [aD,go_sem,bF,br,fM,cX,h0,s0,s1,n1]
     exact Z1
    |true =>
     try simp only [aD,go_sem,bF,br,fM,cX,h0,s0,s1,n1]
     refine ⟨t.cases,(fun c=>jE S c.next),⟨rfl,hcl0,fun x hx H' hle' hcl'=>clB rb ⟨x,S,⟨rfl,hle'.get _ _ (by (try simp only [go_sem]);first|done|rfl),hS⟩,rfl⟩⟩,?_⟩
     cases k1:t.cases.all fun c=>jE S c.next with
     |false =>
      exact Y111
     |true =>
      exact Y111
 |false =>
  try simp only [aD,go_sem,bF,br,fM,cX,h0]
  refine ⟨S,⟨rfl,hS⟩,?_⟩
  cases h1:fh S t.header with
  |false =>
   simp only [h0,h1,tfC] at hR
   subst hR
   try simp only [aD,go_sem,bF,br,fM,cX,h0,h1]
   exact Z1
  |true =>
   cases s0:t.select==0 with
   |true =>
    try simp only [aD,go_sem,bF,br,fM,cX,h0,h1,s0]
    refine ⟨S,⟨rfl,hS⟩,?_⟩
    cases n1:jE S t.dflt with
    |false =>
     simp only [h0,h1,s0,n1,tfC] at hR
     subst hR
     try simp only [aD,go_sem,bF,br,fM,cX,h0,h1,s0,n1]
     exact Z1
    |true =>
     try simp only [aD,go_sem,bF,br,fM,cX,h0,h1,s0,n1]
     refine ⟨t.cases,(fun c=>jE S c.next),⟨rfl,hcl0,fun x hx H' hle' hcl'=>clB rb ⟨x,S,⟨rfl,hle'.get _ _ (by (try simp only [go_sem]);first|done|rfl),hS⟩,rfl⟩⟩,?_⟩
     cases k1:t.cases.all fun c=>jE S c.next with
     |false =>
      exact Y112
     |true =>
      exact Y112
   |false =>
    try simp only [aD,go_sem,bF,br,fM,cX,h0,h1,s0]
    refine ⟨S,⟨rfl,hS⟩,?_⟩
    cases s1:bz S t.select with
    |false =>
     simp only [h0,h1,s0,s1,tfC] at hR
     subst hR
     try simp only [aD,go_sem,bF,br,fM,cX,h0,h1,s0,s1]
     exact Z1
    |true =>
     try simp only [aD,go_sem,bF,br,fM,cX,h0,h1,s0,s1]
     refine ⟨S,⟨rfl,hS⟩,?_⟩
     cases n1:jE S t.dflt with
     |false =>
      simp only [h0,h1,s0,s1,n1,tfC] at hR
      subst hR
      try simp only [aD,go_sem,bF,br,fM,cX,h0,h1,s0,s1,n1]
      exact Z1
     |true =>
      try simp only [aD,go_sem,bF,br,fM,cX,h0,h1,s0,s1,n1]
      refine ⟨t.cases,(fun c=>jE S c.next),⟨rfl,hcl0,fun x hx H' hle' hcl'=>clB rb ⟨x,S,⟨rfl,hle'.get _ _ (by (try simp only [go_sem]);first|done|rfl),hS⟩,rfl⟩⟩,?_⟩
      cases k1:t.cases.all fun c=>jE S c.next with
      |false =>
       exact Y105
      |true =>
       exact Y105
def nD (S:Sch) (np:Nat) (p:SPrim):Bool :=
 if p.op==1||(p.op==2||p.op==3) then bz S p.dst&&(if p.kind==2 then bz S p.n else if p.kind==3 then decide (p.n<(np:Int)) else true)
 else if p.op==4||p.op==5 then fh S p.dst
 else if p.kind==2 then bz S p.n else if p.kind==3 then decide (p.n<(np:Int)) else true
def Bv:PCt
 |[.agg l,x,y],_,K=>∃ (S:Sch) (a:SAction) (p:SPrim),(l=aR S∧x=ap a∧y=aT p∧SLen S)∧K (.bool (nD S a.params.length p))
 |_,_,_=>False
theorem LW:EPp 133 Bv:=by
 refine Ype fun _ H K h=>?_
 unfold Bv at h
 split at h<;>try exact h.elim
 rename_i l x y
 obtain ⟨S,a,p,⟨rfl,rfl,rfl,hS⟩,hK⟩:=h
 refine ⟨_,hK,?_⟩
 clear hK
 generalize hR:nD S a.params.length p=R
 unfold nD at hR
 unfold ap aT vc
 refine Yfu aE (tCq xU (tCq rE tNq)) Tryz.func133 [.tmp 6] fun hcl=>?_
 unfold aR
 cases o1:p.op==1 with
 |false =>
  cases o2:p.op==2 with
  |false =>
   cases o3:p.op==3 with
   |false =>
    cases o4:p.op==4 with
    |false =>
     cases o5:p.op==5 with
     |false =>
      cases k2:p.kind==2 with
      |false =>
       cases k3:p.kind==3 with
       |false =>
        simp only [o1,o2,o3,o4,o5,k2,k3,tfC] at hR
        subst hR
        try simp only [aD,go_sem,bF,br,ybb,o1,o2,o3,o4,o5,k2,k3]
        exact Z1
       |true =>
        cases x3:decide (p.n<(a.params.length:Int)) with
        |false =>
         exact Y95
        |true =>
         exact Y95
      |true =>
       try simp only [aD,go_sem,bF,br,ybb,o1,o2,o3,o4,o5,k2]
       refine ⟨S,⟨rfl,hS⟩,?_⟩
       cases x2:bz S p.n with
       |false =>
        exact Y100
       |true =>
        exact Y100
     |true =>
      try simp only [aD,go_sem,bF,br,ybb,o1,o2,o3,o4,o5]
      refine ⟨S,⟨rfl,hS⟩,?_⟩
      cases d2:fh S p.dst with
      |false =>
       exact Y106
      |true =>
       exact Y106
    |true =>
     try simp only [aD,go_sem,bF,br,ybb,o1,o2,o3,o4]
     refine ⟨S,⟨rfl,hS⟩,?_⟩
     cases d2:fh S p.dst with
     |false =>
      exact Y113
     |true =>
      exact Y113
   |true =>
    try simp only [aD,go_sem,bF,br,ybb,o1,o2,o3]
    refine ⟨S,⟨rfl,hS⟩,?_⟩
    cases d1:bz S p.dst with
    |false =>
     simp only [o1,o2,o3,d1,tfC] at hR
     subst hR
     try simp only [aD,go_sem,bF,br,ybb,o1,o2,o3,d1]
     exact Z1
    |true =>
     cases k2:p.kind==2 with
     |false =>
      cases k3:p.kind==3 with
      |false =>
       simp only [o1,o2,o3,d1,k2,k3,tfC] at hR
       subst hR
       try simp only [aD,go_sem,bF,br,ybb,o1,o2,o3,d1,k2,k3]
       exact Z1
      |true =>
       cases x3:decide (p.n<(a.params.length:Int)) with
       |false =>
        exact Y101
       |true =>
        exact Y101
     |true =>
      try simp only [aD,go_sem,bF,br,ybb,o1,o2,o3,d1,k2]
      refine ⟨S,⟨rfl,hS⟩,?_⟩
      cases x2:bz S p.n with
      |false =>
       exact Y107
      |true =>
       exact Y107
  |true =>
   try simp only [aD,go_sem,bF,br,ybb,o1,o2]
   refine ⟨S,⟨rfl,hS⟩,?_⟩
   cases d1:bz S p.dst with
   |false =>
    simp only [o1,o2,d1,tfC] at hR
    subst hR
    try simp only [aD,go_sem,bF,br,ybb,o1,o2,d1]
    exact Z1
   |true =>
    cases k2:p.kind==2 with
    |false =>
     cases k3:p.kind==3 with
     |false =>
      simp only [o1,o2,d1,k2,k3,tfC] at hR
      subst hR
      try simp only [aD,go_sem,bF,br,ybb,o1,o2,d1,k2,k3]
      exact Z1
     |true =>
      cases x3:decide (p.n<(a.params.length:Int)) with
      |false =>
       exact Y108
      |true =>
       exact Y108
    |true =>
     try simp only [aD,go_sem,bF,br,ybb,o1,o2,d1,k2]
     refine ⟨S,⟨rfl,hS⟩,?_⟩
     cases x2:bz S p.n with
     |false =>
      exact Y114
     |true =>
      exact Y114
 |true =>
  try simp only [aD,go_sem,bF,br,ybb,o1]
  refine ⟨S,⟨rfl,hS⟩,?_⟩
  cases d1:bz S p.dst with
  |false =>
   simp only [o1,d1,tfC] at hR
   subst hR
   try simp only [aD,go_sem,bF,br,ybb,o1,d1]
   exact Z1
  |true =>
   cases k2:p.kind==2 with
   |false =>
    cases k3:p.kind==3 with
    |false =>
     simp only [o1,d1,k2,k3,tfC] at hR
     subst hR
     try simp only [aD,go_sem,bF,br,ybb,o1,d1,k2,k3]
     exact Z1
    |true =>
     cases x3:decide (p.n<(a.params.length:Int)) with
     |false =>
      exact Y115
     |true =>
      exact Y115
   |true =>
    try simp only [aD,go_sem,bF,br,ybb,o1,d1,k2]
    refine ⟨S,⟨rfl,hS⟩,?_⟩
    cases x2:bz S p.n with
    |false =>
     exact Y121
    |true =>
     exact Y121
def Cq:PCt
 |[x,.ptr c 0],H,K=>∃ (t:SKey) (S:Sch),(x=ba t∧H.get c=some (.cells (aR S))∧SLen S)∧K (.bool (bz S t.field))
 |_,_,_=>False
theorem J2:EPp 267 Cq:=by
 refine Ype fun _ H K h=>?_
 unfold Cq at h
 split at h<;>try exact h.elim
 rename_i x c
 obtain ⟨t,S,⟨rfl,hg,hS⟩,hK⟩:=h
 refine ⟨_,hK,?_⟩
 clear hK
 have hl:=glq hg
 have hne:(c=H.nx)=False:=eFo
 have hcs:=aM hg
 generalize hR:bz S t.field=R at *
 unfold ba
 unfold aR at hg hcs
 refine Yfu aE (tCq rE tNq) Tryz.func267 [.tmp 3] fun hcl=>?_
 simp only [go_sem,hcs,hne,hg,br]
 refine ⟨S,⟨rfl,hS⟩,?_⟩
 exact Y50
def nQ (S:Sch) (t:STable):Bool:=(t.keys.all fun k=>bz S k.field)&&((t.actions.all fun a=>fm S a)&&t.actions.contains t.dflt)
def FV:PCt
 |[.agg l,x],_,K=>∃ (S:Sch) (t:STable),(l=aR S∧x=ax t∧SLen S∧t.keys.length≤1000000∧t.actions.length≤1000000)∧K (.bool (nQ S t))
 |_,_,_=>False
theorem Oj:EPp 134 FV:=by
 refine Ype fun _ H K h=>?_
 unfold FV at h
 split at h<;>try exact h.elim
 rename_i l x
 obtain ⟨S,t,⟨rfl,rfl,hS,hkl,hal⟩,hK⟩:=h
 refine ⟨_,hK,?_⟩
 clear hK
 generalize hR:nQ S t=R
 unfold nQ at hR
 unfold ax
 refine Yfu aE (tCq zQ (tCq tV (tCq nG tNq))) Tryz.func134 [.tmp 4] fun hcl=>?_
 unfold aR
 try simp only [aD,go_sem,kx,eL,gA,inL]
 refine ⟨t.keys,(fun k=>bz S k.field),⟨rfl,hkl,fun x hx H' hle' hcl'=>clB J2 ⟨x,S,⟨rfl,hle'.get _ _ (by (try simp only [go_sem]);first|done|rfl),hS⟩,rfl⟩⟩,?_⟩
 cases k1:t.keys.all (fun k=>bz S k.field) with
 |false =>
  simp only [k1,tfC] at hR
  subst hR
  try simp only [aD,go_sem,kx,eL,gA,inL,k1]
  exact Z1
 |true =>
  try simp only [aD,go_sem,kx,eL,gA,inL,k1]
  refine ⟨t.actions,(fun a=>fm S a),⟨rfl,hal,fun x hx H' hle' hcl'=>clB BW ⟨S,⟨rfl,hS⟩,rfl⟩⟩,?_⟩
  cases k2:t.actions.all (fun a=>fm S a) with
  |false =>
   simp only [k1,k2,tfC] at hR
   subst hR
   try simp only [aD,go_sem,kx,eL,gA,inL,k1,k2]
   exact Z1
  |true =>
   try simp only [aD,go_sem,kx,eL,gA,inL,k1,k2]
   refine ⟨t.actions,⟨rfl,hal⟩,?_⟩
   cases k3:t.actions.contains t.dflt with
   |false =>
    exact Y123
   |true =>
    exact Y123
theorem u7 {α:Type} (q:α→Bool) (l:List α):(ixP q l 0 = -1∧l.find? q=none)∨∃ (i:Nat) (x:α),ixP q l 0=(i:Int)∧l[i]?=some x∧l.find? q=some x∧i<l.length:=by
 obtain ⟨b1,b2⟩:=AG (q:=q) (l:=l) (k:=0)
 rcases b2 with b2|b2
 ·exact .inl ⟨b2,zV b2⟩
 ·obtain ⟨i,hi⟩:∃ i:Nat,ixP q l 0=((0+i:Nat):Int):=⟨(ixP q l 0).toNat,by omega⟩
  obtain ⟨x,h1,h2,h3⟩:=yj hi
  rw [nzq] at hi
  refine .inr ⟨i,x,hi,h1,h3,?_⟩
  rcases Nat.lt_or_ge i l.length with h|h
  ·exact h
  ·rw [gNq h] at h1;cases h1
def mU (S:Sch) (x:SRef):Bool :=
 match S.tables.find? (fun t=>t.id==x.table),S.tables.find? (fun t=>t.id==x.toTable) with
 |some a,some b=>decide (x.toKey<(b.keys.length:Int))&&(if x.action==0 then decide (x.key<(a.keys.length:Int)) else a.actions.contains x.action&&(match S.actions.find? (fun t=>t.id==x.action) with|some c=>decide (x.param<(c.params.length:Int))|none=>false))
 |_,_=>false
def IR:PCt
 |[.agg l,x],_,K=>∃ (S:Sch) (t:SRef),(l=aR S∧x=a9 t∧SB S∧∀ t∈S.tables,∀ a∈t.actions,fm S a=true)∧K (.bool (mU S t))
 |_,_,_=>False
theorem ok_fRef:EPp 143 IR:=by
 refine Ype fun _ H K h=>?_
 unfold IR at h
 split at h<;>try exact h.elim
 rename_i l x
 obtain ⟨S,r,⟨rfl,rfl,hS,hA⟩,hK⟩:=h
 refine ⟨_,hK,?_⟩
 clear hK
 generalize hR:mU S r=R
 unfold mU at hR
 unfold a9
 have htl:=hS.sl.tl
 have hsl:=hS.sl.al
 rcases u7 (fun t:STable=>t.id==r.table) S.tables with ⟨i1,f1⟩|⟨i,a,i1,g1,f1,l1⟩
 ·simp only [f1] at hR
  subst hR
  have d1:decide ((-1:Int)<0)=true:=rfl
  refine Yfw aE (tCq gO (tCq nG (tCq jz tNq))) Tryz.func143 [.tmp 4] (nrq _) (T:=aB [(1,[[],[],[],[],[1,3],[],[],[],[],[1,3,4,6,8]]),(6,[[],[],[],[],[],[],[],[],[],[2,6,8],[],[],[9],[],[],[9],[],[9],[],[9],[2,6,8,9,17,19],[],[],[9,20]])]) (h:=fun hcl=>?_)
  unfold aR
  simp only [go_sem,d9,gA,ic,i1]
  refine ⟨S,⟨rfl,htl⟩,?_⟩
  simp only [aD,go_sem,d9,i1]
  refine ⟨S,⟨rfl,htl⟩,?_⟩
  simp only [aD,go_sem,i1,d1]
  exact Z1
 ·have d1:decide ((i:Int)<0)=false:=dfq (by omega)
  rcases u7 (fun t:STable=>t.id==r.toTable) S.tables with ⟨i2,f2⟩|⟨j,b,i2,g2,f2,l2⟩
  ·simp only [f1,f2] at hR
   subst hR
   have d2:decide ((-1:Int)<0)=true:=rfl
   refine Yfw aE (tCq gO (tCq nG (tCq jz tNq))) Tryz.func143 [.tmp 4] (nrq _) (T:=aB [(1,[[],[],[],[],[1,3],[],[],[],[],[1,3,4,6,8]]),(6,[[],[],[],[],[],[],[],[],[],[2,6,8],[],[],[9],[],[],[9],[],[9],[],[9],[2,6,8,9,17,19],[],[],[9,20]])]) (h:=fun hcl=>?_)
   unfold aR
   simp only [go_sem,d9,gA,ic,i1]
   refine ⟨S,⟨rfl,htl⟩,?_⟩
   simp only [aD,go_sem,d9,i1,i2]
   refine ⟨S,⟨rfl,htl⟩,?_⟩
   simp only [aD,go_sem,i1,i2,d1,d2]
   exact Z1
  ·simp only [f1,f2] at hR
   have d2:decide ((j:Int)<0)=false:=dfq (by omega)
   have ga:=aV (f:=ax) (l:=S.tables) (k:=i) (x:=a) g1
   have gb:=aV (f:=ax) (l:=S.tables) (k:=j) (x:=b) g2
   have hca:ax a=.agg [.int .i64 a.id,.str a.name,.slice .any 3 (a.keys.map ba),.slice .any 1 (inL a.actions),.int .i64 a.dflt,.slice .any 2 (a.dargs.map vv),.int .i64 a.size,.str a.restr]:=rfl
   have hcb:ax b=.agg [.int .i64 b.id,.str b.name,.slice .any 3 (b.keys.map ba),.slice .any 1 (inL b.actions),.int .i64 b.dflt,.slice .any 2 (b.dargs.map vv),.int .i64 b.size,.str b.restr]:=rfl
   rw [hca] at ga
   rw [hcb] at gb
   have hma:a∈S.tables:=List.mem_of_getElem? g1
   obtain ⟨c0,h0⟩:∃ c,decide (r.toKey<(b.keys.length:Int))=c:=⟨_,rfl⟩
   have d0:decide (r.toKey ≥ (b.keys.length:Int))=!c0:=by
    exact Y92
   rw [h0] at hR
   refine Yfw aE (tCq gO (tCq nG (tCq jz tNq))) Tryz.func143 [.tmp 4] (nrq _) (T:=aB [(1,[[],[],[],[],[1,3],[],[],[],[],[1,3,4,6,8]]),(6,[[],[],[],[],[],[],[],[],[],[2,6,8],[],[],[9],[],[],[9],[],[9],[],[9],[2,6,8,9,17,19],[],[],[9,20]])]) (h:=fun hcl=>?_)
   unfold aR
   simp only [go_sem,d9,gA,ic,i1]
   refine ⟨S,⟨rfl,htl⟩,?_⟩
   simp only [aD,go_sem,d9,i1,i2]
   refine ⟨S,⟨rfl,htl⟩,?_⟩
   simp only [aD,go_sem,i1,i2,d1,d2,gb,d0,iNq,ybb]
   refine Tq4 ?_
   cases c0 with
   |false =>
    rw [Bool.false_and] at hR
    subst hR
    refine Tq28 ?_
    exact Y8
   |true =>
    rw [Bool.true_and] at hR
    cases ca:r.action==0 with
    |true =>
     rw [ca,if_pos rfl] at hR
     subst hR
     try simp only [go_sem,ca,ga,iNq,ybb]
     exact Y8
    |false =>
     rw [ca,if_neg Bool.false_ne_true] at hR
     try simp only [go_sem,ca,ga,iNq,ybb]
     refine Tq4 ?_
     have hal:=(hS.tn a hma).2.2.1
     refine ⟨a.actions,⟨rfl,hal⟩,?_⟩
     cases cc:a.actions.contains r.action with
     |false =>
      rw [cc,Bool.false_and] at hR
      subst hR
      simp only [aD,go_sem,cc]
      exact Y8
     |true =>
      rw [cc,Bool.true_and] at hR
      have hmem:r.action∈a.actions:=by simpa using cc
      have hany:=hA a hma _ hmem
      rcases u7 (fun t:SAction=>t.id==r.action) S.actions with ⟨_,f3⟩|⟨m,c,i3,g3,f3,l3⟩
      ·exact Y93
      ·simp only [f3] at hR
       subst hR
       have gc:=aV (f:=ap) (l:=S.actions) (k:=m) (x:=c) g3
       have hcc:ap c=.agg [.int .i64 c.id,.str c.name,.slice .any 2 (c.params.map aL),.slice .any 6 (c.body.map aT),.str c.restr]:=rfl
       rw [hcc] at gc
       simp only [aD,go_sem,cc,ic]
       refine ⟨S,⟨rfl,hsl⟩,?_⟩
       simp only [aD,go_sem,i3,gc,iNq,ybb]
       exact Y8
def tD (S:Sch) (t:SHeader):Bool:=t.fields.all fun n=>bz S n
def At (S:Sch) (t:SAction):Bool:=t.body.all fun p=>nD S t.params.length p
def vQ (S:Sch) (t:SStage):Bool:=gy S t.table&&(t.header==0||fh S t.header)
def tc (S:Sch) (t:SRole):Bool:=(t.grants.all fun g=>gy S g.table)&&t.actions.all fun a=>fm S a
def Pg:PCt
 |[x,.ptr c 0],H,K=>∃ (t:SHeader) (S:Sch),(x=az t∧H.get c=some (.cells (aR S))∧SLen S∧t.fields.length≤1000000)∧K (.bool (tD S t))
 |_,_,_=>False
theorem P5:EPp 128 Pg:=by
 refine Ype fun _ H K h=>?_
 unfold Pg at h
 split at h<;>try exact h.elim
 rename_i x c
 obtain ⟨t,S,⟨rfl,hg,hS,hfl⟩,hK⟩:=h
 refine ⟨_,hK,?_⟩
 clear hK
 have hl:=glq hg
 have hne:(c=H.nx)=False:=eFo
 have hcs:=aM hg
 have hgS:=hg
 generalize hR:(tD S t)=R
 unfold tD at hR
 unfold az
 unfold aR at hg hcs
 refine Yfu aE (tCq tV tNq) Tryz.func128 [.tmp 3] fun hcl=>?_
 refine Tq31 ?_
 refine ⟨t.fields,(fun n=>bz S n),⟨rfl,hfl,fun x hx H' hle' hcl'=>clB rE ⟨S,⟨rfl,hS⟩,rfl⟩⟩,?_⟩
 cases k1:t.fields.all (fun n=>bz S n) with
 |false =>
  exact Y35
 |true =>
  exact Y35
def Pl:PCt
 |[x,.ptr c 0],H,K=>∃ (t:SStage) (S:Sch),(x=aO t∧H.get c=some (.cells (aR S))∧SLen S)∧K (.bool (vQ S t))
 |_,_,_=>False
theorem QX:EPp 136 Pl:=by
 refine Ype fun _ H K h=>?_
 unfold Pl at h
 split at h<;>try exact h.elim
 rename_i x c
 obtain ⟨t,S,⟨rfl,hg,hS⟩,hK⟩:=h
 refine ⟨_,hK,?_⟩
 clear hK
 have hl:=glq hg
 have hne:(c=H.nx)=False:=eFo
 have hcs:=aM hg
 have hgS:=hg
 generalize hR:(vQ S t)=R
 unfold vQ at hR
 unfold aO
 unfold aR at hg hcs
 refine Yfu aE (tCq BT (tCq xU tNq)) Tryz.func136 [.tmp 3] fun hcl=>?_
 refine Tq31 ?_
 refine ⟨S,⟨rfl,hS⟩,?_⟩
 cases k1:gy S t.table with
 |false =>
  exact Y35
 |true =>
  cases k2:t.header==0 with
  |true =>
   exact Y67
  |false =>
   try simp only [aD,go_sem,hcs,hne,hg,inL,eL,hY,bF,dU,dz,br,k1,k2]
   refine ⟨S,⟨rfl,hS⟩,?_⟩
   cases k3:fh S t.header with
   |false =>
    exact Y102
   |true =>
    exact Y102
def Hn:PCt
 |[x,.ptr c 0],H,K=>∃ (t:SGrant) (S:Sch),(x=aJ t∧H.get c=some (.cells (aR S))∧SLen S)∧K (.bool (gy S t.table))
 |_,_,_=>False
theorem OU:EPp 141 Hn:=by
 refine Ype fun _ H K h=>?_
 unfold Hn at h
 split at h<;>try exact h.elim
 rename_i x c
 obtain ⟨t,S,⟨rfl,hg,hS⟩,hK⟩:=h
 refine ⟨_,hK,?_⟩
 clear hK
 have hl:=glq hg
 have hne:(c=H.nx)=False:=eFo
 have hcs:=aM hg
 have hgS:=hg
 generalize hR:(gy S t.table)=R
 skip
 unfold aJ
 unfold aR at hg hcs
 refine Yfu aE (tCq BT tNq) Tryz.func141 [.tmp 3] fun hcl=>?_
 refine Tq31 ?_
 refine ⟨S,⟨rfl,hS⟩,?_⟩
 cases k1:gy S t.table with
 |false =>
  exact Y35
 |true =>
  exact Y35
def Pq:PCt
 |[x,.ptr c 0],H,K=>∃ (t:SRole) (S:Sch),(x=aN t∧H.get c=some (.cells (aR S))∧SLen S∧t.grants.length≤1000000∧t.actions.length≤1000000)∧K (.bool (tc S t))
 |_,_,_=>False
theorem Qv:EPp 139 Pq:=by
 refine Ype fun _ H K h=>?_
 unfold Pq at h
 split at h<;>try exact h.elim
 rename_i x c
 obtain ⟨t,S,⟨rfl,hg,hS,hgl,hal⟩,hK⟩:=h
 refine ⟨_,hK,?_⟩
 clear hK
 have hl:=glq hg
 have hne:(c=H.nx)=False:=eFo
 have hcs:=aM hg
 have hgS:=hg
 generalize hR:(tc S t)=R
 unfold tc at hR
 unfold aN
 unfold aR at hg hcs
 refine Yfu aE (tCq zM (tCq tV tNq)) Tryz.func139 [.tmp 3] fun hcl=>?_
 refine Tq31 ?_
 refine ⟨t.grants,(fun g=>gy S g.table),⟨rfl,hgl,fun x hx H' hle' hcl'=>clB OU ⟨x,S,⟨rfl,hle'.get _ _ (by rw [zlh,if_neg (by omega)];exact hgS),hS⟩,rfl⟩⟩,?_⟩
 cases k1:t.grants.all (fun g=>gy S g.table) with
 |false =>
  exact Y35
 |true =>
  try simp only [aD,go_sem,hcs,hne,hg,inL,eL,hY,bF,dU,dz,br,k1]
  refine ⟨t.actions,(fun a=>fm S a),⟨rfl,hal,fun x hx H' hle' hcl'=>clB BW ⟨S,⟨rfl,hS⟩,rfl⟩⟩,?_⟩
  cases k2:t.actions.all (fun a=>fm S a) with
  |false =>
   exact Y67
  |true =>
   exact Y67
def IJ:PCt
 |[x,.ptr c 0,.ptr d 0],H,K=>∃ (t:SPrim) (a:SAction) (S:Sch) (cs:List AV),(x=aT t∧H.get c=some (.cells (aR S))∧H.get d=some (.cells cs)∧ap a=.agg cs∧SLen S)∧K (.bool (nD S a.params.length t))
 |_,_,_=>False
theorem MH:EPp 132 IJ:=by
 refine Ype fun _ H K h=>?_
 unfold IJ at h
 split at h<;>try exact h.elim
 rename_i x c d
 obtain ⟨t,a,S,cs,⟨rfl,hg,hgd,hac,hS⟩,hK⟩:=h
 refine ⟨_,hK,?_⟩
 clear hK
 unfold ap at hac
 cases hac
 have hl:=glq hg
 have hne:(c=H.nx)=False:=eFo
 have hcs:=aM hg
 have hl2:=glq hgd
 have hne2:(d=H.nx)=False:=eFo
 have hcs2:=aM hgd
 generalize hR:(nD S a.params.length t)=R
 unfold aT vc
 unfold aR at hg hcs
 refine Yfu aE (tCq LW tNq) Tryz.func132 [.tmp 4] fun hcl=>?_
 simp only [go_sem,hcs,hne,hg,hcs2,hne2,hgd,Bv]
 refine ⟨S,a,t,⟨rfl,rfl,rfl,hS⟩,?_⟩
 exact Y50
def Pb:PCt
 |[x,.ptr c 0],H,K=>∃ (t:SAction) (S:Sch),(x=ap t∧H.get c=some (.cells (aR S))∧SLen S∧t.body.length≤1000000)∧K (.bool (At S t))
 |_,_,_=>False
theorem QB:EPp 131 Pb:=by
 refine Ype fun _ H K h=>?_
 unfold Pb at h
 split at h<;>try exact h.elim
 rename_i x c
 obtain ⟨t,S,⟨rfl,hg,hS,hbl⟩,hK⟩:=h
 refine ⟨_,hK,?_⟩
 clear hK
 have hl:=glq hg
 have hne:(c=H.nx)=False:=eFo
 have hcs:=aM hg
 have hgS:=hg
 generalize hR:(At S t)=R
 unfold At at hR
 unfold ap
 unfold aR at hg hcs
 refine Yfu aE (tCq uI tNq) Tryz.func131 [.tmp 3] fun hcl=>?_
 refine Tq31 ?_
 refine ⟨t.body,(fun p=>nD S t.params.length p),⟨rfl,hbl,fun x hx H' hle' hcl'=>clB MH ⟨x,t,S,_,⟨rfl,hle'.get _ _ (by rw [zlh,if_neg (by omega)];exact hgS),hle'.get _ _ (AHeap.get_push_new _ _),rfl,hS⟩,rfl⟩⟩,?_⟩
 cases k1:t.body.all (fun p=>nD S t.params.length p) with
 |false =>
  exact Y35
 |true =>
  exact Y35
def kB (S:Sch):Bool:=bz S 1&&(bz S 2&&(S.headers.all (tD S)&&(S.states.all (qV S)&&(S.actions.all (At S)&&(S.tables.all (nQ S)&&(S.stages.all (vQ S)&&(S.roles.all (tc S)&&S.refs.all (mU S))))))))
def nk:PCt
 |[.agg l],_,K=>∃ S:Sch,(l=aR S∧SB S)∧K (.bool (kB S))
 |_,_,_=>False
theorem Fd:EPp 35 nk:=by
 refine Ype fun _ H K h=>?_
 unfold nk at h
 split at h<;>try exact h.elim
 rename_i l
 obtain ⟨S,⟨rfl,hB⟩,hK⟩:=h
 refine ⟨_,hK,?_⟩
 clear hK
 have hS:=hB.sl
 generalize hR:kB S=R
 unfold kB at hR
 refine Yfu aE (tCq rE (tCq qK (tCq qJ (tCq oY (tCq nd (tCq Jn (tCq pb (tCq oO tNq)))))))) Tryz.func35 [.tmp 2] fun hcl=>?_
 unfold aR
 try simp only [aD,go_sem,br,b6,cr,bQ,bZ,gx,cD,cL]
 refine ⟨S,⟨rfl,hS⟩,?_⟩
 cases k1:bz S 1 with
 |false =>
  simp only [k1,tfC] at hR
  subst hR
  try simp only [aD,go_sem,br,b6,cr,bQ,bZ,gx,cD,cL,k1]
  exact Z1
 |true =>
  try simp only [aD,go_sem,br,b6,cr,bQ,bZ,gx,cD,cL,k1]
  refine ⟨S,⟨rfl,hS⟩,?_⟩
  cases k2:bz S 2 with
  |false =>
   simp only [k1,k2,tfC] at hR
   subst hR
   try simp only [aD,go_sem,br,b6,cr,bQ,bZ,gx,cD,cL,k1,k2]
   exact Z1
  |true =>
   try simp only [aD,go_sem,br,b6,cr,bQ,bZ,gx,cD,cL,k1,k2]
   refine ⟨S.headers,tD S,⟨rfl,hS.hl,fun x hx H' hle' hcl'=>clB P5 ⟨x,S,⟨rfl,hle'.get _ _ (by (try simp only [go_sem]);first|done|rfl),hS,(hB.hn x hx).2⟩,rfl⟩⟩,?_⟩
   cases k3:S.headers.all (tD S) with
   |false =>
    simp only [k1,k2,k3,tfC] at hR
    subst hR
    try simp only [aD,go_sem,br,b6,cr,bQ,bZ,gx,cD,cL,k1,k2,k3]
    exact Z1
   |true =>
    try simp only [aD,go_sem,br,b6,cr,bQ,bZ,gx,cD,cL,k1,k2,k3]
    refine ⟨S.states,qV S,⟨rfl,hS.sl,fun x hx H' hle' hcl'=>clB Na ⟨S,x,⟨rfl,rfl,hS,hB.sn x hx⟩,rfl⟩⟩,?_⟩
    cases k4:S.states.all (qV S) with
    |false =>
     simp only [k1,k2,k3,k4,tfC] at hR
     subst hR
     try simp only [aD,go_sem,br,b6,cr,bQ,bZ,gx,cD,cL,k1,k2,k3,k4]
     exact Z1
    |true =>
     try simp only [aD,go_sem,br,b6,cr,bQ,bZ,gx,cD,cL,k1,k2,k3,k4]
     refine ⟨S.actions,At S,⟨rfl,hS.al,fun x hx H' hle' hcl'=>clB QB ⟨x,S,⟨rfl,hle'.get _ _ (by (try simp only [go_sem]);first|done|rfl),hS,(hB.an x hx).2.2.1⟩,rfl⟩⟩,?_⟩
     cases k5:S.actions.all (At S) with
     |false =>
      simp only [k1,k2,k3,k4,k5,tfC] at hR
      subst hR
      try simp only [aD,go_sem,br,b6,cr,bQ,bZ,gx,cD,cL,k1,k2,k3,k4,k5]
      exact Z1
     |true =>
      try simp only [aD,go_sem,br,b6,cr,bQ,bZ,gx,cD,cL,k1,k2,k3,k4,k5]
      refine ⟨S.tables,nQ S,⟨rfl,hS.tl,fun x hx H' hle' hcl'=>clB Oj ⟨S,x,⟨rfl,rfl,hS,(hB.tn x hx).2.1,(hB.tn x hx).2.2.1⟩,rfl⟩⟩,?_⟩
      cases k6:S.tables.all (nQ S) with
      |false =>
       simp only [k1,k2,k3,k4,k5,k6,tfC] at hR
       subst hR
       try simp only [aD,go_sem,br,b6,cr,bQ,bZ,gx,cD,cL,k1,k2,k3,k4,k5,k6]
       exact Z1
      |true =>
       try simp only [aD,go_sem,br,b6,cr,bQ,bZ,gx,cD,cL,k1,k2,k3,k4,k5,k6]
       refine ⟨S.stages,vQ S,⟨rfl,hB.gl,fun x hx H' hle' hcl'=>clB QX ⟨x,S,⟨rfl,hle'.get _ _ (by (try simp only [go_sem]);first|done|rfl),hS⟩,rfl⟩⟩,?_⟩
       cases k7:S.stages.all (vQ S) with
       |false =>
        simp only [k1,k2,k3,k4,k5,k6,k7,tfC] at hR
        subst hR
        try simp only [aD,go_sem,br,b6,cr,bQ,bZ,gx,cD,cL,k1,k2,k3,k4,k5,k6,k7]
        exact Z1
       |true =>
        try simp only [aD,go_sem,br,b6,cr,bQ,bZ,gx,cD,cL,k1,k2,k3,k4,k5,k6,k7]
        refine ⟨S.roles,tc S,⟨rfl,hS.rl,fun x hx H' hle' hcl'=>clB Qv ⟨x,S,⟨rfl,hle'.get _ _ (by (try simp only [go_sem]);first|done|rfl),hS,(hB.rn x hx).2.1,(hB.rn x hx).2.2.1⟩,rfl⟩⟩,?_⟩
        cases k8:S.roles.all (tc S) with
        |false =>
         simp only [k1,k2,k3,k4,k5,k6,k7,k8,tfC] at hR
         subst hR
         try simp only [aD,go_sem,br,b6,cr,bQ,bZ,gx,cD,cL,k1,k2,k3,k4,k5,k6,k7,k8]
         exact Z1
        |true =>
         try simp only [aD,go_sem,br,b6,cr,bQ,bZ,gx,cD,cL,k1,k2,k3,k4,k5,k6,k7,k8]
         refine ⟨S.refs,mU S,⟨rfl,hB.xl,fun x hx H' hle' hcl'=>by
          obtain ⟨v,hv,hc'⟩:=ok_fRef.1 rfl [.agg (aR S),a9 x] H' (fun v=>v=.bool (mU S x)) ⟨S,x,⟨rfl,rfl,hB,fun t ht a ha=>by
           have h1:=List.all_eq_true.1 k6 t ht
           unfold nQ at h1
           simp only [Bool.and_eq_true] at h1
           exact List.all_eq_true.1 h1.2.1 a ha⟩,rfl⟩
          subst hv
          exact hc'⟩,?_⟩
         cases k9:S.refs.all (mU S) with
         |false =>
          exact Y83
         |true =>
          exact Y83
theorem lz {α:Type} {q:α→Bool} {l:List α} {x:α} (h:l.find? q=some x):∃ i:Nat,ixP q l 0=(i:Int)∧l[i]?=some x∧i<l.length:=by
 rcases u7 q l with ⟨_,h2⟩|⟨i,y,h1,h2,h3,h4⟩
 ·rw [h2] at h;cases h
 ·rw [h3] at h;cases h;exact ⟨i,h1,h2,h4⟩
def cP:PCt
 |[.agg l,.int .i64 n],_,K=>∃ (S:Sch) (x:SField),(l=aR S∧SLen S∧S.fields.find? (fun t=>t.id==n)=some x)∧K (.int .i64 x.bits)
 |_,_,_=>False
theorem pk:EPp 146 cP:=by
 refine Ype fun _ H K h=>?_
 unfold cP at h
 split at h<;>try exact h.elim
 rename_i l n
 obtain ⟨S,x,⟨rfl,hS,hx⟩,hK⟩:=h
 refine ⟨_,hK,?_⟩
 clear hK
 obtain ⟨i,i1,g1,l1⟩:=lz hx
 have ga:=aV (f:=aG) (l:=S.fields) (k:=i) (x:=x) g1
 have hca:aG x=.agg [.int .i64 x.id,.str x.name,.int .i64 x.bits]:=rfl
 rw [hca] at ga
 refine Yfw aE (tCq sQ tNq) Tryz.func146 [.tmp 4] (nrq _) (T:=aB [(1,[[],[],[],[],[2],[],[],[4]])]) (h:=fun hcl=>?_)
 unfold aR
 simp only [go_sem,nK]
 refine ⟨S,⟨rfl,hS.fl⟩,?_⟩
 simp only [aD,go_sem,i1,ga,iNq,ybb]
 exact Y8
theorem wH {P:Program} {H1 H:AHeap} {fr:Fr} {x:AV} {t s:Nat} {ty uy:TypeId}:hZ P [.cell t ty,.cell s uy] (.ret x) H1 fr H=match zjg P ty (Fr.get fr t) H with|some r=>r.c∧(match zjg P uy (Fr.get fr s) H with|some q=>q.c∧ag H (.tup [r.v,q.v]) H1 x|none=>False)|none=>False:=by
 simp only [hZ,m0,qA]
 cases zjg P ty (Fr.get fr t) H with
 |none=>rfl
 |some r =>
  cases zjg P uy (Fr.get fr s) H with
  |none=>simp
  |some q=>simp [one,and_assoc]
def pM:SKey:=⟨[],0,0⟩
def th:PCt
 |[.agg l,x],_,K=>∃ (S:Sch) (r:SRef) (b:STable) (ka kb:SKey),(l=aR S∧x=a9 r∧SLen S∧S.tables.find? (fun t=>t.id==r.toTable)=some b∧0≤r.toKey∧b.keys[r.toKey.toNat]?=some kb ∧
   (if r.action==0 then ∃ a,S.tables.find? (fun t=>t.id==r.table)=some a∧0≤r.key∧a.keys[r.key.toNat]?=some ka else ka=pM))∧K (.tup [ba ka,ba kb])
 |_,_,_=>False
theorem zk:EPp 145 th:=by
 refine Ype fun _ H K h=>?_
 unfold th at h
 split at h<;>try exact h.elim
 rename_i l x
 obtain ⟨S,r,b,ka,kb,⟨rfl,rfl,hS,hb,hp,hkb,hka⟩,hK⟩:=h
 refine ⟨_,hK,?_⟩
 clear hK
 unfold a9
 obtain ⟨j,j1,g2,l2⟩:=lz hb
 have gb:=aV (f:=ax) (l:=S.tables) (k:=j) (x:=b) g2
 have hcb:ax b=.agg [.int .i64 b.id,.str b.name,.slice .any 3 (b.keys.map ba),.slice .any 1 (inL b.actions),.int .i64 b.dflt,.slice .any 2 (b.dargs.map vv),.int .i64 b.size,.str b.restr]:=rfl
 rw [hcb] at gb
 have gkb:=aV (f:=ba) (l:=b.keys) (k:=r.toKey.toNat) (x:=kb) hkb
 have hkb':ba kb=.agg [.str kb.name,.int .i64 kb.field,.int .i64 kb.kind]:=rfl
 rw [hkb'] at gkb ⊢
 have hlb:r.toKey.toNat<b.keys.length:=by
  rcases Nat.lt_or_ge r.toKey.toNat b.keys.length with h|h
  ·exact h
  ·rw [gNq h] at hkb;cases hkb
 cases ca:r.action==0 with
 |false =>
  rw [ca,if_neg Bool.false_ne_true] at hka
  subst hka
  unfold pM ba
  refine Yfw aE (tCq gO tNq) Tryz.func145 [.cell 4 53,.cell 5 53] (nrq _) (T:=aB [(2,[[],[],[],[],[],[2,4],[],[],[5],[],[],[],[5],[1,2,4,5,8,10,12]]),(3,[[],[],[],[],[],[],[3,5],[],[],[6],[],[],[],[6],[0,3,5,6],[0,2,3,5,6,9,11,13]])]) (h:=fun hcl=>?_)
  unfold aR
  simp only [go_sem,ca,d9]
  exact Y89
 |true =>
  rw [ca,if_pos rfl] at hka
  obtain ⟨a,ha,hp2,hka⟩:=hka
  obtain ⟨i,i1,g1,l1⟩:=lz ha
  have ga:=aV (f:=ax) (l:=S.tables) (k:=i) (x:=a) g1
  have hca:ax a=.agg [.int .i64 a.id,.str a.name,.slice .any 3 (a.keys.map ba),.slice .any 1 (inL a.actions),.int .i64 a.dflt,.slice .any 2 (a.dargs.map vv),.int .i64 a.size,.str a.restr]:=rfl
  rw [hca] at ga
  have gka:=aV (f:=ba) (l:=a.keys) (k:=r.key.toNat) (x:=ka) hka
  have hka':ba ka=.agg [.str ka.name,.int .i64 ka.field,.int .i64 ka.kind]:=rfl
  rw [hka'] at gka ⊢
  have hla:r.key.toNat<a.keys.length:=by
   rcases Nat.lt_or_ge r.key.toNat a.keys.length with h|h
   ·exact h
   ·rw [gNq h] at hka;cases hka
  refine Yfw aE (tCq gO tNq) Tryz.func145 [.cell 4 53,.cell 5 53] (nrq _) (T:=aB [(2,[[],[],[],[],[],[2,4],[],[],[5],[],[],[],[5],[1,2,4,5,8,10,12]]),(3,[[],[],[],[],[],[],[3,5],[],[],[6],[],[],[],[6],[0,3,5,6],[0,2,3,5,6,9,11,13]])]) (h:=fun hcl=>?_)
  unfold aR
  simp only [go_sem,ca,d9]
  refine ⟨S,⟨rfl,hS.tl⟩,?_⟩
  simp only [aD,go_sem,i1,ga,gka,iNq,ybb,d9]
  refine ⟨⟨by omega,by omega⟩,⟨by omega,by omega⟩,?_⟩
  try simp only [aD,go_sem,d9]
  exact Y89
def mi (S:Sch) (r:SRef):SKey:=((S.tables.find? fun t=>t.id==r.toTable).bind fun b=>b.keys[r.toKey.toNat]?).getD pM
def nv (S:Sch) (r:SRef):SKey:=if r.action==0 then ((S.tables.find? fun t=>t.id==r.table).bind fun b=>b.keys[r.key.toNat]?).getD pM else pM
def pt (S:Sch) (r:SRef):Prop:=mU S r=true∧0≤r.key∧0≤r.toKey∧0≤r.param
theorem nO {S:Sch} {r:SRef} (h:pt S r):∃ b,S.tables.find? (fun t=>t.id==r.toTable)=some b∧0≤r.toKey∧b.keys[r.toKey.toNat]?=some (mi S r) ∧
 (if r.action==0 then ∃ a,S.tables.find? (fun t=>t.id==r.table)=some a∧0≤r.key∧a.keys[r.key.toNat]?=some (nv S r) else nv S r=pM):=by
 obtain ⟨h,h1,h2,_⟩:=h
 unfold mU at h
 cases fa:S.tables.find? (fun t=>t.id==r.table) with
 |none=>rw [fa] at h;cases h
 |some a =>
  cases fb:S.tables.find? (fun t=>t.id==r.toTable) with
  |none=>rw [fa,fb] at h;cases h
  |some b =>
   rw [fa,fb] at h
   simp only [Bool.and_eq_true,decide_eq_true_eq] at h
   obtain ⟨h3,h4⟩:=h
   have e1:b.keys[r.toKey.toNat]?=some (mi S r):=by
    unfold mi
    rw [fb]
    have hl:r.toKey.toNat<b.keys.length:=by omega
    simp only [Option.bind_some]
    rw [gQq hl];rfl
   refine ⟨b,rfl,h2,e1,?_⟩
   cases ca:r.action==0 with
   |false =>
    rw [if_neg Bool.false_ne_true]
    unfold nv
    rw [ca,if_neg Bool.false_ne_true]
   |true =>
    rw [ca,if_pos rfl] at h4
    rw [if_pos rfl]
    refine ⟨a,rfl,h1,?_⟩
    unfold nv
    rw [ca,if_pos rfl,fa]
    have hl:r.key.toNat<a.keys.length:=by simp only [decide_eq_true_eq] at h4;omega
    simp only [Option.bind_some]
    rw [gQq hl];rfl
def exB (S:Sch) (r:SRef):Bool:=(mi S r).kind==1&&(r.action != 0||(nv S r).kind==1)
def Px:PCt
 |[x,.ptr c 0],H,K=>∃ (r:SRef) (S:Sch),(x=a9 r∧H.get c=some (.cells (aR S))∧SLen S∧pt S r)∧K (.bool (exB S r))
 |_,_,_=>False
theorem P8:EPp 144 Px:=by
 refine Ype fun _ H K h=>?_
 unfold Px at h
 split at h<;>try exact h.elim
 rename_i x c
 obtain ⟨r,S,⟨rfl,hg,hS,hr⟩,hK⟩:=h
 refine ⟨_,hK,?_⟩
 clear hK
 have hl:=glq hg
 have hne:(c=H.nx)=False:=eFo
 have hcs:=aM hg
 generalize hR:exB S r=R
 unfold exB at hR
 obtain ⟨b,e1,e2,e3,e4⟩:=nO hr
 unfold a9
 unfold aR at hg hcs
 refine Yfu aE (tCq zk tNq) Tryz.func144 [.tmp 3] fun hcl=>?_
 simp only [go_sem,hcs,hne,hg,th]
 refine ⟨S,r,b,nv S r,mi S r,⟨rfl,rfl,hS,e1,e2,e3,e4⟩,?_⟩
 generalize mi S r=kb at *
 generalize nv S r=ka at *
 unfold ba
 cases c1:kb.kind==1 with
 |false =>
  simp only [c1,tfC] at hR
  subst hR
  try simp only [go_sem,aD,hne,hg,hcs,c1]
  exact Y8
 |true =>
  cases c2:r.action != 0 with
  |false =>
   cases c3:ka.kind==1 with
   |false =>
    simp only [c1,c2,c3,tfC] at hR
    subst hR
    try simp only [go_sem,aD,hne,hg,hcs,c1,c2,c3]
    exact Y8
   |true =>
    simp only [c1,c2,c3,tfC] at hR
    subst hR
    try simp only [go_sem,aD,hne,hg,hcs,c1,c2,c3]
    exact Y8
  |true =>
   simp only [c1,c2,tfC] at hR
   subst hR
   try simp only [go_sem,aD,hne,hg,hcs,c1,c2]
   exact Y8
def oK:PCt
 |[.agg l],_,K=>∃ S:Sch,(l=aR S∧SB S∧∀ r∈S.refs,pt S r)∧K (.bool (S.refs.all (exB S)))
 |_,_,_=>False
theorem DK:EPp 36 oK:=by
 refine Ype fun _ H K h=>?_
 unfold oK at h
 split at h<;>try exact h.elim
 rename_i l
 obtain ⟨S,⟨rfl,hB,hr⟩,hK⟩:=h
 refine ⟨_,hK,?_⟩
 clear hK
 have hS:=hB.sl
 generalize hR:S.refs.all (exB S)=R
 refine Yfu aE (tCq oO tNq) Tryz.func36 [.tmp 2] fun hcl=>?_
 unfold aR
 try simp only [aD,go_sem,cL]
 refine ⟨S.refs,exB S,⟨rfl,hB.xl,fun x hx H' hle' hcl'=>clB P8 ⟨x,S,⟨rfl,hle'.get _ _ (by (try simp only [go_sem]);first|done|rfl),hS,hr x hx⟩,rfl⟩⟩,?_⟩
 cases k1:S.refs.all (exB S) with
 |false =>
  exact Y139
 |true =>
  exact Y139
def btF (S:Sch) (n:Int):Int:=((S.fields.find? fun t=>t.id==n).getD ⟨0,[],0⟩).bits
theorem ky {S:Sch} {n:Int} (h:bz S n=true):∃ x,S.fields.find? (fun t=>t.id==n)=some x∧x.bits=btF S n:=by
 unfold bz at h
 rw [List.any_eq_true] at h
 obtain ⟨y,hy,h2⟩:=h
 cases hf:S.fields.find? (fun t=>t.id==n) with
 |none=>exact absurd h2 (by have:=List.find?_eq_none.1 hf y hy;simpa using this)
 |some x=>exact ⟨x,rfl,by unfold btF;rw [hf];rfl⟩
def ftV (v:Nat) (n:Int):Bool:=decide (((bl v:Nat):Int)≤n)
def mV (S:Sch) (a:SAction) (p:SPrim):Bool :=
 if kM p.op then
  if p.kind==1 then ftV p.value (if p.op==7 then 16 else btF S p.dst)
  else if p.kind==2 then decide (btF S p.n≤(if p.op==7 then 16 else btF S p.dst))
  else decide ((a.params.getD p.n.toNat ⟨[],0⟩).bits≤(if p.op==7 then 16 else btF S p.dst))
 else true
def Ke:PCt
 |[.agg l,x,y],_,K=>∃ (S:Sch) (a:SAction) (p:SPrim),(l=aR S∧x=ap a∧y=aT p∧SLen S∧p.value<2^128∧nD S a.params.length p=true∧fpB p=true∧0≤p.n)∧K (.bool (mV S a p))
 |_,_,_=>False
theorem Qx:EPp 155 Ke:=by
 refine Ype fun _ H K h=>?_
 unfold Ke at h
 split at h<;>try exact h.elim
 rename_i l x y
 obtain ⟨S,a,p,⟨rfl,rfl,rfl,hS,hv,hk,hf,hn⟩,hK⟩:=h
 refine ⟨_,hK,?_⟩
 clear hK
 have iv:=ph hv
 have vb:=jI p.value
 generalize hR:mV S a p=R
 unfold mV at hR
 -- what is iI of the primitive
 have hd:kM p.op=true→(p.op==7)=false→bz S p.dst=true:=fun h1 h2=>by
  unfold kM at h1
  rw [h2,Bool.or_false] at h1
  unfold nD at hk
  rw [if_pos h1] at hk
  exact (Bool.and_eq_true _ _ ▸ hk).1
 have hsrc:kM p.op=true→(p.kind==2)=true→bz S p.n=true:=fun h1 h2=>by
  unfold nD at hk
  rw [h2] at hk
  simp only [if_true] at hk
  split at hk
  ·exact (Bool.and_eq_true _ _ ▸ hk).2
  ·split at hk
   ·exfalso
    unfold kM at h1
    simp_all
   ·exact hk
 have hpar:kM p.op=true→(p.kind==1)=false→(p.kind==2)=false→p.n.toNat<a.params.length:=fun h1 h2 h3=>by
  have h4:(p.kind==3)=true:=by
   unfold fpB at hf
   rw [h1,h2,h3] at hf
   simp only [if_true,Bool.false_eq_true,if_false,Bool.false_or,Bool.and_eq_true] at hf
   exact hf.2.2.1
  unfold nD at hk
  rw [h3,h4] at hk
  simp only [if_true,Bool.false_eq_true,if_false] at hk
  split at hk
  ·have:=(Bool.and_eq_true _ _ ▸ hk).2
   simp only [decide_eq_true_eq] at this
   omega
  ·split at hk
   ·exfalso
    unfold kM at h1
    simp_all
   ·simp only [decide_eq_true_eq] at hk
    omega
 unfold ap aT vc
 refine Yfu aE (tCq Db (tCq pk (tCq uz tNq))) Tryz.func155 [.tmp 6] fun hcl=>?_
 unfold aR
 cases co:kM p.op with
 |false =>
  simp only [co,tfC] at hR
  subst hR
  try simp only [aD,go_sem,eQ,cP,gr,iv,vb,iNq,co]
  exact Y8
 |true =>
  cases c7:p.op==7 with
  |true =>
   have c7':(p.op != 7)=false:=by simp only [bne,c7,Bool.not_true]
   try simp only [go_sem,eQ,co,c7']
   cases k1:p.kind==1 with
   |true =>
    simp only [co,c7,k1,tfC] at hR
    unfold ftV at hR
    subst hR
    try simp only [aD,go_sem,eQ,cP,gr,iv,vb,iNq,co,c7,k1,c7']
    exact Y8
   |false =>
    cases k2:p.kind==2 with
    |true =>
     obtain ⟨y,hy,hyb⟩:=ky (hsrc co k2)
     try simp only [aD,go_sem,eQ,cP,gr,co,c7,k1,k2,c7']
     refine ⟨S,y,⟨rfl,hS,hy⟩,?_⟩
     simp only [co,c7,k1,k2,tfC] at hR
     subst hR
     try simp only [aD,go_sem,eQ,cP,gr,iv,vb,iNq,co,c7,k1,k2,hyb,c7']
     exact Y8
    |false =>
     have hpl:=hpar co k1 k2
     have gp:=aV (f:=aL) (l:=a.params) (k:=p.n.toNat) (x:=a.params[p.n.toNat]) (gQq hpl)
     have gq:a.params.getD p.n.toNat ⟨[],0⟩=a.params[p.n.toNat]:=by simp [gEq,hpl]
     rw [gq] at hR
     generalize a.params[p.n.toNat]=z at *
     have hz:aL z=.agg [.str z.name,.int .i64 z.bits]:=rfl
     rw [hz] at gp
     try simp only [aD,go_sem,eQ,cP,gr,co,c7,k1,k2,gp,ybb,c7']
     refine ⟨⟨by omega,by omega⟩,?_⟩
     simp only [co,c7,k1,k2,tfC] at hR
     subst hR
     try simp only [aD,go_sem,eQ,cP,gr,iv,vb,iNq,co,c7,k1,k2,c7']
     exact Y8
  |false =>
   have c7':(p.op != 7)=true:=by simp only [bne,c7,Bool.not_false]
   obtain ⟨x,hx,hxb⟩:=ky (hd co c7)
   try simp only [go_sem,eQ,cP,co,c7']
   refine ⟨S,x,⟨rfl,hS,hx⟩,?_⟩
   try simp only [aD,go_sem,eQ,cP,co,c7']
   simp only [hxb]
   cases k1:p.kind==1 with
   |true =>
    simp only [co,c7,k1,tfC] at hR
    unfold ftV at hR
    subst hR
    try simp only [aD,go_sem,eQ,cP,gr,iv,vb,iNq,co,c7,k1,c7',hxb]
    exact Y8
   |false =>
    cases k2:p.kind==2 with
    |true =>
     obtain ⟨y,hy,hyb⟩:=ky (hsrc co k2)
     try simp only [aD,go_sem,eQ,cP,gr,co,c7,k1,k2,c7',hxb]
     refine ⟨S,y,⟨rfl,hS,hy⟩,?_⟩
     simp only [co,c7,k1,k2,tfC] at hR
     subst hR
     try simp only [aD,go_sem,eQ,cP,gr,iv,vb,iNq,co,c7,k1,k2,hyb,c7',hxb]
     exact Y8
    |false =>
     have hpl:=hpar co k1 k2
     have gp:=aV (f:=aL) (l:=a.params) (k:=p.n.toNat) (x:=a.params[p.n.toNat]) (gQq hpl)
     have gq:a.params.getD p.n.toNat ⟨[],0⟩=a.params[p.n.toNat]:=by simp [gEq,hpl]
     rw [gq] at hR
     generalize a.params[p.n.toNat]=z at *
     have hz:aL z=.agg [.str z.name,.int .i64 z.bits]:=rfl
     rw [hz] at gp
     try simp only [aD,go_sem,eQ,cP,gr,co,c7,k1,k2,gp,ybb,c7',hxb]
     refine ⟨⟨by omega,by omega⟩,?_⟩
     simp only [co,c7,k1,k2,tfC] at hR
     subst hR
     try simp only [aD,go_sem,eQ,cP,gr,iv,vb,iNq,co,c7,k1,k2,c7',hxb]
     exact Y8
def Bs:PCt
 |[x,.slice _ 2 y],_,K=>∃ (a:SAction) (vs:List Nat),(x=ap a∧y=vs.map vv∧a.params.length≤1000000∧vs.length≤1000000∧∀ v∈vs,v<2^128)∧K (.bool (xE a.params vs))
 |_,_,_=>False
theorem LQ:EPp 157 Bs:=by
 refine Ype fun _ H K h=>?_
 unfold Bs at h
 split at h<;>try exact h.elim
 rename_i x m y
 obtain ⟨a,vs,⟨rfl,rfl,hpl,hvl,hvs⟩,hK⟩:=h
 refine ⟨_,hK,?_⟩
 clear hK
 unfold ap
 generalize hR:xE a.params vs=R
 unfold xE at hR
 refine ACalls.fW aE (tCq uz tNq) Tryz.func157 [.tmp 4] (nrq _) (T:=aB [(6,[[],[],[],[],[],[],[],[0,2,6]])]) (h:=fun hcl hlt=>?_)
 have hm:∀ n',H.nx≤n'→AV.lt n' (.slice m 2 (vs.map vv)):=fun n' hn=>AV.lt_mono hn _ (hlt (.slice m 2 (vs.map vv)) (by simp))
 have hx:=AV.lt_mono (Nat.le_succ H.nx) _ (hlt _ List.mem_cons_self)
 simp only [znr] at hx
 have hcb:=ah hcl hx
 clear hlt hx
 have dn1:(!true)=false:=rfl
 have dn2:(!false)=true:=rfl
 by_cases hlen:vs.length=a.params.length
 rotate_left
 ·exact Y72
 rw [dtq hlen,Bool.true_and] at hR
 have dl:((vs.length:Int) != (a.params.length:Int))=false:=by simp [hlen]
 refine Tq73 ?_
 refine aC (A:=Nat) (fun k=>[(2,.ptr H.nx 0),(13,.slice m 2 (vs.map vv)),(14,.int .i64 (vs.length:Int)),(15,.int .i64 (k:Int))]) (fun _=>(H.push (.cells [.int .i64 a.id,.str a.name,.slice .any 2 (a.params.map aL),.slice .any 6 (a.body.map aT),.str a.restr])))
  (fun k=>k≤a.params.length∧yH (a.params.drop k) (vs.drop k)=R) (fun k=>a.params.length - k) 0 ⟨Nat.zero_le _,hR⟩ ?_ fun k hk=>?_
 ·refine eNt hcb ?_ ?_
  ·exact Y128
  ·exact Y13
 clear hR
 obtain ⟨hk,hR⟩:=hk
 refine Tq20 ?_
 refine au (fun hc=>?_) (fun hc=>?_)
 ·have hk':k<a.params.length:=sHc
  have hkv:k<vs.length:=by omega
  obtain ⟨x,hx⟩:∃ x,x=vs[k]:=⟨_,rfl⟩
  obtain ⟨p,hp⟩:∃ p,p=a.params[k]:=⟨_,rfl⟩
  have hd:vs.drop k=x::vs.drop (k+1):=by rw [hx];exact dcq hkv
  have hdp:a.params.drop k=p::a.params.drop (k+1):=by rw [hp];exact dcq hk'
  have hgx:=aV (f:=vv) (l:=vs) (k:=k) (x:=x) (by rw [gQq hkv,hx])
  have hgp:=aV (f:=aL) (l:=a.params) (k:=k) (x:=p) (by rw [gQq hk',hp])
  have hxl:=hvs x (by rw [hx];exact gMq hkv)
  have iv:=ph hxl
  have e5:=Yk5 k
  rw [hd,hdp] at hR
  unfold yH at hR
  simp only [bm,aD,bhq,Nat.reduceMod,Nat.reduceDiv,aW,aX,aZ,bx,aY,bw,bo,bp,bv,yaq,yar,yao,yap,go_sem,iNq,hgx,hgp,vv,aL,ybb,gr,jI,iv]
  refine Tq3 ?_
  cases hq:decide (((bl x:Nat):Int)≤p.bits) with
  |false =>
   rw [hq,Bool.false_and] at hR
   subst hR
   refine Tq70 ?_
   exact Y8
  |true =>
   rw [hq,Bool.true_and] at hR
   refine Tq67 ?_
   refine Tq4 ?_
   refine ⟨k+1,⟨by omega,hR⟩,by omega,?_⟩
   refine eNt hcb ?_ ?_
   ·exact Y128
   ·exact Y13
 ·exact Y60
theorem lL {x y:Nat}:((((x/2^64:Nat):Int)==((y/2^64:Nat):Int))&&(((((x % 2^64:Nat):Int)==((y % 2^64:Nat):Int)))&&true))=decide (x=y):=by
 rw [Bool.eq_iff_iff]
 simp
 omega
def nt (S:Sch) (f:Int) (c:SCase):Bool:=ftV c.value (btF S f)&&(ftV c.mask (btF S f)&&decide (c.value &&& c.mask=c.value))
def Bk:PCt
 |[.agg l,.int .i64 f,x],_,K=>∃ (S:Sch) (c:SCase),(l=aR S∧x=bb c∧SLen S∧bz S f=true∧c.value<2^128∧c.mask<2^128)∧K (.bool (nt S f c))
 |_,_,_=>False
theorem N3:EPp 152 Bk:=by
 refine Ype fun _ H K h=>?_
 unfold Bk at h
 split at h<;>try exact h.elim
 rename_i l f x
 obtain ⟨S,c,⟨rfl,rfl,hS,hf,h1,h2⟩,hK⟩:=h
 refine ⟨_,hK,?_⟩
 clear hK
 have iv:=ph h1
 have iw:=ph h2
 have vb:=jI c.value
 have wb:=jI c.mask
 generalize hR:nt S f c=R
 unfold nt ftV at hR
 obtain ⟨y,hy,hyb⟩:=ky hf
 unfold bb vc
 refine Yfw aE (tCq pk (tCq uz (tCq LU tNq))) Tryz.func152 [.tmp 6] (nrq _) (T:=aB [(2,[[],[],[],[1],[],[],[3],[],[1,3,6],[],[],[],[3,8],[],[3,8],[1,3,6,8,12,14],[],[3,8]])]) (h:=fun hcl=>?_)
 unfold aR
 simp only [go_sem,cP]
 refine ⟨S,y,⟨rfl,hS,hy⟩,?_⟩
 simp only [aD,go_sem,cP,gr,oZ,p2V,iv,iw,vb,wb,iNq,hyb,vv,jd,jb,lL]
 refine Tq4 ?_
 cases c1:decide (((bl c.value:Nat):Int)≤btF S f) with
 |false =>
  simp only [c1,tfC] at hR
  subst hR
  try simp only [aD,go_sem,cP,gr,oZ,p2V,iv,iw,vb,wb,iNq,hyb,vv,jd,jb,lL,c1]
  exact Y8
 |true =>
  try simp only [aD,go_sem,cP,gr,oZ,p2V,iv,iw,vb,wb,iNq,hyb,vv,jd,jb,lL,c1]
  refine Tq4 ?_
  cases c2:decide (((bl c.mask:Nat):Int)≤btF S f) with
  |false =>
   simp only [c1,c2,tfC] at hR
   subst hR
   refine Tq43 ?_
   exact Y8
  |true =>
   refine Tq43 ?_
   refine Tq4 ?_
   simp only [c1,c2,Bool.true_and] at hR
   subst hR
   refine Tq43 ?_
   refine Tq4 ?_
   simp (disch:=first|exact Zd|omega) [↓zmo,beq,ybc,ybd,ybe,ag,wk,wk2,wk1,wkM,wkL,ay,ybf,hcl]
   generalize c.value &&& c.mask=z
   rw [Bool.eq_iff_iff]
   simp
   omega
def smB (S:Sch):List Int→Int→Int
 |[],n=>n
 |f::l,n=>smB S l (n+btF S f)
def s9 (S:Sch) (t:SHeader):Bool:=decide (smB S t.fields 0 % 8=0)&&(decide (smB S t.fields 0≤512)&&(!t.fields.contains 1&&!t.fields.contains 2))
def kD:PCt
 |[.agg l,x],_,K=>∃ (S:Sch) (t:SHeader),(l=aR S∧x=az t∧SLen S∧t.fields.length≤1000000∧∀ f∈t.fields,bz S f=true∧0≤btF S f∧btF S f≤1000000)∧K (.bool (s9 S t))
 |_,_,_=>False
theorem OL:EPp 148 kD:=by
 refine Ype fun _ H K h=>?_
 unfold kD at h
 split at h<;>try exact h.elim
 rename_i l x
 obtain ⟨S,t,⟨rfl,rfl,hS,hfl,hf⟩,hK⟩:=h
 refine ⟨_,hK,?_⟩
 clear hK
 generalize hR:s9 S t=R
 unfold s9 at hR
 obtain ⟨N,hN⟩:∃ N,smB S t.fields 0=N:=⟨_,rfl⟩
 rw [hN] at hR
 unfold az
 refine Yfv aE (tCq pk (tCq nG tNq)) Tryz.func148 [.tmp 4] fun hcl hlt=>?_
 have hx:=AV.lt_mono (Nat.le_succ H.nx) _ (hlt _ List.mem_cons_self)
 have hx2:=AV.lt_mono (show H.nx≤H.nx+1+1 by omega) _ (hlt _ (List.mem_cons_of_mem _ List.mem_cons_self))
 clear hlt
 simp only [znr] at hx hx2
 have hcp:=ah (ah hcl hx) hx2
 obtain ⟨Hb,hHb⟩:∃ Hb,(H.push (.cells (aR S))).push (.cells [.int .i64 t.id,.str t.name,.slice .any 1 (inL t.fields)])=Hb:=⟨_,rfl⟩
 have hg0:Hb.get H.nx=some (.cells (aR S)):=by rw [← hHb,zlh,if_neg (by rw [zle];omega)];exact AHeap.get_push_new _ _
 have hg1:Hb.get (H.nx+1)=some (.cells [.int .i64 t.id,.str t.name,.slice .any 1 (inL t.fields)]):=by rw [← hHb];exact AHeap.get_push_new _ _
 have hnb:Hb.nx=H.nx+1+1:=by rw [← hHb];rfl
 have hHle:H.Le Hb:=by rw [← hHb];exact ((lRq _).push _).push _
 rw [hHb] at hcp
 have hcs0:=aM hg0
 have hcs1:=aM hg1
 have hlen:(inL t.fields).length=t.fields.length:=by simp [inL]
 have hm:∀ n',AV.lt n' (.slice .any 1 (inL t.fields)):=fun n'=>by
  rw [AV.lt]
  exact ⟨fun id e=>(by cases e),fun j hj=>by simp only [inL,List.getElem_map,znf]⟩
 unfold aR at hHb hg0 hcs0 ⊢
 simp only [go_sem,hHb,hcs1,hlen]
 try simp only [go_sem,hlen]
 refine aC (A:=Nat × Int) (fun a=>[(2,.ptr H.nx 0),(3,.ptr (H.nx+1) 0),(5,.int .i64 a.2),(9,.slice .any 1 (inL t.fields)),(10,.int .i64 (t.fields.length:Int)),(11,.int .i64 (a.1:Int))]) (fun _=>Hb)
  (fun a=>a.1≤t.fields.length∧0≤a.2∧a.2≤(a.1:Int)*1000000∧smB S (t.fields.drop a.1) a.2=N) (fun a=>t.fields.length - a.1) (0,0) ⟨Nat.zero_le _,by decide,by decide,hN⟩ ?_ fun a ha=>?_
 ·refine ⟨by (try simp only [zkq,zkv]);omega,lRq _,hcp,?_,?_⟩
  ·simp [ltF,znf,znn,hm,hnb]
   try omega
  ·exact Y13
 obtain ⟨k,n⟩:=a
 obtain ⟨hk,hn0,hn1,hn⟩:=ha
 dsimp only at hk hn0 hn1 hn ⊢
 refine Tq15 ?_
 refine au (fun hc=>?_) (fun hc=>?_)
 ·have hk':k<t.fields.length:=sHc
  obtain ⟨x,hx⟩:∃ x,x=t.fields[k]:=⟨_,rfl⟩
  have hd:t.fields.drop k=x::t.fields.drop (k+1):=by rw [hx];exact dcq hk'
  have hg':(inL t.fields).getD k .junk=.int .i64 x:=aV (f:=AV.int .i64) (l:=t.fields) (k:=k) (x:=x) (by rw [gQq hk',hx])
  have e5:=Yk5 k
  obtain ⟨q1,q2,q3⟩:=hf x (by rw [hx];exact gMq hk')
  obtain ⟨y,hy,hyb⟩:=ky q1
  have e6:IntKind.i64.wrap (n+y.bits)=n+y.bits:=by rw [hyb];rw [wrap_i64]<;>omega
  rw [hd] at hn
  unfold smB at hn
  have hne0:(H.nx=Hb.nx)=False:=eFo
  simp only [go_sem,iNq,hlen,hg',hg0,hcs0,hne0,cP]
  refine Tq4 ?_
  refine ⟨S,y,⟨rfl,hS,hy⟩,?_⟩
  simp only [aD,go_sem,e5,e6]
  refine ⟨(k+1,n+y.bits),⟨by dsimp only;omega,by dsimp only;omega,by dsimp only;rw [hyb];omega,by dsimp only;rw [hyb];exact hn⟩,by dsimp only;omega,by omega,lRq _,hcp,?_,?_⟩
  ·simp [ltF,znf,znn,hm,hnb]
   try omega
  ·exact Y13
 ·have hk':k=t.fields.length:=sHc
  subst hk'
  rw [List.drop_length] at hn
  have hn':n=N:=hn
  subst hn'
  have hg2:=hg1
  have hne1:(H.nx+1=Hb.nx)=False:=eFo
  simp only [go_sem,hcs1,gA]
  have d8:(n.tmod 8==0)=decide (n % 8=0):=by
   rw [Int.tmod_eq_emod_of_nonneg hn0,Bool.eq_iff_iff];simp
  refine ⟨by decide,?_⟩
  rw [d8]
  cases c1:decide (n % 8=0) with
  |false =>
   simp only [c1,tfC] at hR
   subst hR
   try simp only [go_sem,gA,c1]
   exact Z14
  |true =>
   try simp only [go_sem,gA,c1]
   cases c2:decide (n≤512) with
   |false =>
    simp only [c1,c2,tfC] at hR
    subst hR
    try simp only [go_sem,gA,c1,c2]
    exact Z14
   |true =>
    try simp only [go_sem,gA,c1,c2]
    refine ⟨t.fields,⟨rfl,hfl⟩,?_⟩
    cases c3:t.fields.contains 1 with
    |true =>
     simp only [c1,c2,c3,tfC] at hR
     subst hR
     try simp only [go_sem,gA,c1,c2,c3]
     exact Z14
    |false =>
     try simp only [go_sem,gA,c1,c2,c3]
     refine ⟨t.fields,⟨rfl,hfl⟩,?_⟩
     cases c4:t.fields.contains 2 with
     |true =>
      exact Y130
     |false =>
      exact Y130
def Rq (S:Sch) (t:SHeader):Prop:=t.fields.length≤1000000∧∀ f∈t.fields,bz S f=true∧0≤btF S f∧btF S f≤1000000
def QA (S:Sch) (f:Int) (c:SCase):Prop:=bz S f=true∧c.value<2^128∧c.mask<2^128
def P2 (S:Sch) (a:SAction) (p:SPrim):Prop:=p.value<2^128∧nD S a.params.length p=true∧fpB p=true∧0≤p.n
def PK:PCt
 |[x,.ptr c 0],H,K=>∃ (t:SHeader) (S:Sch),(x=az t∧H.get c=some (.cells (aR S))∧SLen S∧Rq S t)∧K (.bool (s9 S t))
 |_,_,_=>False
theorem Qt:EPp 147 PK:=by
 refine Ype fun _ H K h=>?_
 unfold PK at h
 split at h<;>try exact h.elim
 rename_i x c
 obtain ⟨t,S,⟨rfl,hg,hS,hk⟩,hK⟩:=h
 refine ⟨_,hK,?_⟩
 clear hK
 have hl:=glq hg
 have hne:(c=H.nx)=False:=eFo
 have hcs:=aM hg
 have hgS:=hg
 generalize hR:(s9 S t)=R
 skip
 unfold az
 unfold aR at hg hcs
 refine Yfu aE (tCq OL tNq) Tryz.func147 [.tmp 3] fun hcl=>?_
 refine Tq58 ?_
 refine ⟨S,t,⟨rfl,rfl,hS,hk.1,hk.2⟩,?_⟩
 cases k1:s9 S t with
 |false =>
  exact Y39
 |true =>
  exact Y39
def JO:PCt
 |[x,.ptr c 0,.ptr d 0],H,K=>∃ (t:SCase) (a:SState) (S:Sch) (cs:List AV),(x=bb t∧H.get c=some (.cells (aR S))∧H.get d=some (.cells cs)∧aA a=.agg cs∧SLen S∧QA S a.select t)∧K (.bool (nt S a.select t))
 |_,_,_=>False
theorem OE:EPp 151 JO:=by
 refine Ype fun _ H K h=>?_
 unfold JO at h
 split at h<;>try exact h.elim
 rename_i x c d
 obtain ⟨t,a,S,cs,⟨rfl,hg,hgd,hac,hS,hk⟩,hK⟩:=h
 refine ⟨_,hK,?_⟩
 clear hK
 unfold aA at hac
 cases hac
 have hl:=glq hg
 have hne:(c=H.nx)=False:=eFo
 have hcs:=aM hg
 have hl2:=glq hgd
 have hne2:(d=H.nx)=False:=eFo
 have hcs2:=aM hgd
 generalize hR:(nt S a.select t)=R
 unfold bb vc
 unfold aR at hg hcs
 refine Yfu aE (tCq N3 tNq) Tryz.func151 [.tmp 4] fun hcl=>?_
 simp only [go_sem,hcs,hne,hg,hcs2,hne2,hgd,Bk]
 refine ⟨S,t,⟨rfl,rfl,hS,hk.1,hk.2.1,hk.2.2⟩,?_⟩
 exact Y50
def KO:PCt
 |[x,.ptr c 0,.ptr d 0],H,K=>∃ (t:SPrim) (a:SAction) (S:Sch) (cs:List AV),(x=aT t∧H.get c=some (.cells (aR S))∧H.get d=some (.cells cs)∧ap a=.agg cs∧SLen S∧P2 S a t)∧K (.bool (mV S a t))
 |_,_,_=>False
theorem Of:EPp 154 KO:=by
 refine Ype fun _ H K h=>?_
 unfold KO at h
 split at h<;>try exact h.elim
 rename_i x c d
 obtain ⟨t,a,S,cs,⟨rfl,hg,hgd,hac,hS,hk⟩,hK⟩:=h
 refine ⟨_,hK,?_⟩
 clear hK
 unfold ap at hac
 cases hac
 have hl:=glq hg
 have hne:(c=H.nx)=False:=eFo
 have hcs:=aM hg
 have hl2:=glq hgd
 have hne2:(d=H.nx)=False:=eFo
 have hcs2:=aM hgd
 generalize hR:(mV S a t)=R
 unfold aT vc
 unfold aR at hg hcs
 refine Yfu aE (tCq Qx tNq) Tryz.func154 [.tmp 4] fun hcl=>?_
 simp only [go_sem,hcs,hne,hg,hcs2,hne2,hgd,Ke]
 refine ⟨S,a,t,⟨rfl,rfl,rfl,hS,hk.1,hk.2.1,hk.2.2.1,hk.2.2.2⟩,?_⟩
 exact Y50
def PB:PCt
 |[x,.ptr c 0],H,K=>∃ (t:SState) (S:Sch),(x=aA t∧H.get c=some (.cells (aR S))∧SLen S∧t.cases.length≤1000000∧∀ p∈t.cases,QA S t.select p)∧K (.bool (t.cases.all fun p=>nt S t.select p))
 |_,_,_=>False
theorem QR:EPp 149 PB:=by
 refine Ype fun _ H K h=>?_
 unfold PB at h
 split at h<;>try exact h.elim
 rename_i x c
 obtain ⟨t,S,⟨rfl,hg,hS,hbl,hk⟩,hK⟩:=h
 refine ⟨_,hK,?_⟩
 clear hK
 have hl:=glq hg
 have hne:(c=H.nx)=False:=eFo
 have hcs:=aM hg
 have hgS:=hg
 generalize hR:(t.cases.all fun p=>nt S t.select p)=R
 skip
 unfold aA
 unfold aR at hg hcs
 refine Yfu aE (tCq zG tNq) Tryz.func149 [.tmp 3] fun hcl=>?_
 refine Tq58 ?_
 refine ⟨t.cases,(fun p=>nt S t.select p),⟨rfl,hbl,fun p hx H' hle' hcl'=>clB OE ⟨p,t,S,_,⟨rfl,hle'.get _ _ (by rw [zlh,if_neg (by omega)];exact hgS),hle'.get _ _ (AHeap.get_push_new _ _),rfl,hS,hk p hx⟩,rfl⟩⟩,?_⟩
 cases k1:t.cases.all (fun p=>nt S t.select p) with
 |false =>
  exact Y39
 |true =>
  exact Y39
def Po:PCt
 |[x,.ptr c 0],H,K=>∃ (t:SAction) (S:Sch),(x=ap t∧H.get c=some (.cells (aR S))∧SLen S∧t.body.length≤1000000∧∀ p∈t.body,P2 S t p)∧K (.bool (t.body.all fun p=>mV S t p))
 |_,_,_=>False
theorem Qi:EPp 153 Po:=by
 refine Ype fun _ H K h=>?_
 unfold Po at h
 split at h<;>try exact h.elim
 rename_i x c
 obtain ⟨t,S,⟨rfl,hg,hS,hbl,hk⟩,hK⟩:=h
 refine ⟨_,hK,?_⟩
 clear hK
 have hl:=glq hg
 have hne:(c=H.nx)=False:=eFo
 have hcs:=aM hg
 have hgS:=hg
 generalize hR:(t.body.all fun p=>mV S t p)=R
 skip
 unfold ap
 unfold aR at hg hcs
 refine Yfu aE (tCq uI tNq) Tryz.func153 [.tmp 3] fun hcl=>?_
 refine Tq58 ?_
 refine ⟨t.body,(fun p=>mV S t p),⟨rfl,hbl,fun p hx H' hle' hcl'=>clB Of ⟨p,t,S,_,⟨rfl,hle'.get _ _ (by rw [zlh,if_neg (by omega)];exact hgS),hle'.get _ _ (AHeap.get_push_new _ _),rfl,hS,hk p hx⟩,rfl⟩⟩,?_⟩
 cases k1:t.body.all (fun p=>mV S t p) with
 |false =>
  exact Y39
 |true =>
  exact Y39
def tmF (S:Sch) (t:STable):Bool:=match S.actions.find? (fun a=>a.id==t.dflt) with
 |some a=>xE a.params t.dargs
 |none=>false
def Rw (S:Sch) (t:STable):Prop:=∃ a,S.actions.find? (fun a=>a.id==t.dflt)=some a∧a.params.length≤1000000∧t.dargs.length≤1000000∧∀ v∈t.dargs,v<2^128
def gkB (S:Sch) (g:SGrant):Bool:=match S.tables.find? (fun t=>t.id==g.table) with
 |some b=>decide (g.keys.length=b.keys.length)
 |none=>false
def PA:PCt
 |[x,.ptr c 0],H,K=>∃ (t:STable) (S:Sch),(x=ax t∧H.get c=some (.cells (aR S))∧SLen S∧Rw S t)∧K (.bool (tmF S t))
 |_,_,_=>False
theorem PV:EPp 156 PA:=by
 refine Ype fun _ H K h=>?_
 unfold PA at h
 split at h<;>try exact h.elim
 rename_i x c
 obtain ⟨t,S,⟨rfl,hg,hS,hk⟩,hK⟩:=h
 refine ⟨_,hK,?_⟩
 clear hK
 have hl:=glq hg
 have hne:(c=H.nx)=False:=eFo
 have hcs:=aM hg
 have hgS:=hg
 generalize hR:(tmF S t)=R
 skip
 unfold ax
 unfold aR at hg hcs
 refine Yfw aE (tCq jz (tCq LQ tNq)) Tryz.func156 [.tmp 3] (nrq _) (T:=aB [(1,[[],[],[],[],[],[2,4],[],[5],[],[],[1,2,4,5,7,9]])]) (h:=fun hcl=>?_)
 obtain ⟨a,ha,hpl,hal,hvs⟩:=hk
 unfold tmF at hR
 simp only [ha] at hR
 subst hR
 obtain ⟨i,i1,g1,l1⟩:=lz ha
 have ga:=aV (f:=ap) (l:=S.actions) (k:=i) (x:=a) g1
 have hca:ap a=.agg [.int .i64 a.id,.str a.name,.slice .any 2 (a.params.map aL),.slice .any 6 (a.body.map aT),.str a.restr]:=rfl
 rw [hca] at ga
 simp only [go_sem,hcs,hne,hg,ic]
 refine ⟨S,⟨rfl,hS.al⟩,?_⟩
 simp only [aD,go_sem,hcs,hne,hg,i1,ga,iNq,ybb,Bs]
 refine Tq4 ?_
 refine ⟨a,t.dargs,⟨rfl,rfl,hpl,hal,hvs⟩,?_⟩
 exact Y37
def I8:PCt
 |[x,.ptr c 0],H,K=>∃ (t:SGrant) (S:Sch),(x=aJ t∧H.get c=some (.cells (aR S))∧SLen S∧gy S t.table=true)∧K (.bool (gkB S t))
 |_,_,_=>False
theorem OA:EPp 160 I8:=by
 refine Ype fun _ H K h=>?_
 unfold I8 at h
 split at h<;>try exact h.elim
 rename_i x c
 obtain ⟨t,S,⟨rfl,hg,hS,hk⟩,hK⟩:=h
 refine ⟨_,hK,?_⟩
 clear hK
 have hl:=glq hg
 have hne:(c=H.nx)=False:=eFo
 have hcs:=aM hg
 have hgS:=hg
 generalize hR:(gkB S t)=R
 skip
 unfold aJ
 unfold aR at hg hcs
 refine Yfw aE (tCq gO tNq) Tryz.func160 [.tmp 3] (nrq _) (T:=aB [(1,[[],[],[],[],[],[],[],[],[5,7],[],[],[8]])]) (h:=fun hcl=>?_)
 unfold gy at hk
 obtain ⟨b,hb⟩:∃ b,S.tables.find? (fun x=>x.id==t.table)=some b:=by
  rw [List.any_eq_true] at hk
  obtain ⟨y,hy,h2⟩:=hk
  cases hf:S.tables.find? (fun x=>x.id==t.table) with
  |none=>exact absurd h2 (by have:=List.find?_eq_none.1 hf y hy;simpa using this)
  |some x=>exact ⟨x,rfl⟩
 unfold gkB at hR
 simp only [hb] at hR
 subst hR
 obtain ⟨i,i1,g1,l1⟩:=lz hb
 have ga:=aV (f:=ax) (l:=S.tables) (k:=i) (x:=b) g1
 have hca:ax b=.agg [.int .i64 b.id,.str b.name,.slice .any 3 (b.keys.map ba),.slice .any 1 (inL b.actions),.int .i64 b.dflt,.slice .any 2 (b.dargs.map vv),.int .i64 b.size,.str b.restr]:=rfl
 rw [hca] at ga
 have hbl:(boL t.keys).length=t.keys.length:=by simp [boL]
 have heq:((t.keys.length:Int)==(b.keys.length:Int))=decide (t.keys.length=b.keys.length):=by rw [Bool.eq_iff_iff];simp;omega
 simp only [go_sem,hcs,hne,hg,d9]
 refine ⟨S,⟨rfl,hS.tl⟩,?_⟩
 simp only [aD,go_sem,hcs,hne,hg,i1,ga,iNq,ybb,hbl,heq]
 exact Y8
def PH:PCt
 |[x,.ptr c 0],H,K=>∃ (t:SRole) (S:Sch),(x=aN t∧H.get c=some (.cells (aR S))∧SLen S∧t.grants.length≤1000000∧∀ g∈t.grants,gy S g.table=true)∧K (.bool (t.grants.all fun g=>gkB S g))
 |_,_,_=>False
theorem Qh:EPp 159 PH:=by
 refine Ype fun _ H K h=>?_
 unfold PH at h
 split at h<;>try exact h.elim
 rename_i x c
 obtain ⟨t,S,⟨rfl,hg,hS,hgl,hk⟩,hK⟩:=h
 refine ⟨_,hK,?_⟩
 clear hK
 have hl:=glq hg
 have hne:(c=H.nx)=False:=eFo
 have hcs:=aM hg
 have hgS:=hg
 generalize hR:(t.grants.all fun g=>gkB S g)=R
 skip
 unfold aN
 unfold aR at hg hcs
 refine Yfu aE (tCq zM tNq) Tryz.func159 [.tmp 3] fun hcl=>?_
 refine Tq58 ?_
 refine ⟨t.grants,(fun g=>gkB S g),⟨rfl,hgl,fun x hx H' hle' hcl'=>clB OA ⟨x,S,⟨rfl,hle'.get _ _ (by rw [zlh,if_neg (by omega)];exact hgS),hS,hk x hx⟩,rfl⟩⟩,?_⟩
 cases k1:t.grants.all (fun g=>gkB S g) with
 |false =>
  exact Y39
 |true =>
  exact Y39
def ma (S:Sch) (r:SRef):Bool:=if r.action==0 then btF S (nv S r).field==btF S (mi S r).field
 else match S.actions.find? (fun t=>t.id==r.action) with
  |some c=>(c.params.getD r.param.toNat ⟨[],0⟩).bits==btF S (mi S r).field
  |none=>false
def Rc (S:Sch) (r:SRef):Prop:=pt S r∧bz S (mi S r).field=true∧((r.action==0)=true→bz S (nv S r).field=true)
theorem yE {S:Sch} {r:SRef} (h:pt S r) (h0:(r.action==0)=false):∃ c,S.actions.find? (fun t=>t.id==r.action)=some c∧r.param.toNat<c.params.length:=by
 obtain ⟨h,_,_,hp⟩:=h
 unfold mU at h
 cases fa:S.tables.find? (fun t=>t.id==r.table) with
 |none=>rw [fa] at h;cases h
 |some a =>
  cases fb:S.tables.find? (fun t=>t.id==r.toTable) with
  |none=>rw [fa,fb] at h;cases h
  |some b =>
   rw [fa,fb] at h
   simp only [Bool.and_eq_true,h0,Bool.false_eq_true,if_false] at h
   have h3:=h.2.2
   cases fc:S.actions.find? (fun t=>t.id==r.action) with
   |none=>rw [fc] at h3;cases h3
   |some c =>
    rw [fc] at h3
    simp only [decide_eq_true_eq] at h3
    exact ⟨c,rfl,by omega⟩
def Pw:PCt
 |[x,.ptr c 0],H,K=>∃ (t:SRef) (S:Sch),(x=a9 t∧H.get c=some (.cells (aR S))∧SLen S∧Rc S t)∧K (.bool (ma S t))
 |_,_,_=>False
theorem Q0:EPp 161 Pw:=by
 refine Ype fun _ H K h=>?_
 unfold Pw at h
 split at h<;>try exact h.elim
 rename_i x c
 obtain ⟨t,S,⟨rfl,hg,hS,hk⟩,hK⟩:=h
 refine ⟨_,hK,?_⟩
 clear hK
 have hl:=glq hg
 have hne:(c=H.nx)=False:=eFo
 have hcs:=aM hg
 have hgS:=hg
 generalize hR:(ma S t)=R
 skip
 unfold a9
 unfold aR at hg hcs
 refine Yfw aE (tCq zk (tCq pk (tCq jz tNq))) Tryz.func161 [.tmp 3] (nrq _) (T:=aB [(5,[[],[],[],[],[],[2,4],[],[],[5],[],[],[],[],[5]])]) (h:=fun hcl=>?_)
 obtain ⟨hr,hf1,hf2⟩:=hk
 have hne2:(c=H.nx+1)=False:=eFo
 have hne3:(c=H.nx+1+1)=False:=eFo
 obtain ⟨b,e1,e2,e3,e4⟩:=nO hr
 simp only [go_sem,hcs,hne,hne2,hne3,hg,th]
 refine ⟨S,t,b,nv S t,mi S t,⟨rfl,rfl,hS,e1,e2,e3,e4⟩,?_⟩
 unfold ma at hR
 have hact:=@yE S t hr
 clear e3 e4
 generalize mi S t=kb at *
 generalize nv S t=ka at *
 obtain ⟨y,hy,hyb⟩:=ky hf1
 unfold ba
 simp only [aD,go_sem,hcs,hne,hne2,hne3,hg,cP]
 refine ⟨S,y,⟨rfl,hS,hy⟩,?_⟩
 cases c1:t.action==0 with
 |true =>
  obtain ⟨z,hz,hzb⟩:=ky (hf2 c1)
  simp only [c1,if_true] at hR
  subst hR
  simp only [aD,go_sem,hcs,hne,hne2,hne3,hg,cP,c1]
  refine ⟨S,z,⟨rfl,hS,hz⟩,?_⟩
  simp only [aD,go_sem,hyb,hzb]
  exact Z1
 |false =>
  obtain ⟨c2,f3,hl3⟩:=hact c1
  simp only [c1,Bool.false_eq_true,if_false,f3] at hR
  subst hR
  obtain ⟨i,i1,g1,l1⟩:=lz f3
  have ga:=aV (f:=ap) (l:=S.actions) (k:=i) (x:=c2) g1
  have hca:ap c2=.agg [.int .i64 c2.id,.str c2.name,.slice .any 2 (c2.params.map aL),.slice .any 6 (c2.body.map aT),.str c2.restr]:=rfl
  rw [hca] at ga
  have gp:=aV (f:=aL) (l:=c2.params) (k:=t.param.toNat) (x:=c2.params[t.param.toNat]) (gQq hl3)
  have gq:c2.params.getD t.param.toNat ⟨[],0⟩=c2.params[t.param.toNat]:=by simp [gEq,hl3]
  rw [gq]
  generalize c2.params[t.param.toNat]=z at *
  have hz:aL z=.agg [.str z.name,.int .i64 z.bits]:=rfl
  rw [hz] at gp
  have hp0:=hr.2.2.2
  simp only [aD,go_sem,hcs,hne,hne2,hne3,hg,ic,c1]
  refine ⟨S,⟨rfl,hS.al⟩,?_⟩
  simp only [aD,go_sem,hcs,hne,hne2,hne3,hg,i1,ga,gp,iNq,ybb,hyb]
  exact Y8
structure FitK (S:Sch):Prop where
 f1:bz S 1=true
 f2:bz S 2=true
 h:∀ t∈S.headers,Rq S t
 s:∀ t∈S.states,∀ p∈t.cases,QA S t.select p
 a:∀ t∈S.actions,∀ p∈t.body,P2 S t p
 t:∀ t∈S.tables,Rw S t
 r:∀ t∈S.roles,∀ g∈t.grants,gy S g.table=true
 x:∀ r∈S.refs,Rc S r
def tO (S:Sch):Bool:=(btF S 1==16)&&((btF S 2==16)&&(S.headers.all (s9 S)&&((S.states.all fun t=>t.cases.all fun p=>nt S t.select p)&&((S.actions.all fun t=>t.body.all fun p=>mV S t p)&&(S.tables.all (tmF S)&&((S.roles.all fun t=>t.grants.all fun g=>gkB S g)&&S.refs.all (ma S)))))))
def tv:PCt
 |[.agg l],_,K=>∃ S:Sch,(l=aR S∧SB S∧FitK S)∧K (.bool (tO S))
 |_,_,_=>False
theorem Lc:EPp 37 tv:=by
 refine Ype fun _ H K h=>?_
 unfold tv at h
 split at h<;>try exact h.elim
 rename_i l
 obtain ⟨S,⟨rfl,hB,hF⟩,hK⟩:=h
 refine ⟨_,hK,?_⟩
 clear hK
 have hS:=hB.sl
 obtain ⟨y1,hy1,hb1⟩:=ky hF.f1
 obtain ⟨y2,hy2,hb2⟩:=ky hF.f2
 generalize hR:tO S=R
 unfold tO at hR
 refine Yfu aE (tCq pk (tCq qK (tCq qJ (tCq oY (tCq nd (tCq pb (tCq oO tNq))))))) Tryz.func37 [.tmp 2] fun hcl=>?_
 unfold aR
 try simp only [aD,go_sem,cP,hb1,hb2,b6,cr,bQ,bZ,cD,cL]
 refine ⟨S,y1,⟨rfl,hS,hy1⟩,?_⟩
 try simp only [aD,go_sem,hb1]
 cases k1:btF S 1==16 with
 |false =>
  simp only [k1,tfC] at hR
  subst hR
  try simp only [aD,go_sem,cP,hb1,hb2,b6,cr,bQ,bZ,cD,cL,k1]
  exact Z1
 |true =>
  try simp only [aD,go_sem,cP,hb1,hb2,b6,cr,bQ,bZ,cD,cL,k1]
  refine ⟨S,y2,⟨rfl,hS,hy2⟩,?_⟩
  try simp only [aD,go_sem,hb2]
  cases k2:btF S 2==16 with
  |false =>
   simp only [k1,k2,tfC] at hR
   subst hR
   try simp only [aD,go_sem,cP,hb1,hb2,b6,cr,bQ,bZ,cD,cL,k1,k2]
   exact Z1
  |true =>
   try simp only [aD,go_sem,cP,hb1,hb2,b6,cr,bQ,bZ,cD,cL,k1,k2]
   refine ⟨S.headers,s9 S,⟨rfl,hS.hl,fun x hx H' hle' hcl'=>clB Qt ⟨x,S,⟨rfl,hle'.get _ _ (by (try simp only [go_sem]);first|done|rfl),hS,hF.h x hx⟩,rfl⟩⟩,?_⟩
   cases k3:S.headers.all (s9 S) with
   |false =>
    simp only [k1,k2,k3,tfC] at hR
    subst hR
    try simp only [aD,go_sem,cP,hb1,hb2,b6,cr,bQ,bZ,cD,cL,k1,k2,k3]
    exact Z1
   |true =>
    try simp only [aD,go_sem,cP,hb1,hb2,b6,cr,bQ,bZ,cD,cL,k1,k2,k3]
    refine ⟨S.states,(fun t=>t.cases.all fun p=>nt S t.select p),⟨rfl,hS.sl,fun x hx H' hle' hcl'=>clB QR ⟨x,S,⟨rfl,hle'.get _ _ (by (try simp only [go_sem]);first|done|rfl),hS,hB.sn x hx,hF.s x hx⟩,rfl⟩⟩,?_⟩
    cases k4:S.states.all (fun t=>t.cases.all fun p=>nt S t.select p) with
    |false =>
     simp only [k1,k2,k3,k4,tfC] at hR
     subst hR
     try simp only [aD,go_sem,cP,hb1,hb2,b6,cr,bQ,bZ,cD,cL,k1,k2,k3,k4]
     exact Z1
    |true =>
     try simp only [aD,go_sem,cP,hb1,hb2,b6,cr,bQ,bZ,cD,cL,k1,k2,k3,k4]
     refine ⟨S.actions,(fun t=>t.body.all fun p=>mV S t p),⟨rfl,hS.al,fun x hx H' hle' hcl'=>clB Qi ⟨x,S,⟨rfl,hle'.get _ _ (by (try simp only [go_sem]);first|done|rfl),hS,(hB.an x hx).2.2.1,hF.a x hx⟩,rfl⟩⟩,?_⟩
     cases k5:S.actions.all (fun t=>t.body.all fun p=>mV S t p) with
     |false =>
      simp only [k1,k2,k3,k4,k5,tfC] at hR
      subst hR
      try simp only [aD,go_sem,cP,hb1,hb2,b6,cr,bQ,bZ,cD,cL,k1,k2,k3,k4,k5]
      exact Z1
     |true =>
      try simp only [aD,go_sem,cP,hb1,hb2,b6,cr,bQ,bZ,cD,cL,k1,k2,k3,k4,k5]
      refine ⟨S.tables,tmF S,⟨rfl,hS.tl,fun x hx H' hle' hcl'=>clB PV ⟨x,S,⟨rfl,hle'.get _ _ (by (try simp only [go_sem]);first|done|rfl),hS,hF.t x hx⟩,rfl⟩⟩,?_⟩
      cases k6:S.tables.all (tmF S) with
      |false =>
       simp only [k1,k2,k3,k4,k5,k6,tfC] at hR
       subst hR
       try simp only [aD,go_sem,cP,hb1,hb2,b6,cr,bQ,bZ,cD,cL,k1,k2,k3,k4,k5,k6]
       exact Z1
      |true =>
       try simp only [aD,go_sem,cP,hb1,hb2,b6,cr,bQ,bZ,cD,cL,k1,k2,k3,k4,k5,k6]
       refine ⟨S.roles,(fun t=>t.grants.all fun g=>gkB S g),⟨rfl,hS.rl,fun x hx H' hle' hcl'=>clB Qh ⟨x,S,⟨rfl,hle'.get _ _ (by (try simp only [go_sem]);first|done|rfl),hS,(hB.rn x hx).2.1,hF.r x hx⟩,rfl⟩⟩,?_⟩
       cases k7:S.roles.all (fun t=>t.grants.all fun g=>gkB S g) with
       |false =>
        simp only [k1,k2,k3,k4,k5,k6,k7,tfC] at hR
        subst hR
        try simp only [aD,go_sem,cP,hb1,hb2,b6,cr,bQ,bZ,cD,cL,k1,k2,k3,k4,k5,k6,k7]
        exact Z1
       |true =>
        try simp only [aD,go_sem,cP,hb1,hb2,b6,cr,bQ,bZ,cD,cL,k1,k2,k3,k4,k5,k6,k7]
        refine ⟨S.refs,ma S,⟨rfl,hB.xl,fun x hx H' hle' hcl'=>clB Q0 ⟨x,S,⟨rfl,hle'.get _ _ (by (try simp only [go_sem]);first|done|rfl),hS,hF.x x hx⟩,rfl⟩⟩,?_⟩
        cases k8:S.refs.all (ma S) with
        |false =>
         exact Y84
        |true =>
         exact Y84
structure Rng (S:Sch):Prop where
 pv:∀ a∈S.actions,∀ p∈a.body,p.value<2^128∧0≤p.n
 cv:∀ s∈S.states,∀ c∈s.cases,c.value<2^128∧c.mask<2^128
 dv:∀ t∈S.tables,∀ v∈t.dargs,v<2^128
 rv:∀ r∈S.refs,0≤r.key∧0≤r.toKey∧0≤r.param
theorem M9 {S:Sch} {n:Int} (h:fm S n=true):∃ a,S.actions.find? (fun t=>t.id==n)=some a∧a∈S.actions:=by
 unfold fm at h
 rw [List.any_eq_true] at h
 obtain ⟨y,hy,h2⟩:=h
 cases hf:S.actions.find? (fun t=>t.id==n) with
 |none=>exact absurd h2 (by have:=List.find?_eq_none.1 hf y hy;simpa using this)
 |some x=>exact ⟨x,rfl,List.mem_of_find?_eq_some hf⟩
theorem G0 {S:Sch} (hn:S.fields.all nm1=true) {n:Int} (h:bz S n=true):0≤btF S n∧btF S n≤1000000:=by
 obtain ⟨x,hx,hb⟩:=ky h
 have hm:=List.mem_of_find?_eq_some hx
 have h1:=List.all_eq_true.1 hn x hm
 unfold nm1 wB at h1
 simp only [Bool.and_eq_true,decide_eq_true_eq] at h1
 rw [← hb]
 omega
theorem tL {S:Sch} (hk:kB S=true) (hr:Rng S):∀ r∈S.refs,pt S r:=by
 intro r h
 unfold kB at hk
 simp only [Bool.and_eq_true] at hk
 obtain ⟨k1,k2,k3,k4,k5,k6,k7,k8,k9⟩:=hk
 exact ⟨List.all_eq_true.1 k9 r h,(hr.rv r h).1,(hr.rv r h).2.1,(hr.rv r h).2.2⟩
theorem Ca {S:Sch} (k6:S.tables.all (nQ S)=true) {b:STable} {n:Int} {i:Nat} {k:SKey} (hb:S.tables.find? (fun t=>t.id==n)=some b) (hk:b.keys[i]?=some k):bz S k.field=true:=by
 have h1:=List.all_eq_true.1 k6 b (List.mem_of_find?_eq_some hb)
 unfold nQ at h1
 simp only [Bool.and_eq_true] at h1
 exact List.all_eq_true.1 h1.1 k (List.mem_of_getElem? hk)
theorem CL {S:Sch} (hB:SB S) (hk:kB S=true) (hn:uN S=true) (hf:mw S=true) (hr:Rng S):FitK S:=by
 have hro:=tL hk hr
 unfold kB at hk
 simp only [Bool.and_eq_true] at hk
 obtain ⟨k1,k2,k3,k4,k5,k6,k7,k8,k9⟩:=hk
 unfold uN at hn
 simp only [Bool.and_eq_true] at hn
 obtain ⟨n1,n2,n3,n4⟩:=hn
 unfold mw at hf
 simp only [Bool.and_eq_true] at hf
 obtain ⟨f1,f2,f3,f4⟩:=hf
 refine ⟨k1,k2,fun t ht=>⟨(hB.hn t ht).2,fun f hf'=>?_⟩,fun t ht p hp=>?_,fun t ht p hp=>?_,fun t ht=>?_,fun t ht g hg=>?_,fun r hr'=>?_⟩
 ·have h1:=List.all_eq_true.1 k3 t ht
  have h2:=List.all_eq_true.1 h1 f hf'
  exact ⟨h2,G0 n3 h2⟩
 ·refine ⟨?_,hr.cv t ht p hp⟩
  have h1:=List.all_eq_true.1 k4 t ht
  have h2:=List.all_eq_true.1 f3 t ht
  unfold qV at h1
  unfold fsB at h2
  simp only [Bool.and_eq_true,Bool.or_eq_true] at h1 h2
  rcases h1.2.1 with h3|h3
  ·rcases h2 with h4|h4
   ·exfalso
    simp [bne] at h4 h3
    exact h4 h3
   ·simp only [decide_eq_true_eq] at h4
    have:=List.length_pos_of_mem hp
    omega
  ·exact h3
 ·have h1:=List.all_eq_true.1 k5 t ht
  have h2:=List.all_eq_true.1 h1 p hp
  have h3:=List.all_eq_true.1 (List.all_eq_true.1 f1 t ht) p hp
  exact ⟨(hr.pv t ht p hp).1,h2,h3,(hr.pv t ht p hp).2⟩
 ·have h1:=List.all_eq_true.1 k6 t ht
  unfold nQ at h1
  simp only [Bool.and_eq_true] at h1
  have hm:t.dflt∈t.actions:=by simpa using h1.2.2
  obtain ⟨a,ha,hma⟩:=M9 (List.all_eq_true.1 h1.2.1 _ hm)
  exact ⟨a,ha,(hB.an a hma).2.1,(hB.tn t ht).2.2.2.1,hr.dv t ht⟩
 ·have h1:=List.all_eq_true.1 k8 t ht
  unfold tc at h1
  simp only [Bool.and_eq_true] at h1
  exact List.all_eq_true.1 h1.1 g hg
 ·have hro:=hro r hr'
  obtain ⟨b,e1,e2,e3,e4⟩:=nO hro
  refine ⟨hro,Ca k6 e1 e3,fun h0=>?_⟩
  rw [if_pos h0] at e4
  obtain ⟨a,a1,a2,a3⟩:=e4
  exact Ca k6 a1 a3
end Go.AL
