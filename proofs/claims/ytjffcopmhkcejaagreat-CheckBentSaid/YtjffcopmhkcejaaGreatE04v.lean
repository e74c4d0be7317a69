/- Lemmas of the proof; no condition. -/
import Derived.Test.YtjffcopmhkcejaaGreatE04j
import Derived.Test.YtjffcopmhkcejaaGreatS12k
set_option linter.all false
set_option maxRecDepth 10000
set_option maxHeartbeats 32000000
open Go Go.AL Go.Proofs
namespace Go.AL
theorem Dg:ti Tryz.prog 200=some ⟨.struct [(0,34,false)],10,208,.agg [.slice .nil 1 [],.slice .nil 1 [],.slice .nil 1 [],.slice .nil 1 [],.slice .nil 1 [],.slice .nil 1 [],.slice .nil 1 [],.slice .nil 1 [],.int .i64 0,.int .i64 0]⟩:=krf
attribute [go_sem] Dg
def bp(S:Sch)(n:Int):Bool:=S.fields.any fun t=>t.id==n
def bo:PCt
 |[.agg l,.int .i64 n],_,K=>∃ S:Sch,(l=aR S∧SLen S)∧K (.bool (bp S n))
 |_,_,_=>False
def sZ:EPp 117 bo:=by
 refine Ype fun _ H K h=>?_
 unfold bo at h
 split at h<;>try exact h.elim
 rename_i l n
 obtain⟨S,⟨rfl,hS⟩,hK⟩:=h
 refine⟨_,hK,?_⟩
 clear hK
 have hR:decide (0≤ixP (fun t:SField=>t.id==n) S.fields 0)=bp S n:=eY
 generalize bp S n=R at *
 refine Yfu aD (tCq uz tNq) Tryz.func117 [.tmp 4] fun hcl=>?_
 simp only[go_sem,aR,pi]
 refine⟨S,⟨rfl,hS.fl⟩,?_⟩
 have hR':decide (ixP (fun t:SField=>t.id==n) S.fields 0 ≥ 0)=R:=hR
 exact Y94
def fu(S:Sch)(n:Int):Bool:=S.headers.any fun t=>t.id==n
def bB:PCt
 |[.agg l,.int .i64 n],_,K=>∃ S:Sch,(l=aR S∧SLen S)∧K (.bool (fu S n))
 |_,_,_=>False
def zr:EPp 128 bB:=by
 refine Ype fun _ H K h=>?_
 unfold bB at h
 split at h<;>try exact h.elim
 rename_i l n
 obtain⟨S,⟨rfl,hS⟩,hK⟩:=h
 refine⟨_,hK,?_⟩
 clear hK
 have hR:decide (0≤ixP (fun t:SHeader=>t.id==n) S.headers 0)=fu S n:=eY
 generalize fu S n=R at *
 refine Yfu aD (tCq y7 tNq) Tryz.func128 [.tmp 4] fun hcl=>?_
 simp only[go_sem,aR,qj]
 refine⟨S,⟨rfl,hS.hl⟩,?_⟩
 have hR':decide (ixP (fun t:SHeader=>t.id==n) S.headers 0 ≥ 0)=R:=hR
 exact Y94
def fZ(S:Sch)(n:Int):Bool:=S.tables.any fun t=>t.id==n
def iB:PCt
 |[.agg l,.int .i64 n],_,K=>∃ S:Sch,(l=aR S∧SLen S)∧K (.bool (fZ S n))
 |_,_,_=>False
def EV:EPp 127 iB:=by
 refine Ype fun _ H K h=>?_
 unfold iB at h
 split at h<;>try exact h.elim
 rename_i l n
 obtain⟨S,⟨rfl,hS⟩,hK⟩:=h
 refine⟨_,hK,?_⟩
 clear hK
 have hR:decide (0≤ixP (fun t:STable=>t.id==n) S.tables 0)=fZ S n:=eY
 generalize fZ S n=R at *
 refine Yfu aD (tCq jj tNq) Tryz.func127 [.tmp 4] fun hcl=>?_
 simp only[go_sem,aR,fG]
 refine⟨S,⟨rfl,hS.tl⟩,?_⟩
 have hR':decide (ixP (fun t:STable=>t.id==n) S.tables 0 ≥ 0)=R:=hR
 exact Y94
def fh(S:Sch)(n:Int):Bool:=S.actions.any fun t=>t.id==n
def Ig:PCt
 |[.agg l,.int .i64 n],_,K=>∃ S:Sch,(l=aR S∧SLen S)∧K (.bool (fh S n))
 |_,_,_=>False
def DL:EPp 132 Ig:=by
 refine Ype fun _ H K h=>?_
 unfold Ig at h
 split at h<;>try exact h.elim
 rename_i l n
 obtain⟨S,⟨rfl,hS⟩,hK⟩:=h
 refine⟨_,hK,?_⟩
 clear hK
 have hR:decide (0≤ixP (fun t:SAction=>t.id==n) S.actions 0)=fh S n:=eY
 generalize fh S n=R at *
 refine Yfu aD (tCq j8 tNq) Tryz.func132 [.tmp 4] fun hcl=>?_
 simp only[go_sem,aR,iG]
 refine⟨S,⟨rfl,hS.al⟩,?_⟩
 have hR':decide (ixP (fun t:SAction=>t.id==n) S.actions 0 ≥ 0)=R:=hR
 exact Y94
def j4(S:Sch)(n:Int):Bool:=n==0||(n==65535||S.states.any fun t=>t.id==n)
def ge:PCt
 |[.agg l,.int .i64 n],_,K=>∃ S:Sch,(l=aR S∧SLen S)∧K (.bool (j4 S n))
 |_,_,_=>False
def EJ:EPp 256 ge:=by
 refine Ype fun _ H K h=>?_
 unfold ge at h
 split at h<;>try exact h.elim
 rename_i l n
 obtain⟨S,⟨rfl,hS⟩,hK⟩:=h
 refine⟨_,hK,?_⟩
 clear hK
 unfold j4
 have hR':decide (ixP (fun t:SState=>t.id==n) S.states 0 ≥ 0)=S.states.any (fun t=>t.id==n):=eY
 generalize S.states.any (fun t=>t.id==n)=b at *
 refine Yfu aD (tCq Bc tNq) Tryz.func256 [.tmp 4] fun hcl=>?_
 cases c1:n==0 with
 |true=>
  simp only[Bool.true_or]
  simp only[go_sem,aR,nh,c1]
  exact Z1
 |_=>
  cases c2:n==65535 with
  |true=>
   simp only[Bool.true_or,Bool.or_true]
   simp only[go_sem,aR,nh,c1,c2]
   exact Z1
  |_=>
   simp only[Bool.false_or]
   simp only[go_sem,aR,nh,c1,c2]
   refine⟨S,⟨rfl,hS.sl⟩,?_⟩
   exact Y94
def DX:PCt
 |[x,.ptr c 0],H,K=>∃ (t:SCase) (S:Sch),(x=ba t∧H.get c=some (.cells (aR S))∧SLen S)∧K (.bool (j4 S t.next))
 |_,_,_=>False
def sT:EPp 257 DX:=by
 refine Ype fun _ H K h=>?_
 unfold DX at h
 split at h<;>try exact h.elim
 rename_i x c
 obtain⟨t,S,⟨rfl,hg,hS⟩,hK⟩:=h
 refine⟨_,hK,?_⟩
 clear hK
 have hl:=glq hg
 have hne:(c=H.nx)=False:=eFo
 have hcs:=aB hg
 generalize hR:j4 S t.next=R at *
 unfold ba vc
 unfold aR at hg hcs
 refine Yfu aD (tCq EJ tNq) Tryz.func257 [.tmp 3] fun hcl=>?_
 simp only[go_sem,hcs,hne,hg,ge]
 refine⟨S,⟨rfl,hS⟩,?_⟩
 exact Y51
def pR(S:Sch)(t:SState):Bool:=(t.header==0||fu S t.header)&&((t.select==0||bp S t.select)&&(j4 S t.dflt&&t.cases.all fun c=>j4 S c.next))
def KY:PCt
 |[.agg l,x],_,K=>∃ (S:Sch) (t:SState),(l=aR S∧x=aE t∧SLen S∧t.cases.length≤1000000)∧K (.bool (pR S t))
 |_,_,_=>False
def NB:EPp 120 KY:=by
 refine Ype fun _ H K h=>?_
 unfold KY at h
 split at h<;>try exact h.elim
 rename_i l x
 obtain⟨S,t,⟨rfl,rfl,hS,hcl0⟩,hK⟩:=h
 refine⟨_,hK,?_⟩
 clear hK
 generalize hR:pR S t=R
 unfold pR at hR
 unfold aE
 refine Yfu aD (tCq zr (tCq sZ (tCq EJ (tCq BR tNq)))) Tryz.func120 [.tmp 4] fun hcl=>?_
 unfold aR
 cases h0:t.header==0 with
 |true=>
  cases s0:t.select==0 with
  |true=>
   try simp only[aA,go_sem,bB,bo,ge,dn,h0,s0]
   refine⟨S,⟨rfl,hS⟩,?_⟩
   cases n1:j4 S t.dflt with
   |false=>
    simp only[h0,s0,n1,tfC]at hR
    subst hR
    try simp only[aA,go_sem,bB,bo,ge,dn,h0,s0,n1]
    exact Z1
   |true=>
    try simp only[aA,go_sem,bB,bo,ge,dn,h0,s0,n1]
    refine⟨t.cases,(fun c=>j4 S c.next),⟨rfl,hcl0,fun x hx H' hle' hcl'=>clB sT ⟨x,S,⟨rfl,hle'.get _ _ Xl,hS⟩,rfl⟩⟩,?_⟩
    cases k1:t.cases.all fun c=>j4 S c.next with
    |false=>
     exact Y121
    |true=>
     exact Y121
  |false=>
   try simp only[aA,go_sem,bB,bo,ge,dn,h0,s0]
   refine⟨S,⟨rfl,hS⟩,?_⟩
   cases s1:bp S t.select with
   |false=>
    simp only[h0,s0,s1,tfC]at hR
    subst hR
    try simp only[aA,go_sem,bB,bo,ge,dn,h0,s0,s1]
    exact Z1
   |true=>
    try simp only[aA,go_sem,bB,bo,ge,dn,h0,s0,s1]
    refine⟨S,⟨rfl,hS⟩,?_⟩
    cases n1:j4 S t.dflt with
    |false=>
     simp only[h0,s0,s1,n1,tfC]at hR
     subst hR
     try simp only[aA,go_sem,bB,bo,ge,dn,h0,s0,s1,n1]
     exact Z1
    |true=>
     try simp only[aA,go_sem,bB,bo,ge,dn,h0,s0,s1,n1]
     refine⟨t.cases,(fun c=>j4 S c.next),⟨rfl,hcl0,fun x hx H' hle' hcl'=>clB sT ⟨x,S,⟨rfl,hle'.get _ _ Xl,hS⟩,rfl⟩⟩,?_⟩
     cases k1:t.cases.all fun c=>j4 S c.next with
     |false=>
      exact Y114
     |true=>
      exact Y114
 |false=>
  try simp only[aA,go_sem,bB,bo,ge,dn,h0]
  refine⟨S,⟨rfl,hS⟩,?_⟩
  cases h1:fu S t.header with
  |false=>
   simp only[h0,h1,tfC]at hR
   subst hR
   try simp only[aA,go_sem,bB,bo,ge,dn,h0,h1]
   exact Z1
  |true=>
   cases s0:t.select==0 with
   |true=>
    try simp only[aA,go_sem,bB,bo,ge,dn,h0,h1,s0]
    refine⟨S,⟨rfl,hS⟩,?_⟩
    cases n1:j4 S t.dflt with
    |false=>
     simp only[h0,h1,s0,n1,tfC]at hR
     subst hR
     try simp only[aA,go_sem,bB,bo,ge,dn,h0,h1,s0,n1]
     exact Z1
    |true=>
     try simp only[aA,go_sem,bB,bo,ge,dn,h0,h1,s0,n1]
     refine⟨t.cases,(fun c=>j4 S c.next),⟨rfl,hcl0,fun x hx H' hle' hcl'=>clB sT ⟨x,S,⟨rfl,hle'.get _ _ Xl,hS⟩,rfl⟩⟩,?_⟩
     cases k1:t.cases.all fun c=>j4 S c.next with
     |false=>
      exact Y115
     |true=>
      exact Y115
   |false=>
    try simp only[aA,go_sem,bB,bo,ge,dn,h0,h1,s0]
    refine⟨S,⟨rfl,hS⟩,?_⟩
    cases s1:bp S t.select with
    |false=>
     simp only[h0,h1,s0,s1,tfC]at hR
     subst hR
     try simp only[aA,go_sem,bB,bo,ge,dn,h0,h1,s0,s1]
     exact Z1
    |true=>
     try simp only[aA,go_sem,bB,bo,ge,dn,h0,h1,s0,s1]
     refine⟨S,⟨rfl,hS⟩,?_⟩
     cases n1:j4 S t.dflt with
     |false=>
      simp only[h0,h1,s0,s1,n1,tfC]at hR
      subst hR
      try simp only[aA,go_sem,bB,bo,ge,dn,h0,h1,s0,s1,n1]
      exact Z1
     |true=>
      try simp only[aA,go_sem,bB,bo,ge,dn,h0,h1,s0,s1,n1]
      refine⟨t.cases,(fun c=>j4 S c.next),⟨rfl,hcl0,fun x hx H' hle' hcl'=>clB sT ⟨x,S,⟨rfl,hle'.get _ _ Xl,hS⟩,rfl⟩⟩,?_⟩
      cases k1:t.cases.all fun c=>j4 S c.next with
      |false=>
       exact Y108
      |true=>
       exact Y108
def oP(S:Sch)(np:Nat)(p:SPrim):Bool :=
 if p.op==1||(p.op==2||p.op==3)then bp S p.dst&&(if p.kind==2 then bp S p.n else if p.kind==3 then decide (p.n<(np:Int))else true)
 else if p.op==4||p.op==5 then fu S p.dst
 else if p.kind==2 then bp S p.n else if p.kind==3 then decide (p.n<(np:Int))else true
def Dr:PCt
 |[.agg l,x,y],_,K=>∃ (S:Sch) (a:SAction) (p:SPrim),(l=aR S∧x=ap a∧y=aU p∧SLen S)∧K (.bool (oP S a.params.length p))
 |_,_,_=>False
def OI:EPp 123 Dr:=by
 refine Ype fun _ H K h=>?_
 unfold Dr at h
 split at h<;>try exact h.elim
 rename_i l x y
 obtain⟨S,a,p,⟨rfl,rfl,rfl,hS⟩,hK⟩:=h
 refine⟨_,hK,?_⟩
 clear hK
 generalize hR:oP S a.params.length p=R
 unfold oP at hR
 unfold ap aU vc
 refine Yfu aD (tCq zr (tCq sZ tNq)) Tryz.func123 [.tmp 6] fun hcl=>?_
 unfold aR
 cases o1:p.op==1 with
 |false=>
  cases o2:p.op==2 with
  |false=>
   cases o3:p.op==3 with
   |false=>
    cases o4:p.op==4 with
    |false=>
     cases o5:p.op==5 with
     |false=>
      cases k2:p.kind==2 with
      |false=>
       cases k3:p.kind==3 with
       |false=>
        simp only[o1,o2,o3,o4,o5,k2,k3,tfC]at hR
        subst hR
        try simp only[aA,go_sem,bB,bo,ybb,o1,o2,o3,o4,o5,k2,k3]
        exact Z1
       |true=>
        cases x3:decide (p.n<(a.params.length:Int))with
        |false=>
         exact Y99
        |true=>
         exact Y99
      |true=>
       try simp only[aA,go_sem,bB,bo,ybb,o1,o2,o3,o4,o5,k2]
       refine⟨S,⟨rfl,hS⟩,?_⟩
       cases x2:bp S p.n with
       |false=>
        exact Y103
       |true=>
        exact Y103
     |true=>
      try simp only[aA,go_sem,bB,bo,ybb,o1,o2,o3,o4,o5]
      refine⟨S,⟨rfl,hS⟩,?_⟩
      cases d2:fu S p.dst with
      |false=>
       exact Y109
      |true=>
       exact Y109
    |true=>
     try simp only[aA,go_sem,bB,bo,ybb,o1,o2,o3,o4]
     refine⟨S,⟨rfl,hS⟩,?_⟩
     cases d2:fu S p.dst with
     |false=>
      exact Y116
     |true=>
      exact Y116
   |true=>
    try simp only[aA,go_sem,bB,bo,ybb,o1,o2,o3]
    refine⟨S,⟨rfl,hS⟩,?_⟩
    cases d1:bp S p.dst with
    |false=>
     simp only[o1,o2,o3,d1,tfC]at hR
     subst hR
     try simp only[aA,go_sem,bB,bo,ybb,o1,o2,o3,d1]
     exact Z1
    |true=>
     cases k2:p.kind==2 with
     |false=>
      cases k3:p.kind==3 with
      |false=>
       simp only[o1,o2,o3,d1,k2,k3,tfC]at hR
       subst hR
       try simp only[aA,go_sem,bB,bo,ybb,o1,o2,o3,d1,k2,k3]
       exact Z1
      |true=>
       cases x3:decide (p.n<(a.params.length:Int))with
       |false=>
        exact Y104
       |true=>
        exact Y104
     |true=>
      try simp only[aA,go_sem,bB,bo,ybb,o1,o2,o3,d1,k2]
      refine⟨S,⟨rfl,hS⟩,?_⟩
      cases x2:bp S p.n with
      |false=>
       exact Y110
      |true=>
       exact Y110
  |true=>
   try simp only[aA,go_sem,bB,bo,ybb,o1,o2]
   refine⟨S,⟨rfl,hS⟩,?_⟩
   cases d1:bp S p.dst with
   |false=>
    simp only[o1,o2,d1,tfC]at hR
    subst hR
    try simp only[aA,go_sem,bB,bo,ybb,o1,o2,d1]
    exact Z1
   |true=>
    cases k2:p.kind==2 with
    |false=>
     cases k3:p.kind==3 with
     |false=>
      simp only[o1,o2,d1,k2,k3,tfC]at hR
      subst hR
      try simp only[aA,go_sem,bB,bo,ybb,o1,o2,d1,k2,k3]
      exact Z1
     |true=>
      cases x3:decide (p.n<(a.params.length:Int))with
      |false=>
       exact Y111
      |true=>
       exact Y111
    |true=>
     try simp only[aA,go_sem,bB,bo,ybb,o1,o2,d1,k2]
     refine⟨S,⟨rfl,hS⟩,?_⟩
     cases x2:bp S p.n with
     |false=>
      exact Y117
     |true=>
      exact Y117
 |true=>
  try simp only[aA,go_sem,bB,bo,ybb,o1]
  refine⟨S,⟨rfl,hS⟩,?_⟩
  cases d1:bp S p.dst with
  |false=>
   simp only[o1,d1,tfC]at hR
   subst hR
   try simp only[aA,go_sem,bB,bo,ybb,o1,d1]
   exact Z1
  |true=>
   cases k2:p.kind==2 with
   |false=>
    cases k3:p.kind==3 with
    |false=>
     simp only[o1,d1,k2,k3,tfC]at hR
     subst hR
     try simp only[aA,go_sem,bB,bo,ybb,o1,d1,k2,k3]
     exact Z1
    |true=>
     cases x3:decide (p.n<(a.params.length:Int))with
     |false=>
      exact Y118
     |true=>
      exact Y118
   |true=>
    try simp only[aA,go_sem,bB,bo,ybb,o1,d1,k2]
    refine⟨S,⟨rfl,hS⟩,?_⟩
    cases x2:bp S p.n with
    |false=>
     exact Y125
    |true=>
     exact Y125
def EE:PCt
 |[x,.ptr c 0],H,K=>∃ (t:SKey) (S:Sch),(x=aZ t∧H.get c=some (.cells (aR S))∧SLen S)∧K (.bool (bp S t.field))
 |_,_,_=>False
def LK:EPp 258 EE:=by
 refine Ype fun _ H K h=>?_
 unfold EE at h
 split at h<;>try exact h.elim
 rename_i x c
 obtain⟨t,S,⟨rfl,hg,hS⟩,hK⟩:=h
 refine⟨_,hK,?_⟩
 clear hK
 have hl:=glq hg
 have hne:(c=H.nx)=False:=eFo
 have hcs:=aB hg
 generalize hR:bp S t.field=R at *
 unfold aZ
 unfold aR at hg hcs
 refine Yfu aD (tCq sZ tNq) Tryz.func258 [.tmp 3] fun hcl=>?_
 simp only[go_sem,hcs,hne,hg,bo]
 refine⟨S,⟨rfl,hS⟩,?_⟩
 exact Y51
def nd(S:Sch)(t:STable):Bool:=(t.keys.all fun k=>bp S k.field)&&((t.actions.all fun a=>fh S a)&&t.actions.contains t.dflt)
def JT:PCt
 |[.agg l,x],_,K=>∃ (S:Sch) (t:STable),(l=aR S∧x=au t∧SLen S∧t.keys.length≤1000000∧t.actions.length≤1000000)∧K (.bool (nd S t))
 |_,_,_=>False
def O8:EPp 124 JT:=by
 refine Ype fun _ H K h=>?_
 unfold JT at h
 split at h<;>try exact h.elim
 rename_i l x
 obtain⟨S,t,⟨rfl,rfl,hS,hkl,hal⟩,hK⟩:=h
 refine⟨_,hK,?_⟩
 clear hK
 generalize hR:nd S t=R
 unfold nd at hR
 unfold au
 refine Yfu aD (tCq A1 (tCq we (tCq sv tNq))) Tryz.func124 [.tmp 4] fun hcl=>?_
 unfold aR
 try simp only[aA,go_sem,ld,fp,iS,inL]
 refine⟨t.keys,(fun k=>bp S k.field),⟨rfl,hkl,fun x hx H' hle' hcl'=>clB LK ⟨x,S,⟨rfl,hle'.get _ _ Xl,hS⟩,rfl⟩⟩,?_⟩
 cases k1:t.keys.all (fun k=>bp S k.field)with
 |false=>
  simp only[k1,tfC]at hR
  subst hR
  try simp only[aA,go_sem,ld,fp,iS,inL,k1]
  exact Z1
 |true=>
  try simp only[aA,go_sem,ld,fp,iS,inL,k1]
  refine⟨t.actions,(fun a=>fh S a),⟨rfl,hal,fun x hx H' hle' hcl'=>clB DL ⟨S,⟨rfl,hS⟩,rfl⟩⟩,?_⟩
  cases k2:t.actions.all (fun a=>fh S a)with
  |false=>
   simp only[k1,k2,tfC]at hR
   subst hR
   try simp only[aA,go_sem,ld,fp,iS,inL,k1,k2]
   exact Z1
  |true=>
   try simp only[aA,go_sem,ld,fp,iS,inL,k1,k2]
   refine⟨t.actions,⟨rfl,hal⟩,?_⟩
   cases k3:t.actions.contains t.dflt with
   |false=>
    exact Y127
   |true=>
    exact Y127
def wo{α:Type}(q:α→Bool)(l:List α):(ixP q l 0 = -1∧l.find? q=none)∨∃ (i:Nat) (x:α),ixP q l 0=(i:Int)∧l[i]?=some x∧l.find? q=some x∧i<l.length:=by
 obtain⟨b1,b2⟩:=Dn (q:=q) (l:=l) (k:=0)
 rcases b2 with b2|b2
 ·exact .inl ⟨b2,Bi b2⟩
 ·obtain⟨i,hi⟩:∃ i:Nat,ixP q l 0=((0+i:Nat):Int):=⟨(ixP q l 0).toNat,Xa⟩
  obtain⟨x,h1,h2,h3⟩:=zx hi
  rw[nzq]at hi
  refine .inr ⟨i,x,hi,h1,h3,?_⟩
  rcases Nat.lt_or_ge i l.length with h|h
  ·exact h
  ·rw[gNq h]at h1;cases h1
def nD(S:Sch)(x:SRef):Bool :=
 match S.tables.find? (fun t=>t.id==x.table),S.tables.find? (fun t=>t.id==x.toTable)with
 |some a,some b=>decide (x.toKey<(b.keys.length:Int))&&(if x.action==0 then decide (x.key<(a.keys.length:Int))else a.actions.contains x.action&&(match S.actions.find? (fun t=>t.id==x.action)with|some c=>decide (x.param<(c.params.length:Int))|none=>false))
 |_,_=>false
def JA:PCt
 |[.agg l,x],_,K=>∃ (S:Sch) (t:SRef),(l=aR S∧x=bc t∧SB S∧∀ t∈S.tables,∀ a∈t.actions,fh S a=true)∧K (.bool (nD S t))
 |_,_,_=>False
def ok_fRef:EPp 133 JA:=by
 refine Ype fun _ H K h=>?_
 unfold JA at h
 split at h<;>try exact h.elim
 rename_i l x
 obtain⟨S,r,⟨rfl,rfl,hS,hA⟩,hK⟩:=h
 refine⟨_,hK,?_⟩
 clear hK
 generalize hR:nD S r=R
 unfold nD at hR
 unfold bc
 have htl:=hS.sl.tl
 have hsl:=hS.sl.al
 rcases wo (fun t:STable=>t.id==r.table) S.tables with⟨i1,f1⟩|⟨i,a,i1,g1,f1,l1⟩
 ·simp only[f1]at hR
  subst hR
  have d1:decide ((-1:Int)<0)=true:=rfl
  refine Yfw aD (tCq jj (tCq sv (tCq j8 tNq))) Tryz.func133 [.tmp 4] (nrq _) (T:=aC [(1,[[],[],[],[],[1,3],[],[],[],[],[1,3,4,6,8]]),(6,[[],[],[],[],[],[],[],[],[],[2,6,8],[],[],[9],[],[],[9],[],[9],[],[9],[2,6,8,9,17,19],[],[],[9,20]])]) (h:=fun hcl=>?_)
  unfold aR
  simp only[go_sem,fG,iS,iG,i1]
  refine⟨S,⟨rfl,htl⟩,?_⟩
  simp only[aA,go_sem,fG,i1]
  refine⟨S,⟨rfl,htl⟩,?_⟩
  simp only[aA,go_sem,i1,d1]
  exact Z1
 ·have d1:decide ((i:Int)<0)=false:=dfq Xa
  rcases wo (fun t:STable=>t.id==r.toTable) S.tables with⟨i2,f2⟩|⟨j,b,i2,g2,f2,l2⟩
  ·simp only[f1,f2]at hR
   subst hR
   have d2:decide ((-1:Int)<0)=true:=rfl
   refine Yfw aD (tCq jj (tCq sv (tCq j8 tNq))) Tryz.func133 [.tmp 4] (nrq _) (T:=aC [(1,[[],[],[],[],[1,3],[],[],[],[],[1,3,4,6,8]]),(6,[[],[],[],[],[],[],[],[],[],[2,6,8],[],[],[9],[],[],[9],[],[9],[],[9],[2,6,8,9,17,19],[],[],[9,20]])]) (h:=fun hcl=>?_)
   unfold aR
   simp only[go_sem,fG,iS,iG,i1]
   refine⟨S,⟨rfl,htl⟩,?_⟩
   simp only[aA,go_sem,fG,i1,i2]
   refine⟨S,⟨rfl,htl⟩,?_⟩
   simp only[aA,go_sem,i1,i2,d1,d2]
   exact Z1
  ·simp only[f1,f2]at hR
   have d2:decide ((j:Int)<0)=false:=dfq Xa
   have ga:=a9 (f:=au) (l:=S.tables) (k:=i) (x:=a) g1
   have gb:=a9 (f:=au) (l:=S.tables) (k:=j) (x:=b) g2
   have hca:au a=.agg [.int .i64 a.id,.str a.name,.slice .any 3 (a.keys.map aZ),.slice .any 1 (inL a.actions),.int .i64 a.dflt,.slice .any 2 (a.dargs.map vv),.int .i64 a.size,.str a.restr]:=rfl
   have hcb:au b=.agg [.int .i64 b.id,.str b.name,.slice .any 3 (b.keys.map aZ),.slice .any 1 (inL b.actions),.int .i64 b.dflt,.slice .any 2 (b.dargs.map vv),.int .i64 b.size,.str b.restr]:=rfl
   rw[hca]at ga
   rw[hcb]at gb
   have hma:a∈S.tables:=List.mem_of_getElem? g1
   obtain⟨c0,h0⟩:∃ c,decide (r.toKey<(b.keys.length:Int))=c:=⟨_,rfl⟩
   have d0:decide (r.toKey ≥ (b.keys.length:Int))=!c0:=by
    exact Y96
   rw[h0]at hR
   refine Yfw aD (tCq jj (tCq sv (tCq j8 tNq))) Tryz.func133 [.tmp 4] (nrq _) (T:=aC [(1,[[],[],[],[],[1,3],[],[],[],[],[1,3,4,6,8]]),(6,[[],[],[],[],[],[],[],[],[],[2,6,8],[],[],[9],[],[],[9],[],[9],[],[9],[2,6,8,9,17,19],[],[],[9,20]])]) (h:=fun hcl=>?_)
   unfold aR
   simp only[go_sem,fG,iS,iG,i1]
   refine⟨S,⟨rfl,htl⟩,?_⟩
   simp only[aA,go_sem,fG,i1,i2]
   refine⟨S,⟨rfl,htl⟩,?_⟩
   simp only[aA,go_sem,i1,i2,d1,d2,gb,d0,iNq,ybb]
   refine Tq8 ?_
   cases c0 with
   |false=>
    rw[Bool.false_and]at hR
    subst hR
    refine Tq32 ?_
    exact Y8
   |true=>
    rw[Bool.true_and]at hR
    cases ca:r.action==0 with
    |true=>
     rw[ca,if_pos rfl]at hR
     subst hR
     try simp only[go_sem,ca,ga,iNq,ybb]
     exact Y8
    |_=>
     rw[ca,if_neg Bool.false_ne_true]at hR
     try simp only[go_sem,ca,ga,iNq,ybb]
     refine Tq8 ?_
     have hal:=(hS.tn a hma).2.2.1
     refine⟨a.actions,⟨rfl,hal⟩,?_⟩
     cases cc:a.actions.contains r.action with
     |false=>
      rw[cc,Bool.false_and]at hR
      subst hR
      simp only[aA,go_sem,cc]
      exact Y8
     |true=>
      rw[cc,Bool.true_and]at hR
      have hmem:r.action∈a.actions:=by simpa using cc
      have hany:=hA a hma _ hmem
      rcases wo (fun t:SAction=>t.id==r.action) S.actions with⟨_,f3⟩|⟨m,c,i3,g3,f3,l3⟩
      ·exact Y97
      ·simp only[f3]at hR
       subst hR
       have gc:=a9 (f:=ap) (l:=S.actions) (k:=m) (x:=c) g3
       have hcc:ap c=.agg [.int .i64 c.id,.str c.name,.slice .any 2 (c.params.map aL),.slice .any 6 (c.body.map aU),.str c.restr]:=rfl
       rw[hcc]at gc
       simp only[aA,go_sem,cc,iG]
       refine⟨S,⟨rfl,hsl⟩,?_⟩
       simp only[aA,go_sem,i3,gc,iNq,ybb]
       exact Y8
def rR(S:Sch)(t:SHeader):Bool:=t.fields.all fun n=>bp S n
def wr(S:Sch)(t:SAction):Bool:=t.body.all fun p=>oP S t.params.length p
def th(S:Sch)(t:SStage):Bool:=fZ S t.table&&(t.header==0||fu S t.header)
def t9(S:Sch)(t:SRole):Bool:=(t.grants.all fun g=>fZ S g.table)&&t.actions.all fun a=>fh S a
def Rh:PCt
 |[x,.ptr c 0],H,K=>∃ (t:SHeader) (S:Sch),(x=az t∧H.get c=some (.cells (aR S))∧SLen S∧t.fields.length≤1000000)∧K (.bool (rR S t))
 |_,_,_=>False
def Ti:EPp 118 Rh:=by
 refine Ype fun _ H K h=>?_
 unfold Rh at h
 split at h<;>try exact h.elim
 rename_i x c
 obtain⟨t,S,⟨rfl,hg,hS,hfl⟩,hK⟩:=h
 refine⟨_,hK,?_⟩
 clear hK
 have hl:=glq hg
 have hne:(c=H.nx)=False:=eFo
 have hcs:=aB hg
 have hgS:=hg
 generalize hR:(rR S t)=R
 unfold rR at hR
 unfold az
 unfold aR at hg hcs
 refine Yfu aD (tCq we tNq) Tryz.func118 [.tmp 3] fun hcl=>?_
 refine Tq40 ?_
 refine⟨t.fields,(fun n=>bp S n),⟨rfl,hfl,fun x hx H' hle' hcl'=>clB sZ ⟨S,⟨rfl,hS⟩,rfl⟩⟩,?_⟩
 cases k1:t.fields.all (fun n=>bp S n)with
 |false=>
  exact Y35
 |true=>
  exact Y35
def Rn:PCt
 |[x,.ptr c 0],H,K=>∃ (t:SStage) (S:Sch),(x=aQ t∧H.get c=some (.cells (aR S))∧SLen S)∧K (.bool (th S t))
 |_,_,_=>False
def Sz:EPp 126 Rn:=by
 refine Ype fun _ H K h=>?_
 unfold Rn at h
 split at h<;>try exact h.elim
 rename_i x c
 obtain⟨t,S,⟨rfl,hg,hS⟩,hK⟩:=h
 refine⟨_,hK,?_⟩
 clear hK
 have hl:=glq hg
 have hne:(c=H.nx)=False:=eFo
 have hcs:=aB hg
 have hgS:=hg
 generalize hR:(th S t)=R
 unfold th at hR
 unfold aQ
 unfold aR at hg hcs
 refine Yfu aD (tCq EV (tCq zr tNq)) Tryz.func126 [.tmp 3] fun hcl=>?_
 refine Tq40 ?_
 refine⟨S,⟨rfl,hS⟩,?_⟩
 cases k1:fZ S t.table with
 |false=>
  exact Y35
 |true=>
  cases k2:t.header==0 with
  |true=>
   exact Y71
  |_=>
   try simp only[aA,go_sem,hcs,hne,hg,inL,fp,iB,bB,eb,dT,bo,k1,k2]
   refine⟨S,⟨rfl,hS⟩,?_⟩
   cases k3:fu S t.header with
   |false=>
    exact Y105
   |true=>
    exact Y105
def KF:PCt
 |[x,.ptr c 0],H,K=>∃ (t:SGrant) (S:Sch),(x=aK t∧H.get c=some (.cells (aR S))∧SLen S)∧K (.bool (fZ S t.table))
 |_,_,_=>False
def QT:EPp 131 KF:=by
 refine Ype fun _ H K h=>?_
 unfold KF at h
 split at h<;>try exact h.elim
 rename_i x c
 obtain⟨t,S,⟨rfl,hg,hS⟩,hK⟩:=h
 refine⟨_,hK,?_⟩
 clear hK
 have hl:=glq hg
 have hne:(c=H.nx)=False:=eFo
 have hcs:=aB hg
 have hgS:=hg
 generalize hR:(fZ S t.table)=R
 skip
 unfold aK
 unfold aR at hg hcs
 refine Yfu aD (tCq EV tNq) Tryz.func131 [.tmp 3] fun hcl=>?_
 refine Tq40 ?_
 refine⟨S,⟨rfl,hS⟩,?_⟩
 cases k1:fZ S t.table with
 |false=>
  exact Y35
 |true=>
  exact Y35
def Rk:PCt
 |[x,.ptr c 0],H,K=>∃ (t:SRole) (S:Sch),(x=aP t∧H.get c=some (.cells (aR S))∧SLen S∧t.grants.length≤1000000∧t.actions.length≤1000000)∧K (.bool (t9 S t))
 |_,_,_=>False
def SZ:EPp 129 Rk:=by
 refine Ype fun _ H K h=>?_
 unfold Rk at h
 split at h<;>try exact h.elim
 rename_i x c
 obtain⟨t,S,⟨rfl,hg,hS,hgl,hal⟩,hK⟩:=h
 refine⟨_,hK,?_⟩
 clear hK
 have hl:=glq hg
 have hne:(c=H.nx)=False:=eFo
 have hcs:=aB hg
 have hgS:=hg
 generalize hR:(t9 S t)=R
 unfold t9 at hR
 unfold aP
 unfold aR at hg hcs
 refine Yfu aD (tCq Al (tCq we tNq)) Tryz.func129 [.tmp 3] fun hcl=>?_
 refine Tq40 ?_
 refine⟨t.grants,(fun g=>fZ S g.table),⟨rfl,hgl,fun x hx H' hle' hcl'=>clB QT ⟨x,S,⟨rfl,hle'.get _ _ (by rw[zlf,if_neg (by omega)];exact hgS),hS⟩,rfl⟩⟩,?_⟩
 cases k1:t.grants.all (fun g=>fZ S g.table)with
 |false=>
  exact Y35
 |true=>
  try simp only[aA,go_sem,hcs,hne,hg,inL,fp,iB,bB,eb,dT,bo,k1]
  refine⟨t.actions,(fun a=>fh S a),⟨rfl,hal,fun x hx H' hle' hcl'=>clB DL ⟨S,⟨rfl,hS⟩,rfl⟩⟩,?_⟩
  cases k2:t.actions.all (fun a=>fh S a)with
  |false=>
   exact Y71
  |true=>
   exact Y71
def Lf:PCt
 |[x,.ptr c 0,.ptr d 0],H,K=>∃ (t:SPrim) (a:SAction) (S:Sch) (cs:Wz),(x=aU t∧H.get c=some (.cells (aR S))∧H.get d=some (.cells cs)∧ap a=.agg cs∧SLen S)∧K (.bool (oP S a.params.length t))
 |_,_,_=>False
def QJ:EPp 122 Lf:=by
 refine Ype fun _ H K h=>?_
 unfold Lf at h
 split at h<;>try exact h.elim
 rename_i x c d
 obtain⟨t,a,S,cs,⟨rfl,hg,hgd,hac,hS⟩,hK⟩:=h
 refine⟨_,hK,?_⟩
 clear hK
 unfold ap at hac
 cases hac
 have hl:=glq hg
 have hne:(c=H.nx)=False:=eFo
 have hcs:=aB hg
 have hl2:=glq hgd
 have hne2:(d=H.nx)=False:=eFo
 have hcs2:=aB hgd
 generalize hR:(oP S a.params.length t)=R
 unfold aU vc
 unfold aR at hg hcs
 refine Yfu aD (tCq OI tNq) Tryz.func122 [.tmp 4] fun hcl=>?_
 simp only[go_sem,hcs,hne,hg,hcs2,hne2,hgd,Dr]
 refine⟨S,a,t,⟨rfl,rfl,rfl,hS⟩,?_⟩
 exact Y51
def Ry:PCt
 |[x,.ptr c 0],H,K=>∃ (t:SAction) (S:Sch),(x=ap t∧H.get c=some (.cells (aR S))∧SLen S∧t.body.length≤1000000)∧K (.bool (wr S t))
 |_,_,_=>False
def RO:EPp 121 Ry:=by
 refine Ype fun _ H K h=>?_
 unfold Ry at h
 split at h<;>try exact h.elim
 rename_i x c
 obtain⟨t,S,⟨rfl,hg,hS,hbl⟩,hK⟩:=h
 refine⟨_,hK,?_⟩
 clear hK
 have hl:=glq hg
 have hne:(c=H.nx)=False:=eFo
 have hcs:=aB hg
 have hgS:=hg
 generalize hR:(wr S t)=R
 unfold wr at hR
 unfold ap
 unfold aR at hg hcs
 refine Yfu aD (tCq ws tNq) Tryz.func121 [.tmp 3] fun hcl=>?_
 refine Tq40 ?_
 refine⟨t.body,(fun p=>oP S t.params.length p),⟨rfl,hbl,fun x hx H' hle' hcl'=>clB QJ ⟨x,t,S,_,⟨rfl,hle'.get _ _ (by rw[zlf,if_neg (by omega)];exact hgS),hle'.get _ _ (AHeap.get_push_new _ _),rfl,hS⟩,rfl⟩⟩,?_⟩
 cases k1:t.body.all (fun p=>oP S t.params.length p)with
 |false=>
  exact Y35
 |true=>
  exact Y35
def kg(S:Sch):Bool:=bp S 1&&(bp S 2&&(S.headers.all (rR S)&&(S.states.all (pR S)&&(S.actions.all (wr S)&&(S.tables.all (nd S)&&(S.stages.all (th S)&&(S.roles.all (t9 S)&&S.refs.all (nD S))))))))
def oN:PCt
 |[.agg l],_,K=>∃ S:Sch,(l=aR S∧SB S)∧K (.bool (kg S))
 |_,_,_=>False
def GG:EPp 28 oN:=by
 refine Ype fun _ H K h=>?_
 unfold oN at h
 split at h<;>try exact h.elim
 rename_i l
 obtain⟨S,⟨rfl,hB⟩,hK⟩:=h
 refine⟨_,hK,?_⟩
 clear hK
 have hS:=hB.sl
 generalize hR:kg S=R
 unfold kg at hR
 refine Yfu aD (tCq sZ (tCq sq (tCq sC (tCq qI (tCq oI (tCq M0 (tCq qK (tCq sW tNq)))))))) Tryz.func28 [.tmp 2] fun hcl=>?_
 unfold aR
 try simp only[aA,go_sem,bo,bY,cx,bM,bW,gR,cL,cV]
 refine⟨S,⟨rfl,hS⟩,?_⟩
 cases k1:bp S 1 with
 |false=>
  simp only[k1,tfC]at hR
  subst hR
  try simp only[aA,go_sem,bo,bY,cx,bM,bW,gR,cL,cV,k1]
  exact Z1
 |true=>
  try simp only[aA,go_sem,bo,bY,cx,bM,bW,gR,cL,cV,k1]
  refine⟨S,⟨rfl,hS⟩,?_⟩
  cases k2:bp S 2 with
  |false=>
   simp only[k1,k2,tfC]at hR
   subst hR
   try simp only[aA,go_sem,bo,bY,cx,bM,bW,gR,cL,cV,k1,k2]
   exact Z1
  |true=>
   try simp only[aA,go_sem,bo,bY,cx,bM,bW,gR,cL,cV,k1,k2]
   refine⟨S.headers,rR S,⟨rfl,hS.hl,fun x hx H' hle' hcl'=>clB Ti ⟨x,S,⟨rfl,hle'.get _ _ Xl,hS,(hB.hn x hx).2⟩,rfl⟩⟩,?_⟩
   cases k3:S.headers.all (rR S)with
   |false=>
    simp only[k1,k2,k3,tfC]at hR
    subst hR
    try simp only[aA,go_sem,bo,bY,cx,bM,bW,gR,cL,cV,k1,k2,k3]
    exact Z1
   |true=>
    try simp only[aA,go_sem,bo,bY,cx,bM,bW,gR,cL,cV,k1,k2,k3]
    refine⟨S.states,pR S,⟨rfl,hS.sl,fun x hx H' hle' hcl'=>clB NB ⟨S,x,⟨rfl,rfl,hS,hB.sn x hx⟩,rfl⟩⟩,?_⟩
    cases k4:S.states.all (pR S)with
    |false=>
     simp only[k1,k2,k3,k4,tfC]at hR
     subst hR
     try simp only[aA,go_sem,bo,bY,cx,bM,bW,gR,cL,cV,k1,k2,k3,k4]
     exact Z1
    |true=>
     try simp only[aA,go_sem,bo,bY,cx,bM,bW,gR,cL,cV,k1,k2,k3,k4]
     refine⟨S.actions,wr S,⟨rfl,hS.al,fun x hx H' hle' hcl'=>clB RO ⟨x,S,⟨rfl,hle'.get _ _ Xl,hS,(hB.an x hx).2.2.1⟩,rfl⟩⟩,?_⟩
     cases k5:S.actions.all (wr S)with
     |false=>
      simp only[k1,k2,k3,k4,k5,tfC]at hR
      subst hR
      try simp only[aA,go_sem,bo,bY,cx,bM,bW,gR,cL,cV,k1,k2,k3,k4,k5]
      exact Z1
     |true=>
      try simp only[aA,go_sem,bo,bY,cx,bM,bW,gR,cL,cV,k1,k2,k3,k4,k5]
      refine⟨S.tables,nd S,⟨rfl,hS.tl,fun x hx H' hle' hcl'=>clB O8 ⟨S,x,⟨rfl,rfl,hS,(hB.tn x hx).2.1,(hB.tn x hx).2.2.1⟩,rfl⟩⟩,?_⟩
      cases k6:S.tables.all (nd S)with
      |false=>
       simp only[k1,k2,k3,k4,k5,k6,tfC]at hR
       subst hR
       try simp only[aA,go_sem,bo,bY,cx,bM,bW,gR,cL,cV,k1,k2,k3,k4,k5,k6]
       exact Z1
      |true=>
       try simp only[aA,go_sem,bo,bY,cx,bM,bW,gR,cL,cV,k1,k2,k3,k4,k5,k6]
       refine⟨S.stages,th S,⟨rfl,hB.gl,fun x hx H' hle' hcl'=>clB Sz ⟨x,S,⟨rfl,hle'.get _ _ Xl,hS⟩,rfl⟩⟩,?_⟩
       cases k7:S.stages.all (th S)with
       |false=>
        simp only[k1,k2,k3,k4,k5,k6,k7,tfC]at hR
        subst hR
        try simp only[aA,go_sem,bo,bY,cx,bM,bW,gR,cL,cV,k1,k2,k3,k4,k5,k6,k7]
        exact Z1
       |true=>
        try simp only[aA,go_sem,bo,bY,cx,bM,bW,gR,cL,cV,k1,k2,k3,k4,k5,k6,k7]
        refine⟨S.roles,t9 S,⟨rfl,hS.rl,fun x hx H' hle' hcl'=>clB SZ ⟨x,S,⟨rfl,hle'.get _ _ Xl,hS,(hB.rn x hx).2.1,(hB.rn x hx).2.2.1⟩,rfl⟩⟩,?_⟩
        cases k8:S.roles.all (t9 S)with
        |false=>
         simp only[k1,k2,k3,k4,k5,k6,k7,k8,tfC]at hR
         subst hR
         try simp only[aA,go_sem,bo,bY,cx,bM,bW,gR,cL,cV,k1,k2,k3,k4,k5,k6,k7,k8]
         exact Z1
        |true=>
         try simp only[aA,go_sem,bo,bY,cx,bM,bW,gR,cL,cV,k1,k2,k3,k4,k5,k6,k7,k8]
         refine⟨S.refs,nD S,⟨rfl,hB.xl,fun x hx H' hle' hcl'=>by
          obtain⟨v,hv,hc'⟩:=ok_fRef.1 rfl [.agg (aR S),bc x] H' (fun v=>v=.bool (nD S x)) ⟨S,x,⟨rfl,rfl,hB,fun t ht a ha=>by
           have h1:=List.all_eq_true.1 k6 t ht
           unfold nd at h1
           simp only[Bool.and_eq_true]at h1
           exact List.all_eq_true.1 h1.2.1 a ha⟩,rfl⟩
          subst hv
          exact hc'⟩,?_⟩
         cases k9:S.refs.all (nD S)with
         |false=>
          exact Y87
         |true=>
          exact Y87
def mg{α:Type}{q:α→Bool}{l:List α}{x:α}(h:l.find? q=some x):∃ i:Nat,ixP q l 0=(i:Int)∧l[i]?=some x∧i<l.length:=by
 rcases wo q l with⟨_,h2⟩|⟨i,y,h1,h2,h3,h4⟩
 ·rw[h2]at h;cases h
 ·rw[h3]at h;cases h;exact⟨i,h1,h2,h4⟩
def da:PCt
 |[.agg l,.int .i64 n],_,K=>∃ (S:Sch) (x:SField),(l=aR S∧SLen S∧S.fields.find? (fun t=>t.id==n)=some x)∧K (.int .i64 x.bits)
 |_,_,_=>False
def pX:EPp 136 da:=by
 refine Ype fun _ H K h=>?_
 unfold da at h
 split at h<;>try exact h.elim
 rename_i l n
 obtain⟨S,x,⟨rfl,hS,hx⟩,hK⟩:=h
 refine⟨_,hK,?_⟩
 clear hK
 obtain⟨i,i1,g1,l1⟩:=mg hx
 have ga:=a9 (f:=aJ) (l:=S.fields) (k:=i) (x:=x) g1
 have hca:aJ x=.agg [.int .i64 x.id,.str x.name,.int .i64 x.bits]:=rfl
 rw[hca]at ga
 refine Yfw aD (tCq uz tNq) Tryz.func136 [.tmp 4] (nrq _) (T:=aC [(1,[[],[],[],[],[2],[],[],[4]])]) (h:=fun hcl=>?_)
 unfold aR
 simp only[go_sem,pi]
 refine⟨S,⟨rfl,hS.fl⟩,?_⟩
 simp only[aA,go_sem,i1,ga,iNq,ybb]
 exact Y8
def yy{P:Program}{H1 H:AHeap}{fr:Fr}{x:AV}{t s:Nat}{ty uy:TypeId}:iF P [.cell t ty,.cell s uy] (.ret x) H1 fr H=match zjg P ty (Fr.get fr t) H with|some r=>r.c∧(match zjg P uy (Fr.get fr s) H with|some q=>q.c∧ag H (.tup [r.v,q.v]) H1 x|none=>False)|none=>False:=by
 simp only[iF,n8,rP]
 cases zjg P ty (Fr.get fr t) H with
 |none=>rfl
 |some r =>
  cases zjg P uy (Fr.get fr s) H with
  |none=>simp
  |some q=>simp[one,and_assoc]
def re:SKey:=⟨[],0,0⟩
def uU:PCt
 |[.agg l,x],_,K=>∃ (S:Sch) (r:SRef) (b:STable) (ka kb:SKey),(l=aR S∧x=bc r∧SLen S∧S.tables.find? (fun t=>t.id==r.toTable)=some b∧0≤r.toKey∧b.keys[r.toKey.toNat]?=some kb ∧
   (if r.action==0 then ∃ a,S.tables.find? (fun t=>t.id==r.table)=some a∧0≤r.key∧a.keys[r.key.toNat]?=some ka else ka=re))∧K (.tup [aZ ka,aZ kb])
 |_,_,_=>False
def BB:EPp 135 uU:=by
 refine Ype fun _ H K h=>?_
 unfold uU at h
 split at h<;>try exact h.elim
 rename_i l x
 obtain⟨S,r,b,ka,kb,⟨rfl,rfl,hS,hb,hp,hkb,hka⟩,hK⟩:=h
 refine⟨_,hK,?_⟩
 clear hK
 unfold bc
 obtain⟨j,j1,g2,l2⟩:=mg hb
 have gb:=a9 (f:=au) (l:=S.tables) (k:=j) (x:=b) g2
 have hcb:au b=.agg [.int .i64 b.id,.str b.name,.slice .any 3 (b.keys.map aZ),.slice .any 1 (inL b.actions),.int .i64 b.dflt,.slice .any 2 (b.dargs.map vv),.int .i64 b.size,.str b.restr]:=rfl
 rw[hcb]at gb
 have gkb:=a9 (f:=aZ) (l:=b.keys) (k:=r.toKey.toNat) (x:=kb) hkb
 have hkb':aZ kb=.agg [.str kb.name,.int .i64 kb.field,.int .i64 kb.kind]:=rfl
 rw[hkb']at gkb ⊢
 have hlb:r.toKey.toNat<b.keys.length:=by
  rcases Nat.lt_or_ge r.toKey.toNat b.keys.length with h|h
  ·exact h
  ·rw[gNq h]at hkb;cases hkb
 cases ca:r.action==0 with
 |false=>
  rw[ca,if_neg Bool.false_ne_true]at hka
  subst hka
  unfold re aZ
  refine Yfw aD (tCq jj tNq) Tryz.func135 [.cell 4 104,.cell 5 104] (nrq _) (T:=aC [(2,[[],[],[],[],[],[2,4],[],[],[5],[],[],[],[5],[1,2,4,5,8,10,12]]),(3,[[],[],[],[],[],[],[3,5],[],[],[6],[],[],[],[6],[0,3,5,6],[0,2,3,5,6,9,11,13]])]) (h:=fun hcl=>?_)
  unfold aR
  simp only[go_sem,ca,fG]
  exact Y93
 |true=>
  rw[ca,if_pos rfl]at hka
  obtain⟨a,ha,hp2,hka⟩:=hka
  obtain⟨i,i1,g1,l1⟩:=mg ha
  have ga:=a9 (f:=au) (l:=S.tables) (k:=i) (x:=a) g1
  have hca:au a=.agg [.int .i64 a.id,.str a.name,.slice .any 3 (a.keys.map aZ),.slice .any 1 (inL a.actions),.int .i64 a.dflt,.slice .any 2 (a.dargs.map vv),.int .i64 a.size,.str a.restr]:=rfl
  rw[hca]at ga
  have gka:=a9 (f:=aZ) (l:=a.keys) (k:=r.key.toNat) (x:=ka) hka
  have hka':aZ ka=.agg [.str ka.name,.int .i64 ka.field,.int .i64 ka.kind]:=rfl
  rw[hka']at gka ⊢
  have hla:r.key.toNat<a.keys.length:=by
   rcases Nat.lt_or_ge r.key.toNat a.keys.length with h|h
   ·exact h
   ·rw[gNq h]at hka;cases hka
  refine Yfw aD (tCq jj tNq) Tryz.func135 [.cell 4 104,.cell 5 104] (nrq _) (T:=aC [(2,[[],[],[],[],[],[2,4],[],[],[5],[],[],[],[5],[1,2,4,5,8,10,12]]),(3,[[],[],[],[],[],[],[3,5],[],[],[6],[],[],[],[6],[0,3,5,6],[0,2,3,5,6,9,11,13]])]) (h:=fun hcl=>?_)
  unfold aR
  simp only[go_sem,ca,fG]
  refine⟨S,⟨rfl,hS.tl⟩,?_⟩
  simp only[aA,go_sem,i1,ga,gka,iNq,ybb,fG]
  refine⟨⟨Xa,Xa⟩,⟨Xa,Xa⟩,?_⟩
  try simp only[aA,go_sem,fG]
  exact Y93
def m9(S:Sch)(r:SRef):SKey:=((S.tables.find? fun t=>t.id==r.toTable).bind fun b=>b.keys[r.toKey.toNat]?).getD re
def oO(S:Sch)(r:SRef):SKey:=if r.action==0 then((S.tables.find? fun t=>t.id==r.table).bind fun b=>b.keys[r.key.toNat]?).getD re else re
def qp(S:Sch)(r:SRef):Prop:=nD S r=true∧0≤r.key∧0≤r.toKey∧0≤r.param
def pF{S:Sch}{r:SRef}(h:qp S r):∃ b,S.tables.find? (fun t=>t.id==r.toTable)=some b∧0≤r.toKey∧b.keys[r.toKey.toNat]?=some (m9 S r) ∧
 (if r.action==0 then ∃ a,S.tables.find? (fun t=>t.id==r.table)=some a∧0≤r.key∧a.keys[r.key.toNat]?=some (oO S r)else oO S r=re):=by
 obtain⟨h,h1,h2,_⟩:=h
 unfold nD at h
 cases fa:S.tables.find? (fun t=>t.id==r.table)with
 |none=>rw[fa]at h;cases h
 |some a =>
  cases fb:S.tables.find? (fun t=>t.id==r.toTable)with
  |none=>rw[fa,fb]at h;cases h
  |some b =>
   rw[fa,fb]at h
   simp only[Bool.and_eq_true,decide_eq_true_eq]at h
   obtain⟨h3,h4⟩:=h
   have e1:b.keys[r.toKey.toNat]?=some (m9 S r):=by
    unfold m9
    rw[fb]
    have hl:r.toKey.toNat<b.keys.length:=Xa
    simp only[Option.bind_some]
    rw[gQq hl];rfl
   refine⟨b,rfl,h2,e1,?_⟩
   cases ca:r.action==0 with
   |false=>
    rw[if_neg Bool.false_ne_true]
    unfold oO
    rw[ca,if_neg Bool.false_ne_true]
   |true=>
    rw[ca,if_pos rfl]at h4
    rw[if_pos rfl]
    refine⟨a,rfl,h1,?_⟩
    unfold oO
    rw[ca,if_pos rfl,fa]
    have hl:r.key.toNat<a.keys.length:=by simp only[decide_eq_true_eq]at h4;omega
    simp only[Option.bind_some]
    rw[gQq hl];rfl
def exB(S:Sch)(r:SRef):Bool:=(m9 S r).kind==1&&(r.action !=0||(oO S r).kind==1)
def Rw:PCt
 |[x,.ptr c 0],H,K=>∃ (r:SRef) (S:Sch),(x=bc r∧H.get c=some (.cells (aR S))∧SLen S∧qp S r)∧K (.bool (exB S r))
 |_,_,_=>False
def R8:EPp 134 Rw:=by
 refine Ype fun _ H K h=>?_
 unfold Rw at h
 split at h<;>try exact h.elim
 rename_i x c
 obtain⟨r,S,⟨rfl,hg,hS,hr⟩,hK⟩:=h
 refine⟨_,hK,?_⟩
 clear hK
 have hl:=glq hg
 have hne:(c=H.nx)=False:=eFo
 have hcs:=aB hg
 generalize hR:exB S r=R
 unfold exB at hR
 obtain⟨b,e1,e2,e3,e4⟩:=pF hr
 unfold bc
 unfold aR at hg hcs
 refine Yfu aD (tCq BB tNq) Tryz.func134 [.tmp 3] fun hcl=>?_
 simp only[go_sem,hcs,hne,hg,uU]
 refine⟨S,r,b,oO S r,m9 S r,⟨rfl,rfl,hS,e1,e2,e3,e4⟩,?_⟩
 generalize m9 S r=kb at *
 generalize oO S r=ka at *
 unfold aZ
 cases c1:kb.kind==1 with
 |false=>
  simp only[c1,tfC]at hR
  subst hR
  try simp only[go_sem,aA,hne,hg,hcs,c1]
  exact Y8
 |true=>
  cases c2:r.action !=0 with
  |false=>
   cases c3:ka.kind==1 with
   |false=>
    simp only[c1,c2,c3,tfC]at hR
    subst hR
    try simp only[go_sem,aA,hne,hg,hcs,c1,c2,c3]
    exact Y8
   |true=>
    simp only[c1,c2,c3,tfC]at hR
    subst hR
    try simp only[go_sem,aA,hne,hg,hcs,c1,c2,c3]
    exact Y8
  |true=>
   simp only[c1,c2,tfC]at hR
   subst hR
   try simp only[go_sem,aA,hne,hg,hcs,c1,c2]
   exact Y8
def qh:PCt
 |[.agg l],_,K=>∃ S:Sch,(l=aR S∧SB S∧∀ r∈S.refs,qp S r)∧K (.bool (S.refs.all (exB S)))
 |_,_,_=>False
def GO:EPp 29 qh:=by
 refine Ype fun _ H K h=>?_
 unfold qh at h
 split at h<;>try exact h.elim
 rename_i l
 obtain⟨S,⟨rfl,hB,hr⟩,hK⟩:=h
 refine⟨_,hK,?_⟩
 clear hK
 have hS:=hB.sl
 generalize hR:S.refs.all (exB S)=R
 refine Yfu aD (tCq sW tNq) Tryz.func29 [.tmp 2] fun hcl=>?_
 unfold aR
 try simp only[aA,go_sem,cV]
 refine⟨S.refs,exB S,⟨rfl,hB.xl,fun x hx H' hle' hcl'=>clB R8 ⟨x,S,⟨rfl,hle'.get _ _ Xl,hS,hr x hx⟩,rfl⟩⟩,?_⟩
 cases k1:S.refs.all (exB S)with
 |false=>
  exact Y140
 |true=>
  exact Y140
def btF(S:Sch)(n:Int):Int:=((S.fields.find? fun t=>t.id==n).getD ⟨0,[],0⟩).bits
def lj{S:Sch}{n:Int}(h:bp S n=true):∃ x,S.fields.find? (fun t=>t.id==n)=some x∧x.bits=btF S n:=by
 unfold bp at h
 rw[List.any_eq_true]at h
 obtain⟨y,hy,h2⟩:=h
 cases hf:S.fields.find? (fun t=>t.id==n)with
 |none=>exact absurd h2 (by have:=List.find?_eq_none.1 hf y hy;simpa using this)
 |some x=>exact⟨x,rfl,by unfold btF;rw[hf];rfl⟩
def ftV(v:Nat)(n:Int):Bool:=decide (((bl v:Nat):Int)≤n)
def mI(S:Sch)(a:SAction)(p:SPrim):Bool :=
 if lH p.op then
  if p.kind==1 then ftV p.value (if p.op==7 then 16 else btF S p.dst)
  else if p.kind==2 then decide (btF S p.n≤(if p.op==7 then 16 else btF S p.dst))
  else decide ((a.params.getD p.n.toNat ⟨[],0⟩).bits≤(if p.op==7 then 16 else btF S p.dst))
 else true
def Mg:PCt
 |[.agg l,x,y],_,K=>∃ (S:Sch) (a:SAction) (p:SPrim),(l=aR S∧x=ap a∧y=aU p∧SLen S∧p.value<2^128∧oP S a.params.length p=true∧fpB p=true∧0≤p.n)∧K (.bool (mI S a p))
 |_,_,_=>False
def Sy:EPp 145 Mg:=by
 refine Ype fun _ H K h=>?_
 unfold Mg at h
 split at h<;>try exact h.elim
 rename_i l x y
 obtain⟨S,a,p,⟨rfl,rfl,rfl,hS,hv,hk,hf,hn⟩,hK⟩:=h
 refine⟨_,hK,?_⟩
 clear hK
 have iv:=qm hv
 have vb:=kx p.value
 generalize hR:mI S a p=R
 unfold mI at hR
 -- what is ig of the primitive
 have hd:lH p.op=true→(p.op==7)=false→bp S p.dst=true:=fun h1 h2=>by
  unfold lH at h1
  rw[h2,Bool.or_false]at h1
  unfold oP at hk
  rw[if_pos h1]at hk
  exact(Bool.and_eq_true _ _▸hk).1
 have hsrc:lH p.op=true→(p.kind==2)=true→bp S p.n=true:=fun h1 h2=>by
  unfold oP at hk
  rw[h2]at hk
  simp only[if_true]at hk
  split at hk
  ·exact(Bool.and_eq_true _ _▸hk).2
  ·split at hk
   ·exfalso
    unfold lH at h1
    simp_all
   ·exact hk
 have hpar:lH p.op=true→(p.kind==1)=false→(p.kind==2)=false→p.n.toNat<a.params.length:=fun h1 h2 h3=>by
  have h4:(p.kind==3)=true:=by
   unfold fpB at hf
   rw[h1,h2,h3]at hf
   simp only[if_true,Bool.false_eq_true,if_false,Bool.false_or,Bool.and_eq_true]at hf
   exact hf.2.2.1
  unfold oP at hk
  rw[h3,h4]at hk
  simp only[if_true,Bool.false_eq_true,if_false]at hk
  split at hk
  ·have:=(Bool.and_eq_true _ _▸hk).2
   simp only[decide_eq_true_eq]at this
   omega
  ·split at hk
   ·exfalso
    unfold lH at h1
    simp_all
   ·simp only[decide_eq_true_eq]at hk
    omega
 unfold ap aU vc
 refine Yfu aD (tCq D8 (tCq pX (tCq vU tNq))) Tryz.func145 [.tmp 6] fun hcl=>?_
 unfold aR
 cases co:lH p.op with
 |false=>
  simp only[co,tfC]at hR
  subst hR
  try simp only[aA,go_sem,fx,da,gQ,iv,vb,iNq,co]
  exact Y8
 |true=>
  cases c7:p.op==7 with
  |true=>
   have c7':(p.op !=7)=false:=by simp only[bne,c7,Bool.not_true]
   try simp only[go_sem,fx,co,c7']
   cases k1:p.kind==1 with
   |true=>
    simp only[co,c7,k1,tfC]at hR
    unfold ftV at hR
    subst hR
    try simp only[aA,go_sem,fx,da,gQ,iv,vb,iNq,co,c7,k1,c7']
    exact Y8
   |_=>
    cases k2:p.kind==2 with
    |true=>
     obtain⟨y,hy,hyb⟩:=lj (hsrc co k2)
     try simp only[aA,go_sem,fx,da,gQ,co,c7,k1,k2,c7']
     refine⟨S,y,⟨rfl,hS,hy⟩,?_⟩
     simp only[co,c7,k1,k2,tfC]at hR
     subst hR
     try simp only[aA,go_sem,fx,da,gQ,iv,vb,iNq,co,c7,k1,k2,hyb,c7']
     exact Y8
    |_=>
     have hpl:=hpar co k1 k2
     have gp:=a9 (f:=aL) (l:=a.params) (k:=p.n.toNat) (x:=a.params[p.n.toNat]) (gQq hpl)
     have gq:a.params.getD p.n.toNat ⟨[],0⟩=a.params[p.n.toNat]:=by simp[gEq,hpl]
     rw[gq]at hR
     generalize a.params[p.n.toNat]=z at *
     have hz:aL z=.agg [.str z.name,.int .i64 z.bits]:=rfl
     rw[hz]at gp
     try simp only[aA,go_sem,fx,da,gQ,co,c7,k1,k2,gp,ybb,c7']
     refine⟨⟨Xa,Xa⟩,?_⟩
     simp only[co,c7,k1,k2,tfC]at hR
     subst hR
     try simp only[aA,go_sem,fx,da,gQ,iv,vb,iNq,co,c7,k1,k2,c7']
     exact Y8
  |false=>
   have c7':(p.op !=7)=true:=by simp only[bne,c7,Bool.not_false]
   obtain⟨x,hx,hxb⟩:=lj (hd co c7)
   try simp only[go_sem,fx,da,co,c7']
   refine⟨S,x,⟨rfl,hS,hx⟩,?_⟩
   try simp only[aA,go_sem,fx,da,co,c7']
   simp only[hxb]
   cases k1:p.kind==1 with
   |true=>
    simp only[co,c7,k1,tfC]at hR
    unfold ftV at hR
    subst hR
    try simp only[aA,go_sem,fx,da,gQ,iv,vb,iNq,co,c7,k1,c7',hxb]
    exact Y8
   |_=>
    cases k2:p.kind==2 with
    |true=>
     obtain⟨y,hy,hyb⟩:=lj (hsrc co k2)
     try simp only[aA,go_sem,fx,da,gQ,co,c7,k1,k2,c7',hxb]
     refine⟨S,y,⟨rfl,hS,hy⟩,?_⟩
     simp only[co,c7,k1,k2,tfC]at hR
     subst hR
     try simp only[aA,go_sem,fx,da,gQ,iv,vb,iNq,co,c7,k1,k2,hyb,c7',hxb]
     exact Y8
    |_=>
     have hpl:=hpar co k1 k2
     have gp:=a9 (f:=aL) (l:=a.params) (k:=p.n.toNat) (x:=a.params[p.n.toNat]) (gQq hpl)
     have gq:a.params.getD p.n.toNat ⟨[],0⟩=a.params[p.n.toNat]:=by simp[gEq,hpl]
     rw[gq]at hR
     generalize a.params[p.n.toNat]=z at *
     have hz:aL z=.agg [.str z.name,.int .i64 z.bits]:=rfl
     rw[hz]at gp
     try simp only[aA,go_sem,fx,da,gQ,co,c7,k1,k2,gp,ybb,c7',hxb]
     refine⟨⟨Xa,Xa⟩,?_⟩
     simp only[co,c7,k1,k2,tfC]at hR
     subst hR
     try simp only[aA,go_sem,fx,da,gQ,iv,vb,iNq,co,c7,k1,k2,c7',hxb]
     exact Y8
def Cr:PCt
 |[x,.slice _ 2 y],_,K=>∃ (a:SAction) (vs:List Nat),(x=ap a∧y=vs.map vv∧a.params.length≤1000000∧vs.length≤1000000∧∀ v∈vs,v<2^128)∧K (.bool (xE a.params vs))
 |_,_,_=>False
def QR:EPp 147 Cr:=by
 refine Ype fun _ H K h=>?_
 unfold Cr at h
 split at h<;>try exact h.elim
 rename_i x m y
 obtain⟨a,vs,⟨rfl,rfl,hpl,hvl,hvs⟩,hK⟩:=h
 refine⟨_,hK,?_⟩
 clear hK
 unfold ap
 generalize hR:xE a.params vs=R
 unfold xE at hR
 refine ACalls.fW aD (tCq vU tNq) Tryz.func147 [.tmp 4] (nrq _) (T:=aC [(6,[[],[],[],[],[],[],[],[0,2,6]])]) (h:=fun hcl hlt=>?_)
 have hm:∀ n',H.nx≤n'→AV.lt n' (.slice m 2 (vs.map vv)):=fun n' hn=>AV.lt_mono hn _ (hlt (.slice m 2 (vs.map vv)) Xc)
 have hx:=AV.lt_mono (Nat.le_succ H.nx) _ (hlt _ List.mem_cons_self)
 simp only[znp]at hx
 have hcb:=ah hcl hx
 clear hlt hx
 have dn1:(!true)=false:=rfl
 have dn2:(!false)=true:=rfl
 by_cases hlen:vs.length=a.params.length
 rotate_left
 ·exact Y78
 rw[dtq hlen,Bool.true_and]at hR
 have dl:((vs.length:Int) !=(a.params.length:Int))=false:=by simp[hlen]
 simp only[aX,aA,bhq,go_sem,ybb,dl]
 refine aG (A:=Nat) (fun k=>[(2,.ptr H.nx 0),(13,.slice m 2 (vs.map vv)),(14,.int .i64 (vs.length:Int)),(15,.int .i64 (k:Int))]) (fun _=>(H.push (.cells [.int .i64 a.id,.str a.name,.slice .any 2 (a.params.map aL),.slice .any 6 (a.body.map aU),.str a.restr])))
  (fun k=>k≤a.params.length∧Aw (a.params.drop k) (vs.drop k)=R) (fun k=>a.params.length-k) 0 ⟨Nat.zero_le _,hR⟩ ?_ fun k hk=>?_
 ·refine eNt hcb ?_ ?_
  ·exact Y132
  ·exact Y14
 clear hR
 obtain⟨hk,hR⟩:=hk
 refine Tq23 ?_
 refine ax (fun hc=>?_) (fun hc=>?_)
 ·have hk':k<a.params.length:=sHc
  have hkv:k<vs.length:=Xa
  obtain⟨x,hx⟩:∃ x,x=vs[k]:=⟨_,rfl⟩
  obtain⟨p,hp⟩:∃ p,p=a.params[k]:=⟨_,rfl⟩
  have hd:vs.drop k=x::vs.drop (k+1):=by rw[hx];exact dcq hkv
  have hdp:a.params.drop k=p::a.params.drop (k+1):=by rw[hp];exact dcq hk'
  have hgx:=a9 (f:=vv) (l:=vs) (k:=k) (x:=x) (by rw[gQq hkv,hx])
  have hgp:=a9 (f:=aL) (l:=a.params) (k:=k) (x:=p) (by rw[gQq hk',hp])
  have hxl:=hvs x (by rw[hx];exact gMq hkv)
  have iv:=qm hxl
  have e5:=Yk5 k
  rw[hd,hdp]at hR
  unfold Aw at hR
  simp only[aX,aA,bhq,go_sem,iNq,hgx,hgp,vv,aL,ybb,gQ,kx,iv]
  refine Tq7 ?_
  cases hq:decide (((bl x:Nat):Int)≤p.bits)with
  |false=>
   rw[hq,Bool.false_and]at hR
   subst hR
   simp only[aX,aA,bhq,go_sem,dn1,dn2]
   exact Y8
  |true=>
   rw[hq,Bool.true_and]at hR
   simp only[aX,aA,bhq,go_sem,dn1,dn2,e5]
   refine Tq8 ?_
   refine⟨k+1,⟨Xa,hR⟩,Xa,?_⟩
   refine eNt hcb ?_ ?_
   ·exact Y132
   ·exact Y14
 ·exact Y65
def mH{x y:Nat}:((((x/2^64:Nat):Int)==((y/2^64:Nat):Int))&&(((((x%2^64:Nat):Int)==((y%2^64:Nat):Int)))&&true))=decide (x=y):=by
 rw[Bool.eq_iff_iff]
 simp
 omega
def mV(S:Sch)(f:Int)(c:SCase):Bool:=ftV c.value (btF S f)&&(ftV c.mask (btF S f)&&decide (c.value&&&c.mask=c.value))
def C6:PCt
 |[.agg l,.int .i64 f,x],_,K=>∃ (S:Sch) (c:SCase),(l=aR S∧x=ba c∧SLen S∧bp S f=true∧c.value<2^128∧c.mask<2^128)∧K (.bool (mV S f c))
 |_,_,_=>False
def PV:EPp 142 C6:=by
 refine Ype fun _ H K h=>?_
 unfold C6 at h
 split at h<;>try exact h.elim
 rename_i l f x
 obtain⟨S,c,⟨rfl,rfl,hS,hf,h1,h2⟩,hK⟩:=h
 refine⟨_,hK,?_⟩
 clear hK
 have iv:=qm h1
 have iw:=qm h2
 have vb:=kx c.value
 have wb:=kx c.mask
 generalize hR:mV S f c=R
 unfold mV ftV at hR
 obtain⟨y,hy,hyb⟩:=lj hf
 unfold ba vc
 refine Yfw aD (tCq pX (tCq vU (tCq OP tNq))) Tryz.func142 [.tmp 6] (nrq _) (T:=aC [(2,[[],[],[],[1],[],[],[3],[],[1,3,6],[],[],[],[3,8],[],[3,8],[1,3,6,8,12,14],[],[3,8]])]) (h:=fun hcl=>?_)
 unfold aR
 simp only[go_sem,da]
 refine⟨S,y,⟨rfl,hS,hy⟩,?_⟩
 simp only[aA,go_sem,da,gQ,qo,p2V,iv,iw,vb,wb,iNq,hyb,vv,jx,jB,mH]
 refine Tq8 ?_
 cases c1:decide (((bl c.value:Nat):Int)≤btF S f)with
 |false=>
  simp only[c1,tfC]at hR
  subst hR
  try simp only[aA,go_sem,da,gQ,qo,p2V,iv,iw,vb,wb,iNq,hyb,vv,jx,jB,mH,c1]
  exact Y8
 |true=>
  try simp only[aA,go_sem,da,gQ,qo,p2V,iv,iw,vb,wb,iNq,hyb,vv,jx,jB,mH,c1]
  refine Tq8 ?_
  cases c2:decide (((bl c.mask:Nat):Int)≤btF S f)with
  |false=>
   simp only[c1,c2,tfC]at hR
   subst hR
   refine Tq53 ?_
   exact Y8
  |true=>
   refine Tq53 ?_
   refine Tq8 ?_
   simp only[c1,c2,Bool.true_and]at hR
   subst hR
   refine Tq53 ?_
   refine Tq8 ?_
   simp (disch:=first|exact Zd|omega) [↓zmm,beq,ybc,ybd,ybe,ag,wk,wk2,wk1,wkM,wkL,ay,ybf,hcl]
   generalize c.value&&&c.mask=z
   rw[Bool.eq_iff_iff]
   simp
   omega
def smB(S:Sch):List Int→Int→Int
 |[],n=>n
 |f::l,n=>smB S l (n+btF S f)
def rz(S:Sch)(t:SHeader):Bool:=decide (smB S t.fields 0%8=0)&&(decide (smB S t.fields 0≤512)&&(!t.fields.contains 1&&!t.fields.contains 2))
def lD:PCt
 |[.agg l,x],_,K=>∃ (S:Sch) (t:SHeader),(l=aR S∧x=az t∧SLen S∧t.fields.length≤1000000∧∀ f∈t.fields,bp S f=true∧0≤btF S f∧btF S f≤1000000)∧K (.bool (rz S t))
 |_,_,_=>False
def OT:EPp 138 lD:=by
 refine Ype fun _ H K h=>?_
 unfold lD at h
 split at h<;>try exact h.elim
 rename_i l x
 obtain⟨S,t,⟨rfl,rfl,hS,hfl,hf⟩,hK⟩:=h
 refine⟨_,hK,?_⟩
 clear hK
 generalize hR:rz S t=R
 unfold rz at hR
 obtain⟨N,hN⟩:∃ N,smB S t.fields 0=N:=⟨_,rfl⟩
 rw[hN]at hR
 unfold az
 refine Yfv aD (tCq pX (tCq sv tNq)) Tryz.func138 [.tmp 4] fun hcl hlt=>?_
 have hx:=AV.lt_mono (Nat.le_succ H.nx) _ (hlt _ List.mem_cons_self)
 have hx2:=AV.lt_mono (show H.nx≤H.nx+1+1 by omega) _ (hlt _ (List.mem_cons_of_mem _ List.mem_cons_self))
 clear hlt
 simp only[znp]at hx hx2
 have hcp:=ah (ah hcl hx) hx2
 obtain⟨Hb,hHb⟩:∃ Hb,(H.push (.cells (aR S))).push (.cells [.int .i64 t.id,.str t.name,.slice .any 1 (inL t.fields)])=Hb:=⟨_,rfl⟩
 have hg0:Hb.get H.nx=some (.cells (aR S)):=by rw[← hHb,zlf,if_neg (by rw[zlc];omega)];exact AHeap.get_push_new _ _
 have hg1:Hb.get (H.nx+1)=some (.cells [.int .i64 t.id,.str t.name,.slice .any 1 (inL t.fields)]):=by rw[← hHb];exact AHeap.get_push_new _ _
 have hnb:Hb.nx=H.nx+1+1:=by rw[← hHb];rfl
 have hHle:H.Le Hb:=by rw[← hHb];exact((lRq _).push _).push _
 rw[hHb]at hcp
 have hcs0:=aB hg0
 have hcs1:=aB hg1
 have hlen:(inL t.fields).length=t.fields.length:=Xp
 have hm:∀ n',AV.lt n' (.slice .any 1 (inL t.fields)):=fun n'=>by
  rw[AV.lt]
  exact⟨fun id e=>(by cases e),fun j hj=>by simp only[inL,List.getElem_map,znd]⟩
 unfold aR at hHb hg0 hcs0 ⊢
 simp only[go_sem,hHb,hcs1,hlen]
 try simp only[go_sem,hlen]
 refine aG (A:=Nat × Int) (fun a=>[(2,.ptr H.nx 0),(3,.ptr (H.nx+1) 0),(5,.int .i64 a.2),(9,.slice .any 1 (inL t.fields)),(10,.int .i64 (t.fields.length:Int)),(11,.int .i64 (a.1:Int))]) (fun _=>Hb)
  (fun a=>a.1≤t.fields.length∧0≤a.2∧a.2≤(a.1:Int)*1000000∧smB S (t.fields.drop a.1) a.2=N) (fun a=>t.fields.length-a.1) (0,0) ⟨Nat.zero_le _,Xb,Xb,hN⟩ ?_ fun a ha=>?_
 ·refine⟨by(try simp only[zko,zkt]);omega,lRq _,hcp,?_,?_⟩
  ·simp[ltF,znd,znl,hm,hnb]
   try omega
  ·exact Y14
 obtain⟨k,n⟩:=a
 obtain⟨hk,hn0,hn1,hn⟩:=ha
 dsimp only at hk hn0 hn1 hn ⊢
 refine Tq20 ?_
 refine ax (fun hc=>?_) (fun hc=>?_)
 ·have hk':k<t.fields.length:=sHc
  obtain⟨x,hx⟩:∃ x,x=t.fields[k]:=⟨_,rfl⟩
  have hd:t.fields.drop k=x::t.fields.drop (k+1):=by rw[hx];exact dcq hk'
  have hg':(inL t.fields).getD k .junk=.int .i64 x:=a9 (f:=AV.int .i64) (l:=t.fields) (k:=k) (x:=x) (by rw[gQq hk',hx])
  have e5:=Yk5 k
  obtain⟨q1,q2,q3⟩:=hf x (by rw[hx];exact gMq hk')
  obtain⟨y,hy,hyb⟩:=lj q1
  have e6:IntKind.i64.wrap (n+y.bits)=n+y.bits:=by rw[hyb];rw[wrap_i64]<;>omega
  rw[hd]at hn
  unfold smB at hn
  have hne0:(H.nx=Hb.nx)=False:=eFo
  simp only[go_sem,iNq,hlen,hg',hg0,hcs0,hne0,da]
  refine Tq8 ?_
  refine⟨S,y,⟨rfl,hS,hy⟩,?_⟩
  simp only[aA,go_sem,e5,e6]
  refine⟨(k+1,n+y.bits),⟨Xd,Xd,by dsimp only;rw[hyb];omega,by dsimp only;rw[hyb];exact hn⟩,Xd,Xa,lRq _,hcp,?_,?_⟩
  ·simp[ltF,znd,znl,hm,hnb]
   try omega
  ·exact Y14
 ·have hk':k=t.fields.length:=sHc
  subst hk'
  rw[List.drop_length]at hn
  have hn':n=N:=hn
  subst hn'
  have hg2:=hg1
  have hne1:(H.nx+1=Hb.nx)=False:=eFo
  simp only[go_sem,hcs1,iS]
  have d8:(n.tmod 8==0)=decide (n%8=0):=by
   rw[Int.tmod_eq_emod_of_nonneg hn0,Bool.eq_iff_iff];simp
  refine⟨Xb,?_⟩
  rw[d8]
  cases c1:decide (n%8=0)with
  |false=>
   simp only[c1,tfC]at hR
   subst hR
   try simp only[go_sem,iS,c1]
   exact Z14
  |true=>
   try simp only[go_sem,iS,c1]
   cases c2:decide (n≤512)with
   |false=>
    simp only[c1,c2,tfC]at hR
    subst hR
    try simp only[go_sem,iS,c1,c2]
    exact Z14
   |true=>
    try simp only[go_sem,iS,c1,c2]
    refine⟨t.fields,⟨rfl,hfl⟩,?_⟩
    cases c3:t.fields.contains 1 with
    |true=>
     simp only[c1,c2,c3,tfC]at hR
     subst hR
     try simp only[go_sem,iS,c1,c2,c3]
     exact Z14
    |_=>
     try simp only[go_sem,iS,c1,c2,c3]
     refine⟨t.fields,⟨rfl,hfl⟩,?_⟩
     cases c4:t.fields.contains 2 with
     |true=>
      exact Y134
     |_=>
      exact Y134
def TQ(S:Sch)(t:SHeader):Prop:=t.fields.length≤1000000∧∀ f∈t.fields,bp S f=true∧0≤btF S f∧btF S f≤1000000
def SH(S:Sch)(f:Int)(c:SCase):Prop:=bp S f=true∧c.value<2^128∧c.mask<2^128
def So(S:Sch)(a:SAction)(p:SPrim):Prop:=p.value<2^128∧oP S a.params.length p=true∧fpB p=true∧0≤p.n
def Rr:PCt
 |[x,.ptr c 0],H,K=>∃ (t:SHeader) (S:Sch),(x=az t∧H.get c=some (.cells (aR S))∧SLen S∧TQ S t)∧K (.bool (rz S t))
 |_,_,_=>False
def Sa:EPp 137 Rr:=by
 refine Ype fun _ H K h=>?_
 unfold Rr at h
 split at h<;>try exact h.elim
 rename_i x c
 obtain⟨t,S,⟨rfl,hg,hS,hk⟩,hK⟩:=h
 refine⟨_,hK,?_⟩
 clear hK
 have hl:=glq hg
 have hne:(c=H.nx)=False:=eFo
 have hcs:=aB hg
 have hgS:=hg
 generalize hR:(rz S t)=R
 skip
 unfold az
 unfold aR at hg hcs
 refine Yfu aD (tCq OT tNq) Tryz.func137 [.tmp 3] fun hcl=>?_
 refine Tq65 ?_
 refine⟨S,t,⟨rfl,rfl,hS,hk.1,hk.2⟩,?_⟩
 cases k1:rz S t with
 |false=>
  exact Y39
 |true=>
  exact Y39
def L4:PCt
 |[x,.ptr c 0,.ptr d 0],H,K=>∃ (t:SCase) (a:SState) (S:Sch) (cs:Wz),(x=ba t∧H.get c=some (.cells (aR S))∧H.get d=some (.cells cs)∧aE a=.agg cs∧SLen S∧SH S a.select t)∧K (.bool (mV S a.select t))
 |_,_,_=>False
def NN:EPp 141 L4:=by
 refine Ype fun _ H K h=>?_
 unfold L4 at h
 split at h<;>try exact h.elim
 rename_i x c d
 obtain⟨t,a,S,cs,⟨rfl,hg,hgd,hac,hS,hk⟩,hK⟩:=h
 refine⟨_,hK,?_⟩
 clear hK
 unfold aE at hac
 cases hac
 have hl:=glq hg
 have hne:(c=H.nx)=False:=eFo
 have hcs:=aB hg
 have hl2:=glq hgd
 have hne2:(d=H.nx)=False:=eFo
 have hcs2:=aB hgd
 generalize hR:(mV S a.select t)=R
 unfold ba vc
 unfold aR at hg hcs
 refine Yfu aD (tCq PV tNq) Tryz.func141 [.tmp 4] fun hcl=>?_
 simp only[go_sem,hcs,hne,hg,hcs2,hne2,hgd,C6]
 refine⟨S,t,⟨rfl,rfl,hS,hk.1,hk.2.1,hk.2.2⟩,?_⟩
 exact Y51
def KE:PCt
 |[x,.ptr c 0,.ptr d 0],H,K=>∃ (t:SPrim) (a:SAction) (S:Sch) (cs:Wz),(x=aU t∧H.get c=some (.cells (aR S))∧H.get d=some (.cells cs)∧ap a=.agg cs∧SLen S∧So S a t)∧K (.bool (mI S a t))
 |_,_,_=>False
def P5:EPp 144 KE:=by
 refine Ype fun _ H K h=>?_
 unfold KE at h
 split at h<;>try exact h.elim
 rename_i x c d
 obtain⟨t,a,S,cs,⟨rfl,hg,hgd,hac,hS,hk⟩,hK⟩:=h
 refine⟨_,hK,?_⟩
 clear hK
 unfold ap at hac
 cases hac
 have hl:=glq hg
 have hne:(c=H.nx)=False:=eFo
 have hcs:=aB hg
 have hl2:=glq hgd
 have hne2:(d=H.nx)=False:=eFo
 have hcs2:=aB hgd
 generalize hR:(mI S a t)=R
 unfold aU vc
 unfold aR at hg hcs
 refine Yfu aD (tCq Sy tNq) Tryz.func144 [.tmp 4] fun hcl=>?_
 simp only[go_sem,hcs,hne,hg,hcs2,hne2,hgd,Mg]
 refine⟨S,a,t,⟨rfl,rfl,rfl,hS,hk.1,hk.2.1,hk.2.2.1,hk.2.2.2⟩,?_⟩
 exact Y51
def Rx:PCt
 |[x,.ptr c 0],H,K=>∃ (t:SState) (S:Sch),(x=aE t∧H.get c=some (.cells (aR S))∧SLen S∧t.cases.length≤1000000∧∀ p∈t.cases,SH S t.select p)∧K (.bool (t.cases.all fun p=>mV S t.select p))
 |_,_,_=>False
def SO:EPp 139 Rx:=by
 refine Ype fun _ H K h=>?_
 unfold Rx at h
 split at h<;>try exact h.elim
 rename_i x c
 obtain⟨t,S,⟨rfl,hg,hS,hbl,hk⟩,hK⟩:=h
 refine⟨_,hK,?_⟩
 clear hK
 have hl:=glq hg
 have hne:(c=H.nx)=False:=eFo
 have hcs:=aB hg
 have hgS:=hg
 generalize hR:(t.cases.all fun p=>mV S t.select p)=R
 skip
 unfold aE
 unfold aR at hg hcs
 refine Yfu aD (tCq BR tNq) Tryz.func139 [.tmp 3] fun hcl=>?_
 refine Tq65 ?_
 refine⟨t.cases,(fun p=>mV S t.select p),⟨rfl,hbl,fun p hx H' hle' hcl'=>clB NN ⟨p,t,S,_,⟨rfl,hle'.get _ _ (by rw[zlf,if_neg (by omega)];exact hgS),hle'.get _ _ (AHeap.get_push_new _ _),rfl,hS,hk p hx⟩,rfl⟩⟩,?_⟩
 cases k1:t.cases.all (fun p=>mV S t.select p)with
 |false=>
  exact Y39
 |true=>
  exact Y39
def Rj:PCt
 |[x,.ptr c 0],H,K=>∃ (t:SAction) (S:Sch),(x=ap t∧H.get c=some (.cells (aR S))∧SLen S∧t.body.length≤1000000∧∀ p∈t.body,So S t p)∧K (.bool (t.body.all fun p=>mI S t p))
 |_,_,_=>False
def SR:EPp 143 Rj:=by
 refine Ype fun _ H K h=>?_
 unfold Rj at h
 split at h<;>try exact h.elim
 rename_i x c
 obtain⟨t,S,⟨rfl,hg,hS,hbl,hk⟩,hK⟩:=h
 refine⟨_,hK,?_⟩
 clear hK
 have hl:=glq hg
 have hne:(c=H.nx)=False:=eFo
 have hcs:=aB hg
 have hgS:=hg
 generalize hR:(t.body.all fun p=>mI S t p)=R
 skip
 unfold ap
 unfold aR at hg hcs
 refine Yfu aD (tCq ws tNq) Tryz.func143 [.tmp 3] fun hcl=>?_
 refine Tq65 ?_
 refine⟨t.body,(fun p=>mI S t p),⟨rfl,hbl,fun p hx H' hle' hcl'=>clB P5 ⟨p,t,S,_,⟨rfl,hle'.get _ _ (by rw[zlf,if_neg (by omega)];exact hgS),hle'.get _ _ (AHeap.get_push_new _ _),rfl,hS,hk p hx⟩,rfl⟩⟩,?_⟩
 cases k1:t.body.all (fun p=>mI S t p)with
 |false=>
  exact Y39
 |true=>
  exact Y39
def tmF(S:Sch)(t:STable):Bool:=match S.actions.find? (fun a=>a.id==t.dflt)with
 |some a=>xE a.params t.dargs
 |none=>false
def TC(S:Sch)(t:STable):Prop:=∃ a,S.actions.find? (fun a=>a.id==t.dflt)=some a∧a.params.length≤1000000∧t.dargs.length≤1000000∧∀ v∈t.dargs,v<2^128
def gkB(S:Sch)(g:SGrant):Bool:=match S.tables.find? (fun t=>t.id==g.table)with
 |some b=>decide (g.keys.length=b.keys.length)
 |none=>false
def Rg:PCt
 |[x,.ptr c 0],H,K=>∃ (t:STable) (S:Sch),(x=au t∧H.get c=some (.cells (aR S))∧SLen S∧TC S t)∧K (.bool (tmF S t))
 |_,_,_=>False
def Tb:EPp 146 Rg:=by
 refine Ype fun _ H K h=>?_
 unfold Rg at h
 split at h<;>try exact h.elim
 rename_i x c
 obtain⟨t,S,⟨rfl,hg,hS,hk⟩,hK⟩:=h
 refine⟨_,hK,?_⟩
 clear hK
 have hl:=glq hg
 have hne:(c=H.nx)=False:=eFo
 have hcs:=aB hg
 have hgS:=hg
 generalize hR:(tmF S t)=R
 skip
 unfold au
 unfold aR at hg hcs
 refine Yfw aD (tCq j8 (tCq QR tNq)) Tryz.func146 [.tmp 3] (nrq _) (T:=aC [(1,[[],[],[],[],[],[2,4],[],[5],[],[],[1,2,4,5,7,9]])]) (h:=fun hcl=>?_)
 obtain⟨a,ha,hpl,hal,hvs⟩:=hk
 unfold tmF at hR
 simp only[ha]at hR
 subst hR
 obtain⟨i,i1,g1,l1⟩:=mg ha
 have ga:=a9 (f:=ap) (l:=S.actions) (k:=i) (x:=a) g1
 have hca:ap a=.agg [.int .i64 a.id,.str a.name,.slice .any 2 (a.params.map aL),.slice .any 6 (a.body.map aU),.str a.restr]:=rfl
 rw[hca]at ga
 simp only[go_sem,hcs,hne,hg,iG]
 refine⟨S,⟨rfl,hS.al⟩,?_⟩
 simp only[aA,go_sem,hcs,hne,hg,i1,ga,iNq,ybb,Cr]
 refine Tq8 ?_
 refine⟨a,t.dargs,⟨rfl,rfl,hpl,hal,hvs⟩,?_⟩
 exact Y37
def Ib:PCt
 |[x,.ptr c 0],H,K=>∃ (t:SGrant) (S:Sch),(x=aK t∧H.get c=some (.cells (aR S))∧SLen S∧fZ S t.table=true)∧K (.bool (gkB S t))
 |_,_,_=>False
def OQ:EPp 150 Ib:=by
 refine Ype fun _ H K h=>?_
 unfold Ib at h
 split at h<;>try exact h.elim
 rename_i x c
 obtain⟨t,S,⟨rfl,hg,hS,hk⟩,hK⟩:=h
 refine⟨_,hK,?_⟩
 clear hK
 have hl:=glq hg
 have hne:(c=H.nx)=False:=eFo
 have hcs:=aB hg
 have hgS:=hg
 generalize hR:(gkB S t)=R
 skip
 unfold aK
 unfold aR at hg hcs
 refine Yfw aD (tCq jj tNq) Tryz.func150 [.tmp 3] (nrq _) (T:=aC [(1,[[],[],[],[],[],[],[],[],[5,7],[],[],[8]])]) (h:=fun hcl=>?_)
 unfold fZ at hk
 obtain⟨b,hb⟩:∃ b,S.tables.find? (fun x=>x.id==t.table)=some b:=by
  rw[List.any_eq_true]at hk
  obtain⟨y,hy,h2⟩:=hk
  cases hf:S.tables.find? (fun x=>x.id==t.table)with
  |none=>exact absurd h2 (by have:=List.find?_eq_none.1 hf y hy;simpa using this)
  |some x=>exact⟨x,rfl⟩
 unfold gkB at hR
 simp only[hb]at hR
 subst hR
 obtain⟨i,i1,g1,l1⟩:=mg hb
 have ga:=a9 (f:=au) (l:=S.tables) (k:=i) (x:=b) g1
 have hca:au b=.agg [.int .i64 b.id,.str b.name,.slice .any 3 (b.keys.map aZ),.slice .any 1 (inL b.actions),.int .i64 b.dflt,.slice .any 2 (b.dargs.map vv),.int .i64 b.size,.str b.restr]:=rfl
 rw[hca]at ga
 have hbl:(boL t.keys).length=t.keys.length:=by simp[boL]
 have heq:((t.keys.length:Int)==(b.keys.length:Int))=decide (t.keys.length=b.keys.length):=Xs
 simp only[go_sem,hcs,hne,hg,fG]
 refine⟨S,⟨rfl,hS.tl⟩,?_⟩
 simp only[aA,go_sem,hcs,hne,hg,i1,ga,iNq,ybb,hbl,heq]
 exact Y8
def Rs:PCt
 |[x,.ptr c 0],H,K=>∃ (t:SRole) (S:Sch),(x=aP t∧H.get c=some (.cells (aR S))∧SLen S∧t.grants.length≤1000000∧∀ g∈t.grants,fZ S g.table=true)∧K (.bool (t.grants.all fun g=>gkB S g))
 |_,_,_=>False
def Tf:EPp 149 Rs:=by
 refine Ype fun _ H K h=>?_
 unfold Rs at h
 split at h<;>try exact h.elim
 rename_i x c
 obtain⟨t,S,⟨rfl,hg,hS,hgl,hk⟩,hK⟩:=h
 refine⟨_,hK,?_⟩
 clear hK
 have hl:=glq hg
 have hne:(c=H.nx)=False:=eFo
 have hcs:=aB hg
 have hgS:=hg
 generalize hR:(t.grants.all fun g=>gkB S g)=R
 skip
 unfold aP
 unfold aR at hg hcs
 refine Yfu aD (tCq Al tNq) Tryz.func149 [.tmp 3] fun hcl=>?_
 refine Tq65 ?_
 refine⟨t.grants,(fun g=>gkB S g),⟨rfl,hgl,fun x hx H' hle' hcl'=>clB OQ ⟨x,S,⟨rfl,hle'.get _ _ (by rw[zlf,if_neg (by omega)];exact hgS),hS,hk x hx⟩,rfl⟩⟩,?_⟩
 cases k1:t.grants.all (fun g=>gkB S g)with
 |false=>
  exact Y39
 |true=>
  exact Y39
def mJ(S:Sch)(r:SRef):Bool:=if r.action==0 then btF S (oO S r).field==btF S (m9 S r).field
 else match S.actions.find? (fun t=>t.id==r.action)with
  |some c=>(c.params.getD r.param.toNat ⟨[],0⟩).bits==btF S (m9 S r).field
  |none=>false
def Tx(S:Sch)(r:SRef):Prop:=qp S r∧bp S (m9 S r).field=true∧((r.action==0)=true→bp S (oO S r).field=true)
def Aq{S:Sch}{r:SRef}(h:qp S r)(h0:(r.action==0)=false):∃ c,S.actions.find? (fun t=>t.id==r.action)=some c∧r.param.toNat<c.params.length:=by
 obtain⟨h,_,_,hp⟩:=h
 unfold nD at h
 cases fa:S.tables.find? (fun t=>t.id==r.table)with
 |none=>rw[fa]at h;cases h
 |some a =>
  cases fb:S.tables.find? (fun t=>t.id==r.toTable)with
  |none=>rw[fa,fb]at h;cases h
  |some b =>
   rw[fa,fb]at h
   simp only[Bool.and_eq_true,h0,Bool.false_eq_true,if_false]at h
   have h3:=h.2.2
   cases fc:S.actions.find? (fun t=>t.id==r.action)with
   |none=>rw[fc]at h3;cases h3
   |some c =>
    rw[fc]at h3
    simp only[decide_eq_true_eq]at h3
    exact⟨c,rfl,Xa⟩
def Q9:PCt
 |[x,.ptr c 0],H,K=>∃ (t:SRef) (S:Sch),(x=bc t∧H.get c=some (.cells (aR S))∧SLen S∧Tx S t)∧K (.bool (mJ S t))
 |_,_,_=>False
def Ta:EPp 151 Q9:=by
 refine Ype fun _ H K h=>?_
 unfold Q9 at h
 split at h<;>try exact h.elim
 rename_i x c
 obtain⟨t,S,⟨rfl,hg,hS,hk⟩,hK⟩:=h
 refine⟨_,hK,?_⟩
 clear hK
 have hl:=glq hg
 have hne:(c=H.nx)=False:=eFo
 have hcs:=aB hg
 have hgS:=hg
 generalize hR:(mJ S t)=R
 skip
 unfold bc
 unfold aR at hg hcs
 refine Yfw aD (tCq BB (tCq pX (tCq j8 tNq))) Tryz.func151 [.tmp 3] (nrq _) (T:=aC [(5,[[],[],[],[],[],[2,4],[],[],[5],[],[],[],[],[5]])]) (h:=fun hcl=>?_)
 obtain⟨hr,hf1,hf2⟩:=hk
 have hne2:(c=H.nx+1)=False:=eFo
 have hne3:(c=H.nx+1+1)=False:=eFo
 obtain⟨b,e1,e2,e3,e4⟩:=pF hr
 simp only[go_sem,hcs,hne,hne2,hne3,hg,uU]
 refine⟨S,t,b,oO S t,m9 S t,⟨rfl,rfl,hS,e1,e2,e3,e4⟩,?_⟩
 unfold mJ at hR
 have hact:=@Aq S t hr
 clear e3 e4
 generalize m9 S t=kb at *
 generalize oO S t=ka at *
 obtain⟨y,hy,hyb⟩:=lj hf1
 unfold aZ
 simp only[aA,go_sem,hcs,hne,hne2,hne3,hg,da]
 refine⟨S,y,⟨rfl,hS,hy⟩,?_⟩
 cases c1:t.action==0 with
 |true=>
  obtain⟨z,hz,hzb⟩:=lj (hf2 c1)
  simp only[c1,if_true]at hR
  subst hR
  simp only[aA,go_sem,hcs,hne,hne2,hne3,hg,da,c1]
  refine⟨S,z,⟨rfl,hS,hz⟩,?_⟩
  simp only[aA,go_sem,hyb,hzb]
  exact Z1
 |_=>
  obtain⟨c2,f3,hl3⟩:=hact c1
  simp only[c1,Bool.false_eq_true,if_false,f3]at hR
  subst hR
  obtain⟨i,i1,g1,l1⟩:=mg f3
  have ga:=a9 (f:=ap) (l:=S.actions) (k:=i) (x:=c2) g1
  have hca:ap c2=.agg [.int .i64 c2.id,.str c2.name,.slice .any 2 (c2.params.map aL),.slice .any 6 (c2.body.map aU),.str c2.restr]:=rfl
  rw[hca]at ga
  have gp:=a9 (f:=aL) (l:=c2.params) (k:=t.param.toNat) (x:=c2.params[t.param.toNat]) (gQq hl3)
  have gq:c2.params.getD t.param.toNat ⟨[],0⟩=c2.params[t.param.toNat]:=by simp[gEq,hl3]
  rw[gq]
  generalize c2.params[t.param.toNat]=z at *
  have hz:aL z=.agg [.str z.name,.int .i64 z.bits]:=rfl
  rw[hz]at gp
  have hp0:=hr.2.2.2
  simp only[aA,go_sem,hcs,hne,hne2,hne3,hg,iG,c1]
  refine⟨S,⟨rfl,hS.al⟩,?_⟩
  simp only[aA,go_sem,hcs,hne,hne2,hne3,hg,i1,ga,gp,iNq,ybb,hyb]
  exact Y8
structure FitK(S:Sch):Prop where
 f1:bp S 1=true
 f2:bp S 2=true
 h:∀ t∈S.headers,TQ S t
 s:∀ t∈S.states,∀ p∈t.cases,SH S t.select p
 a:∀ t∈S.actions,∀ p∈t.body,So S t p
 t:∀ t∈S.tables,TC S t
 r:∀ t∈S.roles,∀ g∈t.grants,fZ S g.table=true
 x:∀ r∈S.refs,Tx S r
def sy(S:Sch):Bool:=(btF S 1==16)&&((btF S 2==16)&&(S.headers.all (rz S)&&((S.states.all fun t=>t.cases.all fun p=>mV S t.select p)&&((S.actions.all fun t=>t.body.all fun p=>mI S t p)&&(S.tables.all (tmF S)&&((S.roles.all fun t=>t.grants.all fun g=>gkB S g)&&S.refs.all (mJ S)))))))
def u6:PCt
 |[.agg l],_,K=>∃ S:Sch,(l=aR S∧SB S∧FitK S)∧K (.bool (sy S))
 |_,_,_=>False
def Nf:EPp 30 u6:=by
 refine Ype fun _ H K h=>?_
 unfold u6 at h
 split at h<;>try exact h.elim
 rename_i l
 obtain⟨S,⟨rfl,hB,hF⟩,hK⟩:=h
 refine⟨_,hK,?_⟩
 clear hK
 have hS:=hB.sl
 obtain⟨y1,hy1,hb1⟩:=lj hF.f1
 obtain⟨y2,hy2,hb2⟩:=lj hF.f2
 generalize hR:sy S=R
 unfold sy at hR
 refine Yfu aD (tCq pX (tCq sq (tCq sC (tCq qI (tCq oI (tCq qK (tCq sW tNq))))))) Tryz.func30 [.tmp 2] fun hcl=>?_
 unfold aR
 try simp only[aA,go_sem,da,hb1,hb2,bY,cx,bM,bW,cL,cV]
 refine⟨S,y1,⟨rfl,hS,hy1⟩,?_⟩
 try simp only[aA,go_sem,hb1]
 cases k1:btF S 1==16 with
 |false=>
  simp only[k1,tfC]at hR
  subst hR
  try simp only[aA,go_sem,da,hb1,hb2,bY,cx,bM,bW,cL,cV,k1]
  exact Z1
 |true=>
  try simp only[aA,go_sem,da,hb1,hb2,bY,cx,bM,bW,cL,cV,k1]
  refine⟨S,y2,⟨rfl,hS,hy2⟩,?_⟩
  try simp only[aA,go_sem,hb2]
  cases k2:btF S 2==16 with
  |false=>
   simp only[k1,k2,tfC]at hR
   subst hR
   try simp only[aA,go_sem,da,hb1,hb2,bY,cx,bM,bW,cL,cV,k1,k2]
   exact Z1
  |true=>
   try simp only[aA,go_sem,da,hb1,hb2,bY,cx,bM,bW,cL,cV,k1,k2]
   refine⟨S.headers,rz S,⟨rfl,hS.hl,fun x hx H' hle' hcl'=>clB Sa ⟨x,S,⟨rfl,hle'.get _ _ Xl,hS,hF.h x hx⟩,rfl⟩⟩,?_⟩
   cases k3:S.headers.all (rz S)with
   |false=>
    simp only[k1,k2,k3,tfC]at hR
    subst hR
    try simp only[aA,go_sem,da,hb1,hb2,bY,cx,bM,bW,cL,cV,k1,k2,k3]
    exact Z1
   |true=>
    try simp only[aA,go_sem,da,hb1,hb2,bY,cx,bM,bW,cL,cV,k1,k2,k3]
    refine⟨S.states,(fun t=>t.cases.all fun p=>mV S t.select p),⟨rfl,hS.sl,fun x hx H' hle' hcl'=>clB SO ⟨x,S,⟨rfl,hle'.get _ _ Xl,hS,hB.sn x hx,hF.s x hx⟩,rfl⟩⟩,?_⟩
    cases k4:S.states.all (fun t=>t.cases.all fun p=>mV S t.select p)with
    |false=>
     simp only[k1,k2,k3,k4,tfC]at hR
     subst hR
     try simp only[aA,go_sem,da,hb1,hb2,bY,cx,bM,bW,cL,cV,k1,k2,k3,k4]
     exact Z1
    |true=>
     try simp only[aA,go_sem,da,hb1,hb2,bY,cx,bM,bW,cL,cV,k1,k2,k3,k4]
     refine⟨S.actions,(fun t=>t.body.all fun p=>mI S t p),⟨rfl,hS.al,fun x hx H' hle' hcl'=>clB SR ⟨x,S,⟨rfl,hle'.get _ _ Xl,hS,(hB.an x hx).2.2.1,hF.a x hx⟩,rfl⟩⟩,?_⟩
     cases k5:S.actions.all (fun t=>t.body.all fun p=>mI S t p)with
     |false=>
      simp only[k1,k2,k3,k4,k5,tfC]at hR
      subst hR
      try simp only[aA,go_sem,da,hb1,hb2,bY,cx,bM,bW,cL,cV,k1,k2,k3,k4,k5]
      exact Z1
     |true=>
      try simp only[aA,go_sem,da,hb1,hb2,bY,cx,bM,bW,cL,cV,k1,k2,k3,k4,k5]
      refine⟨S.tables,tmF S,⟨rfl,hS.tl,fun x hx H' hle' hcl'=>clB Tb ⟨x,S,⟨rfl,hle'.get _ _ Xl,hS,hF.t x hx⟩,rfl⟩⟩,?_⟩
      cases k6:S.tables.all (tmF S)with
      |false=>
       simp only[k1,k2,k3,k4,k5,k6,tfC]at hR
       subst hR
       try simp only[aA,go_sem,da,hb1,hb2,bY,cx,bM,bW,cL,cV,k1,k2,k3,k4,k5,k6]
       exact Z1
      |true=>
       try simp only[aA,go_sem,da,hb1,hb2,bY,cx,bM,bW,cL,cV,k1,k2,k3,k4,k5,k6]
       refine⟨S.roles,(fun t=>t.grants.all fun g=>gkB S g),⟨rfl,hS.rl,fun x hx H' hle' hcl'=>clB Tf ⟨x,S,⟨rfl,hle'.get _ _ Xl,hS,(hB.rn x hx).2.1,hF.r x hx⟩,rfl⟩⟩,?_⟩
       cases k7:S.roles.all (fun t=>t.grants.all fun g=>gkB S g)with
       |false=>
        simp only[k1,k2,k3,k4,k5,k6,k7,tfC]at hR
        subst hR
        try simp only[aA,go_sem,da,hb1,hb2,bY,cx,bM,bW,cL,cV,k1,k2,k3,k4,k5,k6,k7]
        exact Z1
       |true=>
        try simp only[aA,go_sem,da,hb1,hb2,bY,cx,bM,bW,cL,cV,k1,k2,k3,k4,k5,k6,k7]
        refine⟨S.refs,mJ S,⟨rfl,hB.xl,fun x hx H' hle' hcl'=>clB Ta ⟨x,S,⟨rfl,hle'.get _ _ Xl,hS,hF.x x hx⟩,rfl⟩⟩,?_⟩
        cases k8:S.refs.all (mJ S)with
        |false=>
         exact Y88
        |true=>
         exact Y88
structure Rng(S:Sch):Prop where
 pv:∀ a∈S.actions,∀ p∈a.body,p.value<2^128∧0≤p.n
 cv:∀ s∈S.states,∀ c∈s.cases,c.value<2^128∧c.mask<2^128
 dv:∀ t∈S.tables,∀ v∈t.dargs,v<2^128
 rv:∀ r∈S.refs,0≤r.key∧0≤r.toKey∧0≤r.param
def QF{S:Sch}{n:Int}(h:fh S n=true):∃ a,S.actions.find? (fun t=>t.id==n)=some a∧a∈S.actions:=by
 unfold fh at h
 rw[List.any_eq_true]at h
 obtain⟨y,hy,h2⟩:=h
 cases hf:S.actions.find? (fun t=>t.id==n)with
 |none=>exact absurd h2 (by have:=List.find?_eq_none.1 hf y hy;simpa using this)
 |some x=>exact⟨x,rfl,List.mem_of_find?_eq_some hf⟩
def Ik{S:Sch}(hn:S.fields.all nm1=true){n:Int}(h:bp S n=true):0≤btF S n∧btF S n≤1000000:=by
 obtain⟨x,hx,hb⟩:=lj h
 have hm:=List.mem_of_find?_eq_some hx
 have h1:=List.all_eq_true.1 hn x hm
 unfold nm1 wB at h1
 simp only[Bool.and_eq_true,decide_eq_true_eq]at h1
 rw[← hb]
 omega
def vS{S:Sch}(hk:kg S=true)(hr:Rng S):∀ r∈S.refs,qp S r:=by
 intro r h
 unfold kg at hk
 simp only[Bool.and_eq_true]at hk
 obtain⟨k1,k2,k3,k4,k5,k6,k7,k8,k9⟩:=hk
 exact⟨List.all_eq_true.1 k9 r h,(hr.rv r h).1,(hr.rv r h).2.1,(hr.rv r h).2.2⟩
def Ee{S:Sch}(k6:S.tables.all (nd S)=true){b:STable}{n:Int}{i:Nat}{k:SKey}(hb:S.tables.find? (fun t=>t.id==n)=some b)(hk:b.keys[i]?=some k):bp S k.field=true:=by
 have h1:=List.all_eq_true.1 k6 b (List.mem_of_find?_eq_some hb)
 unfold nd at h1
 simp only[Bool.and_eq_true]at h1
 exact List.all_eq_true.1 h1.1 k (List.mem_of_getElem? hk)
def DK{S:Sch}(hB:SB S)(hk:kg S=true)(hn:tt S=true)(hf:mK S=true)(hr:Rng S):FitK S:=by
 have hro:=vS hk hr
 unfold kg at hk
 simp only[Bool.and_eq_true]at hk
 obtain⟨k1,k2,k3,k4,k5,k6,k7,k8,k9⟩:=hk
 unfold tt at hn
 simp only[Bool.and_eq_true]at hn
 obtain⟨n1,n2,n3,n4⟩:=hn
 unfold mK at hf
 simp only[Bool.and_eq_true]at hf
 obtain⟨f1,f2,f3,f4⟩:=hf
 refine⟨k1,k2,fun t ht=>⟨(hB.hn t ht).2,fun f hf'=>?_⟩,fun t ht p hp=>?_,fun t ht p hp=>?_,fun t ht=>?_,fun t ht g hg=>?_,fun r hr'=>?_⟩
 ·have h1:=List.all_eq_true.1 k3 t ht
  have h2:=List.all_eq_true.1 h1 f hf'
  exact⟨h2,Ik n3 h2⟩
 ·refine⟨?_,hr.cv t ht p hp⟩
  have h1:=List.all_eq_true.1 k4 t ht
  have h2:=List.all_eq_true.1 f3 t ht
  unfold pR at h1
  unfold fsB at h2
  simp only[Bool.and_eq_true,Bool.or_eq_true]at h1 h2
  rcases h1.2.1 with h3|h3
  ·rcases h2 with h4|h4
   ·exfalso
    simp[bne]at h4 h3
    exact h4 h3
   ·simp only[decide_eq_true_eq]at h4
    have:=List.length_pos_of_mem hp
    omega
  ·exact h3
 ·have h1:=List.all_eq_true.1 k5 t ht
  have h2:=List.all_eq_true.1 h1 p hp
  have h3:=List.all_eq_true.1 (List.all_eq_true.1 f1 t ht) p hp
  exact⟨(hr.pv t ht p hp).1,h2,h3,(hr.pv t ht p hp).2⟩
 ·have h1:=List.all_eq_true.1 k6 t ht
  unfold nd at h1
  simp only[Bool.and_eq_true]at h1
  have hm:t.dflt∈t.actions:=by simpa using h1.2.2
  obtain⟨a,ha,hma⟩:=QF (List.all_eq_true.1 h1.2.1 _ hm)
  exact⟨a,ha,(hB.an a hma).2.1,(hB.tn t ht).2.2.2.1,hr.dv t ht⟩
 ·have h1:=List.all_eq_true.1 k8 t ht
  unfold t9 at h1
  simp only[Bool.and_eq_true]at h1
  exact List.all_eq_true.1 h1.1 g hg
 ·have hro:=hro r hr'
  obtain⟨b,e1,e2,e3,e4⟩:=pF hro
  refine⟨hro,Ee k6 e1 e3,fun h0=>?_⟩
  rw[if_pos h0]at e4
  obtain⟨a,a1,a2,a3⟩:=e4
  exact Ee k6 a1 a3
end Go.AL
