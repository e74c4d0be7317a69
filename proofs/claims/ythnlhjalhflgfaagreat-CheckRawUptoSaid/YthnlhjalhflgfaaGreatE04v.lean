/- Lemmas of the proof; no condition. -/
import Derived.Test.YthnlhjalhflgfaaGreatE04j
import Derived.Test.YthnlhjalhflgfaaGreatS12k
set_option linter.all false
set_option maxRecDepth 10000
set_option maxHeartbeats 32000000
open List renaming length_cons → yaz, length_nil → yba, take_of_length_le → ybc, drop_append → ybd, take_append → ybe, drop_eq_nil_of_le → ybf, length_map → ybb, take_succ_cons → yaq, take_zero → yar, drop_succ_cons → yao, drop_zero → yap
open Go Go.AL Go.Proofs
namespace Go.AL
theorem Cs:ti Tryz.prog 207=some ⟨.struct [(0,34,false)],10,208,.agg [.slice .nil 1 [],.slice .nil 1 [],.slice .nil 1 [],.slice .nil 1 [],.slice .nil 1 [],.slice .nil 1 [],.slice .nil 1 [],.slice .nil 1 [],.int .i64 0,.int .i64 0]⟩:=krf
attribute [go_sem] Cs
def bv (S:Sch) (n:Int):Bool:=S.fields.any fun t=>t.id==n
def br:PCt
 |[.agg l,.int .i64 n],_,K=>∃ S:Sch,(l=aS S∧SLen S)∧K (.bool (bv S n))
 |_,_,_=>False
theorem rH:EPp 127 br:=by
 refine Ype fun _ H K h=>?_
 unfold br at h
 split at h<;>try exact h.elim
 rename_i l n
 obtain ⟨S,⟨rfl,hS⟩,hK⟩:=h
 refine ⟨_,hK,?_⟩
 clear hK
 have hR:decide (0≤ixP (fun t:SField=>t.id==n) S.fields 0)=bv S n:=eH
 generalize bv S n=R at *
 refine Yfu aC (tCq th tNq) Tryz.func127 [.tmp 4] fun hcl=>?_
 simp only [go_sem,aS,nW]
 refine ⟨S,⟨rfl,hS.fl⟩,?_⟩
 have hR':decide (ixP (fun t:SField=>t.id==n) S.fields 0 ≥ 0)=R:=hR
 exact Y92
def fu (S:Sch) (n:Int):Bool:=S.headers.any fun t=>t.id==n
def bH:PCt
 |[.agg l,.int .i64 n],_,K=>∃ S:Sch,(l=aS S∧SLen S)∧K (.bool (fu S n))
 |_,_,_=>False
theorem yq:EPp 138 bH:=by
 refine Ype fun _ H K h=>?_
 unfold bH at h
 split at h<;>try exact h.elim
 rename_i l n
 obtain ⟨S,⟨rfl,hS⟩,hK⟩:=h
 refine ⟨_,hK,?_⟩
 clear hK
 have hR:decide (0≤ixP (fun t:SHeader=>t.id==n) S.headers 0)=fu S n:=eH
 generalize fu S n=R at *
 refine Yfu aC (tCq yV tNq) Tryz.func138 [.tmp 4] fun hcl=>?_
 simp only [go_sem,aS,po]
 refine ⟨S,⟨rfl,hS.hl⟩,?_⟩
 have hR':decide (ixP (fun t:SHeader=>t.id==n) S.headers 0 ≥ 0)=R:=hR
 exact Y92
def gF (S:Sch) (n:Int):Bool:=S.tables.any fun t=>t.id==n
def ib:PCt
 |[.agg l,.int .i64 n],_,K=>∃ S:Sch,(l=aS S∧SLen S)∧K (.bool (gF S n))
 |_,_,_=>False
theorem D6:EPp 137 ib:=by
 refine Ype fun _ H K h=>?_
 unfold ib at h
 split at h<;>try exact h.elim
 rename_i l n
 obtain ⟨S,⟨rfl,hS⟩,hK⟩:=h
 refine ⟨_,hK,?_⟩
 clear hK
 have hR:decide (0≤ixP (fun t:STable=>t.id==n) S.tables 0)=gF S n:=eH
 generalize gF S n=R at *
 refine Yfu aC (tCq iR tNq) Tryz.func137 [.tmp 4] fun hcl=>?_
 simp only [go_sem,aS,fh]
 refine ⟨S,⟨rfl,hS.tl⟩,?_⟩
 have hR':decide (ixP (fun t:STable=>t.id==n) S.tables 0 ≥ 0)=R:=hR
 exact Y92
def fq (S:Sch) (n:Int):Bool:=S.actions.any fun t=>t.id==n
def GY:PCt
 |[.agg l,.int .i64 n],_,K=>∃ S:Sch,(l=aS S∧SLen S)∧K (.bool (fq S n))
 |_,_,_=>False
theorem CS:EPp 142 GY:=by
 refine Ype fun _ H K h=>?_
 unfold GY at h
 split at h<;>try exact h.elim
 rename_i l n
 obtain ⟨S,⟨rfl,hS⟩,hK⟩:=h
 refine ⟨_,hK,?_⟩
 clear hK
 have hR:decide (0≤ixP (fun t:SAction=>t.id==n) S.actions 0)=fq S n:=eH
 generalize fq S n=R at *
 refine Yfu aC (tCq jH tNq) Tryz.func142 [.tmp 4] fun hcl=>?_
 simp only [go_sem,aS,ii]
 refine ⟨S,⟨rfl,hS.al⟩,?_⟩
 have hR':decide (ixP (fun t:SAction=>t.id==n) S.actions 0 ≥ 0)=R:=hR
 exact Y92
def jL (S:Sch) (n:Int):Bool:=n==0||(n==65535||S.states.any fun t=>t.id==n)
def fP:PCt
 |[.agg l,.int .i64 n],_,K=>∃ S:Sch,(l=aS S∧SLen S)∧K (.bool (jL S n))
 |_,_,_=>False
theorem DG:EPp 265 fP:=by
 refine Ype fun _ H K h=>?_
 unfold fP at h
 split at h<;>try exact h.elim
 rename_i l n
 obtain ⟨S,⟨rfl,hS⟩,hK⟩:=h
 refine ⟨_,hK,?_⟩
 clear hK
 unfold jL
 have hR':decide (ixP (fun t:SState=>t.id==n) S.states 0 ≥ 0)=S.states.any (fun t=>t.id==n):=eH
 generalize S.states.any (fun t=>t.id==n)=b at *
 refine Yfu aC (tCq AM tNq) Tryz.func265 [.tmp 4] fun hcl=>?_
 cases c1:n==0 with
 |true =>
  simp only [Bool.true_or]
  simp only [go_sem,aS,mu,c1]
  exact Z1
 |false =>
  cases c2:n==65535 with
  |true =>
   simp only [Bool.true_or,Bool.or_true]
   simp only [go_sem,aS,mu,c1,c2]
   exact Z1
  |false =>
   simp only [Bool.false_or]
   simp only [go_sem,aS,mu,c1,c2]
   refine ⟨S,⟨rfl,hS.sl⟩,?_⟩
   exact Y92
def DE:PCt
 |[x,.ptr c 0],H,K=>∃ (t:SCase) (S:Sch),(x=aX t∧H.get c=some (.cells (aS S))∧SLen S)∧K (.bool (jL S t.next))
 |_,_,_=>False
theorem rU:EPp 266 DE:=by
 refine Ype fun _ H K h=>?_
 unfold DE at h
 split at h<;>try exact h.elim
 rename_i x c
 obtain ⟨t,S,⟨rfl,hg,hS⟩,hK⟩:=h
 refine ⟨_,hK,?_⟩
 clear hK
 have hl:=glq hg
 have hne:(c=H.nx)=False:=eFo
 have hcs:=aM hg
 generalize hR:jL S t.next=R at *
 unfold aX vc
 unfold aS at hg hcs
 refine Yfu aC (tCq DG tNq) Tryz.func266 [.tmp 3] fun hcl=>?_
 simp only [go_sem,hcs,hne,hg,fP]
 refine ⟨S,⟨rfl,hS⟩,?_⟩
 exact Y50
def rS (S:Sch) (t:SState):Bool:=(t.header==0||fu S t.header)&&((t.select==0||bv S t.select)&&(jL S t.dflt&&t.cases.all fun c=>jL S c.next))
def HH:PCt
 |[.agg l,x],_,K=>∃ (S:Sch) (t:SState),(l=aS S∧x=aB t∧SLen S∧t.cases.length≤1000000)∧K (.bool (rS S t))
 |_,_,_=>False
theorem Nn:EPp 130 HH:=by
 refine Ype fun _ H K h=>?_
 unfold HH at h
 split at h<;>try exact h.elim
 rename_i l x
 obtain ⟨S,t,⟨rfl,rfl,hS,hcl0⟩,hK⟩:=h
 refine ⟨_,hK,?_⟩
 clear hK
 generalize hR:rS S t=R
 unfold rS at hR
 unfold aB
 refine Yfu aC (tCq yq (tCq rH (tCq DG (tCq AW tNq)))) Tryz.func130 [.tmp 4] fun hcl=>?_
 unfold aS
 cases h0:t.header==0 with
 |true =>
  cases s0:t.select==0 with
  |true =>
   try simp only [aF,go_sem,bH,br,fP,cZ,h0,s0]
   refine ⟨S,⟨rfl,hS⟩,?_⟩
   cases n1:jL S t.dflt with
   |false =>
    simp only [h0,s0,n1,tfB,if_true,if_false,reduceCtorEq] at hR
    subst hR
    try simp only [aF,go_sem,bH,br,fP,cZ,h0,s0,n1]
    exact Z1
   |true =>
    try simp only [aF,go_sem,bH,br,fP,cZ,h0,s0,n1]
    refine ⟨t.cases,(fun c=>jL S c.next),⟨rfl,hcl0,fun x hx H' hle' hcl'=>clB rU ⟨x,S,⟨rfl,hle'.get _ _ (by (try simp only [go_sem]);first|done|rfl),hS⟩,rfl⟩⟩,?_⟩
    cases k1:t.cases.all fun c=>jL S c.next with
    |false =>
     exact Y120
    |true =>
     exact Y120
  |false =>
   try simp only [aF,go_sem,bH,br,fP,cZ,h0,s0]
   refine ⟨S,⟨rfl,hS⟩,?_⟩
   cases s1:bv S t.select with
   |false =>
    simp only [h0,s0,s1,tfB,if_true,if_false,reduceCtorEq] at hR
    subst hR
    try simp only [aF,go_sem,bH,br,fP,cZ,h0,s0,s1]
    exact Z1
   |true =>
    try simp only [aF,go_sem,bH,br,fP,cZ,h0,s0,s1]
    refine ⟨S,⟨rfl,hS⟩,?_⟩
    cases n1:jL S t.dflt with
    |false =>
     simp only [h0,s0,s1,n1,tfB,if_true,if_false,reduceCtorEq] at hR
     subst hR
     try simp only [aF,go_sem,bH,br,fP,cZ,h0,s0,s1,n1]
     exact Z1
    |true =>
     try simp only [aF,go_sem,bH,br,fP,cZ,h0,s0,s1,n1]
     refine ⟨t.cases,(fun c=>jL S c.next),⟨rfl,hcl0,fun x hx H' hle' hcl'=>clB rU ⟨x,S,⟨rfl,hle'.get _ _ (by (try simp only [go_sem]);first|done|rfl),hS⟩,rfl⟩⟩,?_⟩
     cases k1:t.cases.all fun c=>jL S c.next with
     |false =>
      exact Y113
     |true =>
      exact Y113
 |false =>
  try simp only [aF,go_sem,bH,br,fP,cZ,h0]
  refine ⟨S,⟨rfl,hS⟩,?_⟩
  cases h1:fu S t.header with
  |false =>
   simp only [h0,h1,tfB,if_true,if_false,reduceCtorEq] at hR
   subst hR
   try simp only [aF,go_sem,bH,br,fP,cZ,h0,h1]
   exact Z1
  |true =>
   cases s0:t.select==0 with
   |true =>
    try simp only [aF,go_sem,bH,br,fP,cZ,h0,h1,s0]
    refine ⟨S,⟨rfl,hS⟩,?_⟩
    cases n1:jL S t.dflt with
    |false =>
     simp only [h0,h1,s0,n1,tfB,if_true,if_false,reduceCtorEq] at hR
     subst hR
     try simp only [aF,go_sem,bH,br,fP,cZ,h0,h1,s0,n1]
     exact Z1
    |true =>
     try simp only [aF,go_sem,bH,br,fP,cZ,h0,h1,s0,n1]
     refine ⟨t.cases,(fun c=>jL S c.next),⟨rfl,hcl0,fun x hx H' hle' hcl'=>clB rU ⟨x,S,⟨rfl,hle'.get _ _ (by (try simp only [go_sem]);first|done|rfl),hS⟩,rfl⟩⟩,?_⟩
     cases k1:t.cases.all fun c=>jL S c.next with
     |false =>
      exact Y114
     |true =>
      exact Y114
   |false =>
    try simp only [aF,go_sem,bH,br,fP,cZ,h0,h1,s0]
    refine ⟨S,⟨rfl,hS⟩,?_⟩
    cases s1:bv S t.select with
    |false =>
     simp only [h0,h1,s0,s1,tfB,if_true,if_false,reduceCtorEq] at hR
     subst hR
     try simp only [aF,go_sem,bH,br,fP,cZ,h0,h1,s0,s1]
     exact Z1
    |true =>
     try simp only [aF,go_sem,bH,br,fP,cZ,h0,h1,s0,s1]
     refine ⟨S,⟨rfl,hS⟩,?_⟩
     cases n1:jL S t.dflt with
     |false =>
      simp only [h0,h1,s0,s1,n1,tfB,if_true,if_false,reduceCtorEq] at hR
      subst hR
      try simp only [aF,go_sem,bH,br,fP,cZ,h0,h1,s0,s1,n1]
      exact Z1
     |true =>
      try simp only [aF,go_sem,bH,br,fP,cZ,h0,h1,s0,s1,n1]
      refine ⟨t.cases,(fun c=>jL S c.next),⟨rfl,hcl0,fun x hx H' hle' hcl'=>clB rU ⟨x,S,⟨rfl,hle'.get _ _ (by (try simp only [go_sem]);first|done|rfl),hS⟩,rfl⟩⟩,?_⟩
      cases k1:t.cases.all fun c=>jL S c.next with
      |false =>
       exact Y107
      |true =>
       exact Y107
def oq (S:Sch) (np:Nat) (p:SPrim):Bool :=
 if p.op==1||(p.op==2||p.op==3) then bv S p.dst&&(if p.kind==2 then bv S p.n else if p.kind==3 then decide (p.n<(np:Int)) else true)
 else if p.op==4||p.op==5 then fu S p.dst
 else if p.kind==2 then bv S p.n else if p.kind==3 then decide (p.n<(np:Int)) else true
def BV:PCt
 |[.agg l,x,y],_,K=>∃ (S:Sch) (a:SAction) (p:SPrim),(l=aS S∧x=ap a∧y=aT p∧SLen S)∧K (.bool (oq S a.params.length p))
 |_,_,_=>False
theorem Mg:EPp 133 BV:=by
 refine Ype fun _ H K h=>?_
 unfold BV at h
 split at h<;>try exact h.elim
 rename_i l x y
 obtain ⟨S,a,p,⟨rfl,rfl,rfl,hS⟩,hK⟩:=h
 refine ⟨_,hK,?_⟩
 clear hK
 generalize hR:oq S a.params.length p=R
 unfold oq at hR
 unfold ap aT vc
 refine Yfu aC (tCq yq (tCq rH tNq)) Tryz.func133 [.tmp 6] fun hcl=>?_
 unfold aS
 cases o1:p.op==1 with
 |false =>
  cases o2:p.op==2 with
  |false =>
   cases o3:p.op==3 with
   |false =>
    cases o4:p.op==4 with
    |false =>
     cases o5:p.op==5 with
     |false =>
      cases k2:p.kind==2 with
      |false =>
       cases k3:p.kind==3 with
       |false =>
        simp only [o1,o2,o3,o4,o5,k2,k3,tfB,if_true,if_false,reduceCtorEq] at hR
        subst hR
        try simp only [aF,go_sem,bH,br,ybb,o1,o2,o3,o4,o5,k2,k3]
        exact Z1
       |true =>
        cases x3:decide (p.n<(a.params.length:Int)) with
        |false =>
         exact Y97
        |true =>
         exact Y97
      |true =>
       try simp only [aF,go_sem,bH,br,ybb,o1,o2,o3,o4,o5,k2]
       refine ⟨S,⟨rfl,hS⟩,?_⟩
       cases x2:bv S p.n with
       |false =>
        exact Y102
       |true =>
        exact Y102
     |true =>
      try simp only [aF,go_sem,bH,br,ybb,o1,o2,o3,o4,o5]
      refine ⟨S,⟨rfl,hS⟩,?_⟩
      cases d2:fu S p.dst with
      |false =>
       exact Y108
      |true =>
       exact Y108
    |true =>
     try simp only [aF,go_sem,bH,br,ybb,o1,o2,o3,o4]
     refine ⟨S,⟨rfl,hS⟩,?_⟩
     cases d2:fu S p.dst with
     |false =>
      exact Y115
     |true =>
      exact Y115
   |true =>
    try simp only [aF,go_sem,bH,br,ybb,o1,o2,o3]
    refine ⟨S,⟨rfl,hS⟩,?_⟩
    cases d1:bv S p.dst with
    |false =>
     simp only [o1,o2,o3,d1,tfB,if_true,if_false,reduceCtorEq] at hR
     subst hR
     try simp only [aF,go_sem,bH,br,ybb,o1,o2,o3,d1]
     exact Z1
    |true =>
     cases k2:p.kind==2 with
     |false =>
      cases k3:p.kind==3 with
      |false =>
       simp only [o1,o2,o3,d1,k2,k3,tfB,if_true,if_false,reduceCtorEq] at hR
       subst hR
       try simp only [aF,go_sem,bH,br,ybb,o1,o2,o3,d1,k2,k3]
       exact Z1
      |true =>
       cases x3:decide (p.n<(a.params.length:Int)) with
       |false =>
        exact Y103
       |true =>
        exact Y103
     |true =>
      try simp only [aF,go_sem,bH,br,ybb,o1,o2,o3,d1,k2]
      refine ⟨S,⟨rfl,hS⟩,?_⟩
      cases x2:bv S p.n with
      |false =>
       exact Y109
      |true =>
       exact Y109
  |true =>
   try simp only [aF,go_sem,bH,br,ybb,o1,o2]
   refine ⟨S,⟨rfl,hS⟩,?_⟩
   cases d1:bv S p.dst with
   |false =>
    simp only [o1,o2,d1,tfB,if_true,if_false,reduceCtorEq] at hR
    subst hR
    try simp only [aF,go_sem,bH,br,ybb,o1,o2,d1]
    exact Z1
   |true =>
    cases k2:p.kind==2 with
    |false =>
     cases k3:p.kind==3 with
     |false =>
      simp only [o1,o2,d1,k2,k3,tfB,if_true,if_false,reduceCtorEq] at hR
      subst hR
      try simp only [aF,go_sem,bH,br,ybb,o1,o2,d1,k2,k3]
      exact Z1
     |true =>
      cases x3:decide (p.n<(a.params.length:Int)) with
      |false =>
       exact Y110
      |true =>
       exact Y110
    |true =>
     try simp only [aF,go_sem,bH,br,ybb,o1,o2,d1,k2]
     refine ⟨S,⟨rfl,hS⟩,?_⟩
     cases x2:bv S p.n with
     |false =>
      exact Y116
     |true =>
      exact Y116
 |true =>
  try simp only [aF,go_sem,bH,br,ybb,o1]
  refine ⟨S,⟨rfl,hS⟩,?_⟩
  cases d1:bv S p.dst with
  |false =>
   simp only [o1,d1,tfB,if_true,if_false,reduceCtorEq] at hR
   subst hR
   try simp only [aF,go_sem,bH,br,ybb,o1,d1]
   exact Z1
  |true =>
   cases k2:p.kind==2 with
   |false =>
    cases k3:p.kind==3 with
    |false =>
     simp only [o1,d1,k2,k3,tfB,if_true,if_false,reduceCtorEq] at hR
     subst hR
     try simp only [aF,go_sem,bH,br,ybb,o1,d1,k2,k3]
     exact Z1
    |true =>
     cases x3:decide (p.n<(a.params.length:Int)) with
     |false =>
      exact Y117
     |true =>
      exact Y117
   |true =>
    try simp only [aF,go_sem,bH,br,ybb,o1,d1,k2]
    refine ⟨S,⟨rfl,hS⟩,?_⟩
    cases x2:bv S p.n with
    |false =>
     exact Y123
    |true =>
     exact Y123
def CP:PCt
 |[x,.ptr c 0],H,K=>∃ (t:SKey) (S:Sch),(x=aY t∧H.get c=some (.cells (aS S))∧SLen S)∧K (.bool (bv S t.field))
 |_,_,_=>False
theorem Hr:EPp 267 CP:=by
 refine Ype fun _ H K h=>?_
 unfold CP at h
 split at h<;>try exact h.elim
 rename_i x c
 obtain ⟨t,S,⟨rfl,hg,hS⟩,hK⟩:=h
 refine ⟨_,hK,?_⟩
 clear hK
 have hl:=glq hg
 have hne:(c=H.nx)=False:=eFo
 have hcs:=aM hg
 generalize hR:bv S t.field=R at *
 unfold aY
 unfold aS at hg hcs
 refine Yfu aC (tCq rH tNq) Tryz.func267 [.tmp 3] fun hcl=>?_
 simp only [go_sem,hcs,hne,hg,br]
 refine ⟨S,⟨rfl,hS⟩,?_⟩
 exact Y50
def og (S:Sch) (t:STable):Bool:=(t.keys.all fun k=>bv S k.field)&&((t.actions.all fun a=>fq S a)&&t.actions.contains t.dflt)
def LG:PCt
 |[.agg l,x],_,K=>∃ (S:Sch) (t:STable),(l=aS S∧x=ax t∧SLen S∧t.keys.length≤1000000∧t.actions.length≤1000000)∧K (.bool (og S t))
 |_,_,_=>False
theorem MT:EPp 134 LG:=by
 refine Ype fun _ H K h=>?_
 unfold LG at h
 split at h<;>try exact h.elim
 rename_i l x
 obtain ⟨S,t,⟨rfl,rfl,hS,hkl,hal⟩,hK⟩:=h
 refine ⟨_,hK,?_⟩
 clear hK
 generalize hR:og S t=R
 unfold og at hR
 unfold ax
 refine Yfu aC (tCq zj (tCq uo (tCq rT tNq))) Tryz.func134 [.tmp 4] fun hcl=>?_
 unfold aS
 try simp only [aF,go_sem,kM,eL,iA,inL]
 refine ⟨t.keys,(fun k=>bv S k.field),⟨rfl,hkl,fun x hx H' hle' hcl'=>clB Hr ⟨x,S,⟨rfl,hle'.get _ _ (by (try simp only [go_sem]);first|done|rfl),hS⟩,rfl⟩⟩,?_⟩
 cases k1:t.keys.all (fun k=>bv S k.field) with
 |false =>
  simp only [k1,tfB,if_true,if_false,reduceCtorEq] at hR
  subst hR
  try simp only [aF,go_sem,kM,eL,iA,inL,k1]
  exact Z1
 |true =>
  try simp only [aF,go_sem,kM,eL,iA,inL,k1]
  refine ⟨t.actions,(fun a=>fq S a),⟨rfl,hal,fun x hx H' hle' hcl'=>clB CS ⟨S,⟨rfl,hS⟩,rfl⟩⟩,?_⟩
  cases k2:t.actions.all (fun a=>fq S a) with
  |false =>
   simp only [k1,k2,tfB,if_true,if_false,reduceCtorEq] at hR
   subst hR
   try simp only [aF,go_sem,kM,eL,iA,inL,k1,k2]
   exact Z1
  |true =>
   try simp only [aF,go_sem,kM,eL,iA,inL,k1,k2]
   refine ⟨t.actions,⟨rfl,hal⟩,?_⟩
   cases k3:t.actions.contains t.dflt with
   |false =>
    exact Y125
   |true =>
    exact Y125
theorem uu {α:Type} (q:α→Bool) (l:List α):(ixP q l 0 = -1∧l.find? q=none)∨∃ (i:Nat) (x:α),ixP q l 0=(i:Int)∧l[i]?=some x∧l.find? q=some x∧i<l.length:=by
 obtain ⟨b1,b2⟩:=Bj (q:=q) (l:=l) (k:=0)
 rcases b2 with b2|b2
 ·exact .inl ⟨b2,z8 b2⟩
 ·obtain ⟨i,hi⟩:∃ i:Nat,ixP q l 0=((0+i:Nat):Int):=⟨(ixP q l 0).toNat,by omega⟩
  obtain ⟨x,h1,h2,h3⟩:=yH hi
  rw [nzq] at hi
  refine .inr ⟨i,x,hi,h1,h3,?_⟩
  rcases Nat.lt_or_ge i l.length with h|h
  ·exact h
  ·rw [gNq h] at h1;cases h1
def nz (S:Sch) (x:SRef):Bool :=
 match S.tables.find? (fun t=>t.id==x.table),S.tables.find? (fun t=>t.id==x.toTable) with
 |some a,some b=>decide (x.toKey<(b.keys.length:Int))&&(if x.action==0 then decide (x.key<(a.keys.length:Int)) else a.actions.contains x.action&&(match S.actions.find? (fun t=>t.id==x.action) with|some c=>decide (x.param<(c.params.length:Int))|none=>false))
 |_,_=>false
def J1:PCt
 |[.agg l,x],_,K=>∃ (S:Sch) (t:SRef),(l=aS S∧x=bh t∧SB S∧∀ t∈S.tables,∀ a∈t.actions,fq S a=true)∧K (.bool (nz S t))
 |_,_,_=>False
theorem ok_fRef:EPp 143 J1:=by
 refine Ype fun _ H K h=>?_
 unfold J1 at h
 split at h<;>try exact h.elim
 rename_i l x
 obtain ⟨S,r,⟨rfl,rfl,hS,hA⟩,hK⟩:=h
 refine ⟨_,hK,?_⟩
 clear hK
 generalize hR:nz S r=R
 unfold nz at hR
 unfold bh
 have htl:=hS.sl.tl
 have hsl:=hS.sl.al
 rcases uu (fun t:STable=>t.id==r.table) S.tables with ⟨i1,f1⟩|⟨i,a,i1,g1,f1,l1⟩
 ·simp only [f1] at hR
  subst hR
  have d1:decide ((-1:Int)<0)=true:=rfl
  refine Yfw aC (tCq iR (tCq rT (tCq jH tNq))) Tryz.func143 [.tmp 4] (nrq _) (T:=aA [(1,[[],[],[],[],[1,3],[],[],[],[],[1,3,4,6,8]]),(6,[[],[],[],[],[],[],[],[],[],[2,6,8],[],[],[9],[],[],[9],[],[9],[],[9],[2,6,8,9,17,19],[],[],[9,20]])]) (h:=fun hcl=>?_)
  unfold aS
  simp only [go_sem,fh,iA,ii,i1]
  refine ⟨S,⟨rfl,htl⟩,?_⟩
  simp only [aF,go_sem,fh,i1]
  refine ⟨S,⟨rfl,htl⟩,?_⟩
  simp only [aF,go_sem,i1,d1]
  exact Z1
 ·have d1:decide ((i:Int)<0)=false:=dfq (by omega)
  rcases uu (fun t:STable=>t.id==r.toTable) S.tables with ⟨i2,f2⟩|⟨j,b,i2,g2,f2,l2⟩
  ·simp only [f1,f2] at hR
   subst hR
   have d2:decide ((-1:Int)<0)=true:=rfl
   refine Yfw aC (tCq iR (tCq rT (tCq jH tNq))) Tryz.func143 [.tmp 4] (nrq _) (T:=aA [(1,[[],[],[],[],[1,3],[],[],[],[],[1,3,4,6,8]]),(6,[[],[],[],[],[],[],[],[],[],[2,6,8],[],[],[9],[],[],[9],[],[9],[],[9],[2,6,8,9,17,19],[],[],[9,20]])]) (h:=fun hcl=>?_)
   unfold aS
   simp only [go_sem,fh,iA,ii,i1]
   refine ⟨S,⟨rfl,htl⟩,?_⟩
   simp only [aF,go_sem,fh,i1,i2]
   refine ⟨S,⟨rfl,htl⟩,?_⟩
   simp only [aF,go_sem,i1,i2,d1,d2]
   exact Z1
  ·simp only [f1,f2] at hR
   have d2:decide ((j:Int)<0)=false:=dfq (by omega)
   have ga:=aV (f:=ax) (l:=S.tables) (k:=i) (x:=a) g1
   have gb:=aV (f:=ax) (l:=S.tables) (k:=j) (x:=b) g2
   have hca:ax a=.agg [.int .i64 a.id,.str a.name,.slice .any 3 (a.keys.map aY),.slice .any 1 (inL a.actions),.int .i64 a.dflt,.slice .any 2 (a.dargs.map vv),.int .i64 a.size,.str a.restr]:=rfl
   have hcb:ax b=.agg [.int .i64 b.id,.str b.name,.slice .any 3 (b.keys.map aY),.slice .any 1 (inL b.actions),.int .i64 b.dflt,.slice .any 2 (b.dargs.map vv),.int .i64 b.size,.str b.restr]:=rfl
   rw [hca] at ga
   rw [hcb] at gb
   have hma:a∈S.tables:=List.mem_of_getElem? g1
   obtain ⟨c0,h0⟩:∃ c,decide (r.toKey<(b.keys.length:Int))=c:=⟨_,rfl⟩
   have d0:decide (r.toKey ≥ (b.keys.length:Int))=!c0:=by
    exact Y94
   rw [h0] at hR
   refine Yfw aC (tCq iR (tCq rT (tCq jH tNq))) Tryz.func143 [.tmp 4] (nrq _) (T:=aA [(1,[[],[],[],[],[1,3],[],[],[],[],[1,3,4,6,8]]),(6,[[],[],[],[],[],[],[],[],[],[2,6,8],[],[],[9],[],[],[9],[],[9],[],[9],[2,6,8,9,17,19],[],[],[9,20]])]) (h:=fun hcl=>?_)
   unfold aS
   simp only [go_sem,fh,iA,ii,i1]
   refine ⟨S,⟨rfl,htl⟩,?_⟩
   simp only [aF,go_sem,fh,i1,i2]
   refine ⟨S,⟨rfl,htl⟩,?_⟩
   simp only [aF,go_sem,i1,i2,d1,d2,gb,d0,iNq,ybb]
   refine Tq4 ?_
   cases c0 with
   |false =>
    rw [Bool.false_and] at hR
    subst hR
    refine Tq27 ?_
    exact Y8
   |true =>
    rw [Bool.true_and] at hR
    cases ca:r.action==0 with
    |true =>
     rw [ca,if_pos rfl] at hR
     subst hR
     try simp only [go_sem,ca,ga,iNq,ybb]
     exact Y8
    |false =>
     rw [ca,if_neg Bool.false_ne_true] at hR
     try simp only [go_sem,ca,ga,iNq,ybb]
     refine Tq4 ?_
     have hal:=(hS.tn a hma).2.2.1
     refine ⟨a.actions,⟨rfl,hal⟩,?_⟩
     cases cc:a.actions.contains r.action with
     |false =>
      rw [cc,Bool.false_and] at hR
      subst hR
      simp only [aF,go_sem,cc]
      exact Y8
     |true =>
      rw [cc,Bool.true_and] at hR
      have hmem:r.action∈a.actions:=by simpa using cc
      have hany:=hA a hma _ hmem
      rcases uu (fun t:SAction=>t.id==r.action) S.actions with ⟨_,f3⟩|⟨m,c,i3,g3,f3,l3⟩
      ·exact Y95
      ·simp only [f3] at hR
       subst hR
       have gc:=aV (f:=ap) (l:=S.actions) (k:=m) (x:=c) g3
       have hcc:ap c=.agg [.int .i64 c.id,.str c.name,.slice .any 2 (c.params.map aK),.slice .any 6 (c.body.map aT),.str c.restr]:=rfl
       rw [hcc] at gc
       simp only [aF,go_sem,cc,ii]
       refine ⟨S,⟨rfl,hsl⟩,?_⟩
       simp only [aF,go_sem,i3,gc,iNq,ybb]
       exact Y8
def uG (S:Sch) (t:SHeader):Bool:=t.fields.all fun n=>bv S n
def Ci (S:Sch) (t:SAction):Bool:=t.body.all fun p=>oq S t.params.length p
def wq (S:Sch) (t:SStage):Bool:=gF S t.table&&(t.header==0||fu S t.header)
def tF (S:Sch) (t:SRole):Bool:=(t.grants.all fun g=>gF S g.table)&&t.actions.all fun a=>fq S a
def Pq:PCt
 |[x,.ptr c 0],H,K=>∃ (t:SHeader) (S:Sch),(x=az t∧H.get c=some (.cells (aS S))∧SLen S∧t.fields.length≤1000000)∧K (.bool (uG S t))
 |_,_,_=>False
theorem P9:EPp 128 Pq:=by
 refine Ype fun _ H K h=>?_
 unfold Pq at h
 split at h<;>try exact h.elim
 rename_i x c
 obtain ⟨t,S,⟨rfl,hg,hS,hfl⟩,hK⟩:=h
 refine ⟨_,hK,?_⟩
 clear hK
 have hl:=glq hg
 have hne:(c=H.nx)=False:=eFo
 have hcs:=aM hg
 have hgS:=hg
 generalize hR:(uG S t)=R
 unfold uG at hR
 unfold az
 unfold aS at hg hcs
 refine Yfu aC (tCq uo tNq) Tryz.func128 [.tmp 3] fun hcl=>?_
 refine Tq30 ?_
 refine ⟨t.fields,(fun n=>bv S n),⟨rfl,hfl,fun x hx H' hle' hcl'=>clB rH ⟨S,⟨rfl,hS⟩,rfl⟩⟩,?_⟩
 cases k1:t.fields.all (fun n=>bv S n) with
 |false =>
  exact Y35
 |true =>
  exact Y35
def PL:PCt
 |[x,.ptr c 0],H,K=>∃ (t:SStage) (S:Sch),(x=aO t∧H.get c=some (.cells (aS S))∧SLen S)∧K (.bool (wq S t))
 |_,_,_=>False
theorem Qx:EPp 136 PL:=by
 refine Ype fun _ H K h=>?_
 unfold PL at h
 split at h<;>try exact h.elim
 rename_i x c
 obtain ⟨t,S,⟨rfl,hg,hS⟩,hK⟩:=h
 refine ⟨_,hK,?_⟩
 clear hK
 have hl:=glq hg
 have hne:(c=H.nx)=False:=eFo
 have hcs:=aM hg
 have hgS:=hg
 generalize hR:(wq S t)=R
 unfold wq at hR
 unfold aO
 unfold aS at hg hcs
 refine Yfu aC (tCq D6 (tCq yq tNq)) Tryz.func136 [.tmp 3] fun hcl=>?_
 refine Tq30 ?_
 refine ⟨S,⟨rfl,hS⟩,?_⟩
 cases k1:gF S t.table with
 |false =>
  exact Y35
 |true =>
  cases k2:t.header==0 with
  |true =>
   exact Y68
  |false =>
   try simp only [aF,go_sem,hcs,hne,hg,inL,eL,ib,bH,dU,dD,br,k1,k2]
   refine ⟨S,⟨rfl,hS⟩,?_⟩
   cases k3:fu S t.header with
   |false =>
    exact Y104
   |true =>
    exact Y104
def Gg:PCt
 |[x,.ptr c 0],H,K=>∃ (t:SGrant) (S:Sch),(x=aJ t∧H.get c=some (.cells (aS S))∧SLen S)∧K (.bool (gF S t.table))
 |_,_,_=>False
theorem NU:EPp 141 Gg:=by
 refine Ype fun _ H K h=>?_
 unfold Gg at h
 split at h<;>try exact h.elim
 rename_i x c
 obtain ⟨t,S,⟨rfl,hg,hS⟩,hK⟩:=h
 refine ⟨_,hK,?_⟩
 clear hK
 have hl:=glq hg
 have hne:(c=H.nx)=False:=eFo
 have hcs:=aM hg
 have hgS:=hg
 generalize hR:(gF S t.table)=R
 skip
 unfold aJ
 unfold aS at hg hcs
 refine Yfu aC (tCq D6 tNq) Tryz.func141 [.tmp 3] fun hcl=>?_
 refine Tq30 ?_
 refine ⟨S,⟨rfl,hS⟩,?_⟩
 cases k1:gF S t.table with
 |false =>
  exact Y35
 |true =>
  exact Y35
def PX:PCt
 |[x,.ptr c 0],H,K=>∃ (t:SRole) (S:Sch),(x=aN t∧H.get c=some (.cells (aS S))∧SLen S∧t.grants.length≤1000000∧t.actions.length≤1000000)∧K (.bool (tF S t))
 |_,_,_=>False
theorem P6:EPp 139 PX:=by
 refine Ype fun _ H K h=>?_
 unfold PX at h
 split at h<;>try exact h.elim
 rename_i x c
 obtain ⟨t,S,⟨rfl,hg,hS,hgl,hal⟩,hK⟩:=h
 refine ⟨_,hK,?_⟩
 clear hK
 have hl:=glq hg
 have hne:(c=H.nx)=False:=eFo
 have hcs:=aM hg
 have hgS:=hg
 generalize hR:(tF S t)=R
 unfold tF at hR
 unfold aN
 unfold aS at hg hcs
 refine Yfu aC (tCq Ad (tCq uo tNq)) Tryz.func139 [.tmp 3] fun hcl=>?_
 refine Tq30 ?_
 refine ⟨t.grants,(fun g=>gF S g.table),⟨rfl,hgl,fun x hx H' hle' hcl'=>clB NU ⟨x,S,⟨rfl,hle'.get _ _ (by rw [zlh,if_neg (by omega)];exact hgS),hS⟩,rfl⟩⟩,?_⟩
 cases k1:t.grants.all (fun g=>gF S g.table) with
 |false =>
  exact Y35
 |true =>
  try simp only [aF,go_sem,hcs,hne,hg,inL,eL,ib,bH,dU,dD,br,k1]
  refine ⟨t.actions,(fun a=>fq S a),⟨rfl,hal,fun x hx H' hle' hcl'=>clB CS ⟨S,⟨rfl,hS⟩,rfl⟩⟩,?_⟩
  cases k2:t.actions.all (fun a=>fq S a) with
  |false =>
   exact Y68
  |true =>
   exact Y68
def HN:PCt
 |[x,.ptr c 0,.ptr d 0],H,K=>∃ (t:SPrim) (a:SAction) (S:Sch) (cs:List AV),(x=aT t∧H.get c=some (.cells (aS S))∧H.get d=some (.cells cs)∧ap a=.agg cs∧SLen S)∧K (.bool (oq S a.params.length t))
 |_,_,_=>False
theorem N9:EPp 132 HN:=by
 refine Ype fun _ H K h=>?_
 unfold HN at h
 split at h<;>try exact h.elim
 rename_i x c d
 obtain ⟨t,a,S,cs,⟨rfl,hg,hgd,hac,hS⟩,hK⟩:=h
 refine ⟨_,hK,?_⟩
 clear hK
 unfold ap at hac
 cases hac
 have hl:=glq hg
 have hne:(c=H.nx)=False:=eFo
 have hcs:=aM hg
 have hl2:=glq hgd
 have hne2:(d=H.nx)=False:=eFo
 have hcs2:=aM hgd
 generalize hR:(oq S a.params.length t)=R
 unfold aT vc
 unfold aS at hg hcs
 refine Yfu aC (tCq Mg tNq) Tryz.func132 [.tmp 4] fun hcl=>?_
 simp only [go_sem,hcs,hne,hg,hcs2,hne2,hgd,BV]
 refine ⟨S,a,t,⟨rfl,rfl,rfl,hS⟩,?_⟩
 exact Y50
def PZ:PCt
 |[x,.ptr c 0],H,K=>∃ (t:SAction) (S:Sch),(x=ap t∧H.get c=some (.cells (aS S))∧SLen S∧t.body.length≤1000000)∧K (.bool (Ci S t))
 |_,_,_=>False
theorem Rj:EPp 131 PZ:=by
 refine Ype fun _ H K h=>?_
 unfold PZ at h
 split at h<;>try exact h.elim
 rename_i x c
 obtain ⟨t,S,⟨rfl,hg,hS,hbl⟩,hK⟩:=h
 refine ⟨_,hK,?_⟩
 clear hK
 have hl:=glq hg
 have hne:(c=H.nx)=False:=eFo
 have hcs:=aM hg
 have hgS:=hg
 generalize hR:(Ci S t)=R
 unfold Ci at hR
 unfold ap
 unfold aS at hg hcs
 refine Yfu aC (tCq vO tNq) Tryz.func131 [.tmp 3] fun hcl=>?_
 refine Tq30 ?_
 refine ⟨t.body,(fun p=>oq S t.params.length p),⟨rfl,hbl,fun x hx H' hle' hcl'=>clB N9 ⟨x,t,S,_,⟨rfl,hle'.get _ _ (by rw [zlh,if_neg (by omega)];exact hgS),hle'.get _ _ (AHeap.get_push_new _ _),rfl,hS⟩,rfl⟩⟩,?_⟩
 cases k1:t.body.all (fun p=>oq S t.params.length p) with
 |false =>
  exact Y35
 |true =>
  exact Y35
def kK (S:Sch):Bool:=bv S 1&&(bv S 2&&(S.headers.all (uG S)&&(S.states.all (rS S)&&(S.actions.all (Ci S)&&(S.tables.all (og S)&&(S.stages.all (wq S)&&(S.roles.all (tF S)&&S.refs.all (nz S))))))))
def nD:PCt
 |[.agg l],_,K=>∃ S:Sch,(l=aS S∧SB S)∧K (.bool (kK S))
 |_,_,_=>False
theorem FC:EPp 35 nD:=by
 refine Ype fun _ H K h=>?_
 unfold nD at h
 split at h<;>try exact h.elim
 rename_i l
 obtain ⟨S,⟨rfl,hB⟩,hK⟩:=h
 refine ⟨_,hK,?_⟩
 clear hK
 have hS:=hB.sl
 generalize hR:kK S=R
 unfold kK at hR
 refine Yfu aC (tCq rH (tCq re (tCq rQ (tCq pi (tCq nS (tCq Gi (tCq pt (tCq rA tNq)))))))) Tryz.func35 [.tmp 2] fun hcl=>?_
 unfold aS
 try simp only [aF,go_sem,br,b8,cu,bS,b6,gB,cE,cQ]
 refine ⟨S,⟨rfl,hS⟩,?_⟩
 cases k1:bv S 1 with
 |false =>
  simp only [k1,tfB,if_true,if_false,reduceCtorEq] at hR
  subst hR
  try simp only [aF,go_sem,br,b8,cu,bS,b6,gB,cE,cQ,k1]
  exact Z1
 |true =>
  try simp only [aF,go_sem,br,b8,cu,bS,b6,gB,cE,cQ,k1]
  refine ⟨S,⟨rfl,hS⟩,?_⟩
  cases k2:bv S 2 with
  |false =>
   simp only [k1,k2,tfB,if_true,if_false,reduceCtorEq] at hR
   subst hR
   try simp only [aF,go_sem,br,b8,cu,bS,b6,gB,cE,cQ,k1,k2]
   exact Z1
  |true =>
   try simp only [aF,go_sem,br,b8,cu,bS,b6,gB,cE,cQ,k1,k2]
   refine ⟨S.headers,uG S,⟨rfl,hS.hl,fun x hx H' hle' hcl'=>clB P9 ⟨x,S,⟨rfl,hle'.get _ _ (by (try simp only [go_sem]);first|done|rfl),hS,(hB.hn x hx).2⟩,rfl⟩⟩,?_⟩
   cases k3:S.headers.all (uG S) with
   |false =>
    simp only [k1,k2,k3,tfB,if_true,if_false,reduceCtorEq] at hR
    subst hR
    try simp only [aF,go_sem,br,b8,cu,bS,b6,gB,cE,cQ,k1,k2,k3]
    exact Z1
   |true =>
    try simp only [aF,go_sem,br,b8,cu,bS,b6,gB,cE,cQ,k1,k2,k3]
    refine ⟨S.states,rS S,⟨rfl,hS.sl,fun x hx H' hle' hcl'=>clB Nn ⟨S,x,⟨rfl,rfl,hS,hB.sn x hx⟩,rfl⟩⟩,?_⟩
    cases k4:S.states.all (rS S) with
    |false =>
     simp only [k1,k2,k3,k4,tfB,if_true,if_false,reduceCtorEq] at hR
     subst hR
     try simp only [aF,go_sem,br,b8,cu,bS,b6,gB,cE,cQ,k1,k2,k3,k4]
     exact Z1
    |true =>
     try simp only [aF,go_sem,br,b8,cu,bS,b6,gB,cE,cQ,k1,k2,k3,k4]
     refine ⟨S.actions,Ci S,⟨rfl,hS.al,fun x hx H' hle' hcl'=>clB Rj ⟨x,S,⟨rfl,hle'.get _ _ (by (try simp only [go_sem]);first|done|rfl),hS,(hB.an x hx).2.2.1⟩,rfl⟩⟩,?_⟩
     cases k5:S.actions.all (Ci S) with
     |false =>
      simp only [k1,k2,k3,k4,k5,tfB,if_true,if_false,reduceCtorEq] at hR
      subst hR
      try simp only [aF,go_sem,br,b8,cu,bS,b6,gB,cE,cQ,k1,k2,k3,k4,k5]
      exact Z1
     |true =>
      try simp only [aF,go_sem,br,b8,cu,bS,b6,gB,cE,cQ,k1,k2,k3,k4,k5]
      refine ⟨S.tables,og S,⟨rfl,hS.tl,fun x hx H' hle' hcl'=>clB MT ⟨S,x,⟨rfl,rfl,hS,(hB.tn x hx).2.1,(hB.tn x hx).2.2.1⟩,rfl⟩⟩,?_⟩
      cases k6:S.tables.all (og S) with
      |false =>
       simp only [k1,k2,k3,k4,k5,k6,tfB,if_true,if_false,reduceCtorEq] at hR
       subst hR
       try simp only [aF,go_sem,br,b8,cu,bS,b6,gB,cE,cQ,k1,k2,k3,k4,k5,k6]
       exact Z1
      |true =>
       try simp only [aF,go_sem,br,b8,cu,bS,b6,gB,cE,cQ,k1,k2,k3,k4,k5,k6]
       refine ⟨S.stages,wq S,⟨rfl,hB.gl,fun x hx H' hle' hcl'=>clB Qx ⟨x,S,⟨rfl,hle'.get _ _ (by (try simp only [go_sem]);first|done|rfl),hS⟩,rfl⟩⟩,?_⟩
       cases k7:S.stages.all (wq S) with
       |false =>
        simp only [k1,k2,k3,k4,k5,k6,k7,tfB,if_true,if_false,reduceCtorEq] at hR
        subst hR
        try simp only [aF,go_sem,br,b8,cu,bS,b6,gB,cE,cQ,k1,k2,k3,k4,k5,k6,k7]
        exact Z1
       |true =>
        try simp only [aF,go_sem,br,b8,cu,bS,b6,gB,cE,cQ,k1,k2,k3,k4,k5,k6,k7]
        refine ⟨S.roles,tF S,⟨rfl,hS.rl,fun x hx H' hle' hcl'=>clB P6 ⟨x,S,⟨rfl,hle'.get _ _ (by (try simp only [go_sem]);first|done|rfl),hS,(hB.rn x hx).2.1,(hB.rn x hx).2.2.1⟩,rfl⟩⟩,?_⟩
        cases k8:S.roles.all (tF S) with
        |false =>
         simp only [k1,k2,k3,k4,k5,k6,k7,k8,tfB,if_true,if_false,reduceCtorEq] at hR
         subst hR
         try simp only [aF,go_sem,br,b8,cu,bS,b6,gB,cE,cQ,k1,k2,k3,k4,k5,k6,k7,k8]
         exact Z1
        |true =>
         try simp only [aF,go_sem,br,b8,cu,bS,b6,gB,cE,cQ,k1,k2,k3,k4,k5,k6,k7,k8]
         refine ⟨S.refs,nz S,⟨rfl,hB.xl,fun x hx H' hle' hcl'=>by
          obtain ⟨v,hv,hc'⟩:=ok_fRef.1 rfl [.agg (aS S),bh x] H' (fun v=>v=.bool (nz S x)) ⟨S,x,⟨rfl,rfl,hB,fun t ht a ha=>by
           have h1:=List.all_eq_true.1 k6 t ht
           unfold og at h1
           simp only [Bool.and_eq_true] at h1
           exact List.all_eq_true.1 h1.2.1 a ha⟩,rfl⟩
          subst hv
          exact hc'⟩,?_⟩
         cases k9:S.refs.all (nz S) with
         |false =>
          exact Y85
         |true =>
          exact Y85
theorem lH {α:Type} {q:α→Bool} {l:List α} {x:α} (h:l.find? q=some x):∃ i:Nat,ixP q l 0=(i:Int)∧l[i]?=some x∧i<l.length:=by
 rcases uu q l with ⟨_,h2⟩|⟨i,y,h1,h2,h3,h4⟩
 ·rw [h2] at h;cases h
 ·rw [h3] at h;cases h;exact ⟨i,h1,h2,h4⟩
def cS:PCt
 |[.agg l,.int .i64 n],_,K=>∃ (S:Sch) (x:SField),(l=aS S∧SLen S∧S.fields.find? (fun t=>t.id==n)=some x)∧K (.int .i64 x.bits)
 |_,_,_=>False
theorem pq:EPp 146 cS:=by
 refine Ype fun _ H K h=>?_
 unfold cS at h
 split at h<;>try exact h.elim
 rename_i l n
 obtain ⟨S,x,⟨rfl,hS,hx⟩,hK⟩:=h
 refine ⟨_,hK,?_⟩
 clear hK
 obtain ⟨i,i1,g1,l1⟩:=lH hx
 have ga:=aV (f:=aH) (l:=S.fields) (k:=i) (x:=x) g1
 have hca:aH x=.agg [.int .i64 x.id,.str x.name,.int .i64 x.bits]:=rfl
 rw [hca] at ga
 refine Yfw aC (tCq th tNq) Tryz.func146 [.tmp 4] (nrq _) (T:=aA [(1,[[],[],[],[],[2],[],[],[4]])]) (h:=fun hcl=>?_)
 unfold aS
 simp only [go_sem,nW]
 refine ⟨S,⟨rfl,hS.fl⟩,?_⟩
 simp only [aF,go_sem,i1,ga,iNq,ybb]
 exact Y8
theorem wX {P:Program} {H1 H:AHeap} {fr:Fr} {x:AV} {t s:Nat} {ty uy:TypeId}:ia P [.cell t ty,.cell s uy] (.ret x) H1 fr H=match zjg P ty (Fr.get fr t) H with|some r=>r.c∧(match zjg P uy (Fr.get fr s) H with|some q=>q.c∧ag H (.tup [r.v,q.v]) H1 x|none=>False)|none=>False:=by
 simp only [ia,nt,qR]
 cases zjg P ty (Fr.get fr t) H with
 |none=>rfl
 |some r =>
  cases zjg P uy (Fr.get fr s) H with
  |none=>simp
  |some q=>simp [one,and_assoc]
def qj:SKey:=⟨[],0,0⟩
def tI:PCt
 |[.agg l,x],_,K=>∃ (S:Sch) (r:SRef) (b:STable) (ka kb:SKey),(l=aS S∧x=bh r∧SLen S∧S.tables.find? (fun t=>t.id==r.toTable)=some b∧0≤r.toKey∧b.keys[r.toKey.toNat]?=some kb ∧
   (if r.action==0 then ∃ a,S.tables.find? (fun t=>t.id==r.table)=some a∧0≤r.key∧a.keys[r.key.toNat]?=some ka else ka=qj))∧K (.tup [aY ka,aY kb])
 |_,_,_=>False
theorem AF:EPp 145 tI:=by
 refine Ype fun _ H K h=>?_
 unfold tI at h
 split at h<;>try exact h.elim
 rename_i l x
 obtain ⟨S,r,b,ka,kb,⟨rfl,rfl,hS,hb,hp,hkb,hka⟩,hK⟩:=h
 refine ⟨_,hK,?_⟩
 clear hK
 unfold bh
 obtain ⟨j,j1,g2,l2⟩:=lH hb
 have gb:=aV (f:=ax) (l:=S.tables) (k:=j) (x:=b) g2
 have hcb:ax b=.agg [.int .i64 b.id,.str b.name,.slice .any 3 (b.keys.map aY),.slice .any 1 (inL b.actions),.int .i64 b.dflt,.slice .any 2 (b.dargs.map vv),.int .i64 b.size,.str b.restr]:=rfl
 rw [hcb] at gb
 have gkb:=aV (f:=aY) (l:=b.keys) (k:=r.toKey.toNat) (x:=kb) hkb
 have hkb':aY kb=.agg [.str kb.name,.int .i64 kb.field,.int .i64 kb.kind]:=rfl
 rw [hkb'] at gkb ⊢
 have hlb:r.toKey.toNat<b.keys.length:=by
  rcases Nat.lt_or_ge r.toKey.toNat b.keys.length with h|h
  ·exact h
  ·rw [gNq h] at hkb;cases hkb
 cases ca:r.action==0 with
 |false =>
  rw [ca,if_neg Bool.false_ne_true] at hka
  subst hka
  unfold qj aY
  refine Yfw aC (tCq iR tNq) Tryz.func145 [.cell 4 53,.cell 5 53] (nrq _) (T:=aA [(2,[[],[],[],[],[],[2,4],[],[],[5],[],[],[],[5],[1,2,4,5,8,10,12]]),(3,[[],[],[],[],[],[],[3,5],[],[],[6],[],[],[],[6],[0,3,5,6],[0,2,3,5,6,9,11,13]])]) (h:=fun hcl=>?_)
  unfold aS
  simp only [go_sem,ca,fh]
  exact Y91
 |true =>
  rw [ca,if_pos rfl] at hka
  obtain ⟨a,ha,hp2,hka⟩:=hka
  obtain ⟨i,i1,g1,l1⟩:=lH ha
  have ga:=aV (f:=ax) (l:=S.tables) (k:=i) (x:=a) g1
  have hca:ax a=.agg [.int .i64 a.id,.str a.name,.slice .any 3 (a.keys.map aY),.slice .any 1 (inL a.actions),.int .i64 a.dflt,.slice .any 2 (a.dargs.map vv),.int .i64 a.size,.str a.restr]:=rfl
  rw [hca] at ga
  have gka:=aV (f:=aY) (l:=a.keys) (k:=r.key.toNat) (x:=ka) hka
  have hka':aY ka=.agg [.str ka.name,.int .i64 ka.field,.int .i64 ka.kind]:=rfl
  rw [hka'] at gka ⊢
  have hla:r.key.toNat<a.keys.length:=by
   rcases Nat.lt_or_ge r.key.toNat a.keys.length with h|h
   ·exact h
   ·rw [gNq h] at hka;cases hka
  refine Yfw aC (tCq iR tNq) Tryz.func145 [.cell 4 53,.cell 5 53] (nrq _) (T:=aA [(2,[[],[],[],[],[],[2,4],[],[],[5],[],[],[],[5],[1,2,4,5,8,10,12]]),(3,[[],[],[],[],[],[],[3,5],[],[],[6],[],[],[],[6],[0,3,5,6],[0,2,3,5,6,9,11,13]])]) (h:=fun hcl=>?_)
  unfold aS
  simp only [go_sem,ca,fh]
  refine ⟨S,⟨rfl,hS.tl⟩,?_⟩
  simp only [aF,go_sem,i1,ga,gka,iNq,ybb,fh]
  refine ⟨⟨by omega,by omega⟩,⟨by omega,by omega⟩,?_⟩
  try simp only [aF,go_sem,fh]
  exact Y91
def mr (S:Sch) (r:SRef):SKey:=((S.tables.find? fun t=>t.id==r.toTable).bind fun b=>b.keys[r.toKey.toNat]?).getD qj
def nB (S:Sch) (r:SRef):SKey:=if r.action==0 then ((S.tables.find? fun t=>t.id==r.table).bind fun b=>b.keys[r.key.toNat]?).getD qj else qj
def pF (S:Sch) (r:SRef):Prop:=nz S r=true∧0≤r.key∧0≤r.toKey∧0≤r.param
theorem nX {S:Sch} {r:SRef} (h:pF S r):∃ b,S.tables.find? (fun t=>t.id==r.toTable)=some b∧0≤r.toKey∧b.keys[r.toKey.toNat]?=some (mr S r) ∧
 (if r.action==0 then ∃ a,S.tables.find? (fun t=>t.id==r.table)=some a∧0≤r.key∧a.keys[r.key.toNat]?=some (nB S r) else nB S r=qj):=by
 obtain ⟨h,h1,h2,_⟩:=h
 unfold nz at h
 cases fa:S.tables.find? (fun t=>t.id==r.table) with
 |none=>rw [fa] at h;cases h
 |some a =>
  cases fb:S.tables.find? (fun t=>t.id==r.toTable) with
  |none=>rw [fa,fb] at h;cases h
  |some b =>
   rw [fa,fb] at h
   simp only [Bool.and_eq_true,decide_eq_true_eq] at h
   obtain ⟨h3,h4⟩:=h
   have e1:b.keys[r.toKey.toNat]?=some (mr S r):=by
    unfold mr
    rw [fb]
    have hl:r.toKey.toNat<b.keys.length:=by omega
    simp only [Option.bind_some]
    rw [gQq hl];rfl
   refine ⟨b,rfl,h2,e1,?_⟩
   cases ca:r.action==0 with
   |false =>
    rw [if_neg Bool.false_ne_true]
    unfold nB
    rw [ca,if_neg Bool.false_ne_true]
   |true =>
    rw [ca,if_pos rfl] at h4
    rw [if_pos rfl]
    refine ⟨a,rfl,h1,?_⟩
    unfold nB
    rw [ca,if_pos rfl,fa]
    have hl:r.key.toNat<a.keys.length:=by simp only [decide_eq_true_eq] at h4;omega
    simp only [Option.bind_some]
    rw [gQq hl];rfl
def exB (S:Sch) (r:SRef):Bool:=(mr S r).kind==1&&(r.action != 0||(nB S r).kind==1)
def PY:PCt
 |[x,.ptr c 0],H,K=>∃ (r:SRef) (S:Sch),(x=bh r∧H.get c=some (.cells (aS S))∧SLen S∧pF S r)∧K (.bool (exB S r))
 |_,_,_=>False
theorem Qh:EPp 144 PY:=by
 refine Ype fun _ H K h=>?_
 unfold PY at h
 split at h<;>try exact h.elim
 rename_i x c
 obtain ⟨r,S,⟨rfl,hg,hS,hr⟩,hK⟩:=h
 refine ⟨_,hK,?_⟩
 clear hK
 have hl:=glq hg
 have hne:(c=H.nx)=False:=eFo
 have hcs:=aM hg
 generalize hR:exB S r=R
 unfold exB at hR
 obtain ⟨b,e1,e2,e3,e4⟩:=nX hr
 unfold bh
 unfold aS at hg hcs
 refine Yfu aC (tCq AF tNq) Tryz.func144 [.tmp 3] fun hcl=>?_
 simp only [go_sem,hcs,hne,hg,tI]
 refine ⟨S,r,b,nB S r,mr S r,⟨rfl,rfl,hS,e1,e2,e3,e4⟩,?_⟩
 generalize mr S r=kb at *
 generalize nB S r=ka at *
 unfold aY
 cases c1:kb.kind==1 with
 |false =>
  simp only [c1,tfB,if_true,if_false,reduceCtorEq] at hR
  subst hR
  try simp only [go_sem,aF,hne,hg,hcs,c1]
  exact Y8
 |true =>
  cases c2:r.action != 0 with
  |false =>
   cases c3:ka.kind==1 with
   |false =>
    simp only [c1,c2,c3,tfB,if_true,if_false,reduceCtorEq] at hR
    subst hR
    try simp only [go_sem,aF,hne,hg,hcs,c1,c2,c3]
    exact Y8
   |true =>
    simp only [c1,c2,c3,tfB,if_true,if_false,reduceCtorEq] at hR
    subst hR
    try simp only [go_sem,aF,hne,hg,hcs,c1,c2,c3]
    exact Y8
  |true =>
   simp only [c1,c2,tfB,if_true,if_false,reduceCtorEq] at hR
   subst hR
   try simp only [go_sem,aF,hne,hg,hcs,c1,c2]
   exact Y8
def oU:PCt
 |[.agg l],_,K=>∃ S:Sch,(l=aS S∧SB S∧∀ r∈S.refs,pF S r)∧K (.bool (S.refs.all (exB S)))
 |_,_,_=>False
theorem Eq:EPp 36 oU:=by
 refine Ype fun _ H K h=>?_
 unfold oU at h
 split at h<;>try exact h.elim
 rename_i l
 obtain ⟨S,⟨rfl,hB,hr⟩,hK⟩:=h
 refine ⟨_,hK,?_⟩
 clear hK
 have hS:=hB.sl
 generalize hR:S.refs.all (exB S)=R
 refine Yfu aC (tCq rA tNq) Tryz.func36 [.tmp 2] fun hcl=>?_
 unfold aS
 try simp only [aF,go_sem,cQ]
 refine ⟨S.refs,exB S,⟨rfl,hB.xl,fun x hx H' hle' hcl'=>clB Qh ⟨x,S,⟨rfl,hle'.get _ _ (by (try simp only [go_sem]);first|done|rfl),hS,hr x hx⟩,rfl⟩⟩,?_⟩
 cases k1:S.refs.all (exB S) with
 |false =>
  exact Y139
 |true =>
  exact Y139
def btF (S:Sch) (n:Int):Int:=((S.fields.find? fun t=>t.id==n).getD ⟨0,[],0⟩).bits
theorem kA {S:Sch} {n:Int} (h:bv S n=true):∃ x,S.fields.find? (fun t=>t.id==n)=some x∧x.bits=btF S n:=by
 unfold bv at h
 rw [List.any_eq_true] at h
 obtain ⟨y,hy,h2⟩:=h
 cases hf:S.fields.find? (fun t=>t.id==n) with
 |none=>exact absurd h2 (by have:=List.find?_eq_none.1 hf y hy;simpa using this)
 |some x=>exact ⟨x,rfl,by unfold btF;rw [hf];rfl⟩
def ftV (v:Nat) (n:Int):Bool:=decide (((bl v:Nat):Int)≤n)
def nv (S:Sch) (a:SAction) (p:SPrim):Bool :=
 if kU p.op then
  if p.kind==1 then ftV p.value (if p.op==7 then 16 else btF S p.dst)
  else if p.kind==2 then decide (btF S p.n≤(if p.op==7 then 16 else btF S p.dst))
  else decide ((a.params.getD p.n.toNat ⟨[],0⟩).bits≤(if p.op==7 then 16 else btF S p.dst))
 else true
def Ig:PCt
 |[.agg l,x,y],_,K=>∃ (S:Sch) (a:SAction) (p:SPrim),(l=aS S∧x=ap a∧y=aT p∧SLen S∧p.value<2^128∧oq S a.params.length p=true∧fpB p=true∧0≤p.n)∧K (.bool (nv S a p))
 |_,_,_=>False
theorem P4:EPp 155 Ig:=by
 refine Ype fun _ H K h=>?_
 unfold Ig at h
 split at h<;>try exact h.elim
 rename_i l x y
 obtain ⟨S,a,p,⟨rfl,rfl,rfl,hS,hv,hk,hf,hn⟩,hK⟩:=h
 refine ⟨_,hK,?_⟩
 clear hK
 have iv:=pC hv
 have vb:=jV p.value
 generalize hR:nv S a p=R
 unfold nv at hR
 -- what is iH of the primitive
 have hd:kU p.op=true→(p.op==7)=false→bv S p.dst=true:=fun h1 h2=>by
  unfold kU at h1
  rw [h2,Bool.or_false] at h1
  unfold oq at hk
  rw [if_pos h1] at hk
  exact (Bool.and_eq_true _ _ ▸ hk).1
 have hsrc:kU p.op=true→(p.kind==2)=true→bv S p.n=true:=fun h1 h2=>by
  unfold oq at hk
  rw [h2] at hk
  simp only [if_true] at hk
  split at hk
  ·exact (Bool.and_eq_true _ _ ▸ hk).2
  ·split at hk
   ·exfalso
    unfold kU at h1
    simp_all
   ·exact hk
 have hpar:kU p.op=true→(p.kind==1)=false→(p.kind==2)=false→p.n.toNat<a.params.length:=fun h1 h2 h3=>by
  have h4:(p.kind==3)=true:=by
   unfold fpB at hf
   rw [h1,h2,h3] at hf
   simp only [if_true,Bool.false_eq_true,if_false,Bool.false_or,Bool.and_eq_true] at hf
   exact hf.2.2.1
  unfold oq at hk
  rw [h3,h4] at hk
  simp only [if_true,Bool.false_eq_true,if_false] at hk
  split at hk
  ·have:=(Bool.and_eq_true _ _ ▸ hk).2
   simp only [decide_eq_true_eq] at this
   omega
  ·split at hk
   ·exfalso
    unfold kU at h1
    simp_all
   ·simp only [decide_eq_true_eq] at hk
    omega
 unfold ap aT vc
 refine Yfu aC (tCq CK (tCq pq (tCq we tNq))) Tryz.func155 [.tmp 6] fun hcl=>?_
 unfold aS
 cases co:kU p.op with
 |false =>
  simp only [co,tfB,if_true,if_false,reduceCtorEq] at hR
  subst hR
  try simp only [aF,go_sem,eZ,cS,gA,iv,vb,iNq,co]
  exact Y8
 |true =>
  cases c7:p.op==7 with
  |true =>
   have c7':(p.op != 7)=false:=by simp only [bne,c7,Bool.not_true]
   try simp only [go_sem,eZ,co,c7']
   cases k1:p.kind==1 with
   |true =>
    simp only [co,c7,k1,tfB,if_true,if_false,reduceCtorEq] at hR
    unfold ftV at hR
    subst hR
    try simp only [aF,go_sem,eZ,cS,gA,iv,vb,iNq,co,c7,k1,c7']
    exact Y8
   |false =>
    cases k2:p.kind==2 with
    |true =>
     obtain ⟨y,hy,hyb⟩:=kA (hsrc co k2)
     try simp only [aF,go_sem,eZ,cS,gA,co,c7,k1,k2,c7']
     refine ⟨S,y,⟨rfl,hS,hy⟩,?_⟩
     simp only [co,c7,k1,k2,tfB,if_true,if_false,reduceCtorEq] at hR
     subst hR
     try simp only [aF,go_sem,eZ,cS,gA,iv,vb,iNq,co,c7,k1,k2,hyb,c7']
     exact Y8
    |false =>
     have hpl:=hpar co k1 k2
     have gp:=aV (f:=aK) (l:=a.params) (k:=p.n.toNat) (x:=a.params[p.n.toNat]) (gQq hpl)
     have gq:a.params.getD p.n.toNat ⟨[],0⟩=a.params[p.n.toNat]:=by simp [gEq,hpl]
     rw [gq] at hR
     generalize a.params[p.n.toNat]=z at *
     have hz:aK z=.agg [.str z.name,.int .i64 z.bits]:=rfl
     rw [hz] at gp
     try simp only [aF,go_sem,eZ,cS,gA,co,c7,k1,k2,gp,ybb,c7']
     refine ⟨⟨by omega,by omega⟩,?_⟩
     simp only [co,c7,k1,k2,tfB,if_true,if_false,reduceCtorEq] at hR
     subst hR
     try simp only [aF,go_sem,eZ,cS,gA,iv,vb,iNq,co,c7,k1,k2,c7']
     exact Y8
  |false =>
   have c7':(p.op != 7)=true:=by simp only [bne,c7,Bool.not_false]
   obtain ⟨x,hx,hxb⟩:=kA (hd co c7)
   try simp only [go_sem,eZ,cS,co,c7']
   refine ⟨S,x,⟨rfl,hS,hx⟩,?_⟩
   try simp only [aF,go_sem,eZ,cS,co,c7']
   simp only [hxb]
   cases k1:p.kind==1 with
   |true =>
    simp only [co,c7,k1,tfB,if_true,if_false,reduceCtorEq] at hR
    unfold ftV at hR
    subst hR
    try simp only [aF,go_sem,eZ,cS,gA,iv,vb,iNq,co,c7,k1,c7',hxb]
    exact Y8
   |false =>
    cases k2:p.kind==2 with
    |true =>
     obtain ⟨y,hy,hyb⟩:=kA (hsrc co k2)
     try simp only [aF,go_sem,eZ,cS,gA,co,c7,k1,k2,c7',hxb]
     refine ⟨S,y,⟨rfl,hS,hy⟩,?_⟩
     simp only [co,c7,k1,k2,tfB,if_true,if_false,reduceCtorEq] at hR
     subst hR
     try simp only [aF,go_sem,eZ,cS,gA,iv,vb,iNq,co,c7,k1,k2,hyb,c7',hxb]
     exact Y8
    |false =>
     have hpl:=hpar co k1 k2
     have gp:=aV (f:=aK) (l:=a.params) (k:=p.n.toNat) (x:=a.params[p.n.toNat]) (gQq hpl)
     have gq:a.params.getD p.n.toNat ⟨[],0⟩=a.params[p.n.toNat]:=by simp [gEq,hpl]
     rw [gq] at hR
     generalize a.params[p.n.toNat]=z at *
     have hz:aK z=.agg [.str z.name,.int .i64 z.bits]:=rfl
     rw [hz] at gp
     try simp only [aF,go_sem,eZ,cS,gA,co,c7,k1,k2,gp,ybb,c7',hxb]
     refine ⟨⟨by omega,by omega⟩,?_⟩
     simp only [co,c7,k1,k2,tfB,if_true,if_false,reduceCtorEq] at hR
     subst hR
     try simp only [aF,go_sem,eZ,cS,gA,iv,vb,iNq,co,c7,k1,k2,c7',hxb]
     exact Y8
def BD:PCt
 |[x,.slice _ 2 y],_,K=>∃ (a:SAction) (vs:List Nat),(x=ap a∧y=vs.map vv∧a.params.length≤1000000∧vs.length≤1000000∧∀ v∈vs,v<2^128)∧K (.bool (yS a.params vs))
 |_,_,_=>False
theorem Ov:EPp 157 BD:=by
 refine Ype fun _ H K h=>?_
 unfold BD at h
 split at h<;>try exact h.elim
 rename_i x m y
 obtain ⟨a,vs,⟨rfl,rfl,hpl,hvl,hvs⟩,hK⟩:=h
 refine ⟨_,hK,?_⟩
 clear hK
 unfold ap
 generalize hR:yS a.params vs=R
 unfold yS at hR
 refine ACalls.fW aC (tCq we tNq) Tryz.func157 [.tmp 4] (nrq _) (T:=aA [(6,[[],[],[],[],[],[],[],[0,2,6]])]) (h:=fun hcl hlt=>?_)
 have hm:∀ n',H.nx≤n'→AV.lt n' (.slice m 2 (vs.map vv)):=fun n' hn=>AV.lt_mono hn _ (hlt (.slice m 2 (vs.map vv)) (by simp))
 have hx:=AV.lt_mono (Nat.le_succ H.nx) _ (hlt _ List.mem_cons_self)
 simp only [znr] at hx
 have hcb:=ah hcl hx
 clear hlt hx
 have dn1:(!true)=false:=rfl
 have dn2:(!false)=true:=rfl
 by_cases hlen:vs.length=a.params.length
 rotate_left
 ·exact Y73
 rw [dtq hlen,Bool.true_and] at hR
 have dl:((vs.length:Int) != (a.params.length:Int))=false:=by simp [hlen]
 refine Tq72 ?_
 refine aD (A:=Nat) (fun k=>[(2,.ptr H.nx 0),(13,.slice m 2 (vs.map vv)),(14,.int .i64 (vs.length:Int)),(15,.int .i64 (k:Int))]) (fun _=>(H.push (.cells [.int .i64 a.id,.str a.name,.slice .any 2 (a.params.map aK),.slice .any 6 (a.body.map aT),.str a.restr])))
  (fun k=>k≤a.params.length∧zl (a.params.drop k) (vs.drop k)=R) (fun k=>a.params.length - k) 0 ⟨Nat.zero_le _,hR⟩ ?_ fun k hk=>?_
 ·refine eNt hcb ?_ ?_
  ·exact Y130
  ·exact Y14
 clear hR
 obtain ⟨hk,hR⟩:=hk
 refine Tq77 ?_
 refine ay (fun hc=>?_) (fun hc=>?_)
 ·have hk':k<a.params.length:=sHc
  have hkv:k<vs.length:=by omega
  obtain ⟨x,hx⟩:∃ x,x=vs[k]:=⟨_,rfl⟩
  obtain ⟨p,hp⟩:∃ p,p=a.params[k]:=⟨_,rfl⟩
  have hd:vs.drop k=x::vs.drop (k+1):=by rw [hx];exact dcq hkv
  have hdp:a.params.drop k=p::a.params.drop (k+1):=by rw [hp];exact dcq hk'
  have hgx:=aV (f:=vv) (l:=vs) (k:=k) (x:=x) (by rw [gQq hkv,hx])
  have hgp:=aV (f:=aK) (l:=a.params) (k:=k) (x:=p) (by rw [gQq hk',hp])
  have hxl:=hvs x (by rw [hx];exact gMq hkv)
  have iv:=pC hxl
  have e5:=Yk5 k
  rw [hd,hdp] at hR
  unfold zl at hR
  simp only [bo,aF,bhq,Nat.reduceMod,Nat.reduceDiv,aZ,ba,bf,bD,bc,bC,bz,bB,bA,yaq,yar,yao,yap,go_sem,iNq,hgx,hgp,vv,aK,ybb,gA,jV,iv]
  refine Tq3 ?_
  cases hq:decide (((bl x:Nat):Int)≤p.bits) with
  |false =>
   rw [hq,Bool.false_and] at hR
   subst hR
   refine Tq69 ?_
   exact Y8
  |true =>
   rw [hq,Bool.true_and] at hR
   refine Tq66 ?_
   refine Tq4 ?_
   refine ⟨k+1,⟨by omega,hR⟩,by omega,?_⟩
   refine eNt hcb ?_ ?_
   ·exact Y130
   ·exact Y14
 ·exact Y61
theorem lX {x y:Nat}:((((x/2^64:Nat):Int)==((y/2^64:Nat):Int))&&(((((x % 2^64:Nat):Int)==((y % 2^64:Nat):Int)))&&true))=decide (x=y):=by
 rw [Bool.eq_iff_iff]
 simp
 omega
def nQ (S:Sch) (f:Int) (c:SCase):Bool:=ftV c.value (btF S f)&&(ftV c.mask (btF S f)&&decide (c.value &&& c.mask=c.value))
def CC:PCt
 |[.agg l,.int .i64 f,x],_,K=>∃ (S:Sch) (c:SCase),(l=aS S∧x=aX c∧SLen S∧bv S f=true∧c.value<2^128∧c.mask<2^128)∧K (.bool (nQ S f c))
 |_,_,_=>False
theorem OB:EPp 152 CC:=by
 refine Ype fun _ H K h=>?_
 unfold CC at h
 split at h<;>try exact h.elim
 rename_i l f x
 obtain ⟨S,c,⟨rfl,rfl,hS,hf,h1,h2⟩,hK⟩:=h
 refine ⟨_,hK,?_⟩
 clear hK
 have iv:=pC h1
 have iw:=pC h2
 have vb:=jV c.value
 have wb:=jV c.mask
 generalize hR:nQ S f c=R
 unfold nQ ftV at hR
 obtain ⟨y,hy,hyb⟩:=kA hf
 unfold aX vc
 refine Yfw aC (tCq pq (tCq we (tCq Ow tNq))) Tryz.func152 [.tmp 6] (nrq _) (T:=aA [(2,[[],[],[],[1],[],[],[3],[],[1,3,6],[],[],[],[3,8],[],[3,8],[1,3,6,8,12,14],[],[3,8]])]) (h:=fun hcl=>?_)
 unfold aS
 simp only [go_sem,cS]
 refine ⟨S,y,⟨rfl,hS,hy⟩,?_⟩
 simp only [aF,go_sem,cS,gA,pE,p2V,iv,iw,vb,wb,iNq,hyb,vv,jg,jj,lX]
 refine Tq4 ?_
 cases c1:decide (((bl c.value:Nat):Int)≤btF S f) with
 |false =>
  simp only [c1,tfB,if_true,if_false,reduceCtorEq] at hR
  subst hR
  try simp only [aF,go_sem,cS,gA,pE,p2V,iv,iw,vb,wb,iNq,hyb,vv,jg,jj,lX,c1]
  exact Y8
 |true =>
  try simp only [aF,go_sem,cS,gA,pE,p2V,iv,iw,vb,wb,iNq,hyb,vv,jg,jj,lX,c1]
  refine Tq4 ?_
  cases c2:decide (((bl c.mask:Nat):Int)≤btF S f) with
  |false =>
   simp only [c1,c2,tfB,if_true,if_false,reduceCtorEq] at hR
   subst hR
   refine Tq42 ?_
   exact Y8
  |true =>
   refine Tq42 ?_
   refine Tq4 ?_
   simp only [c1,c2,Bool.true_and] at hR
   subst hR
   refine Tq42 ?_
   refine Tq4 ?_
   simp (disch:=first|exact Zd|omega) [↓zmo,beq,ybc,ybd,ybe,ag,wk,wk2,wk1,wkM,wkL,au,ybf,hcl]
   generalize c.value &&& c.mask=z
   rw [Bool.eq_iff_iff]
   simp
   omega
def smB (S:Sch):List Int→Int→Int
 |[],n=>n
 |f::l,n=>smB S l (n+btF S f)
def tG (S:Sch) (t:SHeader):Bool:=decide (smB S t.fields 0 % 8=0)&&(decide (smB S t.fields 0≤512)&&(!t.fields.contains 1&&!t.fields.contains 2))
def ku:PCt
 |[.agg l,x],_,K=>∃ (S:Sch) (t:SHeader),(l=aS S∧x=az t∧SLen S∧t.fields.length≤1000000∧∀ f∈t.fields,bv S f=true∧0≤btF S f∧btF S f≤1000000)∧K (.bool (tG S t))
 |_,_,_=>False
theorem MK:EPp 148 ku:=by
 refine Ype fun _ H K h=>?_
 unfold ku at h
 split at h<;>try exact h.elim
 rename_i l x
 obtain ⟨S,t,⟨rfl,rfl,hS,hfl,hf⟩,hK⟩:=h
 refine ⟨_,hK,?_⟩
 clear hK
 generalize hR:tG S t=R
 unfold tG at hR
 obtain ⟨N,hN⟩:∃ N,smB S t.fields 0=N:=⟨_,rfl⟩
 rw [hN] at hR
 unfold az
 refine Yfv aC (tCq pq (tCq rT tNq)) Tryz.func148 [.tmp 4] fun hcl hlt=>?_
 have hx:=AV.lt_mono (Nat.le_succ H.nx) _ (hlt _ List.mem_cons_self)
 have hx2:=AV.lt_mono (show H.nx≤H.nx+1+1 by omega) _ (hlt _ (List.mem_cons_of_mem _ List.mem_cons_self))
 clear hlt
 simp only [znr] at hx hx2
 have hcp:=ah (ah hcl hx) hx2
 obtain ⟨Hb,hHb⟩:∃ Hb,(H.push (.cells (aS S))).push (.cells [.int .i64 t.id,.str t.name,.slice .any 1 (inL t.fields)])=Hb:=⟨_,rfl⟩
 have hg0:Hb.get H.nx=some (.cells (aS S)):=by rw [← hHb,zlh,if_neg (by rw [zle];omega)];exact AHeap.get_push_new _ _
 have hg1:Hb.get (H.nx+1)=some (.cells [.int .i64 t.id,.str t.name,.slice .any 1 (inL t.fields)]):=by rw [← hHb];exact AHeap.get_push_new _ _
 have hnb:Hb.nx=H.nx+1+1:=by rw [← hHb];rfl
 have hHle:H.Le Hb:=by rw [← hHb];exact ((lRq _).push _).push _
 rw [hHb] at hcp
 have hcs0:=aM hg0
 have hcs1:=aM hg1
 have hlen:(inL t.fields).length=t.fields.length:=by simp [inL]
 have hm:∀ n',AV.lt n' (.slice .any 1 (inL t.fields)):=fun n'=>by
  rw [AV.lt]
  exact ⟨fun id e=>(by cases e),fun j hj=>by simp only [inL,List.getElem_map,znf]⟩
 unfold aS at hHb hg0 hcs0 ⊢
 simp only [go_sem,hHb,hcs1,hlen]
 try simp only [go_sem,hlen]
 refine aD (A:=Nat × Int) (fun a=>[(2,.ptr H.nx 0),(3,.ptr (H.nx+1) 0),(5,.int .i64 a.2),(9,.slice .any 1 (inL t.fields)),(10,.int .i64 (t.fields.length:Int)),(11,.int .i64 (a.1:Int))]) (fun _=>Hb)
  (fun a=>a.1≤t.fields.length∧0≤a.2∧a.2≤(a.1:Int)*1000000∧smB S (t.fields.drop a.1) a.2=N) (fun a=>t.fields.length - a.1) (0,0) ⟨Nat.zero_le _,by decide,by decide,hN⟩ ?_ fun a ha=>?_
 ·refine ⟨by (try simp only [zkq,zkv]);omega,lRq _,hcp,?_,?_⟩
  ·simp [ltF,znf,znn,hm,hnb]
   try omega
  ·exact Y14
 obtain ⟨k,n⟩:=a
 obtain ⟨hk,hn0,hn1,hn⟩:=ha
 dsimp only at hk hn0 hn1 hn ⊢
 refine Tq15 ?_
 refine ay (fun hc=>?_) (fun hc=>?_)
 ·have hk':k<t.fields.length:=sHc
  obtain ⟨x,hx⟩:∃ x,x=t.fields[k]:=⟨_,rfl⟩
  have hd:t.fields.drop k=x::t.fields.drop (k+1):=by rw [hx];exact dcq hk'
  have hg':(inL t.fields).getD k .junk=.int .i64 x:=aV (f:=AV.int .i64) (l:=t.fields) (k:=k) (x:=x) (by rw [gQq hk',hx])
  have e5:=Yk5 k
  obtain ⟨q1,q2,q3⟩:=hf x (by rw [hx];exact gMq hk')
  obtain ⟨y,hy,hyb⟩:=kA q1
  have e6:IntKind.i64.wrap (n+y.bits)=n+y.bits:=by rw [hyb];rw [wrap_i64]<;>omega
  rw [hd] at hn
  unfold smB at hn
  have hne0:(H.nx=Hb.nx)=False:=eFo
  simp only [go_sem,iNq,hlen,hg',hg0,hcs0,hne0,cS]
  refine Tq4 ?_
  refine ⟨S,y,⟨rfl,hS,hy⟩,?_⟩
  simp only [aF,go_sem,e5,e6]
  refine ⟨(k+1,n+y.bits),⟨by dsimp only;omega,by dsimp only;omega,by dsimp only;rw [hyb];omega,by dsimp only;rw [hyb];exact hn⟩,by dsimp only;omega,by omega,lRq _,hcp,?_,?_⟩
  ·simp [ltF,znf,znn,hm,hnb]
   try omega
  ·exact Y14
 ·have hk':k=t.fields.length:=sHc
  subst hk'
  rw [List.drop_length] at hn
  have hn':n=N:=hn
  subst hn'
  have hg2:=hg1
  have hne1:(H.nx+1=Hb.nx)=False:=eFo
  simp only [go_sem,hcs1,iA]
  have d8:(n.tmod 8==0)=decide (n % 8=0):=by
   rw [Int.tmod_eq_emod_of_nonneg hn0,Bool.eq_iff_iff];simp
  refine ⟨by decide,?_⟩
  rw [d8]
  cases c1:decide (n % 8=0) with
  |false =>
   simp only [c1,tfB,if_true,if_false,reduceCtorEq] at hR
   subst hR
   try simp only [go_sem,iA,c1]
   exact Z14
  |true =>
   try simp only [go_sem,iA,c1]
   cases c2:decide (n≤512) with
   |false =>
    simp only [c1,c2,tfB,if_true,if_false,reduceCtorEq] at hR
    subst hR
    try simp only [go_sem,iA,c1,c2]
    exact Z14
   |true =>
    try simp only [go_sem,iA,c1,c2]
    refine ⟨t.fields,⟨rfl,hfl⟩,?_⟩
    cases c3:t.fields.contains 1 with
    |true =>
     simp only [c1,c2,c3,tfB,if_true,if_false,reduceCtorEq] at hR
     subst hR
     try simp only [go_sem,iA,c1,c2,c3]
     exact Z14
    |false =>
     try simp only [go_sem,iA,c1,c2,c3]
     refine ⟨t.fields,⟨rfl,hfl⟩,?_⟩
     cases c4:t.fields.contains 2 with
     |true =>
      exact Y132
     |false =>
      exact Y132
def Sq (S:Sch) (t:SHeader):Prop:=t.fields.length≤1000000∧∀ f∈t.fields,bv S f=true∧0≤btF S f∧btF S f≤1000000
def QL (S:Sch) (f:Int) (c:SCase):Prop:=bv S f=true∧c.value<2^128∧c.mask<2^128
def QY (S:Sch) (a:SAction) (p:SPrim):Prop:=p.value<2^128∧oq S a.params.length p=true∧fpB p=true∧0≤p.n
def PB:PCt
 |[x,.ptr c 0],H,K=>∃ (t:SHeader) (S:Sch),(x=az t∧H.get c=some (.cells (aS S))∧SLen S∧Sq S t)∧K (.bool (tG S t))
 |_,_,_=>False
theorem Rs:EPp 147 PB:=by
 refine Ype fun _ H K h=>?_
 unfold PB at h
 split at h<;>try exact h.elim
 rename_i x c
 obtain ⟨t,S,⟨rfl,hg,hS,hk⟩,hK⟩:=h
 refine ⟨_,hK,?_⟩
 clear hK
 have hl:=glq hg
 have hne:(c=H.nx)=False:=eFo
 have hcs:=aM hg
 have hgS:=hg
 generalize hR:(tG S t)=R
 skip
 unfold az
 unfold aS at hg hcs
 refine Yfu aC (tCq MK tNq) Tryz.func147 [.tmp 3] fun hcl=>?_
 refine Tq57 ?_
 refine ⟨S,t,⟨rfl,rfl,hS,hk.1,hk.2⟩,?_⟩
 cases k1:tG S t with
 |false =>
  exact Y39
 |true =>
  exact Y39
def Jc:PCt
 |[x,.ptr c 0,.ptr d 0],H,K=>∃ (t:SCase) (a:SState) (S:Sch) (cs:List AV),(x=aX t∧H.get c=some (.cells (aS S))∧H.get d=some (.cells cs)∧aB a=.agg cs∧SLen S∧QL S a.select t)∧K (.bool (nQ S a.select t))
 |_,_,_=>False
theorem ML:EPp 151 Jc:=by
 refine Ype fun _ H K h=>?_
 unfold Jc at h
 split at h<;>try exact h.elim
 rename_i x c d
 obtain ⟨t,a,S,cs,⟨rfl,hg,hgd,hac,hS,hk⟩,hK⟩:=h
 refine ⟨_,hK,?_⟩
 clear hK
 unfold aB at hac
 cases hac
 have hl:=glq hg
 have hne:(c=H.nx)=False:=eFo
 have hcs:=aM hg
 have hl2:=glq hgd
 have hne2:(d=H.nx)=False:=eFo
 have hcs2:=aM hgd
 generalize hR:(nQ S a.select t)=R
 unfold aX vc
 unfold aS at hg hcs
 refine Yfu aC (tCq OB tNq) Tryz.func151 [.tmp 4] fun hcl=>?_
 simp only [go_sem,hcs,hne,hg,hcs2,hne2,hgd,CC]
 refine ⟨S,t,⟨rfl,rfl,hS,hk.1,hk.2.1,hk.2.2⟩,?_⟩
 exact Y50
def Jy:PCt
 |[x,.ptr c 0,.ptr d 0],H,K=>∃ (t:SPrim) (a:SAction) (S:Sch) (cs:List AV),(x=aT t∧H.get c=some (.cells (aS S))∧H.get d=some (.cells cs)∧ap a=.agg cs∧SLen S∧QY S a t)∧K (.bool (nv S a t))
 |_,_,_=>False
theorem Mb:EPp 154 Jy:=by
 refine Ype fun _ H K h=>?_
 unfold Jy at h
 split at h<;>try exact h.elim
 rename_i x c d
 obtain ⟨t,a,S,cs,⟨rfl,hg,hgd,hac,hS,hk⟩,hK⟩:=h
 refine ⟨_,hK,?_⟩
 clear hK
 unfold ap at hac
 cases hac
 have hl:=glq hg
 have hne:(c=H.nx)=False:=eFo
 have hcs:=aM hg
 have hl2:=glq hgd
 have hne2:(d=H.nx)=False:=eFo
 have hcs2:=aM hgd
 generalize hR:(nv S a t)=R
 unfold aT vc
 unfold aS at hg hcs
 refine Yfu aC (tCq P4 tNq) Tryz.func154 [.tmp 4] fun hcl=>?_
 simp only [go_sem,hcs,hne,hg,hcs2,hne2,hgd,Ig]
 refine ⟨S,a,t,⟨rfl,rfl,rfl,hS,hk.1,hk.2.1,hk.2.2.1,hk.2.2.2⟩,?_⟩
 exact Y50
def Pr:PCt
 |[x,.ptr c 0],H,K=>∃ (t:SState) (S:Sch),(x=aB t∧H.get c=some (.cells (aS S))∧SLen S∧t.cases.length≤1000000∧∀ p∈t.cases,QL S t.select p)∧K (.bool (t.cases.all fun p=>nQ S t.select p))
 |_,_,_=>False
theorem QH:EPp 149 Pr:=by
 refine Ype fun _ H K h=>?_
 unfold Pr at h
 split at h<;>try exact h.elim
 rename_i x c
 obtain ⟨t,S,⟨rfl,hg,hS,hbl,hk⟩,hK⟩:=h
 refine ⟨_,hK,?_⟩
 clear hK
 have hl:=glq hg
 have hne:(c=H.nx)=False:=eFo
 have hcs:=aM hg
 have hgS:=hg
 generalize hR:(t.cases.all fun p=>nQ S t.select p)=R
 skip
 unfold aB
 unfold aS at hg hcs
 refine Yfu aC (tCq AW tNq) Tryz.func149 [.tmp 3] fun hcl=>?_
 refine Tq57 ?_
 refine ⟨t.cases,(fun p=>nQ S t.select p),⟨rfl,hbl,fun p hx H' hle' hcl'=>clB ML ⟨p,t,S,_,⟨rfl,hle'.get _ _ (by rw [zlh,if_neg (by omega)];exact hgS),hle'.get _ _ (AHeap.get_push_new _ _),rfl,hS,hk p hx⟩,rfl⟩⟩,?_⟩
 cases k1:t.cases.all (fun p=>nQ S t.select p) with
 |false =>
  exact Y39
 |true =>
  exact Y39
def PJ:PCt
 |[x,.ptr c 0],H,K=>∃ (t:SAction) (S:Sch),(x=ap t∧H.get c=some (.cells (aS S))∧SLen S∧t.body.length≤1000000∧∀ p∈t.body,QY S t p)∧K (.bool (t.body.all fun p=>nv S t p))
 |_,_,_=>False
theorem Q2:EPp 153 PJ:=by
 refine Ype fun _ H K h=>?_
 unfold PJ at h
 split at h<;>try exact h.elim
 rename_i x c
 obtain ⟨t,S,⟨rfl,hg,hS,hbl,hk⟩,hK⟩:=h
 refine ⟨_,hK,?_⟩
 clear hK
 have hl:=glq hg
 have hne:(c=H.nx)=False:=eFo
 have hcs:=aM hg
 have hgS:=hg
 generalize hR:(t.body.all fun p=>nv S t p)=R
 skip
 unfold ap
 unfold aS at hg hcs
 refine Yfu aC (tCq vO tNq) Tryz.func153 [.tmp 3] fun hcl=>?_
 refine Tq57 ?_
 refine ⟨t.body,(fun p=>nv S t p),⟨rfl,hbl,fun p hx H' hle' hcl'=>clB Mb ⟨p,t,S,_,⟨rfl,hle'.get _ _ (by rw [zlh,if_neg (by omega)];exact hgS),hle'.get _ _ (AHeap.get_push_new _ _),rfl,hS,hk p hx⟩,rfl⟩⟩,?_⟩
 cases k1:t.body.all (fun p=>nv S t p) with
 |false =>
  exact Y39
 |true =>
  exact Y39
def tmF (S:Sch) (t:STable):Bool:=match S.actions.find? (fun a=>a.id==t.dflt) with
 |some a=>yS a.params t.dargs
 |none=>false
def Sr (S:Sch) (t:STable):Prop:=∃ a,S.actions.find? (fun a=>a.id==t.dflt)=some a∧a.params.length≤1000000∧t.dargs.length≤1000000∧∀ v∈t.dargs,v<2^128
def gkB (S:Sch) (g:SGrant):Bool:=match S.tables.find? (fun t=>t.id==g.table) with
 |some b=>decide (g.keys.length=b.keys.length)
 |none=>false
def Pw:PCt
 |[x,.ptr c 0],H,K=>∃ (t:STable) (S:Sch),(x=ax t∧H.get c=some (.cells (aS S))∧SLen S∧Sr S t)∧K (.bool (tmF S t))
 |_,_,_=>False
theorem Rc:EPp 156 Pw:=by
 refine Ype fun _ H K h=>?_
 unfold Pw at h
 split at h<;>try exact h.elim
 rename_i x c
 obtain ⟨t,S,⟨rfl,hg,hS,hk⟩,hK⟩:=h
 refine ⟨_,hK,?_⟩
 clear hK
 have hl:=glq hg
 have hne:(c=H.nx)=False:=eFo
 have hcs:=aM hg
 have hgS:=hg
 generalize hR:(tmF S t)=R
 skip
 unfold ax
 unfold aS at hg hcs
 refine Yfw aC (tCq jH (tCq Ov tNq)) Tryz.func156 [.tmp 3] (nrq _) (T:=aA [(1,[[],[],[],[],[],[2,4],[],[5],[],[],[1,2,4,5,7,9]])]) (h:=fun hcl=>?_)
 obtain ⟨a,ha,hpl,hal,hvs⟩:=hk
 unfold tmF at hR
 simp only [ha] at hR
 subst hR
 obtain ⟨i,i1,g1,l1⟩:=lH ha
 have ga:=aV (f:=ap) (l:=S.actions) (k:=i) (x:=a) g1
 have hca:ap a=.agg [.int .i64 a.id,.str a.name,.slice .any 2 (a.params.map aK),.slice .any 6 (a.body.map aT),.str a.restr]:=rfl
 rw [hca] at ga
 simp only [go_sem,hcs,hne,hg,ii]
 refine ⟨S,⟨rfl,hS.al⟩,?_⟩
 simp only [aF,go_sem,hcs,hne,hg,i1,ga,iNq,ybb,BD]
 refine Tq4 ?_
 refine ⟨a,t.dargs,⟨rfl,rfl,hpl,hal,hvs⟩,?_⟩
 exact Y37
def HZ:PCt
 |[x,.ptr c 0],H,K=>∃ (t:SGrant) (S:Sch),(x=aJ t∧H.get c=some (.cells (aS S))∧SLen S∧gF S t.table=true)∧K (.bool (gkB S t))
 |_,_,_=>False
theorem Of:EPp 160 HZ:=by
 refine Ype fun _ H K h=>?_
 unfold HZ at h
 split at h<;>try exact h.elim
 rename_i x c
 obtain ⟨t,S,⟨rfl,hg,hS,hk⟩,hK⟩:=h
 refine ⟨_,hK,?_⟩
 clear hK
 have hl:=glq hg
 have hne:(c=H.nx)=False:=eFo
 have hcs:=aM hg
 have hgS:=hg
 generalize hR:(gkB S t)=R
 skip
 unfold aJ
 unfold aS at hg hcs
 refine Yfw aC (tCq iR tNq) Tryz.func160 [.tmp 3] (nrq _) (T:=aA [(1,[[],[],[],[],[],[],[],[],[5,7],[],[],[8]])]) (h:=fun hcl=>?_)
 unfold gF at hk
 obtain ⟨b,hb⟩:∃ b,S.tables.find? (fun x=>x.id==t.table)=some b:=by
  rw [List.any_eq_true] at hk
  obtain ⟨y,hy,h2⟩:=hk
  cases hf:S.tables.find? (fun x=>x.id==t.table) with
  |none=>exact absurd h2 (by have:=List.find?_eq_none.1 hf y hy;simpa using this)
  |some x=>exact ⟨x,rfl⟩
 unfold gkB at hR
 simp only [hb] at hR
 subst hR
 obtain ⟨i,i1,g1,l1⟩:=lH hb
 have ga:=aV (f:=ax) (l:=S.tables) (k:=i) (x:=b) g1
 have hca:ax b=.agg [.int .i64 b.id,.str b.name,.slice .any 3 (b.keys.map aY),.slice .any 1 (inL b.actions),.int .i64 b.dflt,.slice .any 2 (b.dargs.map vv),.int .i64 b.size,.str b.restr]:=rfl
 rw [hca] at ga
 have hbl:(boL t.keys).length=t.keys.length:=by simp [boL]
 have heq:((t.keys.length:Int)==(b.keys.length:Int))=decide (t.keys.length=b.keys.length):=by rw [Bool.eq_iff_iff];simp;omega
 simp only [go_sem,hcs,hne,hg,fh]
 refine ⟨S,⟨rfl,hS.tl⟩,?_⟩
 simp only [aF,go_sem,hcs,hne,hg,i1,ga,iNq,ybb,hbl,heq]
 exact Y8
def PG:PCt
 |[x,.ptr c 0],H,K=>∃ (t:SRole) (S:Sch),(x=aN t∧H.get c=some (.cells (aS S))∧SLen S∧t.grants.length≤1000000∧∀ g∈t.grants,gF S g.table=true)∧K (.bool (t.grants.all fun g=>gkB S g))
 |_,_,_=>False
theorem Rr:EPp 159 PG:=by
 refine Ype fun _ H K h=>?_
 unfold PG at h
 split at h<;>try exact h.elim
 rename_i x c
 obtain ⟨t,S,⟨rfl,hg,hS,hgl,hk⟩,hK⟩:=h
 refine ⟨_,hK,?_⟩
 clear hK
 have hl:=glq hg
 have hne:(c=H.nx)=False:=eFo
 have hcs:=aM hg
 have hgS:=hg
 generalize hR:(t.grants.all fun g=>gkB S g)=R
 skip
 unfold aN
 unfold aS at hg hcs
 refine Yfu aC (tCq Ad tNq) Tryz.func159 [.tmp 3] fun hcl=>?_
 refine Tq57 ?_
 refine ⟨t.grants,(fun g=>gkB S g),⟨rfl,hgl,fun x hx H' hle' hcl'=>clB Of ⟨x,S,⟨rfl,hle'.get _ _ (by rw [zlh,if_neg (by omega)];exact hgS),hS,hk x hx⟩,rfl⟩⟩,?_⟩
 cases k1:t.grants.all (fun g=>gkB S g) with
 |false =>
  exact Y39
 |true =>
  exact Y39
def mF (S:Sch) (r:SRef):Bool:=if r.action==0 then btF S (nB S r).field==btF S (mr S r).field
 else match S.actions.find? (fun t=>t.id==r.action) with
  |some c=>(c.params.getD r.param.toNat ⟨[],0⟩).bits==btF S (mr S r).field
  |none=>false
def R3 (S:Sch) (r:SRef):Prop:=pF S r∧bv S (mr S r).field=true∧((r.action==0)=true→bv S (nB S r).field=true)
theorem AS {S:Sch} {r:SRef} (h:pF S r) (h0:(r.action==0)=false):∃ c,S.actions.find? (fun t=>t.id==r.action)=some c∧r.param.toNat<c.params.length:=by
 obtain ⟨h,_,_,hp⟩:=h
 unfold nz at h
 cases fa:S.tables.find? (fun t=>t.id==r.table) with
 |none=>rw [fa] at h;cases h
 |some a =>
  cases fb:S.tables.find? (fun t=>t.id==r.toTable) with
  |none=>rw [fa,fb] at h;cases h
  |some b =>
   rw [fa,fb] at h
   simp only [Bool.and_eq_true,h0,Bool.false_eq_true,if_false] at h
   have h3:=h.2.2
   cases fc:S.actions.find? (fun t=>t.id==r.action) with
   |none=>rw [fc] at h3;cases h3
   |some c =>
    rw [fc] at h3
    simp only [decide_eq_true_eq] at h3
    exact ⟨c,rfl,by omega⟩
def Pp:PCt
 |[x,.ptr c 0],H,K=>∃ (t:SRef) (S:Sch),(x=bh t∧H.get c=some (.cells (aS S))∧SLen S∧R3 S t)∧K (.bool (mF S t))
 |_,_,_=>False
theorem Ri:EPp 161 Pp:=by
 refine Ype fun _ H K h=>?_
 unfold Pp at h
 split at h<;>try exact h.elim
 rename_i x c
 obtain ⟨t,S,⟨rfl,hg,hS,hk⟩,hK⟩:=h
 refine ⟨_,hK,?_⟩
 clear hK
 have hl:=glq hg
 have hne:(c=H.nx)=False:=eFo
 have hcs:=aM hg
 have hgS:=hg
 generalize hR:(mF S t)=R
 skip
 unfold bh
 unfold aS at hg hcs
 refine Yfw aC (tCq AF (tCq pq (tCq jH tNq))) Tryz.func161 [.tmp 3] (nrq _) (T:=aA [(5,[[],[],[],[],[],[2,4],[],[],[5],[],[],[],[],[5]])]) (h:=fun hcl=>?_)
 obtain ⟨hr,hf1,hf2⟩:=hk
 have hne2:(c=H.nx+1)=False:=eFo
 have hne3:(c=H.nx+1+1)=False:=eFo
 obtain ⟨b,e1,e2,e3,e4⟩:=nX hr
 simp only [go_sem,hcs,hne,hne2,hne3,hg,tI]
 refine ⟨S,t,b,nB S t,mr S t,⟨rfl,rfl,hS,e1,e2,e3,e4⟩,?_⟩
 unfold mF at hR
 have hact:=@AS S t hr
 clear e3 e4
 generalize mr S t=kb at *
 generalize nB S t=ka at *
 obtain ⟨y,hy,hyb⟩:=kA hf1
 unfold aY
 simp only [aF,go_sem,hcs,hne,hne2,hne3,hg,cS]
 refine ⟨S,y,⟨rfl,hS,hy⟩,?_⟩
 cases c1:t.action==0 with
 |true =>
  obtain ⟨z,hz,hzb⟩:=kA (hf2 c1)
  simp only [c1,if_true] at hR
  subst hR
  simp only [aF,go_sem,hcs,hne,hne2,hne3,hg,cS,c1]
  refine ⟨S,z,⟨rfl,hS,hz⟩,?_⟩
  simp only [aF,go_sem,hyb,hzb]
  exact Z1
 |false =>
  obtain ⟨c2,f3,hl3⟩:=hact c1
  simp only [c1,Bool.false_eq_true,if_false,f3] at hR
  subst hR
  obtain ⟨i,i1,g1,l1⟩:=lH f3
  have ga:=aV (f:=ap) (l:=S.actions) (k:=i) (x:=c2) g1
  have hca:ap c2=.agg [.int .i64 c2.id,.str c2.name,.slice .any 2 (c2.params.map aK),.slice .any 6 (c2.body.map aT),.str c2.restr]:=rfl
  rw [hca] at ga
  have gp:=aV (f:=aK) (l:=c2.params) (k:=t.param.toNat) (x:=c2.params[t.param.toNat]) (gQq hl3)
  have gq:c2.params.getD t.param.toNat ⟨[],0⟩=c2.params[t.param.toNat]:=by simp [gEq,hl3]
  rw [gq]
  generalize c2.params[t.param.toNat]=z at *
  have hz:aK z=.agg [.str z.name,.int .i64 z.bits]:=rfl
  rw [hz] at gp
  have hp0:=hr.2.2.2
  simp only [aF,go_sem,hcs,hne,hne2,hne3,hg,ii,c1]
  refine ⟨S,⟨rfl,hS.al⟩,?_⟩
  simp only [aF,go_sem,hcs,hne,hne2,hne3,hg,i1,ga,gp,iNq,ybb,hyb]
  exact Y8
structure FitK (S:Sch):Prop where
 f1:bv S 1=true
 f2:bv S 2=true
 h:∀ t∈S.headers,Sq S t
 s:∀ t∈S.states,∀ p∈t.cases,QL S t.select p
 a:∀ t∈S.actions,∀ p∈t.body,QY S t p
 t:∀ t∈S.tables,Sr S t
 r:∀ t∈S.roles,∀ g∈t.grants,gF S g.table=true
 x:∀ r∈S.refs,R3 S r
def vR (S:Sch):Bool:=(btF S 1==16)&&((btF S 2==16)&&(S.headers.all (tG S)&&((S.states.all fun t=>t.cases.all fun p=>nQ S t.select p)&&((S.actions.all fun t=>t.body.all fun p=>nv S t p)&&(S.tables.all (tmF S)&&((S.roles.all fun t=>t.grants.all fun g=>gkB S g)&&S.refs.all (mF S)))))))
def tJ:PCt
 |[.agg l],_,K=>∃ S:Sch,(l=aS S∧SB S∧FitK S)∧K (.bool (vR S))
 |_,_,_=>False
theorem Gn:EPp 37 tJ:=by
 refine Ype fun _ H K h=>?_
 unfold tJ at h
 split at h<;>try exact h.elim
 rename_i l
 obtain ⟨S,⟨rfl,hB,hF⟩,hK⟩:=h
 refine ⟨_,hK,?_⟩
 clear hK
 have hS:=hB.sl
 obtain ⟨y1,hy1,hb1⟩:=kA hF.f1
 obtain ⟨y2,hy2,hb2⟩:=kA hF.f2
 generalize hR:vR S=R
 unfold vR at hR
 refine Yfu aC (tCq pq (tCq re (tCq rQ (tCq pi (tCq nS (tCq pt (tCq rA tNq))))))) Tryz.func37 [.tmp 2] fun hcl=>?_
 unfold aS
 try simp only [aF,go_sem,cS,hb1,hb2,b8,cu,bS,b6,cE,cQ]
 refine ⟨S,y1,⟨rfl,hS,hy1⟩,?_⟩
 try simp only [aF,go_sem,hb1]
 cases k1:btF S 1==16 with
 |false =>
  simp only [k1,tfB,if_true,if_false,reduceCtorEq] at hR
  subst hR
  try simp only [aF,go_sem,cS,hb1,hb2,b8,cu,bS,b6,cE,cQ,k1]
  exact Z1
 |true =>
  try simp only [aF,go_sem,cS,hb1,hb2,b8,cu,bS,b6,cE,cQ,k1]
  refine ⟨S,y2,⟨rfl,hS,hy2⟩,?_⟩
  try simp only [aF,go_sem,hb2]
  cases k2:btF S 2==16 with
  |false =>
   simp only [k1,k2,tfB,if_true,if_false,reduceCtorEq] at hR
   subst hR
   try simp only [aF,go_sem,cS,hb1,hb2,b8,cu,bS,b6,cE,cQ,k1,k2]
   exact Z1
  |true =>
   try simp only [aF,go_sem,cS,hb1,hb2,b8,cu,bS,b6,cE,cQ,k1,k2]
   refine ⟨S.headers,tG S,⟨rfl,hS.hl,fun x hx H' hle' hcl'=>clB Rs ⟨x,S,⟨rfl,hle'.get _ _ (by (try simp only [go_sem]);first|done|rfl),hS,hF.h x hx⟩,rfl⟩⟩,?_⟩
   cases k3:S.headers.all (tG S) with
   |false =>
    simp only [k1,k2,k3,tfB,if_true,if_false,reduceCtorEq] at hR
    subst hR
    try simp only [aF,go_sem,cS,hb1,hb2,b8,cu,bS,b6,cE,cQ,k1,k2,k3]
    exact Z1
   |true =>
    try simp only [aF,go_sem,cS,hb1,hb2,b8,cu,bS,b6,cE,cQ,k1,k2,k3]
    refine ⟨S.states,(fun t=>t.cases.all fun p=>nQ S t.select p),⟨rfl,hS.sl,fun x hx H' hle' hcl'=>clB QH ⟨x,S,⟨rfl,hle'.get _ _ (by (try simp only [go_sem]);first|done|rfl),hS,hB.sn x hx,hF.s x hx⟩,rfl⟩⟩,?_⟩
    cases k4:S.states.all (fun t=>t.cases.all fun p=>nQ S t.select p) with
    |false =>
     simp only [k1,k2,k3,k4,tfB,if_true,if_false,reduceCtorEq] at hR
     subst hR
     try simp only [aF,go_sem,cS,hb1,hb2,b8,cu,bS,b6,cE,cQ,k1,k2,k3,k4]
     exact Z1
    |true =>
     try simp only [aF,go_sem,cS,hb1,hb2,b8,cu,bS,b6,cE,cQ,k1,k2,k3,k4]
     refine ⟨S.actions,(fun t=>t.body.all fun p=>nv S t p),⟨rfl,hS.al,fun x hx H' hle' hcl'=>clB Q2 ⟨x,S,⟨rfl,hle'.get _ _ (by (try simp only [go_sem]);first|done|rfl),hS,(hB.an x hx).2.2.1,hF.a x hx⟩,rfl⟩⟩,?_⟩
     cases k5:S.actions.all (fun t=>t.body.all fun p=>nv S t p) with
     |false =>
      simp only [k1,k2,k3,k4,k5,tfB,if_true,if_false,reduceCtorEq] at hR
      subst hR
      try simp only [aF,go_sem,cS,hb1,hb2,b8,cu,bS,b6,cE,cQ,k1,k2,k3,k4,k5]
      exact Z1
     |true =>
      try simp only [aF,go_sem,cS,hb1,hb2,b8,cu,bS,b6,cE,cQ,k1,k2,k3,k4,k5]
      refine ⟨S.tables,tmF S,⟨rfl,hS.tl,fun x hx H' hle' hcl'=>clB Rc ⟨x,S,⟨rfl,hle'.get _ _ (by (try simp only [go_sem]);first|done|rfl),hS,hF.t x hx⟩,rfl⟩⟩,?_⟩
      cases k6:S.tables.all (tmF S) with
      |false =>
       simp only [k1,k2,k3,k4,k5,k6,tfB,if_true,if_false,reduceCtorEq] at hR
       subst hR
       try simp only [aF,go_sem,cS,hb1,hb2,b8,cu,bS,b6,cE,cQ,k1,k2,k3,k4,k5,k6]
       exact Z1
      |true =>
       try simp only [aF,go_sem,cS,hb1,hb2,b8,cu,bS,b6,cE,cQ,k1,k2,k3,k4,k5,k6]
       refine ⟨S.roles,(fun t=>t.grants.all fun g=>gkB S g),⟨rfl,hS.rl,fun x hx H' hle' hcl'=>clB Rr ⟨x,S,⟨rfl,hle'.get _ _ (by (try simp only [go_sem]);first|done|rfl),hS,(hB.rn x hx).2.1,hF.r x hx⟩,rfl⟩⟩,?_⟩
       cases k7:S.roles.all (fun t=>t.grants.all fun g=>gkB S g) with
       |false =>
        simp only [k1,k2,k3,k4,k5,k6,k7,tfB,if_true,if_false,reduceCtorEq] at hR
        subst hR
        try simp only [aF,go_sem,cS,hb1,hb2,b8,cu,bS,b6,cE,cQ,k1,k2,k3,k4,k5,k6,k7]
        exact Z1
       |true =>
        try simp only [aF,go_sem,cS,hb1,hb2,b8,cu,bS,b6,cE,cQ,k1,k2,k3,k4,k5,k6,k7]
        refine ⟨S.refs,mF S,⟨rfl,hB.xl,fun x hx H' hle' hcl'=>clB Ri ⟨x,S,⟨rfl,hle'.get _ _ (by (try simp only [go_sem]);first|done|rfl),hS,hF.x x hx⟩,rfl⟩⟩,?_⟩
        cases k8:S.refs.all (mF S) with
        |false =>
         exact Y86
        |true =>
         exact Y86
structure Rng (S:Sch):Prop where
 pv:∀ a∈S.actions,∀ p∈a.body,p.value<2^128∧0≤p.n
 cv:∀ s∈S.states,∀ c∈s.cases,c.value<2^128∧c.mask<2^128
 dv:∀ t∈S.tables,∀ v∈t.dargs,v<2^128
 rv:∀ r∈S.refs,0≤r.key∧0≤r.toKey∧0≤r.param
theorem Nu {S:Sch} {n:Int} (h:fq S n=true):∃ a,S.actions.find? (fun t=>t.id==n)=some a∧a∈S.actions:=by
 unfold fq at h
 rw [List.any_eq_true] at h
 obtain ⟨y,hy,h2⟩:=h
 cases hf:S.actions.find? (fun t=>t.id==n) with
 |none=>exact absurd h2 (by have:=List.find?_eq_none.1 hf y hy;simpa using this)
 |some x=>exact ⟨x,rfl,List.mem_of_find?_eq_some hf⟩
theorem I6 {S:Sch} (hn:S.fields.all nm1=true) {n:Int} (h:bv S n=true):0≤btF S n∧btF S n≤1000000:=by
 obtain ⟨x,hx,hb⟩:=kA h
 have hm:=List.mem_of_find?_eq_some hx
 have h1:=List.all_eq_true.1 hn x hm
 unfold nm1 wB at h1
 simp only [Bool.and_eq_true,decide_eq_true_eq] at h1
 rw [← hb]
 omega
theorem uJ {S:Sch} (hk:kK S=true) (hr:Rng S):∀ r∈S.refs,pF S r:=by
 intro r h
 unfold kK at hk
 simp only [Bool.and_eq_true] at hk
 obtain ⟨k1,k2,k3,k4,k5,k6,k7,k8,k9⟩:=hk
 exact ⟨List.all_eq_true.1 k9 r h,(hr.rv r h).1,(hr.rv r h).2.1,(hr.rv r h).2.2⟩
theorem Dv {S:Sch} (k6:S.tables.all (og S)=true) {b:STable} {n:Int} {i:Nat} {k:SKey} (hb:S.tables.find? (fun t=>t.id==n)=some b) (hk:b.keys[i]?=some k):bv S k.field=true:=by
 have h1:=List.all_eq_true.1 k6 b (List.mem_of_find?_eq_some hb)
 unfold og at h1
 simp only [Bool.and_eq_true] at h1
 exact List.all_eq_true.1 h1.1 k (List.mem_of_getElem? hk)
theorem Df {S:Sch} (hB:SB S) (hk:kK S=true) (hn:uK S=true) (hf:mK S=true) (hr:Rng S):FitK S:=by
 have hro:=uJ hk hr
 unfold kK at hk
 simp only [Bool.and_eq_true] at hk
 obtain ⟨k1,k2,k3,k4,k5,k6,k7,k8,k9⟩:=hk
 unfold uK at hn
 simp only [Bool.and_eq_true] at hn
 obtain ⟨n1,n2,n3,n4⟩:=hn
 unfold mK at hf
 simp only [Bool.and_eq_true] at hf
 obtain ⟨f1,f2,f3,f4⟩:=hf
 refine ⟨k1,k2,fun t ht=>⟨(hB.hn t ht).2,fun f hf'=>?_⟩,fun t ht p hp=>?_,fun t ht p hp=>?_,fun t ht=>?_,fun t ht g hg=>?_,fun r hr'=>?_⟩
 ·have h1:=List.all_eq_true.1 k3 t ht
  have h2:=List.all_eq_true.1 h1 f hf'
  exact ⟨h2,I6 n3 h2⟩
 ·refine ⟨?_,hr.cv t ht p hp⟩
  have h1:=List.all_eq_true.1 k4 t ht
  have h2:=List.all_eq_true.1 f3 t ht
  unfold rS at h1
  unfold fsB at h2
  simp only [Bool.and_eq_true,Bool.or_eq_true] at h1 h2
  rcases h1.2.1 with h3|h3
  ·rcases h2 with h4|h4
   ·exfalso
    simp [bne] at h4 h3
    exact h4 h3
   ·simp only [decide_eq_true_eq] at h4
    have:=List.length_pos_of_mem hp
    omega
  ·exact h3
 ·have h1:=List.all_eq_true.1 k5 t ht
  have h2:=List.all_eq_true.1 h1 p hp
  have h3:=List.all_eq_true.1 (List.all_eq_true.1 f1 t ht) p hp
  exact ⟨(hr.pv t ht p hp).1,h2,h3,(hr.pv t ht p hp).2⟩
 ·have h1:=List.all_eq_true.1 k6 t ht
  unfold og at h1
  simp only [Bool.and_eq_true] at h1
  have hm:t.dflt∈t.actions:=by simpa using h1.2.2
  obtain ⟨a,ha,hma⟩:=Nu (List.all_eq_true.1 h1.2.1 _ hm)
  exact ⟨a,ha,(hB.an a hma).2.1,(hB.tn t ht).2.2.2.1,hr.dv t ht⟩
 ·have h1:=List.all_eq_true.1 k8 t ht
  unfold tF at h1
  simp only [Bool.and_eq_true] at h1
  exact List.all_eq_true.1 h1.1 g hg
 ·have hro:=hro r hr'
  obtain ⟨b,e1,e2,e3,e4⟩:=nX hro
  refine ⟨hro,Dv k6 e1 e3,fun h0=>?_⟩
  rw [if_pos h0] at e4
  obtain ⟨a,a1,a2,a3⟩:=e4
  exact Dv k6 a1 a3
end Go.AL
