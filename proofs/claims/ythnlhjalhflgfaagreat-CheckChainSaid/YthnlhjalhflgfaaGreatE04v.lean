/- Lemmas of the proof; no condition. -/
import Derived.Test.YthnlhjalhflgfaaGreatE04j
import Derived.Test.YthnlhjalhflgfaaGreatS12k
set_option linter.all false
set_option maxRecDepth 10000
set_option maxHeartbeats 32000000
open List renaming length_cons → yaz, length_nil → yba, take_of_length_le → ybc, drop_append → ybd, take_append → ybe, drop_eq_nil_of_le → ybf, length_map → ybb, take_succ_cons → yaq, take_zero → yar, drop_succ_cons → yao, drop_zero → yap
open Go Go.AL Go.Proofs
namespace Go.AL
theorem v9:ti Tryz.prog 207=some ⟨.struct [(0,34,false)],10,208,.agg [.slice .nil 1 [],.slice .nil 1 [],.slice .nil 1 [],.slice .nil 1 [],.slice .nil 1 [],.slice .nil 1 [],.slice .nil 1 [],.slice .nil 1 [],.int .i64 0,.int .i64 0]⟩:=by kernel_rfl
attribute [go_sem] v9
def bW (S:Sch) (n:Int):Bool:=S.fields.any fun t=>t.id==n
def aK:List AV→AHeap→(AV→Prop)→Prop
 |[.agg l,.int .i64 n],_,K=>∃ S:Sch,(l=aO S∧SLen S)∧K (.bool (bW S n))
 |_,_,_=>False
theorem mQ:EntOk Tryz.prog 127 (Ent.pure aK):=by
 refine Ype fun _ H K h=>?_
 unfold aK at h
 split at h
 rotate_left
 ·exact h.elim
 rename_i l n
 obtain ⟨S,⟨rfl,hS⟩,hK⟩:=h
 refine ⟨_,hK,?_⟩
 clear hK
 have hR:decide (0≤ixP (fun t:SField=>t.id==n) S.fields 0)=bW S n:=dx
 generalize bW S n=R at *
 refine ACalls.fW ak (tCq ot tNq) Tryz.func127 [.tmp 4] (nrq _) (T:=aj []) (h:=fun hcl hlt=>?_)
 clear hlt
 simp only [go_sem,aO,jX]
 refine ⟨S,⟨rfl,hS.fl⟩,?_⟩
 have hR':decide (ixP (fun t:SField=>t.id==n) S.fields 0 ≥ 0)=R:=hR
 simp only [ag,go_sem,hR']
 exact Z1
def jz (S:Sch) (n:Int):Bool:=S.headers.any fun t=>t.id==n
def aY:List AV→AHeap→(AV→Prop)→Prop
 |[.agg l,.int .i64 n],_,K=>∃ S:Sch,(l=aO S∧SLen S)∧K (.bool (jz S n))
 |_,_,_=>False
theorem tD:EntOk Tryz.prog 138 (Ent.pure aY):=by
 refine Ype fun _ H K h=>?_
 unfold aY at h
 split at h
 rotate_left
 ·exact h.elim
 rename_i l n
 obtain ⟨S,⟨rfl,hS⟩,hK⟩:=h
 refine ⟨_,hK,?_⟩
 clear hK
 have hR:decide (0≤ixP (fun t:SHeader=>t.id==n) S.headers 0)=jz S n:=dx
 generalize jz S n=R at *
 refine ACalls.fW ak (tCq s9 tNq) Tryz.func138 [.tmp 4] (nrq _) (T:=aj []) (h:=fun hcl hlt=>?_)
 clear hlt
 simp only [go_sem,aO,kW]
 refine ⟨S,⟨rfl,hS.hl⟩,?_⟩
 have hR':decide (ixP (fun t:SHeader=>t.id==n) S.headers 0 ≥ 0)=R:=hR
 simp only [ag,go_sem,hR']
 exact Z1
def fY (S:Sch) (n:Int):Bool:=S.tables.any fun t=>t.id==n
def ei:List AV→AHeap→(AV→Prop)→Prop
 |[.agg l,.int .i64 n],_,K=>∃ S:Sch,(l=aO S∧SLen S)∧K (.bool (fY S n))
 |_,_,_=>False
theorem yu:EntOk Tryz.prog 137 (Ent.pure ei):=by
 refine Ype fun _ H K h=>?_
 unfold ei at h
 split at h
 rotate_left
 ·exact h.elim
 rename_i l n
 obtain ⟨S,⟨rfl,hS⟩,hK⟩:=h
 refine ⟨_,hK,?_⟩
 clear hK
 have hR:decide (0≤ixP (fun t:STable=>t.id==n) S.tables 0)=fY S n:=dx
 generalize fY S n=R at *
 refine ACalls.fW ak (tCq eS tNq) Tryz.func137 [.tmp 4] (nrq _) (T:=aj []) (h:=fun hcl hlt=>?_)
 clear hlt
 simp only [go_sem,aO,cz]
 refine ⟨S,⟨rfl,hS.tl⟩,?_⟩
 have hR':decide (ixP (fun t:STable=>t.id==n) S.tables 0 ≥ 0)=R:=hR
 simp only [ag,go_sem,hR']
 exact Z1
def hZ (S:Sch) (n:Int):Bool:=S.actions.any fun t=>t.id==n
def Fa:List AV→AHeap→(AV→Prop)→Prop
 |[.agg l,.int .i64 n],_,K=>∃ S:Sch,(l=aO S∧SLen S)∧K (.bool (hZ S n))
 |_,_,_=>False
theorem xE:EntOk Tryz.prog 142 (Ent.pure Fa):=by
 refine Ype fun _ H K h=>?_
 unfold Fa at h
 split at h
 rotate_left
 ·exact h.elim
 rename_i l n
 obtain ⟨S,⟨rfl,hS⟩,hK⟩:=h
 refine ⟨_,hK,?_⟩
 clear hK
 have hR:decide (0≤ixP (fun t:SAction=>t.id==n) S.actions 0)=hZ S n:=dx
 generalize hZ S n=R at *
 refine ACalls.fW ak (tCq fC tNq) Tryz.func142 [.tmp 4] (nrq _) (T:=aj []) (h:=fun hcl hlt=>?_)
 clear hlt
 simp only [go_sem,aO,ex]
 refine ⟨S,⟨rfl,hS.al⟩,?_⟩
 have hR':decide (ixP (fun t:SAction=>t.id==n) S.actions 0 ≥ 0)=R:=hR
 simp only [ag,go_sem,hR']
 exact Z1
def kz (S:Sch) (n:Int):Bool:=n==0||(n==65535||S.states.any fun t=>t.id==n)
def cO:List AV→AHeap→(AV→Prop)→Prop
 |[.agg l,.int .i64 n],_,K=>∃ S:Sch,(l=aO S∧SLen S)∧K (.bool (kz S n))
 |_,_,_=>False
theorem xS:EntOk Tryz.prog 265 (Ent.pure cO):=by
 refine Ype fun _ H K h=>?_
 unfold cO at h
 split at h
 rotate_left
 ·exact h.elim
 rename_i l n
 obtain ⟨S,⟨rfl,hS⟩,hK⟩:=h
 refine ⟨_,hK,?_⟩
 clear hK
 unfold kz
 have hR':decide (ixP (fun t:SState=>t.id==n) S.states 0 ≥ 0)=S.states.any (fun t=>t.id==n):=dx
 generalize S.states.any (fun t=>t.id==n)=b at *
 refine ACalls.fW ak (tCq uw tNq) Tryz.func265 [.tmp 4] (nrq _) (T:=aj []) (h:=fun hcl hlt=>?_)
 clear hlt
 cases c1:n==0 with
 |true =>
  simp only [Bool.true_or]
  simp only [go_sem,aO,iY,c1]
  exact Z1
 |false =>
  cases c2:n==65535 with
  |true =>
   simp only [Bool.true_or,Bool.or_true]
   simp only [go_sem,aO,iY,c1,c2]
   exact Z1
  |false =>
   simp only [Bool.false_or]
   simp only [go_sem,aO,iY,c1,c2]
   refine ⟨S,⟨rfl,hS.sl⟩,?_⟩
   simp only [ag,go_sem,hR']
   exact Z1
def yh:List AV→AHeap→(AV→Prop)→Prop
 |[x,.ptr c 0],H,K=>∃ (t:SCase) (S:Sch),(x=cM t∧H.get c=some (.cells (aO S))∧SLen S)∧K (.bool (kz S t.next))
 |_,_,_=>False
theorem nm:EntOk Tryz.prog 266 (Ent.pure yh):=by
 refine Ype fun _ H K h=>?_
 unfold yh at h
 split at h
 rotate_left
 ·exact h.elim
 rename_i x c
 obtain ⟨t,S,⟨rfl,hg,hS⟩,hK⟩:=h
 refine ⟨_,hK,?_⟩
 clear hK
 have hl:=glq hg
 have hne:(c=H.nx)=False:=eq_false (by omega)
 have hcs:=aq hg
 generalize hR:kz S t.next=R at *
 unfold cM vc
 unfold aO at hg hcs
 refine ACalls.fW ak (tCq xS tNq) Tryz.func266 [.tmp 3] (nrq _) (T:=aj []) (h:=fun hcl hlt=>?_)
 clear hlt
 simp only [go_sem,hcs,hne,hg,cO]
 refine ⟨S,⟨rfl,hS⟩,?_⟩
 simp only [ag,go_sem,hR]
 exact Z1
def uG (S:Sch) (t:SState):Bool:=(t.header==0||jz S t.header)&&((t.select==0||bW S t.select)&&(kz S t.dflt&&t.cases.all fun c=>kz S c.next))
def D6:List AV→AHeap→(AV→Prop)→Prop
 |[.agg l,x],_,K=>∃ (S:Sch) (t:SState),(l=aO S∧x=aL t∧SLen S∧t.cases.length≤1000000)∧K (.bool (uG S t))
 |_,_,_=>False
theorem Ip:EntOk Tryz.prog 130 (Ent.pure D6):=by
 refine Ype fun _ H K h=>?_
 unfold D6 at h
 split at h
 rotate_left
 ·exact h.elim
 rename_i l x
 obtain ⟨S,t,⟨rfl,rfl,hS,hcl0⟩,hK⟩:=h
 refine ⟨_,hK,?_⟩
 clear hK
 generalize hR:uG S t=R
 unfold uG at hR
 unfold aL
 refine ACalls.fW ak (tCq tD (tCq mQ (tCq xS (tCq uS tNq)))) Tryz.func130 [.tmp 4] (nrq _) (T:=aj []) (h:=fun hcl hlt=>?_)
 clear hlt
 unfold aO
 cases h0:t.header==0 with
 |true =>
  cases s0:t.select==0 with
  |true =>
   try simp only [ag,go_sem,aY,aK,cO,bI,h0,s0]
   refine ⟨S,⟨rfl,hS⟩,?_⟩
   cases n1:kz S t.dflt with
   |false =>
    simp only [h0,s0,n1,tfB,if_true,if_false,reduceCtorEq] at hR
    subst hR
    try simp only [ag,go_sem,aY,aK,cO,bI,h0,s0,n1]
    exact Z1
   |true =>
    try simp only [ag,go_sem,aY,aK,cO,bI,h0,s0,n1]
    refine ⟨t.cases,(fun c=>kz S c.next),⟨rfl,hcl0,fun x hx H' hle' hcl'=>clB nm ⟨x,S,⟨rfl,hle'.get _ _ (by (try simp only [go_sem]);first|done|rfl),hS⟩,rfl⟩⟩,?_⟩
    cases k1:t.cases.all fun c=>kz S c.next with
    |false =>
     simp only [h0,s0,n1,k1,tfB,if_true,if_false,reduceCtorEq] at hR
     subst hR
     try simp only [ag,go_sem,aY,aK,cO,bI,h0,s0,n1,k1]
     exact Z1
    |true =>
     simp only [h0,s0,n1,k1,tfB,if_true,if_false,reduceCtorEq] at hR
     subst hR
     try simp only [ag,go_sem,aY,aK,cO,bI,h0,s0,n1,k1]
     exact Z1
  |false =>
   try simp only [ag,go_sem,aY,aK,cO,bI,h0,s0]
   refine ⟨S,⟨rfl,hS⟩,?_⟩
   cases s1:bW S t.select with
   |false =>
    simp only [h0,s0,s1,tfB,if_true,if_false,reduceCtorEq] at hR
    subst hR
    try simp only [ag,go_sem,aY,aK,cO,bI,h0,s0,s1]
    exact Z1
   |true =>
    try simp only [ag,go_sem,aY,aK,cO,bI,h0,s0,s1]
    refine ⟨S,⟨rfl,hS⟩,?_⟩
    cases n1:kz S t.dflt with
    |false =>
     simp only [h0,s0,s1,n1,tfB,if_true,if_false,reduceCtorEq] at hR
     subst hR
     try simp only [ag,go_sem,aY,aK,cO,bI,h0,s0,s1,n1]
     exact Z1
    |true =>
     try simp only [ag,go_sem,aY,aK,cO,bI,h0,s0,s1,n1]
     refine ⟨t.cases,(fun c=>kz S c.next),⟨rfl,hcl0,fun x hx H' hle' hcl'=>clB nm ⟨x,S,⟨rfl,hle'.get _ _ (by (try simp only [go_sem]);first|done|rfl),hS⟩,rfl⟩⟩,?_⟩
     cases k1:t.cases.all fun c=>kz S c.next with
     |false =>
      simp only [h0,s0,s1,n1,k1,tfB,if_true,if_false,reduceCtorEq] at hR
      subst hR
      try simp only [ag,go_sem,aY,aK,cO,bI,h0,s0,s1,n1,k1]
      exact Z1
     |true =>
      simp only [h0,s0,s1,n1,k1,tfB,if_true,if_false,reduceCtorEq] at hR
      subst hR
      try simp only [ag,go_sem,aY,aK,cO,bI,h0,s0,s1,n1,k1]
      exact Z1
 |false =>
  try simp only [ag,go_sem,aY,aK,cO,bI,h0]
  refine ⟨S,⟨rfl,hS⟩,?_⟩
  cases h1:jz S t.header with
  |false =>
   simp only [h0,h1,tfB,if_true,if_false,reduceCtorEq] at hR
   subst hR
   try simp only [ag,go_sem,aY,aK,cO,bI,h0,h1]
   exact Z1
  |true =>
   cases s0:t.select==0 with
   |true =>
    try simp only [ag,go_sem,aY,aK,cO,bI,h0,h1,s0]
    refine ⟨S,⟨rfl,hS⟩,?_⟩
    cases n1:kz S t.dflt with
    |false =>
     simp only [h0,h1,s0,n1,tfB,if_true,if_false,reduceCtorEq] at hR
     subst hR
     try simp only [ag,go_sem,aY,aK,cO,bI,h0,h1,s0,n1]
     exact Z1
    |true =>
     try simp only [ag,go_sem,aY,aK,cO,bI,h0,h1,s0,n1]
     refine ⟨t.cases,(fun c=>kz S c.next),⟨rfl,hcl0,fun x hx H' hle' hcl'=>clB nm ⟨x,S,⟨rfl,hle'.get _ _ (by (try simp only [go_sem]);first|done|rfl),hS⟩,rfl⟩⟩,?_⟩
     cases k1:t.cases.all fun c=>kz S c.next with
     |false =>
      simp only [h0,h1,s0,n1,k1,tfB,if_true,if_false,reduceCtorEq] at hR
      subst hR
      try simp only [ag,go_sem,aY,aK,cO,bI,h0,h1,s0,n1,k1]
      exact Z1
     |true =>
      simp only [h0,h1,s0,n1,k1,tfB,if_true,if_false,reduceCtorEq] at hR
      subst hR
      try simp only [ag,go_sem,aY,aK,cO,bI,h0,h1,s0,n1,k1]
      exact Z1
   |false =>
    try simp only [ag,go_sem,aY,aK,cO,bI,h0,h1,s0]
    refine ⟨S,⟨rfl,hS⟩,?_⟩
    cases s1:bW S t.select with
    |false =>
     simp only [h0,h1,s0,s1,tfB,if_true,if_false,reduceCtorEq] at hR
     subst hR
     try simp only [ag,go_sem,aY,aK,cO,bI,h0,h1,s0,s1]
     exact Z1
    |true =>
     try simp only [ag,go_sem,aY,aK,cO,bI,h0,h1,s0,s1]
     refine ⟨S,⟨rfl,hS⟩,?_⟩
     cases n1:kz S t.dflt with
     |false =>
      simp only [h0,h1,s0,s1,n1,tfB,if_true,if_false,reduceCtorEq] at hR
      subst hR
      try simp only [ag,go_sem,aY,aK,cO,bI,h0,h1,s0,s1,n1]
      exact Z1
     |true =>
      try simp only [ag,go_sem,aY,aK,cO,bI,h0,h1,s0,s1,n1]
      refine ⟨t.cases,(fun c=>kz S c.next),⟨rfl,hcl0,fun x hx H' hle' hcl'=>clB nm ⟨x,S,⟨rfl,hle'.get _ _ (by (try simp only [go_sem]);first|done|rfl),hS⟩,rfl⟩⟩,?_⟩
      cases k1:t.cases.all fun c=>kz S c.next with
      |false =>
       simp only [h0,h1,s0,s1,n1,k1,tfB,if_true,if_false,reduceCtorEq] at hR
       subst hR
       try simp only [ag,go_sem,aY,aK,cO,bI,h0,h1,s0,s1,n1,k1]
       exact Z1
      |true =>
       simp only [h0,h1,s0,s1,n1,k1,tfB,if_true,if_false,reduceCtorEq] at hR
       subst hR
       try simp only [ag,go_sem,aY,aK,cO,bI,h0,h1,s0,s1,n1,k1]
       exact Z1
def ny (S:Sch) (np:Nat) (p:SPrim):Bool :=
 if p.op==1||(p.op==2||p.op==3) then bW S p.dst&&(if p.kind==2 then bW S p.n else if p.kind==3 then decide (p.n<(np:Int)) else true)
 else if p.op==4||p.op==5 then jz S p.dst
 else if p.kind==2 then bW S p.n else if p.kind==3 then decide (p.n<(np:Int)) else true
def wi:List AV→AHeap→(AV→Prop)→Prop
 |[.agg l,x,y],_,K=>∃ (S:Sch) (a:SAction) (p:SPrim),(l=aO S∧x=ax a∧y=cl p∧SLen S)∧K (.bool (ny S a.params.length p))
 |_,_,_=>False
theorem Jy:EntOk Tryz.prog 133 (Ent.pure wi):=by
 refine Ype fun _ H K h=>?_
 unfold wi at h
 split at h
 rotate_left
 ·exact h.elim
 rename_i l x y
 obtain ⟨S,a,p,⟨rfl,rfl,rfl,hS⟩,hK⟩:=h
 refine ⟨_,hK,?_⟩
 clear hK
 generalize hR:ny S a.params.length p=R
 unfold ny at hR
 unfold ax cl vc
 refine ACalls.fW ak (tCq tD (tCq mQ tNq)) Tryz.func133 [.tmp 6] (nrq _) (T:=aj []) (h:=fun hcl hlt=>?_)
 clear hlt
 unfold aO
 cases o1:p.op==1 with
 |false =>
  cases o2:p.op==2 with
  |false =>
   cases o3:p.op==3 with
   |false =>
    cases o4:p.op==4 with
    |false =>
     cases o5:p.op==5 with
     |false =>
      cases k2:p.kind==2 with
      |false =>
       cases k3:p.kind==3 with
       |false =>
        simp only [o1,o2,o3,o4,o5,k2,k3,tfB,if_true,if_false,reduceCtorEq] at hR
        subst hR
        try simp only [ag,go_sem,aY,aK,ybb,o1,o2,o3,o4,o5,k2,k3]
        exact Z1
       |true =>
        cases x3:decide (p.n<(a.params.length:Int)) with
        |false =>
         simp only [o1,o2,o3,o4,o5,k2,k3,x3,tfB,if_true,if_false,reduceCtorEq] at hR
         subst hR
         try simp only [ag,go_sem,aY,aK,ybb,o1,o2,o3,o4,o5,k2,k3,x3]
         exact Z1
        |true =>
         simp only [o1,o2,o3,o4,o5,k2,k3,x3,tfB,if_true,if_false,reduceCtorEq] at hR
         subst hR
         try simp only [ag,go_sem,aY,aK,ybb,o1,o2,o3,o4,o5,k2,k3,x3]
         exact Z1
      |true =>
       try simp only [ag,go_sem,aY,aK,ybb,o1,o2,o3,o4,o5,k2]
       refine ⟨S,⟨rfl,hS⟩,?_⟩
       cases x2:bW S p.n with
       |false =>
        simp only [o1,o2,o3,o4,o5,k2,x2,tfB,if_true,if_false,reduceCtorEq] at hR
        subst hR
        try simp only [ag,go_sem,aY,aK,ybb,o1,o2,o3,o4,o5,k2,x2]
        exact Z1
       |true =>
        simp only [o1,o2,o3,o4,o5,k2,x2,tfB,if_true,if_false,reduceCtorEq] at hR
        subst hR
        try simp only [ag,go_sem,aY,aK,ybb,o1,o2,o3,o4,o5,k2,x2]
        exact Z1
     |true =>
      try simp only [ag,go_sem,aY,aK,ybb,o1,o2,o3,o4,o5]
      refine ⟨S,⟨rfl,hS⟩,?_⟩
      cases d2:jz S p.dst with
      |false =>
       simp only [o1,o2,o3,o4,o5,d2,tfB,if_true,if_false,reduceCtorEq] at hR
       subst hR
       try simp only [ag,go_sem,aY,aK,ybb,o1,o2,o3,o4,o5,d2]
       exact Z1
      |true =>
       simp only [o1,o2,o3,o4,o5,d2,tfB,if_true,if_false,reduceCtorEq] at hR
       subst hR
       try simp only [ag,go_sem,aY,aK,ybb,o1,o2,o3,o4,o5,d2]
       exact Z1
    |true =>
     try simp only [ag,go_sem,aY,aK,ybb,o1,o2,o3,o4]
     refine ⟨S,⟨rfl,hS⟩,?_⟩
     cases d2:jz S p.dst with
     |false =>
      simp only [o1,o2,o3,o4,d2,tfB,if_true,if_false,reduceCtorEq] at hR
      subst hR
      try simp only [ag,go_sem,aY,aK,ybb,o1,o2,o3,o4,d2]
      exact Z1
     |true =>
      simp only [o1,o2,o3,o4,d2,tfB,if_true,if_false,reduceCtorEq] at hR
      subst hR
      try simp only [ag,go_sem,aY,aK,ybb,o1,o2,o3,o4,d2]
      exact Z1
   |true =>
    try simp only [ag,go_sem,aY,aK,ybb,o1,o2,o3]
    refine ⟨S,⟨rfl,hS⟩,?_⟩
    cases d1:bW S p.dst with
    |false =>
     simp only [o1,o2,o3,d1,tfB,if_true,if_false,reduceCtorEq] at hR
     subst hR
     try simp only [ag,go_sem,aY,aK,ybb,o1,o2,o3,d1]
     exact Z1
    |true =>
     cases k2:p.kind==2 with
     |false =>
      cases k3:p.kind==3 with
      |false =>
       simp only [o1,o2,o3,d1,k2,k3,tfB,if_true,if_false,reduceCtorEq] at hR
       subst hR
       try simp only [ag,go_sem,aY,aK,ybb,o1,o2,o3,d1,k2,k3]
       exact Z1
      |true =>
       cases x3:decide (p.n<(a.params.length:Int)) with
       |false =>
        simp only [o1,o2,o3,d1,k2,k3,x3,tfB,if_true,if_false,reduceCtorEq] at hR
        subst hR
        try simp only [ag,go_sem,aY,aK,ybb,o1,o2,o3,d1,k2,k3,x3]
        exact Z1
       |true =>
        simp only [o1,o2,o3,d1,k2,k3,x3,tfB,if_true,if_false,reduceCtorEq] at hR
        subst hR
        try simp only [ag,go_sem,aY,aK,ybb,o1,o2,o3,d1,k2,k3,x3]
        exact Z1
     |true =>
      try simp only [ag,go_sem,aY,aK,ybb,o1,o2,o3,d1,k2]
      refine ⟨S,⟨rfl,hS⟩,?_⟩
      cases x2:bW S p.n with
      |false =>
       simp only [o1,o2,o3,d1,k2,x2,tfB,if_true,if_false,reduceCtorEq] at hR
       subst hR
       try simp only [ag,go_sem,aY,aK,ybb,o1,o2,o3,d1,k2,x2]
       exact Z1
      |true =>
       simp only [o1,o2,o3,d1,k2,x2,tfB,if_true,if_false,reduceCtorEq] at hR
       subst hR
       try simp only [ag,go_sem,aY,aK,ybb,o1,o2,o3,d1,k2,x2]
       exact Z1
  |true =>
   try simp only [ag,go_sem,aY,aK,ybb,o1,o2]
   refine ⟨S,⟨rfl,hS⟩,?_⟩
   cases d1:bW S p.dst with
   |false =>
    simp only [o1,o2,d1,tfB,if_true,if_false,reduceCtorEq] at hR
    subst hR
    try simp only [ag,go_sem,aY,aK,ybb,o1,o2,d1]
    exact Z1
   |true =>
    cases k2:p.kind==2 with
    |false =>
     cases k3:p.kind==3 with
     |false =>
      simp only [o1,o2,d1,k2,k3,tfB,if_true,if_false,reduceCtorEq] at hR
      subst hR
      try simp only [ag,go_sem,aY,aK,ybb,o1,o2,d1,k2,k3]
      exact Z1
     |true =>
      cases x3:decide (p.n<(a.params.length:Int)) with
      |false =>
       simp only [o1,o2,d1,k2,k3,x3,tfB,if_true,if_false,reduceCtorEq] at hR
       subst hR
       try simp only [ag,go_sem,aY,aK,ybb,o1,o2,d1,k2,k3,x3]
       exact Z1
      |true =>
       simp only [o1,o2,d1,k2,k3,x3,tfB,if_true,if_false,reduceCtorEq] at hR
       subst hR
       try simp only [ag,go_sem,aY,aK,ybb,o1,o2,d1,k2,k3,x3]
       exact Z1
    |true =>
     try simp only [ag,go_sem,aY,aK,ybb,o1,o2,d1,k2]
     refine ⟨S,⟨rfl,hS⟩,?_⟩
     cases x2:bW S p.n with
     |false =>
      simp only [o1,o2,d1,k2,x2,tfB,if_true,if_false,reduceCtorEq] at hR
      subst hR
      try simp only [ag,go_sem,aY,aK,ybb,o1,o2,d1,k2,x2]
      exact Z1
     |true =>
      simp only [o1,o2,d1,k2,x2,tfB,if_true,if_false,reduceCtorEq] at hR
      subst hR
      try simp only [ag,go_sem,aY,aK,ybb,o1,o2,d1,k2,x2]
      exact Z1
 |true =>
  try simp only [ag,go_sem,aY,aK,ybb,o1]
  refine ⟨S,⟨rfl,hS⟩,?_⟩
  cases d1:bW S p.dst with
  |false =>
   simp only [o1,d1,tfB,if_true,if_false,reduceCtorEq] at hR
   subst hR
   try simp only [ag,go_sem,aY,aK,ybb,o1,d1]
   exact Z1
  |true =>
   cases k2:p.kind==2 with
   |false =>
    cases k3:p.kind==3 with
    |false =>
     simp only [o1,d1,k2,k3,tfB,if_true,if_false,reduceCtorEq] at hR
     subst hR
     try simp only [ag,go_sem,aY,aK,ybb,o1,d1,k2,k3]
     exact Z1
    |true =>
     cases x3:decide (p.n<(a.params.length:Int)) with
     |false =>
      simp only [o1,d1,k2,k3,x3,tfB,if_true,if_false,reduceCtorEq] at hR
      subst hR
      try simp only [ag,go_sem,aY,aK,ybb,o1,d1,k2,k3,x3]
      exact Z1
     |true =>
      simp only [o1,d1,k2,k3,x3,tfB,if_true,if_false,reduceCtorEq] at hR
      subst hR
      try simp only [ag,go_sem,aY,aK,ybb,o1,d1,k2,k3,x3]
      exact Z1
   |true =>
    try simp only [ag,go_sem,aY,aK,ybb,o1,d1,k2]
    refine ⟨S,⟨rfl,hS⟩,?_⟩
    cases x2:bW S p.n with
    |false =>
     simp only [o1,d1,k2,x2,tfB,if_true,if_false,reduceCtorEq] at hR
     subst hR
     try simp only [ag,go_sem,aY,aK,ybb,o1,d1,k2,x2]
     exact Z1
    |true =>
     simp only [o1,d1,k2,x2,tfB,if_true,if_false,reduceCtorEq] at hR
     subst hR
     try simp only [ag,go_sem,aY,aK,ybb,o1,d1,k2,x2]
     exact Z1
def xC:List AV→AHeap→(AV→Prop)→Prop
 |[x,.ptr c 0],H,K=>∃ (t:SKey) (S:Sch),(x=bN t∧H.get c=some (.cells (aO S))∧SLen S)∧K (.bool (bW S t.field))
 |_,_,_=>False
theorem FP:EntOk Tryz.prog 267 (Ent.pure xC):=by
 refine Ype fun _ H K h=>?_
 unfold xC at h
 split at h
 rotate_left
 ·exact h.elim
 rename_i x c
 obtain ⟨t,S,⟨rfl,hg,hS⟩,hK⟩:=h
 refine ⟨_,hK,?_⟩
 clear hK
 have hl:=glq hg
 have hne:(c=H.nx)=False:=eq_false (by omega)
 have hcs:=aq hg
 generalize hR:bW S t.field=R at *
 unfold bN
 unfold aO at hg hcs
 refine ACalls.fW ak (tCq mQ tNq) Tryz.func267 [.tmp 3] (nrq _) (T:=aj []) (h:=fun hcl hlt=>?_)
 clear hlt
 simp only [go_sem,hcs,hne,hg,aK]
 refine ⟨S,⟨rfl,hS⟩,?_⟩
 simp only [ag,go_sem,hR]
 exact Z1
def p9 (S:Sch) (t:STable):Bool:=(t.keys.all fun k=>bW S k.field)&&((t.actions.all fun a=>hZ S a)&&t.actions.contains t.dflt)
def BO:List AV→AHeap→(AV→Prop)→Prop
 |[.agg l,x],_,K=>∃ (S:Sch) (t:STable),(l=aO S∧x=az t∧SLen S∧t.keys.length≤1000000∧t.actions.length≤1000000)∧K (.bool (p9 S t))
 |_,_,_=>False
theorem Gk:EntOk Tryz.prog 134 (Ent.pure BO):=by
 refine Ype fun _ H K h=>?_
 unfold BO at h
 split at h
 rotate_left
 ·exact h.elim
 rename_i l x
 obtain ⟨S,t,⟨rfl,rfl,hS,hkl,hal⟩,hK⟩:=h
 refine ⟨_,hK,?_⟩
 clear hK
 generalize hR:p9 S t=R
 unfold p9 at hR
 unfold az
 refine ACalls.fW ak (tCq uQ (tCq pt (tCq ni tNq))) Tryz.func134 [.tmp 4] (nrq _) (T:=aj []) (h:=fun hcl hlt=>?_)
 clear hlt
 unfold aO
 try simp only [ag,go_sem,gx,cm,eA,inL]
 refine ⟨t.keys,(fun k=>bW S k.field),⟨rfl,hkl,fun x hx H' hle' hcl'=>clB FP ⟨x,S,⟨rfl,hle'.get _ _ (by (try simp only [go_sem]);first|done|rfl),hS⟩,rfl⟩⟩,?_⟩
 cases k1:t.keys.all (fun k=>bW S k.field) with
 |false =>
  simp only [k1,tfB,if_true,if_false,reduceCtorEq] at hR
  subst hR
  try simp only [ag,go_sem,gx,cm,eA,inL,k1]
  exact Z1
 |true =>
  try simp only [ag,go_sem,gx,cm,eA,inL,k1]
  refine ⟨t.actions,(fun a=>hZ S a),⟨rfl,hal,fun x hx H' hle' hcl'=>clB xE ⟨S,⟨rfl,hS⟩,rfl⟩⟩,?_⟩
  cases k2:t.actions.all (fun a=>hZ S a) with
  |false =>
   simp only [k1,k2,tfB,if_true,if_false,reduceCtorEq] at hR
   subst hR
   try simp only [ag,go_sem,gx,cm,eA,inL,k1,k2]
   exact Z1
  |true =>
   try simp only [ag,go_sem,gx,cm,eA,inL,k1,k2]
   refine ⟨t.actions,⟨rfl,hal⟩,?_⟩
   cases k3:t.actions.contains t.dflt with
   |false =>
    simp only [k1,k2,k3,tfB,if_true,if_false,reduceCtorEq] at hR
    subst hR
    try simp only [ag,go_sem,gx,cm,eA,inL,k1,k2,k3]
    exact Z1
   |true =>
    simp only [k1,k2,k3,tfB,if_true,if_false,reduceCtorEq] at hR
    subst hR
    try simp only [ag,go_sem,gx,cm,eA,inL,k1,k2,k3]
    exact Z1
theorem xZ {α:Type} (q:α→Bool) (l:List α):(ixP q l 0 = -1∧l.find? q=none)∨∃ (i:Nat) (x:α),ixP q l 0=(i:Int)∧l[i]?=some x∧l.find? q=some x∧i<l.length:=by
 obtain ⟨b1,b2⟩:=wt (q:=q) (l:=l) (k:=0)
 rcases b2 with b2|b2
 ·exact .inl ⟨b2,uf b2⟩
 ·obtain ⟨i,hi⟩:∃ i:Nat,ixP q l 0=((0+i:Nat):Int):=⟨(ixP q l 0).toNat,by omega⟩
  obtain ⟨x,h1,h2,h3⟩:=ye hi
  rw [nzq] at hi
  refine .inr ⟨i,x,hi,h1,h3,?_⟩
  rcases Nat.lt_or_ge i l.length with h|h
  ·exact h
  ·rw [gNq h] at h1;cases h1
def oF (S:Sch) (x:SRef):Bool :=
 match S.tables.find? (fun t=>t.id==x.table),S.tables.find? (fun t=>t.id==x.toTable) with
 |some a,some b=>decide (x.toKey<(b.keys.length:Int))&&(if x.action==0 then decide (x.key<(a.keys.length:Int)) else a.actions.contains x.action&&(match S.actions.find? (fun t=>t.id==x.action) with|some c=>decide (x.param<(c.params.length:Int))|none=>false))
 |_,_=>false
def Ei:List AV→AHeap→(AV→Prop)→Prop
 |[.agg l,x],_,K=>∃ (S:Sch) (t:SRef),(l=aO S∧x=bZ t∧SB S∧∀ t∈S.tables,∀ a∈t.actions,hZ S a=true)∧K (.bool (oF S t))
 |_,_,_=>False
theorem ok_fRef:EntOk Tryz.prog 143 (Ent.pure Ei):=by
 refine Ype fun _ H K h=>?_
 unfold Ei at h
 split at h
 rotate_left
 ·exact h.elim
 rename_i l x
 obtain ⟨S,r,⟨rfl,rfl,hS,hA⟩,hK⟩:=h
 refine ⟨_,hK,?_⟩
 clear hK
 generalize hR:oF S r=R
 unfold oF at hR
 unfold bZ
 have htl:=hS.sl.tl
 have hsl:=hS.sl.al
 rcases xZ (fun t:STable=>t.id==r.table) S.tables with ⟨i1,f1⟩|⟨i,a,i1,g1,f1,l1⟩
 ·simp only [f1] at hR
  subst hR
  have d1:decide ((-1:Int)<0)=true:=rfl
  refine ACalls.fW ak (tCq eS (tCq ni (tCq fC tNq))) Tryz.func143 [.tmp 4] (nrq _) (T:=aj [(1,[[],[],[],[],[1,3],[],[],[],[],[1,3,4,6,8]]),(6,[[],[],[],[],[],[],[],[],[],[2,6,8],[],[],[9],[],[],[9],[],[9],[],[9],[2,6,8,9,17,19],[],[],[9,20]])]) (h:=fun hcl hlt=>?_)
  clear hlt
  unfold aO
  simp only [go_sem,cz,eA,ex,i1]
  refine ⟨S,⟨rfl,htl⟩,?_⟩
  simp only [ag,go_sem,cz,i1]
  refine ⟨S,⟨rfl,htl⟩,?_⟩
  simp only [ag,go_sem,i1,d1]
  exact Z1
 ·have d1:decide ((i:Int)<0)=false:=dfq (by omega)
  rcases xZ (fun t:STable=>t.id==r.toTable) S.tables with ⟨i2,f2⟩|⟨j,b,i2,g2,f2,l2⟩
  ·simp only [f1,f2] at hR
   subst hR
   have d2:decide ((-1:Int)<0)=true:=rfl
   refine ACalls.fW ak (tCq eS (tCq ni (tCq fC tNq))) Tryz.func143 [.tmp 4] (nrq _) (T:=aj [(1,[[],[],[],[],[1,3],[],[],[],[],[1,3,4,6,8]]),(6,[[],[],[],[],[],[],[],[],[],[2,6,8],[],[],[9],[],[],[9],[],[9],[],[9],[2,6,8,9,17,19],[],[],[9,20]])]) (h:=fun hcl hlt=>?_)
   clear hlt
   unfold aO
   simp only [go_sem,cz,eA,ex,i1]
   refine ⟨S,⟨rfl,htl⟩,?_⟩
   simp only [ag,go_sem,cz,i1,i2]
   refine ⟨S,⟨rfl,htl⟩,?_⟩
   simp only [ag,go_sem,i1,i2,d1,d2]
   exact Z1
  ·simp only [f1,f2] at hR
   have d2:decide ((j:Int)<0)=false:=dfq (by omega)
   have ga:=aW (f:=az) (l:=S.tables) (k:=i) (x:=a) g1
   have gb:=aW (f:=az) (l:=S.tables) (k:=j) (x:=b) g2
   have hca:az a=.agg [.int .i64 a.id,.str a.name,.slice .any 3 (a.keys.map bN),.slice .any 1 (inL a.actions),.int .i64 a.dflt,.slice .any 2 (a.dargs.map vv),.int .i64 a.size,.str a.restr]:=rfl
   have hcb:az b=.agg [.int .i64 b.id,.str b.name,.slice .any 3 (b.keys.map bN),.slice .any 1 (inL b.actions),.int .i64 b.dflt,.slice .any 2 (b.dargs.map vv),.int .i64 b.size,.str b.restr]:=rfl
   rw [hca] at ga
   rw [hcb] at gb
   have hma:a∈S.tables:=List.mem_of_getElem? g1
   obtain ⟨c0,h0⟩:∃ c,decide (r.toKey<(b.keys.length:Int))=c:=⟨_,rfl⟩
   have d0:decide (r.toKey ≥ (b.keys.length:Int))=!c0:=by
    rw [← h0]
    by_cases h:r.toKey<(b.keys.length:Int)
    ·rw [dtq h,dfq (by omega)];rfl
    ·rw [dfq h,dtq (by omega)];rfl
   rw [h0] at hR
   refine ACalls.fW ak (tCq eS (tCq ni (tCq fC tNq))) Tryz.func143 [.tmp 4] (nrq _) (T:=aj [(1,[[],[],[],[],[1,3],[],[],[],[],[1,3,4,6,8]]),(6,[[],[],[],[],[],[],[],[],[],[2,6,8],[],[],[9],[],[],[9],[],[9],[],[9],[2,6,8,9,17,19],[],[],[9,20]])]) (h:=fun hcl hlt=>?_)
   clear hlt
   unfold aO
   simp only [go_sem,cz,eA,ex,i1]
   refine ⟨S,⟨rfl,htl⟩,?_⟩
   simp only [ag,go_sem,cz,i1,i2]
   refine ⟨S,⟨rfl,htl⟩,?_⟩
   simp only [ag,go_sem,i1,i2,d1,d2,gb,d0,iNq,ybb]
   try (repeat with_reducible refine Yq ?_)
   cases c0 with
   |false =>
    rw [Bool.false_and] at hR
    subst hR
    try simp only [go_sem]
    try (repeat with_reducible refine Yq ?_)
    exact Z1
   |true =>
    rw [Bool.true_and] at hR
    cases ca:r.action==0 with
    |true =>
     rw [ca,if_pos rfl] at hR
     subst hR
     try simp only [go_sem,ca,ga,iNq,ybb]
     try (repeat with_reducible refine Yq ?_)
     exact Z1
    |false =>
     rw [ca,if_neg Bool.false_ne_true] at hR
     try simp only [go_sem,ca,ga,iNq,ybb]
     try (repeat with_reducible refine Yq ?_)
     have hal:=(hS.tn a hma).2.2.1
     refine ⟨a.actions,⟨rfl,hal⟩,?_⟩
     cases cc:a.actions.contains r.action with
     |false =>
      rw [cc,Bool.false_and] at hR
      subst hR
      simp only [ag,go_sem,cc]
      try (repeat with_reducible refine Yq ?_)
      exact Z1
     |true =>
      rw [cc,Bool.true_and] at hR
      have hmem:r.action∈a.actions:=by simpa using cc
      have hany:=hA a hma _ hmem
      rcases xZ (fun t:SAction=>t.id==r.action) S.actions with ⟨_,f3⟩|⟨m,c,i3,g3,f3,l3⟩
      ·exfalso
       unfold hZ at hany
       rw [List.any_eq_true] at hany
       obtain ⟨y,hy,hy2⟩:=hany
       exact absurd hy2 (by have:=List.find?_eq_none.1 f3 y hy;simpa using this)
      ·simp only [f3] at hR
       subst hR
       have gc:=aW (f:=ax) (l:=S.actions) (k:=m) (x:=c) g3
       have hcc:ax c=.agg [.int .i64 c.id,.str c.name,.slice .any 2 (c.params.map bv),.slice .any 6 (c.body.map cl),.str c.restr]:=rfl
       rw [hcc] at gc
       simp only [ag,go_sem,cc,ex]
       refine ⟨S,⟨rfl,hsl⟩,?_⟩
       simp only [ag,go_sem,i3,gc,iNq,ybb]
       try (repeat with_reducible refine Yq ?_)
       exact Z1
def vL (S:Sch) (t:SHeader):Bool:=t.fields.all fun n=>bW S n
def wS (S:Sch) (t:SAction):Bool:=t.body.all fun p=>ny S t.params.length p
def wA (S:Sch) (t:SStage):Bool:=fY S t.table&&(t.header==0||jz S t.header)
def uW (S:Sch) (t:SRole):Bool:=(t.grants.all fun g=>fY S g.table)&&t.actions.all fun a=>hZ S a
def J8:List AV→AHeap→(AV→Prop)→Prop
 |[x,.ptr c 0],H,K=>∃ (t:SHeader) (S:Sch),(x=aH t∧H.get c=some (.cells (aO S))∧SLen S∧t.fields.length≤1000000)∧K (.bool (vL S t))
 |_,_,_=>False
theorem KF:EntOk Tryz.prog 128 (Ent.pure J8):=by
 refine Ype fun _ H K h=>?_
 unfold J8 at h
 split at h
 rotate_left
 ·exact h.elim
 rename_i x c
 obtain ⟨t,S,⟨rfl,hg,hS,hfl⟩,hK⟩:=h
 refine ⟨_,hK,?_⟩
 clear hK
 have hl:=glq hg
 have hne:(c=H.nx)=False:=eq_false (by omega)
 have hcs:=aq hg
 have hgS:=hg
 generalize hR:(vL S t)=R
 unfold vL at hR
 unfold aH
 unfold aO at hg hcs
 refine ACalls.fW ak (tCq pt tNq) Tryz.func128 [.tmp 3] (nrq _) (T:=aj []) (h:=fun hcl hlt=>?_)
 clear hlt
 try simp only [ag,go_sem,hcs,hne,hg,inL,cm,ei,aY,b6,bS,aK]
 refine ⟨t.fields,(fun n=>bW S n),⟨rfl,hfl,fun x hx H' hle' hcl'=>clB mQ ⟨S,⟨rfl,hS⟩,rfl⟩⟩,?_⟩
 cases k1:t.fields.all (fun n=>bW S n) with
 |false =>
  simp only [k1,tfB,if_true,if_false,reduceCtorEq] at hR
  subst hR
  try simp only [ag,go_sem,hcs,hne,hg,inL,cm,ei,aY,b6,bS,aK,k1]
  exact Z1
 |true =>
  simp only [k1,tfB,if_true,if_false,reduceCtorEq] at hR
  subst hR
  try simp only [ag,go_sem,hcs,hne,hg,inL,cm,ei,aY,b6,bS,aK,k1]
  exact Z1
def J9:List AV→AHeap→(AV→Prop)→Prop
 |[x,.ptr c 0],H,K=>∃ (t:SStage) (S:Sch),(x=cu t∧H.get c=some (.cells (aO S))∧SLen S)∧K (.bool (wA S t))
 |_,_,_=>False
theorem Ld:EntOk Tryz.prog 136 (Ent.pure J9):=by
 refine Ype fun _ H K h=>?_
 unfold J9 at h
 split at h
 rotate_left
 ·exact h.elim
 rename_i x c
 obtain ⟨t,S,⟨rfl,hg,hS⟩,hK⟩:=h
 refine ⟨_,hK,?_⟩
 clear hK
 have hl:=glq hg
 have hne:(c=H.nx)=False:=eq_false (by omega)
 have hcs:=aq hg
 have hgS:=hg
 generalize hR:(wA S t)=R
 unfold wA at hR
 unfold cu
 unfold aO at hg hcs
 refine ACalls.fW ak (tCq yu (tCq tD tNq)) Tryz.func136 [.tmp 3] (nrq _) (T:=aj []) (h:=fun hcl hlt=>?_)
 clear hlt
 try simp only [ag,go_sem,hcs,hne,hg,inL,cm,ei,aY,b6,bS,aK]
 refine ⟨S,⟨rfl,hS⟩,?_⟩
 cases k1:fY S t.table with
 |false =>
  simp only [k1,tfB,if_true,if_false,reduceCtorEq] at hR
  subst hR
  try simp only [ag,go_sem,hcs,hne,hg,inL,cm,ei,aY,b6,bS,aK,k1]
  exact Z1
 |true =>
  cases k2:t.header==0 with
  |true =>
   simp only [k1,k2,tfB,if_true,if_false,reduceCtorEq] at hR
   subst hR
   try simp only [ag,go_sem,hcs,hne,hg,inL,cm,ei,aY,b6,bS,aK,k1,k2]
   exact Z1
  |false =>
   try simp only [ag,go_sem,hcs,hne,hg,inL,cm,ei,aY,b6,bS,aK,k1,k2]
   refine ⟨S,⟨rfl,hS⟩,?_⟩
   cases k3:jz S t.header with
   |false =>
    simp only [k1,k2,k3,tfB,if_true,if_false,reduceCtorEq] at hR
    subst hR
    try simp only [ag,go_sem,hcs,hne,hg,inL,cm,ei,aY,b6,bS,aK,k1,k2,k3]
    exact Z1
   |true =>
    simp only [k1,k2,k3,tfB,if_true,if_false,reduceCtorEq] at hR
    subst hR
    try simp only [ag,go_sem,hcs,hne,hg,inL,cm,ei,aY,b6,bS,aK,k1,k2,k3]
    exact Z1
def F0:List AV→AHeap→(AV→Prop)→Prop
 |[x,.ptr c 0],H,K=>∃ (t:SGrant) (S:Sch),(x=bk t∧H.get c=some (.cells (aO S))∧SLen S)∧K (.bool (fY S t.table))
 |_,_,_=>False
theorem IR:EntOk Tryz.prog 141 (Ent.pure F0):=by
 refine Ype fun _ H K h=>?_
 unfold F0 at h
 split at h
 rotate_left
 ·exact h.elim
 rename_i x c
 obtain ⟨t,S,⟨rfl,hg,hS⟩,hK⟩:=h
 refine ⟨_,hK,?_⟩
 clear hK
 have hl:=glq hg
 have hne:(c=H.nx)=False:=eq_false (by omega)
 have hcs:=aq hg
 have hgS:=hg
 generalize hR:(fY S t.table)=R
 skip
 unfold bk
 unfold aO at hg hcs
 refine ACalls.fW ak (tCq yu tNq) Tryz.func141 [.tmp 3] (nrq _) (T:=aj []) (h:=fun hcl hlt=>?_)
 clear hlt
 try simp only [ag,go_sem,hcs,hne,hg,inL,cm,ei,aY,b6,bS,aK]
 refine ⟨S,⟨rfl,hS⟩,?_⟩
 cases k1:fY S t.table with
 |false =>
  simp only [k1,tfB,if_true,if_false,reduceCtorEq] at hR
  subst hR
  try simp only [ag,go_sem,hcs,hne,hg,inL,cm,ei,aY,b6,bS,aK,k1]
  exact Z1
 |true =>
  simp only [k1,tfB,if_true,if_false,reduceCtorEq] at hR
  subst hR
  try simp only [ag,go_sem,hcs,hne,hg,inL,cm,ei,aY,b6,bS,aK,k1]
  exact Z1
def JW:List AV→AHeap→(AV→Prop)→Prop
 |[x,.ptr c 0],H,K=>∃ (t:SRole) (S:Sch),(x=br t∧H.get c=some (.cells (aO S))∧SLen S∧t.grants.length≤1000000∧t.actions.length≤1000000)∧K (.bool (uW S t))
 |_,_,_=>False
theorem K3:EntOk Tryz.prog 139 (Ent.pure JW):=by
 refine Ype fun _ H K h=>?_
 unfold JW at h
 split at h
 rotate_left
 ·exact h.elim
 rename_i x c
 obtain ⟨t,S,⟨rfl,hg,hS,hgl,hal⟩,hK⟩:=h
 refine ⟨_,hK,?_⟩
 clear hK
 have hl:=glq hg
 have hne:(c=H.nx)=False:=eq_false (by omega)
 have hcs:=aq hg
 have hgS:=hg
 generalize hR:(uW S t)=R
 unfold uW at hR
 unfold br
 unfold aO at hg hcs
 refine ACalls.fW ak (tCq vr (tCq pt tNq)) Tryz.func139 [.tmp 3] (nrq _) (T:=aj []) (h:=fun hcl hlt=>?_)
 clear hlt
 try simp only [ag,go_sem,hcs,hne,hg,inL,cm,ei,aY,b6,bS,aK]
 refine ⟨t.grants,(fun g=>fY S g.table),⟨rfl,hgl,fun x hx H' hle' hcl'=>clB IR ⟨x,S,⟨rfl,hle'.get _ _ (by rw [zlh,if_neg (by omega)];exact hgS),hS⟩,rfl⟩⟩,?_⟩
 cases k1:t.grants.all (fun g=>fY S g.table) with
 |false =>
  simp only [k1,tfB,if_true,if_false,reduceCtorEq] at hR
  subst hR
  try simp only [ag,go_sem,hcs,hne,hg,inL,cm,ei,aY,b6,bS,aK,k1]
  exact Z1
 |true =>
  try simp only [ag,go_sem,hcs,hne,hg,inL,cm,ei,aY,b6,bS,aK,k1]
  refine ⟨t.actions,(fun a=>hZ S a),⟨rfl,hal,fun x hx H' hle' hcl'=>clB xE ⟨S,⟨rfl,hS⟩,rfl⟩⟩,?_⟩
  cases k2:t.actions.all (fun a=>hZ S a) with
  |false =>
   simp only [k1,k2,tfB,if_true,if_false,reduceCtorEq] at hR
   subst hR
   try simp only [ag,go_sem,hcs,hne,hg,inL,cm,ei,aY,b6,bS,aK,k1,k2]
   exact Z1
  |true =>
   simp only [k1,k2,tfB,if_true,if_false,reduceCtorEq] at hR
   subst hR
   try simp only [ag,go_sem,hcs,hne,hg,inL,cm,ei,aY,b6,bS,aK,k1,k2]
   exact Z1
def BX:List AV→AHeap→(AV→Prop)→Prop
 |[x,.ptr c 0,.ptr d 0],H,K=>∃ (t:SPrim) (a:SAction) (S:Sch) (cs:List AV),(x=cl t∧H.get c=some (.cells (aO S))∧H.get d=some (.cells cs)∧ax a=.agg cs∧SLen S)∧K (.bool (ny S a.params.length t))
 |_,_,_=>False
theorem I3:EntOk Tryz.prog 132 (Ent.pure BX):=by
 refine Ype fun _ H K h=>?_
 unfold BX at h
 split at h
 rotate_left
 ·exact h.elim
 rename_i x c d
 obtain ⟨t,a,S,cs,⟨rfl,hg,hgd,hac,hS⟩,hK⟩:=h
 refine ⟨_,hK,?_⟩
 clear hK
 unfold ax at hac
 cases hac
 have hl:=glq hg
 have hne:(c=H.nx)=False:=eq_false (by omega)
 have hcs:=aq hg
 have hl2:=glq hgd
 have hne2:(d=H.nx)=False:=eq_false (by omega)
 have hcs2:=aq hgd
 generalize hR:(ny S a.params.length t)=R
 unfold cl vc
 unfold aO at hg hcs
 refine ACalls.fW ak (tCq Jy tNq) Tryz.func132 [.tmp 4] (nrq _) (T:=aj []) (h:=fun hcl hlt=>?_)
 clear hlt
 simp only [go_sem,hcs,hne,hg,hcs2,hne2,hgd,wi]
 refine ⟨S,a,t,⟨rfl,rfl,rfl,hS⟩,?_⟩
 simp only [ag,go_sem,hR]
 exact Z1
def J6:List AV→AHeap→(AV→Prop)→Prop
 |[x,.ptr c 0],H,K=>∃ (t:SAction) (S:Sch),(x=ax t∧H.get c=some (.cells (aO S))∧SLen S∧t.body.length≤1000000)∧K (.bool (wS S t))
 |_,_,_=>False
theorem KN:EntOk Tryz.prog 131 (Ent.pure J6):=by
 refine Ype fun _ H K h=>?_
 unfold J6 at h
 split at h
 rotate_left
 ·exact h.elim
 rename_i x c
 obtain ⟨t,S,⟨rfl,hg,hS,hbl⟩,hK⟩:=h
 refine ⟨_,hK,?_⟩
 clear hK
 have hl:=glq hg
 have hne:(c=H.nx)=False:=eq_false (by omega)
 have hcs:=aq hg
 have hgS:=hg
 generalize hR:(wS S t)=R
 unfold wS at hR
 unfold ax
 unfold aO at hg hcs
 refine ACalls.fW ak (tCq qz tNq) Tryz.func131 [.tmp 3] (nrq _) (T:=aj []) (h:=fun hcl hlt=>?_)
 clear hlt
 try simp only [ag,go_sem,hcs,hne,hg,inL,cm,ei,aY,b6,bS,aK]
 refine ⟨t.body,(fun p=>ny S t.params.length p),⟨rfl,hbl,fun x hx H' hle' hcl'=>clB I3 ⟨x,t,S,_,⟨rfl,hle'.get _ _ (by rw [zlh,if_neg (by omega)];exact hgS),hle'.get _ _ (AHeap.get_push_new _ _),rfl,hS⟩,rfl⟩⟩,?_⟩
 cases k1:t.body.all (fun p=>ny S t.params.length p) with
 |false =>
  simp only [k1,tfB,if_true,if_false,reduceCtorEq] at hR
  subst hR
  try simp only [ag,go_sem,hcs,hne,hg,inL,cm,ei,aY,b6,bS,aK,k1]
  exact Z1
 |true =>
  simp only [k1,tfB,if_true,if_false,reduceCtorEq] at hR
  subst hR
  try simp only [ag,go_sem,hcs,hne,hg,inL,cm,ei,aY,b6,bS,aK,k1]
  exact Z1
def hP (S:Sch):Bool:=bW S 1&&(bW S 2&&(S.headers.all (vL S)&&(S.states.all (uG S)&&(S.actions.all (wS S)&&(S.tables.all (p9 S)&&(S.stages.all (wA S)&&(S.roles.all (uW S)&&S.refs.all (oF S))))))))
def jG:List AV→AHeap→(AV→Prop)→Prop
 |[.agg l],_,K=>∃ S:Sch,(l=aO S∧SB S)∧K (.bool (hP S))
 |_,_,_=>False
theorem y9:EntOk Tryz.prog 35 (Ent.pure jG):=by
 refine Ype fun _ H K h=>?_
 unfold jG at h
 split at h
 rotate_left
 ·exact h.elim
 rename_i l
 obtain ⟨S,⟨rfl,hB⟩,hK⟩:=h
 refine ⟨_,hK,?_⟩
 clear hK
 have hS:=hB.sl
 generalize hR:hP S=R
 unfold hP at hR
 refine ACalls.fW ak (tCq mQ (tCq mM (tCq mG (tCq lj (tCq jH (tCq Bz (tCq kO (tCq ns tNq)))))))) Tryz.func35 [.tmp 2] (nrq _) (T:=aj []) (h:=fun hcl hlt=>?_)
 clear hlt
 unfold aO
 try simp only [ag,go_sem,aK,bh,bn,bf,bg,dw,bw,bA]
 refine ⟨S,⟨rfl,hS⟩,?_⟩
 cases k1:bW S 1 with
 |false =>
  simp only [k1,tfB,if_true,if_false,reduceCtorEq] at hR
  subst hR
  try simp only [ag,go_sem,aK,bh,bn,bf,bg,dw,bw,bA,k1]
  exact Z1
 |true =>
  try simp only [ag,go_sem,aK,bh,bn,bf,bg,dw,bw,bA,k1]
  refine ⟨S,⟨rfl,hS⟩,?_⟩
  cases k2:bW S 2 with
  |false =>
   simp only [k1,k2,tfB,if_true,if_false,reduceCtorEq] at hR
   subst hR
   try simp only [ag,go_sem,aK,bh,bn,bf,bg,dw,bw,bA,k1,k2]
   exact Z1
  |true =>
   try simp only [ag,go_sem,aK,bh,bn,bf,bg,dw,bw,bA,k1,k2]
   refine ⟨S.headers,vL S,⟨rfl,hS.hl,fun x hx H' hle' hcl'=>clB KF ⟨x,S,⟨rfl,hle'.get _ _ (by (try simp only [go_sem]);first|done|rfl),hS,(hB.hn x hx).2⟩,rfl⟩⟩,?_⟩
   cases k3:S.headers.all (vL S) with
   |false =>
    simp only [k1,k2,k3,tfB,if_true,if_false,reduceCtorEq] at hR
    subst hR
    try simp only [ag,go_sem,aK,bh,bn,bf,bg,dw,bw,bA,k1,k2,k3]
    exact Z1
   |true =>
    try simp only [ag,go_sem,aK,bh,bn,bf,bg,dw,bw,bA,k1,k2,k3]
    refine ⟨S.states,uG S,⟨rfl,hS.sl,fun x hx H' hle' hcl'=>clB Ip ⟨S,x,⟨rfl,rfl,hS,hB.sn x hx⟩,rfl⟩⟩,?_⟩
    cases k4:S.states.all (uG S) with
    |false =>
     simp only [k1,k2,k3,k4,tfB,if_true,if_false,reduceCtorEq] at hR
     subst hR
     try simp only [ag,go_sem,aK,bh,bn,bf,bg,dw,bw,bA,k1,k2,k3,k4]
     exact Z1
    |true =>
     try simp only [ag,go_sem,aK,bh,bn,bf,bg,dw,bw,bA,k1,k2,k3,k4]
     refine ⟨S.actions,wS S,⟨rfl,hS.al,fun x hx H' hle' hcl'=>clB KN ⟨x,S,⟨rfl,hle'.get _ _ (by (try simp only [go_sem]);first|done|rfl),hS,(hB.an x hx).2.2.1⟩,rfl⟩⟩,?_⟩
     cases k5:S.actions.all (wS S) with
     |false =>
      simp only [k1,k2,k3,k4,k5,tfB,if_true,if_false,reduceCtorEq] at hR
      subst hR
      try simp only [ag,go_sem,aK,bh,bn,bf,bg,dw,bw,bA,k1,k2,k3,k4,k5]
      exact Z1
     |true =>
      try simp only [ag,go_sem,aK,bh,bn,bf,bg,dw,bw,bA,k1,k2,k3,k4,k5]
      refine ⟨S.tables,p9 S,⟨rfl,hS.tl,fun x hx H' hle' hcl'=>clB Gk ⟨S,x,⟨rfl,rfl,hS,(hB.tn x hx).2.1,(hB.tn x hx).2.2.1⟩,rfl⟩⟩,?_⟩
      cases k6:S.tables.all (p9 S) with
      |false =>
       simp only [k1,k2,k3,k4,k5,k6,tfB,if_true,if_false,reduceCtorEq] at hR
       subst hR
       try simp only [ag,go_sem,aK,bh,bn,bf,bg,dw,bw,bA,k1,k2,k3,k4,k5,k6]
       exact Z1
      |true =>
       try simp only [ag,go_sem,aK,bh,bn,bf,bg,dw,bw,bA,k1,k2,k3,k4,k5,k6]
       refine ⟨S.stages,wA S,⟨rfl,hB.gl,fun x hx H' hle' hcl'=>clB Ld ⟨x,S,⟨rfl,hle'.get _ _ (by (try simp only [go_sem]);first|done|rfl),hS⟩,rfl⟩⟩,?_⟩
       cases k7:S.stages.all (wA S) with
       |false =>
        simp only [k1,k2,k3,k4,k5,k6,k7,tfB,if_true,if_false,reduceCtorEq] at hR
        subst hR
        try simp only [ag,go_sem,aK,bh,bn,bf,bg,dw,bw,bA,k1,k2,k3,k4,k5,k6,k7]
        exact Z1
       |true =>
        try simp only [ag,go_sem,aK,bh,bn,bf,bg,dw,bw,bA,k1,k2,k3,k4,k5,k6,k7]
        refine ⟨S.roles,uW S,⟨rfl,hS.rl,fun x hx H' hle' hcl'=>clB K3 ⟨x,S,⟨rfl,hle'.get _ _ (by (try simp only [go_sem]);first|done|rfl),hS,(hB.rn x hx).2.1,(hB.rn x hx).2.2.1⟩,rfl⟩⟩,?_⟩
        cases k8:S.roles.all (uW S) with
        |false =>
         simp only [k1,k2,k3,k4,k5,k6,k7,k8,tfB,if_true,if_false,reduceCtorEq] at hR
         subst hR
         try simp only [ag,go_sem,aK,bh,bn,bf,bg,dw,bw,bA,k1,k2,k3,k4,k5,k6,k7,k8]
         exact Z1
        |true =>
         try simp only [ag,go_sem,aK,bh,bn,bf,bg,dw,bw,bA,k1,k2,k3,k4,k5,k6,k7,k8]
         refine ⟨S.refs,oF S,⟨rfl,hB.xl,fun x hx H' hle' hcl'=>by
          obtain ⟨v,hv,hc'⟩:=ok_fRef.1 rfl [.agg (aO S),bZ x] H' (fun v=>v=.bool (oF S x)) ⟨S,x,⟨rfl,rfl,hB,fun t ht a ha=>by
           have h1:=List.all_eq_true.1 k6 t ht
           unfold p9 at h1
           simp only [Bool.and_eq_true] at h1
           exact List.all_eq_true.1 h1.2.1 a ha⟩,rfl⟩
          subst hv
          exact hc'⟩,?_⟩
         cases k9:S.refs.all (oF S) with
         |false =>
          simp only [k1,k2,k3,k4,k5,k6,k7,k8,k9,tfB,if_true,if_false,reduceCtorEq] at hR
          subst hR
          try simp only [ag,go_sem,aK,bh,bn,bf,bg,dw,bw,bA,k1,k2,k3,k4,k5,k6,k7,k8,k9]
          exact Z1
         |true =>
          simp only [k1,k2,k3,k4,k5,k6,k7,k8,k9,tfB,if_true,if_false,reduceCtorEq] at hR
          subst hR
          try simp only [ag,go_sem,aK,bh,bn,bf,bg,dw,bw,bA,k1,k2,k3,k4,k5,k6,k7,k8,k9]
          exact Z1
theorem lK {α:Type} {q:α→Bool} {l:List α} {x:α} (h:l.find? q=some x):∃ i:Nat,ixP q l 0=(i:Int)∧l[i]?=some x∧i<l.length:=by
 rcases xZ q l with ⟨_,h2⟩|⟨i,y,h1,h2,h3,h4⟩
 ·rw [h2] at h;cases h
 ·rw [h3] at h;cases h;exact ⟨i,h1,h2,h4⟩
def bB:List AV→AHeap→(AV→Prop)→Prop
 |[.agg l,.int .i64 n],_,K=>∃ (S:Sch) (x:SField),(l=aO S∧SLen S∧S.fields.find? (fun t=>t.id==n)=some x)∧K (.int .i64 x.bits)
 |_,_,_=>False
theorem kV:EntOk Tryz.prog 146 (Ent.pure bB):=by
 refine Ype fun _ H K h=>?_
 unfold bB at h
 split at h
 rotate_left
 ·exact h.elim
 rename_i l n
 obtain ⟨S,x,⟨rfl,hS,hx⟩,hK⟩:=h
 refine ⟨_,hK,?_⟩
 clear hK
 obtain ⟨i,i1,g1,l1⟩:=lK hx
 have ga:=aW (f:=aV) (l:=S.fields) (k:=i) (x:=x) g1
 have hca:aV x=.agg [.int .i64 x.id,.str x.name,.int .i64 x.bits]:=rfl
 rw [hca] at ga
 refine ACalls.fW ak (tCq ot tNq) Tryz.func146 [.tmp 4] (nrq _) (T:=aj [(1,[[],[],[],[],[2],[],[],[4]])]) (h:=fun hcl hlt=>?_)
 clear hlt
 unfold aO
 simp only [go_sem,jX]
 refine ⟨S,⟨rfl,hS.fl⟩,?_⟩
 simp only [ag,go_sem,i1,ga,iNq,ybb]
 try (repeat with_reducible refine Yq ?_)
 exact Z1
theorem rN {P:Program} {H1 H:AHeap} {fr:Fr} {x:AV} {t s:Nat} {ty uy:TypeId}:eb P [.cell t ty,.cell s uy] (.ret x) H1 fr H=match zjg P ty (Fr.get fr t) H with|some r=>r.c∧(match zjg P uy (Fr.get fr s) H with|some q=>q.c∧aa H (.tup [r.v,q.v]) H1 x|none=>False)|none=>False:=by
 simp only [eb,js,mq]
 cases zjg P ty (Fr.get fr t) H with
 |none=>rfl
 |some r =>
  cases zjg P uy (Fr.get fr s) H with
  |none=>simp
  |some q=>simp [one,and_assoc]
def lC:SKey:=⟨[],0,0⟩
def oM:List AV→AHeap→(AV→Prop)→Prop
 |[.agg l,x],_,K=>∃ (S:Sch) (r:SRef) (b:STable) (ka kb:SKey),(l=aO S∧x=bZ r∧SLen S∧S.tables.find? (fun t=>t.id==r.toTable)=some b∧0≤r.toKey∧b.keys[r.toKey.toNat]?=some kb ∧
   (if r.action==0 then ∃ a,S.tables.find? (fun t=>t.id==r.table)=some a∧0≤r.key∧a.keys[r.key.toNat]?=some ka else ka=lC))∧K (.tup [bN ka,bN kb])
 |_,_,_=>False
theorem uv:EntOk Tryz.prog 145 (Ent.pure oM):=by
 refine Ype fun _ H K h=>?_
 unfold oM at h
 split at h
 rotate_left
 ·exact h.elim
 rename_i l x
 obtain ⟨S,r,b,ka,kb,⟨rfl,rfl,hS,hb,hp,hkb,hka⟩,hK⟩:=h
 refine ⟨_,hK,?_⟩
 clear hK
 unfold bZ
 obtain ⟨j,j1,g2,l2⟩:=lK hb
 have gb:=aW (f:=az) (l:=S.tables) (k:=j) (x:=b) g2
 have hcb:az b=.agg [.int .i64 b.id,.str b.name,.slice .any 3 (b.keys.map bN),.slice .any 1 (inL b.actions),.int .i64 b.dflt,.slice .any 2 (b.dargs.map vv),.int .i64 b.size,.str b.restr]:=rfl
 rw [hcb] at gb
 have gkb:=aW (f:=bN) (l:=b.keys) (k:=r.toKey.toNat) (x:=kb) hkb
 have hkb':bN kb=.agg [.str kb.name,.int .i64 kb.field,.int .i64 kb.kind]:=rfl
 rw [hkb'] at gkb ⊢
 have hlb:r.toKey.toNat<b.keys.length:=by
  rcases Nat.lt_or_ge r.toKey.toNat b.keys.length with h|h
  ·exact h
  ·rw [gNq h] at hkb;cases hkb
 cases ca:r.action==0 with
 |false =>
  rw [ca,if_neg Bool.false_ne_true] at hka
  subst hka
  unfold lC bN
  refine ACalls.fW ak (tCq eS tNq) Tryz.func145 [.cell 4 53,.cell 5 53] (nrq _) (T:=aj [(2,[[],[],[],[],[],[2,4],[],[],[5],[],[],[],[5],[1,2,4,5,8,10,12]]),(3,[[],[],[],[],[],[],[3,5],[],[],[6],[],[],[],[6],[0,3,5,6],[0,2,3,5,6,9,11,13]])]) (h:=fun hcl hlt=>?_)
  clear hlt
  unfold aO
  simp only [go_sem,ca,cz]
  refine ⟨S,⟨rfl,hS.tl⟩,?_⟩
  simp only [ag,go_sem,j1,gb,gkb,iNq,ybb,rN]
  refine ⟨⟨by omega,by omega⟩,⟨by omega,by omega⟩,?_⟩
  exact Z1
 |true =>
  rw [ca,if_pos rfl] at hka
  obtain ⟨a,ha,hp2,hka⟩:=hka
  obtain ⟨i,i1,g1,l1⟩:=lK ha
  have ga:=aW (f:=az) (l:=S.tables) (k:=i) (x:=a) g1
  have hca:az a=.agg [.int .i64 a.id,.str a.name,.slice .any 3 (a.keys.map bN),.slice .any 1 (inL a.actions),.int .i64 a.dflt,.slice .any 2 (a.dargs.map vv),.int .i64 a.size,.str a.restr]:=rfl
  rw [hca] at ga
  have gka:=aW (f:=bN) (l:=a.keys) (k:=r.key.toNat) (x:=ka) hka
  have hka':bN ka=.agg [.str ka.name,.int .i64 ka.field,.int .i64 ka.kind]:=rfl
  rw [hka'] at gka ⊢
  have hla:r.key.toNat<a.keys.length:=by
   rcases Nat.lt_or_ge r.key.toNat a.keys.length with h|h
   ·exact h
   ·rw [gNq h] at hka;cases hka
  refine ACalls.fW ak (tCq eS tNq) Tryz.func145 [.cell 4 53,.cell 5 53] (nrq _) (T:=aj [(2,[[],[],[],[],[],[2,4],[],[],[5],[],[],[],[5],[1,2,4,5,8,10,12]]),(3,[[],[],[],[],[],[],[3,5],[],[],[6],[],[],[],[6],[0,3,5,6],[0,2,3,5,6,9,11,13]])]) (h:=fun hcl hlt=>?_)
  clear hlt
  unfold aO
  simp only [go_sem,ca,cz]
  refine ⟨S,⟨rfl,hS.tl⟩,?_⟩
  simp only [ag,go_sem,i1,ga,gka,iNq,ybb,cz]
  refine ⟨⟨by omega,by omega⟩,⟨by omega,by omega⟩,?_⟩
  try simp only [ag,go_sem,cz]
  refine ⟨S,⟨rfl,hS.tl⟩,?_⟩
  simp only [ag,go_sem,j1,gb,gkb,iNq,ybb,rN]
  refine ⟨⟨by omega,by omega⟩,⟨by omega,by omega⟩,?_⟩
  exact Z1
def pI (S:Sch) (r:SRef):SKey:=((S.tables.find? fun t=>t.id==r.toTable).bind fun b=>b.keys[r.toKey.toNat]?).getD lC
def pC (S:Sch) (r:SRef):SKey:=if r.action==0 then ((S.tables.find? fun t=>t.id==r.table).bind fun b=>b.keys[r.key.toNat]?).getD lC else lC
def rV (S:Sch) (r:SRef):Prop:=oF S r=true∧0≤r.key∧0≤r.toKey∧0≤r.param
theorem sO {S:Sch} {r:SRef} (h:rV S r):∃ b,S.tables.find? (fun t=>t.id==r.toTable)=some b∧0≤r.toKey∧b.keys[r.toKey.toNat]?=some (pI S r) ∧
 (if r.action==0 then ∃ a,S.tables.find? (fun t=>t.id==r.table)=some a∧0≤r.key∧a.keys[r.key.toNat]?=some (pC S r) else pC S r=lC):=by
 obtain ⟨h,h1,h2,_⟩:=h
 unfold oF at h
 cases fa:S.tables.find? (fun t=>t.id==r.table) with
 |none=>rw [fa] at h;cases h
 |some a =>
  cases fb:S.tables.find? (fun t=>t.id==r.toTable) with
  |none=>rw [fa,fb] at h;cases h
  |some b =>
   rw [fa,fb] at h
   simp only [Bool.and_eq_true,decide_eq_true_eq] at h
   obtain ⟨h3,h4⟩:=h
   have e1:b.keys[r.toKey.toNat]?=some (pI S r):=by
    unfold pI
    rw [fb]
    have hl:r.toKey.toNat<b.keys.length:=by omega
    simp only [Option.bind_some]
    rw [gQq hl];rfl
   refine ⟨b,rfl,h2,e1,?_⟩
   cases ca:r.action==0 with
   |false =>
    rw [if_neg Bool.false_ne_true]
    unfold pC
    rw [ca,if_neg Bool.false_ne_true]
   |true =>
    rw [ca,if_pos rfl] at h4
    rw [if_pos rfl]
    refine ⟨a,rfl,h1,?_⟩
    unfold pC
    rw [ca,if_pos rfl,fa]
    have hl:r.key.toNat<a.keys.length:=by simp only [decide_eq_true_eq] at h4;omega
    simp only [Option.bind_some]
    rw [gQq hl];rfl
def exB (S:Sch) (r:SRef):Bool:=(pI S r).kind==1&&(r.action != 0||(pC S r).kind==1)
def Kg:List AV→AHeap→(AV→Prop)→Prop
 |[x,.ptr c 0],H,K=>∃ (r:SRef) (S:Sch),(x=bZ r∧H.get c=some (.cells (aO S))∧SLen S∧rV S r)∧K (.bool (exB S r))
 |_,_,_=>False
theorem KU:EntOk Tryz.prog 144 (Ent.pure Kg):=by
 refine Ype fun _ H K h=>?_
 unfold Kg at h
 split at h
 rotate_left
 ·exact h.elim
 rename_i x c
 obtain ⟨r,S,⟨rfl,hg,hS,hr⟩,hK⟩:=h
 refine ⟨_,hK,?_⟩
 clear hK
 have hl:=glq hg
 have hne:(c=H.nx)=False:=eq_false (by omega)
 have hcs:=aq hg
 generalize hR:exB S r=R
 unfold exB at hR
 obtain ⟨b,e1,e2,e3,e4⟩:=sO hr
 unfold bZ
 unfold aO at hg hcs
 refine ACalls.fW ak (tCq uv tNq) Tryz.func144 [.tmp 3] (nrq _) (T:=aj []) (h:=fun hcl hlt=>?_)
 clear hlt
 simp only [go_sem,hcs,hne,hg,oM]
 refine ⟨S,r,b,pC S r,pI S r,⟨rfl,rfl,hS,e1,e2,e3,e4⟩,?_⟩
 generalize pI S r=kb at *
 generalize pC S r=ka at *
 unfold bN
 cases c1:kb.kind==1 with
 |false =>
  simp only [c1,tfB,if_true,if_false,reduceCtorEq] at hR
  subst hR
  try simp only [go_sem,ag,hne,hg,hcs,c1]
  try (repeat with_reducible refine Yq ?_)
  exact Z1
 |true =>
  cases c2:r.action != 0 with
  |false =>
   cases c3:ka.kind==1 with
   |false =>
    simp only [c1,c2,c3,tfB,if_true,if_false,reduceCtorEq] at hR
    subst hR
    try simp only [go_sem,ag,hne,hg,hcs,c1,c2,c3]
    try (repeat with_reducible refine Yq ?_)
    exact Z1
   |true =>
    simp only [c1,c2,c3,tfB,if_true,if_false,reduceCtorEq] at hR
    subst hR
    try simp only [go_sem,ag,hne,hg,hcs,c1,c2,c3]
    try (repeat with_reducible refine Yq ?_)
    exact Z1
  |true =>
   simp only [c1,c2,tfB,if_true,if_false,reduceCtorEq] at hR
   subst hR
   try simp only [go_sem,ag,hne,hg,hcs,c1,c2]
   try (repeat with_reducible refine Yq ?_)
   exact Z1
def lk:List AV→AHeap→(AV→Prop)→Prop
 |[.agg l],_,K=>∃ S:Sch,(l=aO S∧SB S∧∀ r∈S.refs,rV S r)∧K (.bool (S.refs.all (exB S)))
 |_,_,_=>False
theorem zr:EntOk Tryz.prog 36 (Ent.pure lk):=by
 refine Ype fun _ H K h=>?_
 unfold lk at h
 split at h
 rotate_left
 ·exact h.elim
 rename_i l
 obtain ⟨S,⟨rfl,hB,hr⟩,hK⟩:=h
 refine ⟨_,hK,?_⟩
 clear hK
 have hS:=hB.sl
 generalize hR:S.refs.all (exB S)=R
 refine ACalls.fW ak (tCq ns tNq) Tryz.func36 [.tmp 2] (nrq _) (T:=aj []) (h:=fun hcl hlt=>?_)
 clear hlt
 unfold aO
 try simp only [ag,go_sem,bA]
 refine ⟨S.refs,exB S,⟨rfl,hB.xl,fun x hx H' hle' hcl'=>clB KU ⟨x,S,⟨rfl,hle'.get _ _ (by (try simp only [go_sem]);first|done|rfl),hS,hr x hx⟩,rfl⟩⟩,?_⟩
 cases k1:S.refs.all (exB S) with
 |false =>
  simp only [k1,tfB,if_true,if_false,reduceCtorEq] at hR
  subst hR
  try simp only [ag,go_sem,bA,k1]
  exact Z1
 |true =>
  simp only [k1,tfB,if_true,if_false,reduceCtorEq] at hR
  subst hR
  try simp only [ag,go_sem,bA,k1]
  exact Z1
def btF (S:Sch) (n:Int):Int:=((S.fields.find? fun t=>t.id==n).getD ⟨0,[],0⟩).bits
theorem ik {S:Sch} {n:Int} (h:bW S n=true):∃ x,S.fields.find? (fun t=>t.id==n)=some x∧x.bits=btF S n:=by
 unfold bW at h
 rw [List.any_eq_true] at h
 obtain ⟨y,hy,h2⟩:=h
 cases hf:S.fields.find? (fun t=>t.id==n) with
 |none=>exact absurd h2 (by have:=List.find?_eq_none.1 hf y hy;simpa using this)
 |some x=>exact ⟨x,rfl,by unfold btF;rw [hf];rfl⟩
def ftV (v:Nat) (n:Int):Bool:=decide (((bl v:Nat):Int)≤n)
def nF (S:Sch) (a:SAction) (p:SPrim):Bool :=
 if me p.op then
  if p.kind==1 then ftV p.value (if p.op==7 then 16 else btF S p.dst)
  else if p.kind==2 then decide (btF S p.n≤(if p.op==7 then 16 else btF S p.dst))
  else decide ((a.params.getD p.n.toNat ⟨[],0⟩).bits≤(if p.op==7 then 16 else btF S p.dst))
 else true
def F7:List AV→AHeap→(AV→Prop)→Prop
 |[.agg l,x,y],_,K=>∃ (S:Sch) (a:SAction) (p:SPrim),(l=aO S∧x=ax a∧y=cl p∧SLen S∧p.value<2^128∧ny S a.params.length p=true∧fpB p=true∧0≤p.n)∧K (.bool (nF S a p))
 |_,_,_=>False
theorem Km:EntOk Tryz.prog 155 (Ent.pure F7):=by
 refine Ype fun _ H K h=>?_
 unfold F7 at h
 split at h
 rotate_left
 ·exact h.elim
 rename_i l x y
 obtain ⟨S,a,p,⟨rfl,rfl,rfl,hS,hv,hk,hf,hn⟩,hK⟩:=h
 refine ⟨_,hK,?_⟩
 clear hK
 have iv:=tt hv
 have vb:=ll p.value
 generalize hR:nF S a p=R
 unfold nF at hR
 -- what is eR of the primitive
 have hd:me p.op=true→(p.op==7)=false→bW S p.dst=true:=fun h1 h2=>by
  unfold me at h1
  rw [h2,Bool.or_false] at h1
  unfold ny at hk
  rw [if_pos h1] at hk
  exact (Bool.and_eq_true _ _ ▸ hk).1
 have hsrc:me p.op=true→(p.kind==2)=true→bW S p.n=true:=fun h1 h2=>by
  unfold ny at hk
  rw [h2] at hk
  simp only [if_true] at hk
  split at hk
  ·exact (Bool.and_eq_true _ _ ▸ hk).2
  ·split at hk
   ·exfalso
    unfold me at h1
    simp_all
   ·exact hk
 have hpar:me p.op=true→(p.kind==1)=false→(p.kind==2)=false→p.n.toNat<a.params.length:=fun h1 h2 h3=>by
  have h4:(p.kind==3)=true:=by
   unfold fpB at hf
   rw [h1,h2,h3] at hf
   simp only [if_true,Bool.false_eq_true,if_false,Bool.false_or,Bool.and_eq_true] at hf
   exact hf.2.2.1
  unfold ny at hk
  rw [h3,h4] at hk
  simp only [if_true,Bool.false_eq_true,if_false] at hk
  split at hk
  ·have:=(Bool.and_eq_true _ _ ▸ hk).2
   simp only [decide_eq_true_eq] at this
   omega
  ·split at hk
   ·exfalso
    unfold me at h1
    simp_all
   ·simp only [decide_eq_true_eq] at hk
    omega
 unfold ax cl vc
 refine ACalls.fW ak (tCq xN (tCq kV (tCq qm tNq))) Tryz.func155 [.tmp 6] (nrq _) (T:=aj []) (h:=fun hcl hlt=>?_)
 clear hlt
 unfold aO
 cases co:me p.op with
 |false =>
  simp only [co,tfB,if_true,if_false,reduceCtorEq] at hR
  subst hR
  try simp only [ag,go_sem,ct,bB,dy,iv,vb,iNq,co]
  try (repeat with_reducible refine Yq ?_)
  exact Z1
 |true =>
  cases c7:p.op==7 with
  |true =>
   have c7':(p.op != 7)=false:=by simp only [bne,c7,Bool.not_true]
   try simp only [go_sem,ct,co,c7']
   cases k1:p.kind==1 with
   |true =>
    simp only [co,c7,k1,tfB,if_true,if_false,reduceCtorEq] at hR
    unfold ftV at hR
    subst hR
    try simp only [ag,go_sem,ct,bB,dy,iv,vb,iNq,co,c7,k1,c7']
    try (repeat with_reducible refine Yq ?_)
    exact Z1
   |false =>
    cases k2:p.kind==2 with
    |true =>
     obtain ⟨y,hy,hyb⟩:=ik (hsrc co k2)
     try simp only [ag,go_sem,ct,bB,dy,co,c7,k1,k2,c7']
     refine ⟨S,y,⟨rfl,hS,hy⟩,?_⟩
     simp only [co,c7,k1,k2,tfB,if_true,if_false,reduceCtorEq] at hR
     subst hR
     try simp only [ag,go_sem,ct,bB,dy,iv,vb,iNq,co,c7,k1,k2,hyb,c7']
     try (repeat with_reducible refine Yq ?_)
     exact Z1
    |false =>
     have hpl:=hpar co k1 k2
     have gp:=aW (f:=bv) (l:=a.params) (k:=p.n.toNat) (x:=a.params[p.n.toNat]) (gQq hpl)
     have gq:a.params.getD p.n.toNat ⟨[],0⟩=a.params[p.n.toNat]:=by simp [gEq,hpl]
     rw [gq] at hR
     generalize a.params[p.n.toNat]=z at *
     have hz:bv z=.agg [.str z.name,.int .i64 z.bits]:=rfl
     rw [hz] at gp
     try simp only [ag,go_sem,ct,bB,dy,co,c7,k1,k2,gp,ybb,c7']
     refine ⟨⟨by omega,by omega⟩,?_⟩
     simp only [co,c7,k1,k2,tfB,if_true,if_false,reduceCtorEq] at hR
     subst hR
     try simp only [ag,go_sem,ct,bB,dy,iv,vb,iNq,co,c7,k1,k2,c7']
     try (repeat with_reducible refine Yq ?_)
     exact Z1
  |false =>
   have c7':(p.op != 7)=true:=by simp only [bne,c7,Bool.not_false]
   obtain ⟨x,hx,hxb⟩:=ik (hd co c7)
   try simp only [go_sem,ct,bB,co,c7']
   refine ⟨S,x,⟨rfl,hS,hx⟩,?_⟩
   try simp only [ag,go_sem,ct,bB,co,c7']
   simp only [hxb]
   cases k1:p.kind==1 with
   |true =>
    simp only [co,c7,k1,tfB,if_true,if_false,reduceCtorEq] at hR
    unfold ftV at hR
    subst hR
    try simp only [ag,go_sem,ct,bB,dy,iv,vb,iNq,co,c7,k1,c7',hxb]
    try (repeat with_reducible refine Yq ?_)
    exact Z1
   |false =>
    cases k2:p.kind==2 with
    |true =>
     obtain ⟨y,hy,hyb⟩:=ik (hsrc co k2)
     try simp only [ag,go_sem,ct,bB,dy,co,c7,k1,k2,c7',hxb]
     refine ⟨S,y,⟨rfl,hS,hy⟩,?_⟩
     simp only [co,c7,k1,k2,tfB,if_true,if_false,reduceCtorEq] at hR
     subst hR
     try simp only [ag,go_sem,ct,bB,dy,iv,vb,iNq,co,c7,k1,k2,hyb,c7',hxb]
     try (repeat with_reducible refine Yq ?_)
     exact Z1
    |false =>
     have hpl:=hpar co k1 k2
     have gp:=aW (f:=bv) (l:=a.params) (k:=p.n.toNat) (x:=a.params[p.n.toNat]) (gQq hpl)
     have gq:a.params.getD p.n.toNat ⟨[],0⟩=a.params[p.n.toNat]:=by simp [gEq,hpl]
     rw [gq] at hR
     generalize a.params[p.n.toNat]=z at *
     have hz:bv z=.agg [.str z.name,.int .i64 z.bits]:=rfl
     rw [hz] at gp
     try simp only [ag,go_sem,ct,bB,dy,co,c7,k1,k2,gp,ybb,c7',hxb]
     refine ⟨⟨by omega,by omega⟩,?_⟩
     simp only [co,c7,k1,k2,tfB,if_true,if_false,reduceCtorEq] at hR
     subst hR
     try simp only [ag,go_sem,ct,bB,dy,iv,vb,iNq,co,c7,k1,k2,c7',hxb]
     try (repeat with_reducible refine Yq ?_)
     exact Z1
def wW:List AV→AHeap→(AV→Prop)→Prop
 |[x,.slice _ 2 y],_,K=>∃ (a:SAction) (vs:List Nat),(x=ax a∧y=vs.map vv∧a.params.length≤1000000∧vs.length≤1000000∧∀ v∈vs,v<2^128)∧K (.bool (Gp a.params vs))
 |_,_,_=>False
theorem H9:EntOk Tryz.prog 157 (Ent.pure wW):=by
 refine Ype fun _ H K h=>?_
 unfold wW at h
 split at h
 rotate_left
 ·exact h.elim
 rename_i x m y
 obtain ⟨a,vs,⟨rfl,rfl,hpl,hvl,hvs⟩,hK⟩:=h
 refine ⟨_,hK,?_⟩
 clear hK
 unfold ax
 generalize hR:Gp a.params vs=R
 unfold Gp at hR
 refine ACalls.fW ak (tCq qm tNq) Tryz.func157 [.tmp 4] (nrq _) (T:=aj [(6,[[],[],[],[],[],[],[],[0,2,6]])]) (h:=fun hcl hlt=>?_)
 have hm:∀ n',H.nx≤n'→AV.lt n' (.slice m 2 (vs.map vv)):=fun n' hn=>AV.lt_mono hn _ (hlt (.slice m 2 (vs.map vv)) (by simp))
 have hx:=AV.lt_mono (Nat.le_succ H.nx) _ (hlt _ List.mem_cons_self)
 simp only [znr] at hx
 have hcb:=ae hcl hx
 clear hlt hx
 have dn1:(!true)=false:=rfl
 have dn2:(!false)=true:=rfl
 by_cases hlen:vs.length=a.params.length
 rotate_left
 ·rw [dfq hlen,Bool.false_and] at hR
  subst hR
  have dl:((vs.length:Int) != (a.params.length:Int))=true:=by simp;omega
  simp only [aJ,ag,bhq,Nat.reduceMod,Nat.reduceDiv,aC,aB,aD,aT,aE,aS,aP,aQ,aR,yaq,yar,yao,yap,go_sem,ybb,dl]
  exact Z1
 rw [dtq hlen,Bool.true_and] at hR
 have dl:((vs.length:Int) != (a.params.length:Int))=false:=by simp [hlen]
 simp only [aJ,ag,bhq,Nat.reduceMod,Nat.reduceDiv,aC,aB,aD,aT,aE,aS,aP,aQ,aR,yaq,yar,yao,yap,go_sem,ybb,dl]
 refine ay (A:=Nat) (fun k=>[(2,.ptr H.nx 0),(13,.slice m 2 (vs.map vv)),(14,.int .i64 (vs.length:Int)),(15,.int .i64 (k:Int))]) (fun _=>(H.push (.cells [.int .i64 a.id,.str a.name,.slice .any 2 (a.params.map bv),.slice .any 6 (a.body.map cl),.str a.restr])))
  (fun k=>k≤a.params.length∧Fe (a.params.drop k) (vs.drop k)=R) (fun k=>a.params.length - k) 0 ⟨Nat.zero_le _,hR⟩ ?_ fun k hk=>?_
 ·refine ⟨by (try simp only [zkq,zkv,zle]);omega,by repeat first|exact .refl _|refine .push ?_ _,hcb,?_,?_⟩
  ·simp [ltF,zle,znn,znf,aU kZ,wv,hm,pW]
   try omega
  ·simp [ba,wk2,wk1,wkM,Fr.get]
 clear hR
 obtain ⟨hk,hR⟩:=hk
 simp only [aJ,ag,bhq,Nat.reduceMod,Nat.reduceDiv,aC,aB,aD,aT,aE,aS,aP,aQ,aR,yaq,yar,yao,yap,go_sem]
 refine ah (fun hc=>?_) (fun hc=>?_)
 ·have hk':k<a.params.length:=by simp at hc;omega
  have hkv:k<vs.length:=by omega
  obtain ⟨x,hx⟩:∃ x,x=vs[k]:=⟨_,rfl⟩
  obtain ⟨p,hp⟩:∃ p,p=a.params[k]:=⟨_,rfl⟩
  have hd:vs.drop k=x::vs.drop (k+1):=by rw [hx];exact dcq hkv
  have hdp:a.params.drop k=p::a.params.drop (k+1):=by rw [hp];exact dcq hk'
  have hgx:=aW (f:=vv) (l:=vs) (k:=k) (x:=x) (by rw [gQq hkv,hx])
  have hgp:=aW (f:=bv) (l:=a.params) (k:=k) (x:=p) (by rw [gQq hk',hp])
  have hxl:=hvs x (by rw [hx];exact gMq hkv)
  have iv:=tt hxl
  have e5:=Yk5 k
  rw [hd,hdp] at hR
  unfold Fe at hR
  simp only [aJ,ag,bhq,Nat.reduceMod,Nat.reduceDiv,aC,aB,aD,aT,aE,aS,aP,aQ,aR,yaq,yar,yao,yap,go_sem,iNq,hgx,hgp,vv,bv,ybb,dy,ll,iv]
  (repeat with_reducible refine Yq ?_)
  cases hq:decide (((bl x:Nat):Int)≤p.bits) with
  |false =>
   rw [hq,Bool.false_and] at hR
   subst hR
   simp only [aJ,ag,bhq,Nat.reduceMod,Nat.reduceDiv,aC,aB,aD,aT,aE,aS,aP,aQ,aR,yaq,yar,yao,yap,go_sem,dn1,dn2]
   try (repeat with_reducible refine Yq ?_)
   exact Z1
  |true =>
   rw [hq,Bool.true_and] at hR
   simp only [aJ,ag,bhq,Nat.reduceMod,Nat.reduceDiv,aC,aB,aD,aT,aE,aS,aP,aQ,aR,yaq,yar,yao,yap,go_sem,dn1,dn2,e5]
   try (repeat with_reducible refine Yq ?_)
   refine ⟨k+1,⟨by omega,hR⟩,by omega,?_⟩
   refine ⟨by (try simp only [zkq,zkv,zle]);omega,by repeat first|exact .refl _|refine .push ?_ _,hcb,?_,?_⟩
   ·simp [ltF,zle,znn,znf,aU kZ,wv,hm,pW]
    try omega
   ·simp [ba,wk2,wk1,wkM,Fr.get]
 ·have hk':k=a.params.length:=by simp at hc;omega
  subst hk'
  have hf:Fe (a.params.drop a.params.length) (vs.drop a.params.length)=true:=by
   rw [List.drop_length,← hlen,List.drop_length];rfl
  rw [hf] at hR
  subst hR
  simp only [aJ,ag,bhq,Nat.reduceMod,Nat.reduceDiv,aC,aB,aD,aT,aE,aS,aP,aQ,aR,yaq,yar,yao,yap,go_sem]
  exact Z1
theorem nD {x y:Nat}:((((x/2^64:Nat):Int)==((y/2^64:Nat):Int))&&(((((x % 2^64:Nat):Int)==((y % 2^64:Nat):Int)))&&true))=decide (x=y):=by
 rw [Bool.eq_iff_iff]
 simp
 omega
def om (S:Sch) (f:Int) (c:SCase):Bool:=ftV c.value (btF S f)&&(ftV c.mask (btF S f)&&decide (c.value &&& c.mask=c.value))
def vB:List AV→AHeap→(AV→Prop)→Prop
 |[.agg l,.int .i64 f,x],_,K=>∃ (S:Sch) (c:SCase),(l=aO S∧x=cM c∧SLen S∧bW S f=true∧c.value<2^128∧c.mask<2^128)∧K (.bool (om S f c))
 |_,_,_=>False
theorem Ic:EntOk Tryz.prog 152 (Ent.pure vB):=by
 refine Ype fun _ H K h=>?_
 unfold vB at h
 split at h
 rotate_left
 ·exact h.elim
 rename_i l f x
 obtain ⟨S,c,⟨rfl,rfl,hS,hf,h1,h2⟩,hK⟩:=h
 refine ⟨_,hK,?_⟩
 clear hK
 have iv:=tt h1
 have iw:=tt h2
 have vb:=ll c.value
 have wb:=ll c.mask
 generalize hR:om S f c=R
 unfold om ftV at hR
 obtain ⟨y,hy,hyb⟩:=ik hf
 unfold cM vc
 refine ACalls.fW ak (tCq kV (tCq qm (tCq Jt tNq))) Tryz.func152 [.tmp 6] (nrq _) (T:=aj [(2,[[],[],[],[1],[],[],[3],[],[1,3,6],[],[],[],[3,8],[],[3,8],[1,3,6,8,12,14],[],[3,8]])]) (h:=fun hcl hlt=>?_)
 clear hlt
 unfold aO
 simp only [go_sem,bB]
 refine ⟨S,y,⟨rfl,hS,hy⟩,?_⟩
 simp only [ag,go_sem,bB,dy,ld,p2V,iv,iw,vb,wb,iNq,hyb,vv,jI,jR,nD]
 try (repeat with_reducible refine Yq ?_)
 cases c1:decide (((bl c.value:Nat):Int)≤btF S f) with
 |false =>
  simp only [c1,tfB,if_true,if_false,reduceCtorEq] at hR
  subst hR
  try simp only [ag,go_sem,bB,dy,ld,p2V,iv,iw,vb,wb,iNq,hyb,vv,jI,jR,nD,c1]
  try (repeat with_reducible refine Yq ?_)
  exact Z1
 |true =>
  try simp only [ag,go_sem,bB,dy,ld,p2V,iv,iw,vb,wb,iNq,hyb,vv,jI,jR,nD,c1]
  try (repeat with_reducible refine Yq ?_)
  cases c2:decide (((bl c.mask:Nat):Int)≤btF S f) with
  |false =>
   simp only [c1,c2,tfB,if_true,if_false,reduceCtorEq] at hR
   subst hR
   try simp only [ag,go_sem,bB,dy,ld,p2V,iv,iw,vb,wb,iNq,hyb,vv,jI,jR,nD,c1,c2]
   try (repeat with_reducible refine Yq ?_)
   exact Z1
  |true =>
   try simp only [ag,go_sem,bB,dy,ld,p2V,iv,iw,vb,wb,iNq,hyb,vv,jI,jR,nD,c1,c2]
   try (repeat with_reducible refine Yq ?_)
   simp only [c1,c2,Bool.true_and] at hR
   subst hR
   try simp only [ag,go_sem,bB,dy,ld,p2V,iv,iw,vb,wb,iNq,hyb,vv,jI,jR,nD,c1,c2]
   try (repeat with_reducible refine Yq ?_)
   simp (disch:=first|exact Zd|omega) [↓zmo,beq,ybc,ybd,ybe,aa,wk,wk2,wk1,wkM,wkL,af,ybf,hcl]
   generalize c.value &&& c.mask=z
   rw [Bool.eq_iff_iff]
   simp
   omega
def smB (S:Sch):List Int→Int→Int
 |[],n=>n
 |f::l,n=>smB S l (n+btF S f)
def qY (S:Sch) (t:SHeader):Bool:=decide (smB S t.fields 0 % 8=0)&&(decide (smB S t.fields 0≤512)&&(!t.fields.contains 1&&!t.fields.contains 2))
def gH:List AV→AHeap→(AV→Prop)→Prop
 |[.agg l,x],_,K=>∃ (S:Sch) (t:SHeader),(l=aO S∧x=aH t∧SLen S∧t.fields.length≤1000000∧∀ f∈t.fields,bW S f=true∧0≤btF S f∧btF S f≤1000000)∧K (.bool (qY S t))
 |_,_,_=>False
theorem HE:EntOk Tryz.prog 148 (Ent.pure gH):=by
 refine Ype fun _ H K h=>?_
 unfold gH at h
 split at h
 rotate_left
 ·exact h.elim
 rename_i l x
 obtain ⟨S,t,⟨rfl,rfl,hS,hfl,hf⟩,hK⟩:=h
 refine ⟨_,hK,?_⟩
 clear hK
 generalize hR:qY S t=R
 unfold qY at hR
 obtain ⟨N,hN⟩:∃ N,smB S t.fields 0=N:=⟨_,rfl⟩
 rw [hN] at hR
 unfold aH
 refine ACalls.fW ak (tCq kV (tCq ni tNq)) Tryz.func148 [.tmp 4] (nrq _) (T:=aj []) (h:=fun hcl hlt=>?_)
 have hx:=AV.lt_mono (Nat.le_succ H.nx) _ (hlt _ List.mem_cons_self)
 have hx2:=AV.lt_mono (show H.nx≤H.nx+1+1 by omega) _ (hlt _ (List.mem_cons_of_mem _ List.mem_cons_self))
 clear hlt
 simp only [znr] at hx hx2
 have hcp:=ae (ae hcl hx) hx2
 obtain ⟨Hb,hHb⟩:∃ Hb,(H.push (.cells (aO S))).push (.cells [.int .i64 t.id,.str t.name,.slice .any 1 (inL t.fields)])=Hb:=⟨_,rfl⟩
 have hg0:Hb.get H.nx=some (.cells (aO S)):=by rw [← hHb,zlh,if_neg (by rw [zle];omega)];exact AHeap.get_push_new _ _
 have hg1:Hb.get (H.nx+1)=some (.cells [.int .i64 t.id,.str t.name,.slice .any 1 (inL t.fields)]):=by rw [← hHb];exact AHeap.get_push_new _ _
 have hnb:Hb.nx=H.nx+1+1:=by rw [← hHb];rfl
 have hHle:H.Le Hb:=by rw [← hHb];exact ((lRq _).push _).push _
 rw [hHb] at hcp
 have hcs0:=aq hg0
 have hcs1:=aq hg1
 have hlen:(inL t.fields).length=t.fields.length:=by simp [inL]
 have hm:∀ n',AV.lt n' (.slice .any 1 (inL t.fields)):=fun n'=>by
  rw [AV.lt]
  exact ⟨fun id e=>(by cases e),fun j hj=>by simp only [inL,List.getElem_map,znf]⟩
 unfold aO at hHb hg0 hcs0 ⊢
 simp only [go_sem,hHb,hcs1,hlen]
 try simp only [go_sem,hlen]
 refine ay (A:=Nat × Int) (fun a=>[(2,.ptr H.nx 0),(3,.ptr (H.nx+1) 0),(5,.int .i64 a.2),(9,.slice .any 1 (inL t.fields)),(10,.int .i64 (t.fields.length:Int)),(11,.int .i64 (a.1:Int))]) (fun _=>Hb)
  (fun a=>a.1≤t.fields.length∧0≤a.2∧a.2≤(a.1:Int)*1000000∧smB S (t.fields.drop a.1) a.2=N) (fun a=>t.fields.length - a.1) (0,0) ⟨Nat.zero_le _,by decide,by decide,hN⟩ ?_ fun a ha=>?_
 ·refine ⟨by (try simp only [zkq,zkv]);omega,lRq _,hcp,?_,?_⟩
  ·simp [ltF,znf,znn,hm,hnb]
   try omega
  ·simp [ba,wk2,wk1,wkM,Fr.get]
 obtain ⟨k,n⟩:=a
 obtain ⟨hk,hn0,hn1,hn⟩:=ha
 dsimp only at hk hn0 hn1 hn ⊢
 simp only [go_sem]
 refine ah (fun hc=>?_) (fun hc=>?_)
 ·have hk':k<t.fields.length:=by simp at hc;omega
  obtain ⟨x,hx⟩:∃ x,x=t.fields[k]:=⟨_,rfl⟩
  have hd:t.fields.drop k=x::t.fields.drop (k+1):=by rw [hx];exact dcq hk'
  have hg':(inL t.fields).getD k .junk=.int .i64 x:=aW (f:=AV.int .i64) (l:=t.fields) (k:=k) (x:=x) (by rw [gQq hk',hx])
  have e5:=Yk5 k
  obtain ⟨q1,q2,q3⟩:=hf x (by rw [hx];exact gMq hk')
  obtain ⟨y,hy,hyb⟩:=ik q1
  have e6:IntKind.i64.wrap (n+y.bits)=n+y.bits:=by rw [hyb];rw [wrap_i64]<;>omega
  rw [hd] at hn
  unfold smB at hn
  have hne0:(H.nx=Hb.nx)=False:=eq_false (by omega)
  simp only [go_sem,iNq,hlen,hg',hg0,hcs0,hne0,bB]
  try (repeat with_reducible refine Yq ?_)
  refine ⟨S,y,⟨rfl,hS,hy⟩,?_⟩
  simp only [ag,go_sem,e5,e6]
  refine ⟨(k+1,n+y.bits),⟨by dsimp only;omega,by dsimp only;omega,by dsimp only;rw [hyb];omega,by dsimp only;rw [hyb];exact hn⟩,by dsimp only;omega,by omega,lRq _,hcp,?_,?_⟩
  ·simp [ltF,znf,znn,hm,hnb]
   try omega
  ·simp [ba,wk2,wk1,wkM,Fr.get]
 ·have hk':k=t.fields.length:=by simp at hc;omega
  subst hk'
  rw [List.drop_length] at hn
  have hn':n=N:=hn
  subst hn'
  have hg2:=hg1
  have hne1:(H.nx+1=Hb.nx)=False:=eq_false (by omega)
  simp only [go_sem,hcs1,eA]
  have d8:(n.tmod 8==0)=decide (n % 8=0):=by
   rw [Int.tmod_eq_emod_of_nonneg hn0,Bool.eq_iff_iff];simp
  refine ⟨by decide,?_⟩
  rw [d8]
  cases c1:decide (n % 8=0) with
  |false =>
   simp only [c1,tfB,if_true,if_false,reduceCtorEq] at hR
   subst hR
   try simp only [go_sem,eA,c1]
   exact Z13
  |true =>
   try simp only [go_sem,eA,c1]
   cases c2:decide (n≤512) with
   |false =>
    simp only [c1,c2,tfB,if_true,if_false,reduceCtorEq] at hR
    subst hR
    try simp only [go_sem,eA,c1,c2]
    exact Z13
   |true =>
    try simp only [go_sem,eA,c1,c2]
    refine ⟨t.fields,⟨rfl,hfl⟩,?_⟩
    cases c3:t.fields.contains 1 with
    |true =>
     simp only [c1,c2,c3,tfB,if_true,if_false,reduceCtorEq] at hR
     subst hR
     try simp only [go_sem,eA,c1,c2,c3]
     exact Z13
    |false =>
     try simp only [go_sem,eA,c1,c2,c3]
     refine ⟨t.fields,⟨rfl,hfl⟩,?_⟩
     cases c4:t.fields.contains 2 with
     |true =>
      simp only [c1,c2,c3,c4,tfB,if_true,if_false,reduceCtorEq] at hR
      subst hR
      try simp only [go_sem,eA,c1,c2,c3,c4]
      exact Z13
     |false =>
      simp only [c1,c2,c3,c4,tfB,if_true,if_false,reduceCtorEq] at hR
      subst hR
      try simp only [go_sem,eA,c1,c2,c3,c4]
      exact Z13
def LW (S:Sch) (t:SHeader):Prop:=t.fields.length≤1000000∧∀ f∈t.fields,bW S f=true∧0≤btF S f∧btF S f≤1000000
def K6 (S:Sch) (f:Int) (c:SCase):Prop:=bW S f=true∧c.value<2^128∧c.mask<2^128
def KM (S:Sch) (a:SAction) (p:SPrim):Prop:=p.value<2^128∧ny S a.params.length p=true∧fpB p=true∧0≤p.n
def Ka:List AV→AHeap→(AV→Prop)→Prop
 |[x,.ptr c 0],H,K=>∃ (t:SHeader) (S:Sch),(x=aH t∧H.get c=some (.cells (aO S))∧SLen S∧LW S t)∧K (.bool (qY S t))
 |_,_,_=>False
theorem Lb:EntOk Tryz.prog 147 (Ent.pure Ka):=by
 refine Ype fun _ H K h=>?_
 unfold Ka at h
 split at h
 rotate_left
 ·exact h.elim
 rename_i x c
 obtain ⟨t,S,⟨rfl,hg,hS,hk⟩,hK⟩:=h
 refine ⟨_,hK,?_⟩
 clear hK
 have hl:=glq hg
 have hne:(c=H.nx)=False:=eq_false (by omega)
 have hcs:=aq hg
 have hgS:=hg
 generalize hR:(qY S t)=R
 skip
 unfold aH
 unfold aO at hg hcs
 refine ACalls.fW ak (tCq HE tNq) Tryz.func147 [.tmp 3] (nrq _) (T:=aj []) (h:=fun hcl hlt=>?_)
 clear hlt
 try simp only [ag,go_sem,hcs,hne,hg,gH,bI,bS,b6]
 refine ⟨S,t,⟨rfl,rfl,hS,hk.1,hk.2⟩,?_⟩
 cases k1:qY S t with
 |false =>
  simp only [k1,tfB,if_true,if_false,reduceCtorEq] at hR
  subst hR
  try simp only [ag,go_sem,hcs,hne,hg,gH,bI,bS,b6,k1]
  exact Z1
 |true =>
  simp only [k1,tfB,if_true,if_false,reduceCtorEq] at hR
  subst hR
  try simp only [ag,go_sem,hcs,hne,hg,gH,bI,bS,b6,k1]
  exact Z1
def DA:List AV→AHeap→(AV→Prop)→Prop
 |[x,.ptr c 0,.ptr d 0],H,K=>∃ (t:SCase) (a:SState) (S:Sch) (cs:List AV),(x=cM t∧H.get c=some (.cells (aO S))∧H.get d=some (.cells cs)∧aL a=.agg cs∧SLen S∧K6 S a.select t)∧K (.bool (om S a.select t))
 |_,_,_=>False
theorem Ie:EntOk Tryz.prog 151 (Ent.pure DA):=by
 refine Ype fun _ H K h=>?_
 unfold DA at h
 split at h
 rotate_left
 ·exact h.elim
 rename_i x c d
 obtain ⟨t,a,S,cs,⟨rfl,hg,hgd,hac,hS,hk⟩,hK⟩:=h
 refine ⟨_,hK,?_⟩
 clear hK
 unfold aL at hac
 cases hac
 have hl:=glq hg
 have hne:(c=H.nx)=False:=eq_false (by omega)
 have hcs:=aq hg
 have hl2:=glq hgd
 have hne2:(d=H.nx)=False:=eq_false (by omega)
 have hcs2:=aq hgd
 generalize hR:(om S a.select t)=R
 unfold cM vc
 unfold aO at hg hcs
 refine ACalls.fW ak (tCq Ic tNq) Tryz.func151 [.tmp 4] (nrq _) (T:=aj []) (h:=fun hcl hlt=>?_)
 clear hlt
 simp only [go_sem,hcs,hne,hg,hcs2,hne2,hgd,vB]
 refine ⟨S,t,⟨rfl,rfl,hS,hk.1,hk.2.1,hk.2.2⟩,?_⟩
 simp only [ag,go_sem,hR]
 exact Z1
def AU:List AV→AHeap→(AV→Prop)→Prop
 |[x,.ptr c 0,.ptr d 0],H,K=>∃ (t:SPrim) (a:SAction) (S:Sch) (cs:List AV),(x=cl t∧H.get c=some (.cells (aO S))∧H.get d=some (.cells cs)∧ax a=.agg cs∧SLen S∧KM S a t)∧K (.bool (nF S a t))
 |_,_,_=>False
theorem GP:EntOk Tryz.prog 154 (Ent.pure AU):=by
 refine Ype fun _ H K h=>?_
 unfold AU at h
 split at h
 rotate_left
 ·exact h.elim
 rename_i x c d
 obtain ⟨t,a,S,cs,⟨rfl,hg,hgd,hac,hS,hk⟩,hK⟩:=h
 refine ⟨_,hK,?_⟩
 clear hK
 unfold ax at hac
 cases hac
 have hl:=glq hg
 have hne:(c=H.nx)=False:=eq_false (by omega)
 have hcs:=aq hg
 have hl2:=glq hgd
 have hne2:(d=H.nx)=False:=eq_false (by omega)
 have hcs2:=aq hgd
 generalize hR:(nF S a t)=R
 unfold cl vc
 unfold aO at hg hcs
 refine ACalls.fW ak (tCq Km tNq) Tryz.func154 [.tmp 4] (nrq _) (T:=aj []) (h:=fun hcl hlt=>?_)
 clear hlt
 simp only [go_sem,hcs,hne,hg,hcs2,hne2,hgd,F7]
 refine ⟨S,a,t,⟨rfl,rfl,rfl,hS,hk.1,hk.2.1,hk.2.2.1,hk.2.2.2⟩,?_⟩
 simp only [ag,go_sem,hR]
 exact Z1
def Kb:List AV→AHeap→(AV→Prop)→Prop
 |[x,.ptr c 0],H,K=>∃ (t:SState) (S:Sch),(x=aL t∧H.get c=some (.cells (aO S))∧SLen S∧t.cases.length≤1000000∧∀ p∈t.cases,K6 S t.select p)∧K (.bool (t.cases.all fun p=>om S t.select p))
 |_,_,_=>False
theorem KK:EntOk Tryz.prog 149 (Ent.pure Kb):=by
 refine Ype fun _ H K h=>?_
 unfold Kb at h
 split at h
 rotate_left
 ·exact h.elim
 rename_i x c
 obtain ⟨t,S,⟨rfl,hg,hS,hbl,hk⟩,hK⟩:=h
 refine ⟨_,hK,?_⟩
 clear hK
 have hl:=glq hg
 have hne:(c=H.nx)=False:=eq_false (by omega)
 have hcs:=aq hg
 have hgS:=hg
 generalize hR:(t.cases.all fun p=>om S t.select p)=R
 skip
 unfold aL
 unfold aO at hg hcs
 refine ACalls.fW ak (tCq uS tNq) Tryz.func149 [.tmp 3] (nrq _) (T:=aj []) (h:=fun hcl hlt=>?_)
 clear hlt
 try simp only [ag,go_sem,hcs,hne,hg,gH,bI,bS,b6]
 refine ⟨t.cases,(fun p=>om S t.select p),⟨rfl,hbl,fun p hx H' hle' hcl'=>clB Ie ⟨p,t,S,_,⟨rfl,hle'.get _ _ (by rw [zlh,if_neg (by omega)];exact hgS),hle'.get _ _ (AHeap.get_push_new _ _),rfl,hS,hk p hx⟩,rfl⟩⟩,?_⟩
 cases k1:t.cases.all (fun p=>om S t.select p) with
 |false =>
  simp only [k1,tfB,if_true,if_false,reduceCtorEq] at hR
  subst hR
  try simp only [ag,go_sem,hcs,hne,hg,gH,bI,bS,b6,k1]
  exact Z1
 |true =>
  simp only [k1,tfB,if_true,if_false,reduceCtorEq] at hR
  subst hR
  try simp only [ag,go_sem,hcs,hne,hg,gH,bI,bS,b6,k1]
  exact Z1
def JO:List AV→AHeap→(AV→Prop)→Prop
 |[x,.ptr c 0],H,K=>∃ (t:SAction) (S:Sch),(x=ax t∧H.get c=some (.cells (aO S))∧SLen S∧t.body.length≤1000000∧∀ p∈t.body,KM S t p)∧K (.bool (t.body.all fun p=>nF S t p))
 |_,_,_=>False
theorem Kz:EntOk Tryz.prog 153 (Ent.pure JO):=by
 refine Ype fun _ H K h=>?_
 unfold JO at h
 split at h
 rotate_left
 ·exact h.elim
 rename_i x c
 obtain ⟨t,S,⟨rfl,hg,hS,hbl,hk⟩,hK⟩:=h
 refine ⟨_,hK,?_⟩
 clear hK
 have hl:=glq hg
 have hne:(c=H.nx)=False:=eq_false (by omega)
 have hcs:=aq hg
 have hgS:=hg
 generalize hR:(t.body.all fun p=>nF S t p)=R
 skip
 unfold ax
 unfold aO at hg hcs
 refine ACalls.fW ak (tCq qz tNq) Tryz.func153 [.tmp 3] (nrq _) (T:=aj []) (h:=fun hcl hlt=>?_)
 clear hlt
 try simp only [ag,go_sem,hcs,hne,hg,gH,bI,bS,b6]
 refine ⟨t.body,(fun p=>nF S t p),⟨rfl,hbl,fun p hx H' hle' hcl'=>clB GP ⟨p,t,S,_,⟨rfl,hle'.get _ _ (by rw [zlh,if_neg (by omega)];exact hgS),hle'.get _ _ (AHeap.get_push_new _ _),rfl,hS,hk p hx⟩,rfl⟩⟩,?_⟩
 cases k1:t.body.all (fun p=>nF S t p) with
 |false =>
  simp only [k1,tfB,if_true,if_false,reduceCtorEq] at hR
  subst hR
  try simp only [ag,go_sem,hcs,hne,hg,gH,bI,bS,b6,k1]
  exact Z1
 |true =>
  simp only [k1,tfB,if_true,if_false,reduceCtorEq] at hR
  subst hR
  try simp only [ag,go_sem,hcs,hne,hg,gH,bI,bS,b6,k1]
  exact Z1
def tmF (S:Sch) (t:STable):Bool:=match S.actions.find? (fun a=>a.id==t.dflt) with
 |some a=>Gp a.params t.dargs
 |none=>false
def L3 (S:Sch) (t:STable):Prop:=∃ a,S.actions.find? (fun a=>a.id==t.dflt)=some a∧a.params.length≤1000000∧t.dargs.length≤1000000∧∀ v∈t.dargs,v<2^128
def gkB (S:Sch) (g:SGrant):Bool:=match S.tables.find? (fun t=>t.id==g.table) with
 |some b=>decide (g.keys.length=b.keys.length)
 |none=>false
def JI:List AV→AHeap→(AV→Prop)→Prop
 |[x,.ptr c 0],H,K=>∃ (t:STable) (S:Sch),(x=az t∧H.get c=some (.cells (aO S))∧SLen S∧L3 S t)∧K (.bool (tmF S t))
 |_,_,_=>False
theorem KB:EntOk Tryz.prog 156 (Ent.pure JI):=by
 refine Ype fun _ H K h=>?_
 unfold JI at h
 split at h
 rotate_left
 ·exact h.elim
 rename_i x c
 obtain ⟨t,S,⟨rfl,hg,hS,hk⟩,hK⟩:=h
 refine ⟨_,hK,?_⟩
 clear hK
 have hl:=glq hg
 have hne:(c=H.nx)=False:=eq_false (by omega)
 have hcs:=aq hg
 have hgS:=hg
 generalize hR:(tmF S t)=R
 skip
 unfold az
 unfold aO at hg hcs
 refine ACalls.fW ak (tCq fC (tCq H9 tNq)) Tryz.func156 [.tmp 3] (nrq _) (T:=aj [(1,[[],[],[],[],[],[2,4],[],[5],[],[],[1,2,4,5,7,9]])]) (h:=fun hcl hlt=>?_)
 clear hlt
 obtain ⟨a,ha,hpl,hal,hvs⟩:=hk
 unfold tmF at hR
 simp only [ha] at hR
 subst hR
 obtain ⟨i,i1,g1,l1⟩:=lK ha
 have ga:=aW (f:=ax) (l:=S.actions) (k:=i) (x:=a) g1
 have hca:ax a=.agg [.int .i64 a.id,.str a.name,.slice .any 2 (a.params.map bv),.slice .any 6 (a.body.map cl),.str a.restr]:=rfl
 rw [hca] at ga
 simp only [go_sem,hcs,hne,hg,ex]
 refine ⟨S,⟨rfl,hS.al⟩,?_⟩
 simp only [ag,go_sem,hcs,hne,hg,i1,ga,iNq,ybb,wW]
 try (repeat with_reducible refine Yq ?_)
 refine ⟨a,t.dargs,⟨rfl,rfl,hpl,hal,hvs⟩,?_⟩
 try simp only [ag,go_sem]
 exact Z1
def Dn:List AV→AHeap→(AV→Prop)→Prop
 |[x,.ptr c 0],H,K=>∃ (t:SGrant) (S:Sch),(x=bk t∧H.get c=some (.cells (aO S))∧SLen S∧fY S t.table=true)∧K (.bool (gkB S t))
 |_,_,_=>False
theorem IC:EntOk Tryz.prog 160 (Ent.pure Dn):=by
 refine Ype fun _ H K h=>?_
 unfold Dn at h
 split at h
 rotate_left
 ·exact h.elim
 rename_i x c
 obtain ⟨t,S,⟨rfl,hg,hS,hk⟩,hK⟩:=h
 refine ⟨_,hK,?_⟩
 clear hK
 have hl:=glq hg
 have hne:(c=H.nx)=False:=eq_false (by omega)
 have hcs:=aq hg
 have hgS:=hg
 generalize hR:(gkB S t)=R
 skip
 unfold bk
 unfold aO at hg hcs
 refine ACalls.fW ak (tCq eS tNq) Tryz.func160 [.tmp 3] (nrq _) (T:=aj [(1,[[],[],[],[],[],[],[],[],[5,7],[],[],[8]])]) (h:=fun hcl hlt=>?_)
 clear hlt
 unfold fY at hk
 obtain ⟨b,hb⟩:∃ b,S.tables.find? (fun x=>x.id==t.table)=some b:=by
  rw [List.any_eq_true] at hk
  obtain ⟨y,hy,h2⟩:=hk
  cases hf:S.tables.find? (fun x=>x.id==t.table) with
  |none=>exact absurd h2 (by have:=List.find?_eq_none.1 hf y hy;simpa using this)
  |some x=>exact ⟨x,rfl⟩
 unfold gkB at hR
 simp only [hb] at hR
 subst hR
 obtain ⟨i,i1,g1,l1⟩:=lK hb
 have ga:=aW (f:=az) (l:=S.tables) (k:=i) (x:=b) g1
 have hca:az b=.agg [.int .i64 b.id,.str b.name,.slice .any 3 (b.keys.map bN),.slice .any 1 (inL b.actions),.int .i64 b.dflt,.slice .any 2 (b.dargs.map vv),.int .i64 b.size,.str b.restr]:=rfl
 rw [hca] at ga
 have hbl:(boL t.keys).length=t.keys.length:=by simp [boL]
 have heq:((t.keys.length:Int)==(b.keys.length:Int))=decide (t.keys.length=b.keys.length):=by rw [Bool.eq_iff_iff];simp;omega
 simp only [go_sem,hcs,hne,hg,cz]
 refine ⟨S,⟨rfl,hS.tl⟩,?_⟩
 simp only [ag,go_sem,hcs,hne,hg,i1,ga,iNq,ybb,hbl,heq]
 try (repeat with_reducible refine Yq ?_)
 exact Z1
def JS:List AV→AHeap→(AV→Prop)→Prop
 |[x,.ptr c 0],H,K=>∃ (t:SRole) (S:Sch),(x=br t∧H.get c=some (.cells (aO S))∧SLen S∧t.grants.length≤1000000∧∀ g∈t.grants,fY S g.table=true)∧K (.bool (t.grants.all fun g=>gkB S g))
 |_,_,_=>False
theorem KT:EntOk Tryz.prog 159 (Ent.pure JS):=by
 refine Ype fun _ H K h=>?_
 unfold JS at h
 split at h
 rotate_left
 ·exact h.elim
 rename_i x c
 obtain ⟨t,S,⟨rfl,hg,hS,hgl,hk⟩,hK⟩:=h
 refine ⟨_,hK,?_⟩
 clear hK
 have hl:=glq hg
 have hne:(c=H.nx)=False:=eq_false (by omega)
 have hcs:=aq hg
 have hgS:=hg
 generalize hR:(t.grants.all fun g=>gkB S g)=R
 skip
 unfold br
 unfold aO at hg hcs
 refine ACalls.fW ak (tCq vr tNq) Tryz.func159 [.tmp 3] (nrq _) (T:=aj []) (h:=fun hcl hlt=>?_)
 clear hlt
 try simp only [ag,go_sem,hcs,hne,hg,gH,bI,bS,b6]
 refine ⟨t.grants,(fun g=>gkB S g),⟨rfl,hgl,fun x hx H' hle' hcl'=>clB IC ⟨x,S,⟨rfl,hle'.get _ _ (by rw [zlh,if_neg (by omega)];exact hgS),hS,hk x hx⟩,rfl⟩⟩,?_⟩
 cases k1:t.grants.all (fun g=>gkB S g) with
 |false =>
  simp only [k1,tfB,if_true,if_false,reduceCtorEq] at hR
  subst hR
  try simp only [ag,go_sem,hcs,hne,hg,gH,bI,bS,b6,k1]
  exact Z1
 |true =>
  simp only [k1,tfB,if_true,if_false,reduceCtorEq] at hR
  subst hR
  try simp only [ag,go_sem,hcs,hne,hg,gH,bI,bS,b6,k1]
  exact Z1
def pm (S:Sch) (r:SRef):Bool:=if r.action==0 then btF S (pC S r).field==btF S (pI S r).field
 else match S.actions.find? (fun t=>t.id==r.action) with
  |some c=>(c.params.getD r.param.toNat ⟨[],0⟩).bits==btF S (pI S r).field
  |none=>false
def Md (S:Sch) (r:SRef):Prop:=rV S r∧bW S (pI S r).field=true∧((r.action==0)=true→bW S (pC S r).field=true)
theorem Bo {S:Sch} {r:SRef} (h:rV S r) (h0:(r.action==0)=false):∃ c,S.actions.find? (fun t=>t.id==r.action)=some c∧r.param.toNat<c.params.length:=by
 obtain ⟨h,_,_,hp⟩:=h
 unfold oF at h
 cases fa:S.tables.find? (fun t=>t.id==r.table) with
 |none=>rw [fa] at h;cases h
 |some a =>
  cases fb:S.tables.find? (fun t=>t.id==r.toTable) with
  |none=>rw [fa,fb] at h;cases h
  |some b =>
   rw [fa,fb] at h
   simp only [Bool.and_eq_true,h0,Bool.false_eq_true,if_false] at h
   have h3:=h.2.2
   cases fc:S.actions.find? (fun t=>t.id==r.action) with
   |none=>rw [fc] at h3;cases h3
   |some c =>
    rw [fc] at h3
    simp only [decide_eq_true_eq] at h3
    exact ⟨c,rfl,by omega⟩
def J4:List AV→AHeap→(AV→Prop)→Prop
 |[x,.ptr c 0],H,K=>∃ (t:SRef) (S:Sch),(x=bZ t∧H.get c=some (.cells (aO S))∧SLen S∧Md S t)∧K (.bool (pm S t))
 |_,_,_=>False
theorem KL:EntOk Tryz.prog 161 (Ent.pure J4):=by
 refine Ype fun _ H K h=>?_
 unfold J4 at h
 split at h
 rotate_left
 ·exact h.elim
 rename_i x c
 obtain ⟨t,S,⟨rfl,hg,hS,hk⟩,hK⟩:=h
 refine ⟨_,hK,?_⟩
 clear hK
 have hl:=glq hg
 have hne:(c=H.nx)=False:=eq_false (by omega)
 have hcs:=aq hg
 have hgS:=hg
 generalize hR:(pm S t)=R
 skip
 unfold bZ
 unfold aO at hg hcs
 refine ACalls.fW ak (tCq uv (tCq kV (tCq fC tNq))) Tryz.func161 [.tmp 3] (nrq _) (T:=aj [(5,[[],[],[],[],[],[2,4],[],[],[5],[],[],[],[],[5]])]) (h:=fun hcl hlt=>?_)
 clear hlt
 obtain ⟨hr,hf1,hf2⟩:=hk
 have hne2:(c=H.nx+1)=False:=eq_false (by omega)
 have hne3:(c=H.nx+1+1)=False:=eq_false (by omega)
 obtain ⟨b,e1,e2,e3,e4⟩:=sO hr
 simp only [go_sem,hcs,hne,hne2,hne3,hg,oM]
 refine ⟨S,t,b,pC S t,pI S t,⟨rfl,rfl,hS,e1,e2,e3,e4⟩,?_⟩
 unfold pm at hR
 have hact:=@Bo S t hr
 clear e3 e4
 generalize pI S t=kb at *
 generalize pC S t=ka at *
 obtain ⟨y,hy,hyb⟩:=ik hf1
 unfold bN
 simp only [ag,go_sem,hcs,hne,hne2,hne3,hg,bB]
 refine ⟨S,y,⟨rfl,hS,hy⟩,?_⟩
 cases c1:t.action==0 with
 |true =>
  obtain ⟨z,hz,hzb⟩:=ik (hf2 c1)
  simp only [c1,if_true] at hR
  subst hR
  simp only [ag,go_sem,hcs,hne,hne2,hne3,hg,bB,c1]
  refine ⟨S,z,⟨rfl,hS,hz⟩,?_⟩
  simp only [ag,go_sem,hyb,hzb]
  exact Z1
 |false =>
  obtain ⟨c2,f3,hl3⟩:=hact c1
  simp only [c1,Bool.false_eq_true,if_false,f3] at hR
  subst hR
  obtain ⟨i,i1,g1,l1⟩:=lK f3
  have ga:=aW (f:=ax) (l:=S.actions) (k:=i) (x:=c2) g1
  have hca:ax c2=.agg [.int .i64 c2.id,.str c2.name,.slice .any 2 (c2.params.map bv),.slice .any 6 (c2.body.map cl),.str c2.restr]:=rfl
  rw [hca] at ga
  have gp:=aW (f:=bv) (l:=c2.params) (k:=t.param.toNat) (x:=c2.params[t.param.toNat]) (gQq hl3)
  have gq:c2.params.getD t.param.toNat ⟨[],0⟩=c2.params[t.param.toNat]:=by simp [gEq,hl3]
  rw [gq]
  generalize c2.params[t.param.toNat]=z at *
  have hz:bv z=.agg [.str z.name,.int .i64 z.bits]:=rfl
  rw [hz] at gp
  have hp0:=hr.2.2.2
  simp only [ag,go_sem,hcs,hne,hne2,hne3,hg,ex,c1]
  refine ⟨S,⟨rfl,hS.al⟩,?_⟩
  simp only [ag,go_sem,hcs,hne,hne2,hne3,hg,i1,ga,gp,iNq,ybb,hyb]
  try (repeat with_reducible refine Yq ?_)
  exact Z1
structure FitK (S:Sch):Prop where
 f1:bW S 1=true
 f2:bW S 2=true
 h:∀ t∈S.headers,LW S t
 s:∀ t∈S.states,∀ p∈t.cases,K6 S t.select p
 a:∀ t∈S.actions,∀ p∈t.body,KM S t p
 t:∀ t∈S.tables,L3 S t
 r:∀ t∈S.roles,∀ g∈t.grants,fY S g.table=true
 x:∀ r∈S.refs,Md S r
def pH (S:Sch):Bool:=(btF S 1==16)&&((btF S 2==16)&&(S.headers.all (qY S)&&((S.states.all fun t=>t.cases.all fun p=>om S t.select p)&&((S.actions.all fun t=>t.body.all fun p=>nF S t p)&&(S.tables.all (tmF S)&&((S.roles.all fun t=>t.grants.all fun g=>gkB S g)&&S.refs.all (pm S)))))))
def oO:List AV→AHeap→(AV→Prop)→Prop
 |[.agg l],_,K=>∃ S:Sch,(l=aO S∧SB S∧FitK S)∧K (.bool (pH S))
 |_,_,_=>False
theorem Ew:EntOk Tryz.prog 37 (Ent.pure oO):=by
 refine Ype fun _ H K h=>?_
 unfold oO at h
 split at h
 rotate_left
 ·exact h.elim
 rename_i l
 obtain ⟨S,⟨rfl,hB,hF⟩,hK⟩:=h
 refine ⟨_,hK,?_⟩
 clear hK
 have hS:=hB.sl
 obtain ⟨y1,hy1,hb1⟩:=ik hF.f1
 obtain ⟨y2,hy2,hb2⟩:=ik hF.f2
 generalize hR:pH S=R
 unfold pH at hR
 refine ACalls.fW ak (tCq kV (tCq mM (tCq mG (tCq lj (tCq jH (tCq kO (tCq ns tNq))))))) Tryz.func37 [.tmp 2] (nrq _) (T:=aj []) (h:=fun hcl hlt=>?_)
 clear hlt
 unfold aO
 try simp only [ag,go_sem,bB,hb1,hb2,bh,bn,bf,bg,bw,bA]
 refine ⟨S,y1,⟨rfl,hS,hy1⟩,?_⟩
 try simp only [ag,go_sem,hb1]
 cases k1:btF S 1==16 with
 |false =>
  simp only [k1,tfB,if_true,if_false,reduceCtorEq] at hR
  subst hR
  try simp only [ag,go_sem,bB,hb1,hb2,bh,bn,bf,bg,bw,bA,k1]
  exact Z1
 |true =>
  try simp only [ag,go_sem,bB,hb1,hb2,bh,bn,bf,bg,bw,bA,k1]
  refine ⟨S,y2,⟨rfl,hS,hy2⟩,?_⟩
  try simp only [ag,go_sem,hb2]
  cases k2:btF S 2==16 with
  |false =>
   simp only [k1,k2,tfB,if_true,if_false,reduceCtorEq] at hR
   subst hR
   try simp only [ag,go_sem,bB,hb1,hb2,bh,bn,bf,bg,bw,bA,k1,k2]
   exact Z1
  |true =>
   try simp only [ag,go_sem,bB,hb1,hb2,bh,bn,bf,bg,bw,bA,k1,k2]
   refine ⟨S.headers,qY S,⟨rfl,hS.hl,fun x hx H' hle' hcl'=>clB Lb ⟨x,S,⟨rfl,hle'.get _ _ (by (try simp only [go_sem]);first|done|rfl),hS,hF.h x hx⟩,rfl⟩⟩,?_⟩
   cases k3:S.headers.all (qY S) with
   |false =>
    simp only [k1,k2,k3,tfB,if_true,if_false,reduceCtorEq] at hR
    subst hR
    try simp only [ag,go_sem,bB,hb1,hb2,bh,bn,bf,bg,bw,bA,k1,k2,k3]
    exact Z1
   |true =>
    try simp only [ag,go_sem,bB,hb1,hb2,bh,bn,bf,bg,bw,bA,k1,k2,k3]
    refine ⟨S.states,(fun t=>t.cases.all fun p=>om S t.select p),⟨rfl,hS.sl,fun x hx H' hle' hcl'=>clB KK ⟨x,S,⟨rfl,hle'.get _ _ (by (try simp only [go_sem]);first|done|rfl),hS,hB.sn x hx,hF.s x hx⟩,rfl⟩⟩,?_⟩
    cases k4:S.states.all (fun t=>t.cases.all fun p=>om S t.select p) with
    |false =>
     simp only [k1,k2,k3,k4,tfB,if_true,if_false,reduceCtorEq] at hR
     subst hR
     try simp only [ag,go_sem,bB,hb1,hb2,bh,bn,bf,bg,bw,bA,k1,k2,k3,k4]
     exact Z1
    |true =>
     try simp only [ag,go_sem,bB,hb1,hb2,bh,bn,bf,bg,bw,bA,k1,k2,k3,k4]
     refine ⟨S.actions,(fun t=>t.body.all fun p=>nF S t p),⟨rfl,hS.al,fun x hx H' hle' hcl'=>clB Kz ⟨x,S,⟨rfl,hle'.get _ _ (by (try simp only [go_sem]);first|done|rfl),hS,(hB.an x hx).2.2.1,hF.a x hx⟩,rfl⟩⟩,?_⟩
     cases k5:S.actions.all (fun t=>t.body.all fun p=>nF S t p) with
     |false =>
      simp only [k1,k2,k3,k4,k5,tfB,if_true,if_false,reduceCtorEq] at hR
      subst hR
      try simp only [ag,go_sem,bB,hb1,hb2,bh,bn,bf,bg,bw,bA,k1,k2,k3,k4,k5]
      exact Z1
     |true =>
      try simp only [ag,go_sem,bB,hb1,hb2,bh,bn,bf,bg,bw,bA,k1,k2,k3,k4,k5]
      refine ⟨S.tables,tmF S,⟨rfl,hS.tl,fun x hx H' hle' hcl'=>clB KB ⟨x,S,⟨rfl,hle'.get _ _ (by (try simp only [go_sem]);first|done|rfl),hS,hF.t x hx⟩,rfl⟩⟩,?_⟩
      cases k6:S.tables.all (tmF S) with
      |false =>
       simp only [k1,k2,k3,k4,k5,k6,tfB,if_true,if_false,reduceCtorEq] at hR
       subst hR
       try simp only [ag,go_sem,bB,hb1,hb2,bh,bn,bf,bg,bw,bA,k1,k2,k3,k4,k5,k6]
       exact Z1
      |true =>
       try simp only [ag,go_sem,bB,hb1,hb2,bh,bn,bf,bg,bw,bA,k1,k2,k3,k4,k5,k6]
       refine ⟨S.roles,(fun t=>t.grants.all fun g=>gkB S g),⟨rfl,hS.rl,fun x hx H' hle' hcl'=>clB KT ⟨x,S,⟨rfl,hle'.get _ _ (by (try simp only [go_sem]);first|done|rfl),hS,(hB.rn x hx).2.1,hF.r x hx⟩,rfl⟩⟩,?_⟩
       cases k7:S.roles.all (fun t=>t.grants.all fun g=>gkB S g) with
       |false =>
        simp only [k1,k2,k3,k4,k5,k6,k7,tfB,if_true,if_false,reduceCtorEq] at hR
        subst hR
        try simp only [ag,go_sem,bB,hb1,hb2,bh,bn,bf,bg,bw,bA,k1,k2,k3,k4,k5,k6,k7]
        exact Z1
       |true =>
        try simp only [ag,go_sem,bB,hb1,hb2,bh,bn,bf,bg,bw,bA,k1,k2,k3,k4,k5,k6,k7]
        refine ⟨S.refs,pm S,⟨rfl,hB.xl,fun x hx H' hle' hcl'=>clB KL ⟨x,S,⟨rfl,hle'.get _ _ (by (try simp only [go_sem]);first|done|rfl),hS,hF.x x hx⟩,rfl⟩⟩,?_⟩
        cases k8:S.refs.all (pm S) with
        |false =>
         simp only [k1,k2,k3,k4,k5,k6,k7,k8,tfB,if_true,if_false,reduceCtorEq] at hR
         subst hR
         try simp only [ag,go_sem,bB,hb1,hb2,bh,bn,bf,bg,bw,bA,k1,k2,k3,k4,k5,k6,k7,k8]
         exact Z1
        |true =>
         simp only [k1,k2,k3,k4,k5,k6,k7,k8,tfB,if_true,if_false,reduceCtorEq] at hR
         subst hR
         try simp only [ag,go_sem,bB,hb1,hb2,bh,bn,bf,bg,bw,bA,k1,k2,k3,k4,k5,k6,k7,k8]
         exact Z1
structure Rng (S:Sch):Prop where
 pv:∀ a∈S.actions,∀ p∈a.body,p.value<2^128∧0≤p.n
 cv:∀ s∈S.states,∀ c∈s.cases,c.value<2^128∧c.mask<2^128
 dv:∀ t∈S.tables,∀ v∈t.dargs,v<2^128
 rv:∀ r∈S.refs,0≤r.key∧0≤r.toKey∧0≤r.param
theorem GF {S:Sch} {n:Int} (h:hZ S n=true):∃ a,S.actions.find? (fun t=>t.id==n)=some a∧a∈S.actions:=by
 unfold hZ at h
 rw [List.any_eq_true] at h
 obtain ⟨y,hy,h2⟩:=h
 cases hf:S.actions.find? (fun t=>t.id==n) with
 |none=>exact absurd h2 (by have:=List.find?_eq_none.1 hf y hy;simpa using this)
 |some x=>exact ⟨x,rfl,List.mem_of_find?_eq_some hf⟩
theorem AP {S:Sch} (hn:S.fields.all nm1=true) {n:Int} (h:bW S n=true):0≤btF S n∧btF S n≤1000000:=by
 obtain ⟨x,hx,hb⟩:=ik h
 have hm:=List.mem_of_find?_eq_some hx
 have h1:=List.all_eq_true.1 hn x hm
 unfold nm1 wB at h1
 simp only [Bool.and_eq_true,decide_eq_true_eq] at h1
 rw [← hb]
 omega
theorem u9 {S:Sch} (hk:hP S=true) (hr:Rng S):∀ r∈S.refs,rV S r:=by
 intro r h
 unfold hP at hk
 simp only [Bool.and_eq_true] at hk
 obtain ⟨k1,k2,k3,k4,k5,k6,k7,k8,k9⟩:=hk
 exact ⟨List.all_eq_true.1 k9 r h,(hr.rv r h).1,(hr.rv r h).2.1,(hr.rv r h).2.2⟩
theorem yA {S:Sch} (k6:S.tables.all (p9 S)=true) {b:STable} {n:Int} {i:Nat} {k:SKey} (hb:S.tables.find? (fun t=>t.id==n)=some b) (hk:b.keys[i]?=some k):bW S k.field=true:=by
 have h1:=List.all_eq_true.1 k6 b (List.mem_of_find?_eq_some hb)
 unfold p9 at h1
 simp only [Bool.and_eq_true] at h1
 exact List.all_eq_true.1 h1.1 k (List.mem_of_getElem? hk)
theorem JE {S:Sch} (hB:SB S) (hk:hP S=true) (hn:sY S=true) (hf:mL S=true) (hr:Rng S):FitK S:=by
 have hro:=u9 hk hr
 unfold hP at hk
 simp only [Bool.and_eq_true] at hk
 obtain ⟨k1,k2,k3,k4,k5,k6,k7,k8,k9⟩:=hk
 unfold sY at hn
 simp only [Bool.and_eq_true] at hn
 obtain ⟨n1,n2,n3,n4⟩:=hn
 unfold mL at hf
 simp only [Bool.and_eq_true] at hf
 obtain ⟨f1,f2,f3,f4⟩:=hf
 refine ⟨k1,k2,fun t ht=>⟨(hB.hn t ht).2,fun f hf'=>?_⟩,fun t ht p hp=>?_,fun t ht p hp=>?_,fun t ht=>?_,fun t ht g hg=>?_,fun r hr'=>?_⟩
 ·have h1:=List.all_eq_true.1 k3 t ht
  have h2:=List.all_eq_true.1 h1 f hf'
  exact ⟨h2,AP n3 h2⟩
 ·refine ⟨?_,hr.cv t ht p hp⟩
  have h1:=List.all_eq_true.1 k4 t ht
  have h2:=List.all_eq_true.1 f3 t ht
  unfold uG at h1
  unfold fsB at h2
  simp only [Bool.and_eq_true,Bool.or_eq_true] at h1 h2
  rcases h1.2.1 with h3|h3
  ·rcases h2 with h4|h4
   ·exfalso
    simp [bne] at h4 h3
    exact h4 h3
   ·simp only [decide_eq_true_eq] at h4
    have:=List.length_pos_of_mem hp
    omega
  ·exact h3
 ·have h1:=List.all_eq_true.1 k5 t ht
  have h2:=List.all_eq_true.1 h1 p hp
  have h3:=List.all_eq_true.1 (List.all_eq_true.1 f1 t ht) p hp
  exact ⟨(hr.pv t ht p hp).1,h2,h3,(hr.pv t ht p hp).2⟩
 ·have h1:=List.all_eq_true.1 k6 t ht
  unfold p9 at h1
  simp only [Bool.and_eq_true] at h1
  have hm:t.dflt∈t.actions:=by simpa using h1.2.2
  obtain ⟨a,ha,hma⟩:=GF (List.all_eq_true.1 h1.2.1 _ hm)
  exact ⟨a,ha,(hB.an a hma).2.1,(hB.tn t ht).2.2.2.1,hr.dv t ht⟩
 ·have h1:=List.all_eq_true.1 k8 t ht
  unfold uW at h1
  simp only [Bool.and_eq_true] at h1
  exact List.all_eq_true.1 h1.1 g hg
 ·have hro:=hro r hr'
  obtain ⟨b,e1,e2,e3,e4⟩:=sO hro
  refine ⟨hro,yA k6 e1 e3,fun h0=>?_⟩
  rw [if_pos h0] at e4
  obtain ⟨a,a1,a2,a3⟩:=e4
  exact yA k6 a1 a3
end Go.AL
