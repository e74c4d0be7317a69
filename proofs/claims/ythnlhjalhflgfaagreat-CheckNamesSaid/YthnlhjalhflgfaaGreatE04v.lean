/- Lemmas of the proof; no condition. -/
import Derived.Test.YthnlhjalhflgfaaGreatE04j
import Derived.Test.YthnlhjalhflgfaaGreatS12k
set_option linter.all false
set_option maxRecDepth 10000
set_option maxHeartbeats 32000000
open List renaming length_cons → yaz, length_nil → yba, take_of_length_le → ybc, drop_append → ybd, take_append → ybe, drop_eq_nil_of_le → ybf, length_map → ybb, take_succ_cons → yaq, take_zero → yar, drop_succ_cons → yao, drop_zero → yap
open Go Go.AL Go.Proofs
namespace Go.AL
theorem yI:ti Tryz.prog 207=some ⟨.struct [(0,34,false)],10,208,.agg [.slice .nil 1 [],.slice .nil 1 [],.slice .nil 1 [],.slice .nil 1 [],.slice .nil 1 [],.slice .nil 1 [],.slice .nil 1 [],.slice .nil 1 [],.int .i64 0,.int .i64 0]⟩:=by kernel_rfl
attribute [go_sem] yI
def ct (S:Sch) (n:Int):Bool:=S.fields.any fun t=>t.id==n
def aT:List AV→AHeap→(AV→Prop)→Prop
 |[.agg l,.int .i64 n],_,K=>∃ S:Sch,(l=aS S∧SLen S)∧K (.bool (ct S n))
 |_,_,_=>False
theorem oQ:EntOk Tryz.prog 127 (Ent.pure aT):=by
 refine Ype fun _ H K h=>?_
 unfold aT at h
 split at h
 rotate_left
 ·exact h.elim
 rename_i l n
 obtain ⟨S,⟨rfl,hS⟩,hK⟩:=h
 refine ⟨_,hK,?_⟩
 clear hK
 have hR:decide (0≤ixP (fun t:SField=>t.id==n) S.fields 0)=ct S n:=ep
 generalize ct S n=R at *
 refine ACalls.fW ap (tCq qu tNq) Tryz.func127 [.tmp 4] (nrq _) (T:=aj []) (h:=fun hcl hlt=>?_)
 clear hlt
 simp only [go_sem,aS,lq]
 refine ⟨S,⟨rfl,hS.fl⟩,?_⟩
 have hR':decide (ixP (fun t:SField=>t.id==n) S.fields 0 ≥ 0)=R:=hR
 simp only [ah,go_sem,hR']
 exact Z1
def kE (S:Sch) (n:Int):Bool:=S.headers.any fun t=>t.id==n
def bg:List AV→AHeap→(AV→Prop)→Prop
 |[.agg l,.int .i64 n],_,K=>∃ S:Sch,(l=aS S∧SLen S)∧K (.bool (kE S n))
 |_,_,_=>False
theorem uE:EntOk Tryz.prog 138 (Ent.pure bg):=by
 refine Ype fun _ H K h=>?_
 unfold bg at h
 split at h
 rotate_left
 ·exact h.elim
 rename_i l n
 obtain ⟨S,⟨rfl,hS⟩,hK⟩:=h
 refine ⟨_,hK,?_⟩
 clear hK
 have hR:decide (0≤ixP (fun t:SHeader=>t.id==n) S.headers 0)=kE S n:=ep
 generalize kE S n=R at *
 refine ACalls.fW ap (tCq vt tNq) Tryz.func138 [.tmp 4] (nrq _) (T:=aj []) (h:=fun hcl hlt=>?_)
 clear hlt
 simp only [go_sem,aS,mK]
 refine ⟨S,⟨rfl,hS.hl⟩,?_⟩
 have hR':decide (ixP (fun t:SHeader=>t.id==n) S.headers 0 ≥ 0)=R:=hR
 simp only [ah,go_sem,hR']
 exact Z1
def hZ (S:Sch) (n:Int):Bool:=S.tables.any fun t=>t.id==n
def eV:List AV→AHeap→(AV→Prop)→Prop
 |[.agg l,.int .i64 n],_,K=>∃ S:Sch,(l=aS S∧SLen S)∧K (.bool (hZ S n))
 |_,_,_=>False
theorem Ag:EntOk Tryz.prog 137 (Ent.pure eV):=by
 refine Ype fun _ H K h=>?_
 unfold eV at h
 split at h
 rotate_left
 ·exact h.elim
 rename_i l n
 obtain ⟨S,⟨rfl,hS⟩,hK⟩:=h
 refine ⟨_,hK,?_⟩
 clear hK
 have hR:decide (0≤ixP (fun t:STable=>t.id==n) S.tables 0)=hZ S n:=ep
 generalize hZ S n=R at *
 refine ACalls.fW ap (tCq fK tNq) Tryz.func137 [.tmp 4] (nrq _) (T:=aj []) (h:=fun hcl hlt=>?_)
 clear hlt
 simp only [go_sem,aS,da]
 refine ⟨S,⟨rfl,hS.tl⟩,?_⟩
 have hR':decide (ixP (fun t:STable=>t.id==n) S.tables 0 ≥ 0)=R:=hR
 simp only [ah,go_sem,hR']
 exact Z1
def ja (S:Sch) (n:Int):Bool:=S.actions.any fun t=>t.id==n
def Gf:List AV→AHeap→(AV→Prop)→Prop
 |[.agg l,.int .i64 n],_,K=>∃ S:Sch,(l=aS S∧SLen S)∧K (.bool (ja S n))
 |_,_,_=>False
theorem zt:EntOk Tryz.prog 142 (Ent.pure Gf):=by
 refine Ype fun _ H K h=>?_
 unfold Gf at h
 split at h
 rotate_left
 ·exact h.elim
 rename_i l n
 obtain ⟨S,⟨rfl,hS⟩,hK⟩:=h
 refine ⟨_,hK,?_⟩
 clear hK
 have hR:decide (0≤ixP (fun t:SAction=>t.id==n) S.actions 0)=ja S n:=ep
 generalize ja S n=R at *
 refine ACalls.fW ap (tCq gC tNq) Tryz.func142 [.tmp 4] (nrq _) (T:=aj []) (h:=fun hcl hlt=>?_)
 clear hlt
 simp only [go_sem,aS,fh]
 refine ⟨S,⟨rfl,hS.al⟩,?_⟩
 have hR':decide (ixP (fun t:SAction=>t.id==n) S.actions 0 ≥ 0)=R:=hR
 simp only [ah,go_sem,hR']
 exact Z1
def lY (S:Sch) (n:Int):Bool:=n==0||(n==65535||S.states.any fun t=>t.id==n)
def dw:List AV→AHeap→(AV→Prop)→Prop
 |[.agg l,.int .i64 n],_,K=>∃ S:Sch,(l=aS S∧SLen S)∧K (.bool (lY S n))
 |_,_,_=>False
theorem Ae:EntOk Tryz.prog 265 (Ent.pure dw):=by
 refine Ype fun _ H K h=>?_
 unfold dw at h
 split at h
 rotate_left
 ·exact h.elim
 rename_i l n
 obtain ⟨S,⟨rfl,hS⟩,hK⟩:=h
 refine ⟨_,hK,?_⟩
 clear hK
 unfold lY
 have hR':decide (ixP (fun t:SState=>t.id==n) S.states 0 ≥ 0)=S.states.any (fun t=>t.id==n):=ep
 generalize S.states.any (fun t=>t.id==n)=b at *
 refine ACalls.fW ap (tCq vQ tNq) Tryz.func265 [.tmp 4] (nrq _) (T:=aj []) (h:=fun hcl hlt=>?_)
 clear hlt
 cases c1:n==0 with
 |true =>
  simp only [Bool.true_or]
  simp only [go_sem,aS,j4,c1]
  exact Z1
 |false =>
  cases c2:n==65535 with
  |true =>
   simp only [Bool.true_or,Bool.or_true]
   simp only [go_sem,aS,j4,c1,c2]
   exact Z1
  |false =>
   simp only [Bool.false_or]
   simp only [go_sem,aS,j4,c1,c2]
   refine ⟨S,⟨rfl,hS.sl⟩,?_⟩
   simp only [ah,go_sem,hR']
   exact Z1
def zZ:List AV→AHeap→(AV→Prop)→Prop
 |[x,.ptr c 0],H,K=>∃ (t:SCase) (S:Sch),(x=cI t∧H.get c=some (.cells (aS S))∧SLen S)∧K (.bool (lY S t.next))
 |_,_,_=>False
theorem oz:EntOk Tryz.prog 266 (Ent.pure zZ):=by
 refine Ype fun _ H K h=>?_
 unfold zZ at h
 split at h
 rotate_left
 ·exact h.elim
 rename_i x c
 obtain ⟨t,S,⟨rfl,hg,hS⟩,hK⟩:=h
 refine ⟨_,hK,?_⟩
 clear hK
 have hl:=glq hg
 have hne:(c=H.nx)=False:=eq_false (by omega)
 have hcs:=ag hg
 generalize hR:lY S t.next=R at *
 unfold cI vc
 unfold aS at hg hcs
 refine ACalls.fW ap (tCq Ae tNq) Tryz.func266 [.tmp 3] (nrq _) (T:=aj []) (h:=fun hcl hlt=>?_)
 clear hlt
 simp only [go_sem,hcs,hne,hg,dw]
 refine ⟨S,⟨rfl,hS⟩,?_⟩
 simp only [ah,go_sem,hR]
 exact Z1
def sY (S:Sch) (t:SState):Bool:=(t.header==0||kE S t.header)&&((t.select==0||ct S t.select)&&(lY S t.dflt&&t.cases.all fun c=>lY S c.next))
def FB:List AV→AHeap→(AV→Prop)→Prop
 |[.agg l,x],_,K=>∃ (S:Sch) (t:SState),(l=aS S∧x=aO t∧SLen S∧t.cases.length≤1000000)∧K (.bool (sY S t))
 |_,_,_=>False
theorem Jc:EntOk Tryz.prog 130 (Ent.pure FB):=by
 refine Ype fun _ H K h=>?_
 unfold FB at h
 split at h
 rotate_left
 ·exact h.elim
 rename_i l x
 obtain ⟨S,t,⟨rfl,rfl,hS,hcl0⟩,hK⟩:=h
 refine ⟨_,hK,?_⟩
 clear hK
 generalize hR:sY S t=R
 unfold sY at hR
 unfold aO
 refine ACalls.fW ap (tCq uE (tCq oQ (tCq Ae (tCq wg tNq)))) Tryz.func130 [.tmp 4] (nrq _) (T:=aj []) (h:=fun hcl hlt=>?_)
 clear hlt
 unfold aS
 cases h0:t.header==0 with
 |true =>
  cases s0:t.select==0 with
  |true =>
   try simp only [ah,go_sem,bg,aT,dw,bX,h0,s0]
   refine ⟨S,⟨rfl,hS⟩,?_⟩
   cases n1:lY S t.dflt with
   |false =>
    simp only [h0,s0,n1,tfB,if_true,if_false,reduceCtorEq] at hR
    subst hR
    try simp only [ah,go_sem,bg,aT,dw,bX,h0,s0,n1]
    exact Z1
   |true =>
    try simp only [ah,go_sem,bg,aT,dw,bX,h0,s0,n1]
    refine ⟨t.cases,(fun c=>lY S c.next),⟨rfl,hcl0,fun x hx H' hle' hcl'=>clB oz ⟨x,S,⟨rfl,hle'.get _ _ (by (try simp only [go_sem]);first|done|rfl),hS⟩,rfl⟩⟩,?_⟩
    cases k1:t.cases.all fun c=>lY S c.next with
    |false =>
     simp only [h0,s0,n1,k1,tfB,if_true,if_false,reduceCtorEq] at hR
     subst hR
     try simp only [ah,go_sem,bg,aT,dw,bX,h0,s0,n1,k1]
     exact Z1
    |true =>
     simp only [h0,s0,n1,k1,tfB,if_true,if_false,reduceCtorEq] at hR
     subst hR
     try simp only [ah,go_sem,bg,aT,dw,bX,h0,s0,n1,k1]
     exact Z1
  |false =>
   try simp only [ah,go_sem,bg,aT,dw,bX,h0,s0]
   refine ⟨S,⟨rfl,hS⟩,?_⟩
   cases s1:ct S t.select with
   |false =>
    simp only [h0,s0,s1,tfB,if_true,if_false,reduceCtorEq] at hR
    subst hR
    try simp only [ah,go_sem,bg,aT,dw,bX,h0,s0,s1]
    exact Z1
   |true =>
    try simp only [ah,go_sem,bg,aT,dw,bX,h0,s0,s1]
    refine ⟨S,⟨rfl,hS⟩,?_⟩
    cases n1:lY S t.dflt with
    |false =>
     simp only [h0,s0,s1,n1,tfB,if_true,if_false,reduceCtorEq] at hR
     subst hR
     try simp only [ah,go_sem,bg,aT,dw,bX,h0,s0,s1,n1]
     exact Z1
    |true =>
     try simp only [ah,go_sem,bg,aT,dw,bX,h0,s0,s1,n1]
     refine ⟨t.cases,(fun c=>lY S c.next),⟨rfl,hcl0,fun x hx H' hle' hcl'=>clB oz ⟨x,S,⟨rfl,hle'.get _ _ (by (try simp only [go_sem]);first|done|rfl),hS⟩,rfl⟩⟩,?_⟩
     cases k1:t.cases.all fun c=>lY S c.next with
     |false =>
      simp only [h0,s0,s1,n1,k1,tfB,if_true,if_false,reduceCtorEq] at hR
      subst hR
      try simp only [ah,go_sem,bg,aT,dw,bX,h0,s0,s1,n1,k1]
      exact Z1
     |true =>
      simp only [h0,s0,s1,n1,k1,tfB,if_true,if_false,reduceCtorEq] at hR
      subst hR
      try simp only [ah,go_sem,bg,aT,dw,bX,h0,s0,s1,n1,k1]
      exact Z1
 |false =>
  try simp only [ah,go_sem,bg,aT,dw,bX,h0]
  refine ⟨S,⟨rfl,hS⟩,?_⟩
  cases h1:kE S t.header with
  |false =>
   simp only [h0,h1,tfB,if_true,if_false,reduceCtorEq] at hR
   subst hR
   try simp only [ah,go_sem,bg,aT,dw,bX,h0,h1]
   exact Z1
  |true =>
   cases s0:t.select==0 with
   |true =>
    try simp only [ah,go_sem,bg,aT,dw,bX,h0,h1,s0]
    refine ⟨S,⟨rfl,hS⟩,?_⟩
    cases n1:lY S t.dflt with
    |false =>
     simp only [h0,h1,s0,n1,tfB,if_true,if_false,reduceCtorEq] at hR
     subst hR
     try simp only [ah,go_sem,bg,aT,dw,bX,h0,h1,s0,n1]
     exact Z1
    |true =>
     try simp only [ah,go_sem,bg,aT,dw,bX,h0,h1,s0,n1]
     refine ⟨t.cases,(fun c=>lY S c.next),⟨rfl,hcl0,fun x hx H' hle' hcl'=>clB oz ⟨x,S,⟨rfl,hle'.get _ _ (by (try simp only [go_sem]);first|done|rfl),hS⟩,rfl⟩⟩,?_⟩
     cases k1:t.cases.all fun c=>lY S c.next with
     |false =>
      simp only [h0,h1,s0,n1,k1,tfB,if_true,if_false,reduceCtorEq] at hR
      subst hR
      try simp only [ah,go_sem,bg,aT,dw,bX,h0,h1,s0,n1,k1]
      exact Z1
     |true =>
      simp only [h0,h1,s0,n1,k1,tfB,if_true,if_false,reduceCtorEq] at hR
      subst hR
      try simp only [ah,go_sem,bg,aT,dw,bX,h0,h1,s0,n1,k1]
      exact Z1
   |false =>
    try simp only [ah,go_sem,bg,aT,dw,bX,h0,h1,s0]
    refine ⟨S,⟨rfl,hS⟩,?_⟩
    cases s1:ct S t.select with
    |false =>
     simp only [h0,h1,s0,s1,tfB,if_true,if_false,reduceCtorEq] at hR
     subst hR
     try simp only [ah,go_sem,bg,aT,dw,bX,h0,h1,s0,s1]
     exact Z1
    |true =>
     try simp only [ah,go_sem,bg,aT,dw,bX,h0,h1,s0,s1]
     refine ⟨S,⟨rfl,hS⟩,?_⟩
     cases n1:lY S t.dflt with
     |false =>
      simp only [h0,h1,s0,s1,n1,tfB,if_true,if_false,reduceCtorEq] at hR
      subst hR
      try simp only [ah,go_sem,bg,aT,dw,bX,h0,h1,s0,s1,n1]
      exact Z1
     |true =>
      try simp only [ah,go_sem,bg,aT,dw,bX,h0,h1,s0,s1,n1]
      refine ⟨t.cases,(fun c=>lY S c.next),⟨rfl,hcl0,fun x hx H' hle' hcl'=>clB oz ⟨x,S,⟨rfl,hle'.get _ _ (by (try simp only [go_sem]);first|done|rfl),hS⟩,rfl⟩⟩,?_⟩
      cases k1:t.cases.all fun c=>lY S c.next with
      |false =>
       simp only [h0,h1,s0,s1,n1,k1,tfB,if_true,if_false,reduceCtorEq] at hR
       subst hR
       try simp only [ah,go_sem,bg,aT,dw,bX,h0,h1,s0,s1,n1,k1]
       exact Z1
      |true =>
       simp only [h0,h1,s0,s1,n1,k1,tfB,if_true,if_false,reduceCtorEq] at hR
       subst hR
       try simp only [ah,go_sem,bg,aT,dw,bX,h0,h1,s0,s1,n1,k1]
       exact Z1
def oI (S:Sch) (np:Nat) (p:SPrim):Bool :=
 if p.op==1||(p.op==2||p.op==3) then ct S p.dst&&(if p.kind==2 then ct S p.n else if p.kind==3 then decide (p.n<(np:Int)) else true)
 else if p.op==4||p.op==5 then kE S p.dst
 else if p.kind==2 then ct S p.n else if p.kind==3 then decide (p.n<(np:Int)) else true
def yC:List AV→AHeap→(AV→Prop)→Prop
 |[.agg l,x,y],_,K=>∃ (S:Sch) (a:SAction) (p:SPrim),(l=aS S∧x=aA a∧y=bV p∧SLen S)∧K (.bool (oI S a.params.length p))
 |_,_,_=>False
theorem Jx:EntOk Tryz.prog 133 (Ent.pure yC):=by
 refine Ype fun _ H K h=>?_
 unfold yC at h
 split at h
 rotate_left
 ·exact h.elim
 rename_i l x y
 obtain ⟨S,a,p,⟨rfl,rfl,rfl,hS⟩,hK⟩:=h
 refine ⟨_,hK,?_⟩
 clear hK
 generalize hR:oI S a.params.length p=R
 unfold oI at hR
 unfold aA bV vc
 refine ACalls.fW ap (tCq uE (tCq oQ tNq)) Tryz.func133 [.tmp 6] (nrq _) (T:=aj []) (h:=fun hcl hlt=>?_)
 clear hlt
 unfold aS
 cases o1:p.op==1 with
 |false =>
  cases o2:p.op==2 with
  |false =>
   cases o3:p.op==3 with
   |false =>
    cases o4:p.op==4 with
    |false =>
     cases o5:p.op==5 with
     |false =>
      cases k2:p.kind==2 with
      |false =>
       cases k3:p.kind==3 with
       |false =>
        simp only [o1,o2,o3,o4,o5,k2,k3,tfB,if_true,if_false,reduceCtorEq] at hR
        subst hR
        try simp only [ah,go_sem,bg,aT,ybb,o1,o2,o3,o4,o5,k2,k3]
        exact Z1
       |true =>
        cases x3:decide (p.n<(a.params.length:Int)) with
        |false =>
         simp only [o1,o2,o3,o4,o5,k2,k3,x3,tfB,if_true,if_false,reduceCtorEq] at hR
         subst hR
         try simp only [ah,go_sem,bg,aT,ybb,o1,o2,o3,o4,o5,k2,k3,x3]
         exact Z1
        |true =>
         simp only [o1,o2,o3,o4,o5,k2,k3,x3,tfB,if_true,if_false,reduceCtorEq] at hR
         subst hR
         try simp only [ah,go_sem,bg,aT,ybb,o1,o2,o3,o4,o5,k2,k3,x3]
         exact Z1
      |true =>
       try simp only [ah,go_sem,bg,aT,ybb,o1,o2,o3,o4,o5,k2]
       refine ⟨S,⟨rfl,hS⟩,?_⟩
       cases x2:ct S p.n with
       |false =>
        simp only [o1,o2,o3,o4,o5,k2,x2,tfB,if_true,if_false,reduceCtorEq] at hR
        subst hR
        try simp only [ah,go_sem,bg,aT,ybb,o1,o2,o3,o4,o5,k2,x2]
        exact Z1
       |true =>
        simp only [o1,o2,o3,o4,o5,k2,x2,tfB,if_true,if_false,reduceCtorEq] at hR
        subst hR
        try simp only [ah,go_sem,bg,aT,ybb,o1,o2,o3,o4,o5,k2,x2]
        exact Z1
     |true =>
      try simp only [ah,go_sem,bg,aT,ybb,o1,o2,o3,o4,o5]
      refine ⟨S,⟨rfl,hS⟩,?_⟩
      cases d2:kE S p.dst with
      |false =>
       simp only [o1,o2,o3,o4,o5,d2,tfB,if_true,if_false,reduceCtorEq] at hR
       subst hR
       try simp only [ah,go_sem,bg,aT,ybb,o1,o2,o3,o4,o5,d2]
       exact Z1
      |true =>
       simp only [o1,o2,o3,o4,o5,d2,tfB,if_true,if_false,reduceCtorEq] at hR
       subst hR
       try simp only [ah,go_sem,bg,aT,ybb,o1,o2,o3,o4,o5,d2]
       exact Z1
    |true =>
     try simp only [ah,go_sem,bg,aT,ybb,o1,o2,o3,o4]
     refine ⟨S,⟨rfl,hS⟩,?_⟩
     cases d2:kE S p.dst with
     |false =>
      simp only [o1,o2,o3,o4,d2,tfB,if_true,if_false,reduceCtorEq] at hR
      subst hR
      try simp only [ah,go_sem,bg,aT,ybb,o1,o2,o3,o4,d2]
      exact Z1
     |true =>
      simp only [o1,o2,o3,o4,d2,tfB,if_true,if_false,reduceCtorEq] at hR
      subst hR
      try simp only [ah,go_sem,bg,aT,ybb,o1,o2,o3,o4,d2]
      exact Z1
   |true =>
    try simp only [ah,go_sem,bg,aT,ybb,o1,o2,o3]
    refine ⟨S,⟨rfl,hS⟩,?_⟩
    cases d1:ct S p.dst with
    |false =>
     simp only [o1,o2,o3,d1,tfB,if_true,if_false,reduceCtorEq] at hR
     subst hR
     try simp only [ah,go_sem,bg,aT,ybb,o1,o2,o3,d1]
     exact Z1
    |true =>
     cases k2:p.kind==2 with
     |false =>
      cases k3:p.kind==3 with
      |false =>
       simp only [o1,o2,o3,d1,k2,k3,tfB,if_true,if_false,reduceCtorEq] at hR
       subst hR
       try simp only [ah,go_sem,bg,aT,ybb,o1,o2,o3,d1,k2,k3]
       exact Z1
      |true =>
       cases x3:decide (p.n<(a.params.length:Int)) with
       |false =>
        simp only [o1,o2,o3,d1,k2,k3,x3,tfB,if_true,if_false,reduceCtorEq] at hR
        subst hR
        try simp only [ah,go_sem,bg,aT,ybb,o1,o2,o3,d1,k2,k3,x3]
        exact Z1
       |true =>
        simp only [o1,o2,o3,d1,k2,k3,x3,tfB,if_true,if_false,reduceCtorEq] at hR
        subst hR
        try simp only [ah,go_sem,bg,aT,ybb,o1,o2,o3,d1,k2,k3,x3]
        exact Z1
     |true =>
      try simp only [ah,go_sem,bg,aT,ybb,o1,o2,o3,d1,k2]
      refine ⟨S,⟨rfl,hS⟩,?_⟩
      cases x2:ct S p.n with
      |false =>
       simp only [o1,o2,o3,d1,k2,x2,tfB,if_true,if_false,reduceCtorEq] at hR
       subst hR
       try simp only [ah,go_sem,bg,aT,ybb,o1,o2,o3,d1,k2,x2]
       exact Z1
      |true =>
       simp only [o1,o2,o3,d1,k2,x2,tfB,if_true,if_false,reduceCtorEq] at hR
       subst hR
       try simp only [ah,go_sem,bg,aT,ybb,o1,o2,o3,d1,k2,x2]
       exact Z1
  |true =>
   try simp only [ah,go_sem,bg,aT,ybb,o1,o2]
   refine ⟨S,⟨rfl,hS⟩,?_⟩
   cases d1:ct S p.dst with
   |false =>
    simp only [o1,o2,d1,tfB,if_true,if_false,reduceCtorEq] at hR
    subst hR
    try simp only [ah,go_sem,bg,aT,ybb,o1,o2,d1]
    exact Z1
   |true =>
    cases k2:p.kind==2 with
    |false =>
     cases k3:p.kind==3 with
     |false =>
      simp only [o1,o2,d1,k2,k3,tfB,if_true,if_false,reduceCtorEq] at hR
      subst hR
      try simp only [ah,go_sem,bg,aT,ybb,o1,o2,d1,k2,k3]
      exact Z1
     |true =>
      cases x3:decide (p.n<(a.params.length:Int)) with
      |false =>
       simp only [o1,o2,d1,k2,k3,x3,tfB,if_true,if_false,reduceCtorEq] at hR
       subst hR
       try simp only [ah,go_sem,bg,aT,ybb,o1,o2,d1,k2,k3,x3]
       exact Z1
      |true =>
       simp only [o1,o2,d1,k2,k3,x3,tfB,if_true,if_false,reduceCtorEq] at hR
       subst hR
       try simp only [ah,go_sem,bg,aT,ybb,o1,o2,d1,k2,k3,x3]
       exact Z1
    |true =>
     try simp only [ah,go_sem,bg,aT,ybb,o1,o2,d1,k2]
     refine ⟨S,⟨rfl,hS⟩,?_⟩
     cases x2:ct S p.n with
     |false =>
      simp only [o1,o2,d1,k2,x2,tfB,if_true,if_false,reduceCtorEq] at hR
      subst hR
      try simp only [ah,go_sem,bg,aT,ybb,o1,o2,d1,k2,x2]
      exact Z1
     |true =>
      simp only [o1,o2,d1,k2,x2,tfB,if_true,if_false,reduceCtorEq] at hR
      subst hR
      try simp only [ah,go_sem,bg,aT,ybb,o1,o2,d1,k2,x2]
      exact Z1
 |true =>
  try simp only [ah,go_sem,bg,aT,ybb,o1]
  refine ⟨S,⟨rfl,hS⟩,?_⟩
  cases d1:ct S p.dst with
  |false =>
   simp only [o1,d1,tfB,if_true,if_false,reduceCtorEq] at hR
   subst hR
   try simp only [ah,go_sem,bg,aT,ybb,o1,d1]
   exact Z1
  |true =>
   cases k2:p.kind==2 with
   |false =>
    cases k3:p.kind==3 with
    |false =>
     simp only [o1,d1,k2,k3,tfB,if_true,if_false,reduceCtorEq] at hR
     subst hR
     try simp only [ah,go_sem,bg,aT,ybb,o1,d1,k2,k3]
     exact Z1
    |true =>
     cases x3:decide (p.n<(a.params.length:Int)) with
     |false =>
      simp only [o1,d1,k2,k3,x3,tfB,if_true,if_false,reduceCtorEq] at hR
      subst hR
      try simp only [ah,go_sem,bg,aT,ybb,o1,d1,k2,k3,x3]
      exact Z1
     |true =>
      simp only [o1,d1,k2,k3,x3,tfB,if_true,if_false,reduceCtorEq] at hR
      subst hR
      try simp only [ah,go_sem,bg,aT,ybb,o1,d1,k2,k3,x3]
      exact Z1
   |true =>
    try simp only [ah,go_sem,bg,aT,ybb,o1,d1,k2]
    refine ⟨S,⟨rfl,hS⟩,?_⟩
    cases x2:ct S p.n with
    |false =>
     simp only [o1,d1,k2,x2,tfB,if_true,if_false,reduceCtorEq] at hR
     subst hR
     try simp only [ah,go_sem,bg,aT,ybb,o1,d1,k2,x2]
     exact Z1
    |true =>
     simp only [o1,d1,k2,x2,tfB,if_true,if_false,reduceCtorEq] at hR
     subst hR
     try simp only [ah,go_sem,bg,aT,ybb,o1,d1,k2,x2]
     exact Z1
def zd:List AV→AHeap→(AV→Prop)→Prop
 |[x,.ptr c 0],H,K=>∃ (t:SKey) (S:Sch),(x=bE t∧H.get c=some (.cells (aS S))∧SLen S)∧K (.bool (ct S t.field))
 |_,_,_=>False
theorem Fi:EntOk Tryz.prog 267 (Ent.pure zd):=by
 refine Ype fun _ H K h=>?_
 unfold zd at h
 split at h
 rotate_left
 ·exact h.elim
 rename_i x c
 obtain ⟨t,S,⟨rfl,hg,hS⟩,hK⟩:=h
 refine ⟨_,hK,?_⟩
 clear hK
 have hl:=glq hg
 have hne:(c=H.nx)=False:=eq_false (by omega)
 have hcs:=ag hg
 generalize hR:ct S t.field=R at *
 unfold bE
 unfold aS at hg hcs
 refine ACalls.fW ap (tCq oQ tNq) Tryz.func267 [.tmp 3] (nrq _) (T:=aj []) (h:=fun hcl hlt=>?_)
 clear hlt
 simp only [go_sem,hcs,hne,hg,aT]
 refine ⟨S,⟨rfl,hS⟩,?_⟩
 simp only [ah,go_sem,hR]
 exact Z1
def pD (S:Sch) (t:STable):Bool:=(t.keys.all fun k=>ct S k.field)&&((t.actions.all fun a=>ja S a)&&t.actions.contains t.dflt)
def HH:List AV→AHeap→(AV→Prop)→Prop
 |[.agg l,x],_,K=>∃ (S:Sch) (t:STable),(l=aS S∧x=aC t∧SLen S∧t.keys.length≤1000000∧t.actions.length≤1000000)∧K (.bool (pD S t))
 |_,_,_=>False
theorem JP:EntOk Tryz.prog 134 (Ent.pure HH):=by
 refine Ype fun _ H K h=>?_
 unfold HH at h
 split at h
 rotate_left
 ·exact h.elim
 rename_i l x
 obtain ⟨S,t,⟨rfl,rfl,hS,hkl,hal⟩,hK⟩:=h
 refine ⟨_,hK,?_⟩
 clear hK
 generalize hR:pD S t=R
 unfold pD at hR
 unfold aC
 refine ACalls.fW ap (tCq wH (tCq sI (tCq oY tNq))) Tryz.func134 [.tmp 4] (nrq _) (T:=aj []) (h:=fun hcl hlt=>?_)
 clear hlt
 unfold aS
 try simp only [ah,go_sem,iH,cS,fk,inL]
 refine ⟨t.keys,(fun k=>ct S k.field),⟨rfl,hkl,fun x hx H' hle' hcl'=>clB Fi ⟨x,S,⟨rfl,hle'.get _ _ (by (try simp only [go_sem]);first|done|rfl),hS⟩,rfl⟩⟩,?_⟩
 cases k1:t.keys.all (fun k=>ct S k.field) with
 |false =>
  simp only [k1,tfB,if_true,if_false,reduceCtorEq] at hR
  subst hR
  try simp only [ah,go_sem,iH,cS,fk,inL,k1]
  exact Z1
 |true =>
  try simp only [ah,go_sem,iH,cS,fk,inL,k1]
  refine ⟨t.actions,(fun a=>ja S a),⟨rfl,hal,fun x hx H' hle' hcl'=>clB zt ⟨S,⟨rfl,hS⟩,rfl⟩⟩,?_⟩
  cases k2:t.actions.all (fun a=>ja S a) with
  |false =>
   simp only [k1,k2,tfB,if_true,if_false,reduceCtorEq] at hR
   subst hR
   try simp only [ah,go_sem,iH,cS,fk,inL,k1,k2]
   exact Z1
  |true =>
   try simp only [ah,go_sem,iH,cS,fk,inL,k1,k2]
   refine ⟨t.actions,⟨rfl,hal⟩,?_⟩
   cases k3:t.actions.contains t.dflt with
   |false =>
    simp only [k1,k2,k3,tfB,if_true,if_false,reduceCtorEq] at hR
    subst hR
    try simp only [ah,go_sem,iH,cS,fk,inL,k1,k2,k3]
    exact Z1
   |true =>
    simp only [k1,k2,k3,tfB,if_true,if_false,reduceCtorEq] at hR
    subst hR
    try simp only [ah,go_sem,iH,cS,fk,inL,k1,k2,k3]
    exact Z1
theorem z3 {α:Type} (q:α→Bool) (l:List α):(ixP q l 0 = -1∧l.find? q=none)∨∃ (i:Nat) (x:α),ixP q l 0=(i:Int)∧l[i]?=some x∧l.find? q=some x∧i<l.length:=by
 obtain ⟨b1,b2⟩:=yQ (q:=q) (l:=l) (k:=0)
 rcases b2 with b2|b2
 ·exact .inl ⟨b2,vL b2⟩
 ·obtain ⟨i,hi⟩:∃ i:Nat,ixP q l 0=((0+i:Nat):Int):=⟨(ixP q l 0).toNat,by omega⟩
  obtain ⟨x,h1,h2,h3⟩:=zw hi
  rw [nzq] at hi
  refine .inr ⟨i,x,hi,h1,h3,?_⟩
  rcases Nat.lt_or_ge i l.length with h|h
  ·exact h
  ·rw [gNq h] at h1;cases h1
def su (S:Sch) (x:SRef):Bool :=
 match S.tables.find? (fun t=>t.id==x.table),S.tables.find? (fun t=>t.id==x.toTable) with
 |some a,some b=>decide (x.toKey<(b.keys.length:Int))&&(if x.action==0 then decide (x.key<(a.keys.length:Int)) else a.actions.contains x.action&&(match S.actions.find? (fun t=>t.id==x.action) with|some c=>decide (x.param<(c.params.length:Int))|none=>false))
 |_,_=>false
def F0:List AV→AHeap→(AV→Prop)→Prop
 |[.agg l,x],_,K=>∃ (S:Sch) (t:SRef),(l=aS S∧x=bU t∧SB S∧∀ t∈S.tables,∀ a∈t.actions,ja S a=true)∧K (.bool (su S t))
 |_,_,_=>False
theorem ok_fRef:EntOk Tryz.prog 143 (Ent.pure F0):=by
 refine Ype fun _ H K h=>?_
 unfold F0 at h
 split at h
 rotate_left
 ·exact h.elim
 rename_i l x
 obtain ⟨S,r,⟨rfl,rfl,hS,hA⟩,hK⟩:=h
 refine ⟨_,hK,?_⟩
 clear hK
 generalize hR:su S r=R
 unfold su at hR
 unfold bU
 have htl:=hS.sl.tl
 have hsl:=hS.sl.al
 rcases z3 (fun t:STable=>t.id==r.table) S.tables with ⟨i1,f1⟩|⟨i,a,i1,g1,f1,l1⟩
 ·simp only [f1] at hR
  subst hR
  have d1:decide ((-1:Int)<0)=true:=rfl
  refine ACalls.fW ap (tCq fK (tCq oY (tCq gC tNq))) Tryz.func143 [.tmp 4] (nrq _) (T:=aj [(1,[[],[],[],[],[1,3],[],[],[],[],[1,3,4,6,8]]),(6,[[],[],[],[],[],[],[],[],[],[2,6,8],[],[],[9],[],[],[9],[],[9],[],[9],[2,6,8,9,17,19],[],[],[9,20]])]) (h:=fun hcl hlt=>?_)
  clear hlt
  unfold aS
  simp only [go_sem,da,fk,fh,i1]
  refine ⟨S,⟨rfl,htl⟩,?_⟩
  simp only [ah,go_sem,da,i1]
  refine ⟨S,⟨rfl,htl⟩,?_⟩
  simp only [ah,go_sem,i1,d1]
  exact Z1
 ·have d1:decide ((i:Int)<0)=false:=dfq (by omega)
  rcases z3 (fun t:STable=>t.id==r.toTable) S.tables with ⟨i2,f2⟩|⟨j,b,i2,g2,f2,l2⟩
  ·simp only [f1,f2] at hR
   subst hR
   have d2:decide ((-1:Int)<0)=true:=rfl
   refine ACalls.fW ap (tCq fK (tCq oY (tCq gC tNq))) Tryz.func143 [.tmp 4] (nrq _) (T:=aj [(1,[[],[],[],[],[1,3],[],[],[],[],[1,3,4,6,8]]),(6,[[],[],[],[],[],[],[],[],[],[2,6,8],[],[],[9],[],[],[9],[],[9],[],[9],[2,6,8,9,17,19],[],[],[9,20]])]) (h:=fun hcl hlt=>?_)
   clear hlt
   unfold aS
   simp only [go_sem,da,fk,fh,i1]
   refine ⟨S,⟨rfl,htl⟩,?_⟩
   simp only [ah,go_sem,da,i1,i2]
   refine ⟨S,⟨rfl,htl⟩,?_⟩
   simp only [ah,go_sem,i1,i2,d1,d2]
   exact Z1
  ·simp only [f1,f2] at hR
   have d2:decide ((j:Int)<0)=false:=dfq (by omega)
   have ga:=a0 (f:=aC) (l:=S.tables) (k:=i) (x:=a) g1
   have gb:=a0 (f:=aC) (l:=S.tables) (k:=j) (x:=b) g2
   have hca:aC a=.agg [.int .i64 a.id,.str a.name,.slice .any 3 (a.keys.map bE),.slice .any 1 (inL a.actions),.int .i64 a.dflt,.slice .any 2 (a.dargs.map vv),.int .i64 a.size,.str a.restr]:=rfl
   have hcb:aC b=.agg [.int .i64 b.id,.str b.name,.slice .any 3 (b.keys.map bE),.slice .any 1 (inL b.actions),.int .i64 b.dflt,.slice .any 2 (b.dargs.map vv),.int .i64 b.size,.str b.restr]:=rfl
   rw [hca] at ga
   rw [hcb] at gb
   have hma:a∈S.tables:=List.mem_of_getElem? g1
   obtain ⟨c0,h0⟩:∃ c,decide (r.toKey<(b.keys.length:Int))=c:=⟨_,rfl⟩
   have d0:decide (r.toKey ≥ (b.keys.length:Int))=!c0:=by
    rw [← h0]
    by_cases h:r.toKey<(b.keys.length:Int)
    ·rw [dtq h,dfq (by omega)];rfl
    ·rw [dfq h,dtq (by omega)];rfl
   rw [h0] at hR
   refine ACalls.fW ap (tCq fK (tCq oY (tCq gC tNq))) Tryz.func143 [.tmp 4] (nrq _) (T:=aj [(1,[[],[],[],[],[1,3],[],[],[],[],[1,3,4,6,8]]),(6,[[],[],[],[],[],[],[],[],[],[2,6,8],[],[],[9],[],[],[9],[],[9],[],[9],[2,6,8,9,17,19],[],[],[9,20]])]) (h:=fun hcl hlt=>?_)
   clear hlt
   unfold aS
   simp only [go_sem,da,fk,fh,i1]
   refine ⟨S,⟨rfl,htl⟩,?_⟩
   simp only [ah,go_sem,da,i1,i2]
   refine ⟨S,⟨rfl,htl⟩,?_⟩
   simp only [ah,go_sem,i1,i2,d1,d2,gb,d0,iNq,ybb]
   try (repeat with_reducible refine Yq ?_)
   cases c0 with
   |false =>
    rw [Bool.false_and] at hR
    subst hR
    try simp only [go_sem]
    try (repeat with_reducible refine Yq ?_)
    exact Z1
   |true =>
    rw [Bool.true_and] at hR
    cases ca:r.action==0 with
    |true =>
     rw [ca,if_pos rfl] at hR
     subst hR
     try simp only [go_sem,ca,ga,iNq,ybb]
     try (repeat with_reducible refine Yq ?_)
     exact Z1
    |false =>
     rw [ca,if_neg Bool.false_ne_true] at hR
     try simp only [go_sem,ca,ga,iNq,ybb]
     try (repeat with_reducible refine Yq ?_)
     have hal:=(hS.tn a hma).2.2.1
     refine ⟨a.actions,⟨rfl,hal⟩,?_⟩
     cases cc:a.actions.contains r.action with
     |false =>
      rw [cc,Bool.false_and] at hR
      subst hR
      simp only [ah,go_sem,cc]
      try (repeat with_reducible refine Yq ?_)
      exact Z1
     |true =>
      rw [cc,Bool.true_and] at hR
      have hmem:r.action∈a.actions:=by simpa using cc
      have hany:=hA a hma _ hmem
      rcases z3 (fun t:SAction=>t.id==r.action) S.actions with ⟨_,f3⟩|⟨m,c,i3,g3,f3,l3⟩
      ·exfalso
       unfold ja at hany
       rw [List.any_eq_true] at hany
       obtain ⟨y,hy,hy2⟩:=hany
       exact absurd hy2 (by have:=List.find?_eq_none.1 f3 y hy;simpa using this)
      ·simp only [f3] at hR
       subst hR
       have gc:=a0 (f:=aA) (l:=S.actions) (k:=m) (x:=c) g3
       have hcc:aA c=.agg [.int .i64 c.id,.str c.name,.slice .any 2 (c.params.map bv),.slice .any 6 (c.body.map bV),.str c.restr]:=rfl
       rw [hcc] at gc
       simp only [ah,go_sem,cc,fh]
       refine ⟨S,⟨rfl,hsl⟩,?_⟩
       simp only [ah,go_sem,i3,gc,iNq,ybb]
       try (repeat with_reducible refine Yq ?_)
       exact Z1
def vg (S:Sch) (t:SHeader):Bool:=t.fields.all fun n=>ct S n
def uz (S:Sch) (t:SAction):Bool:=t.body.all fun p=>oI S t.params.length p
def Ap (S:Sch) (t:SStage):Bool:=hZ S t.table&&(t.header==0||kE S t.header)
def yj (S:Sch) (t:SRole):Bool:=(t.grants.all fun g=>hZ S g.table)&&t.actions.all fun a=>ja S a
def L2:List AV→AHeap→(AV→Prop)→Prop
 |[x,.ptr c 0],H,K=>∃ (t:SHeader) (S:Sch),(x=aH t∧H.get c=some (.cells (aS S))∧SLen S∧t.fields.length≤1000000)∧K (.bool (vg S t))
 |_,_,_=>False
theorem L9:EntOk Tryz.prog 128 (Ent.pure L2):=by
 refine Ype fun _ H K h=>?_
 unfold L2 at h
 split at h
 rotate_left
 ·exact h.elim
 rename_i x c
 obtain ⟨t,S,⟨rfl,hg,hS,hfl⟩,hK⟩:=h
 refine ⟨_,hK,?_⟩
 clear hK
 have hl:=glq hg
 have hne:(c=H.nx)=False:=eq_false (by omega)
 have hcs:=ag hg
 have hgS:=hg
 generalize hR:(vg S t)=R
 unfold vg at hR
 unfold aH
 unfold aS at hg hcs
 refine ACalls.fW ap (tCq sI tNq) Tryz.func128 [.tmp 3] (nrq _) (T:=aj []) (h:=fun hcl hlt=>?_)
 clear hlt
 try simp only [ah,go_sem,hcs,hne,hg,inL,cS,eV,bg,cx,cm,aT]
 refine ⟨t.fields,(fun n=>ct S n),⟨rfl,hfl,fun x hx H' hle' hcl'=>clB oQ ⟨S,⟨rfl,hS⟩,rfl⟩⟩,?_⟩
 cases k1:t.fields.all (fun n=>ct S n) with
 |false =>
  simp only [k1,tfB,if_true,if_false,reduceCtorEq] at hR
  subst hR
  try simp only [ah,go_sem,hcs,hne,hg,inL,cS,eV,bg,cx,cm,aT,k1]
  exact Z1
 |true =>
  simp only [k1,tfB,if_true,if_false,reduceCtorEq] at hR
  subst hR
  try simp only [ah,go_sem,hcs,hne,hg,inL,cS,eV,bg,cx,cm,aT,k1]
  exact Z1
def LL:List AV→AHeap→(AV→Prop)→Prop
 |[x,.ptr c 0],H,K=>∃ (t:SStage) (S:Sch),(x=bx t∧H.get c=some (.cells (aS S))∧SLen S)∧K (.bool (Ap S t))
 |_,_,_=>False
theorem Na:EntOk Tryz.prog 136 (Ent.pure LL):=by
 refine Ype fun _ H K h=>?_
 unfold LL at h
 split at h
 rotate_left
 ·exact h.elim
 rename_i x c
 obtain ⟨t,S,⟨rfl,hg,hS⟩,hK⟩:=h
 refine ⟨_,hK,?_⟩
 clear hK
 have hl:=glq hg
 have hne:(c=H.nx)=False:=eq_false (by omega)
 have hcs:=ag hg
 have hgS:=hg
 generalize hR:(Ap S t)=R
 unfold Ap at hR
 unfold bx
 unfold aS at hg hcs
 refine ACalls.fW ap (tCq Ag (tCq uE tNq)) Tryz.func136 [.tmp 3] (nrq _) (T:=aj []) (h:=fun hcl hlt=>?_)
 clear hlt
 try simp only [ah,go_sem,hcs,hne,hg,inL,cS,eV,bg,cx,cm,aT]
 refine ⟨S,⟨rfl,hS⟩,?_⟩
 cases k1:hZ S t.table with
 |false =>
  simp only [k1,tfB,if_true,if_false,reduceCtorEq] at hR
  subst hR
  try simp only [ah,go_sem,hcs,hne,hg,inL,cS,eV,bg,cx,cm,aT,k1]
  exact Z1
 |true =>
  cases k2:t.header==0 with
  |true =>
   simp only [k1,k2,tfB,if_true,if_false,reduceCtorEq] at hR
   subst hR
   try simp only [ah,go_sem,hcs,hne,hg,inL,cS,eV,bg,cx,cm,aT,k1,k2]
   exact Z1
  |false =>
   try simp only [ah,go_sem,hcs,hne,hg,inL,cS,eV,bg,cx,cm,aT,k1,k2]
   refine ⟨S,⟨rfl,hS⟩,?_⟩
   cases k3:kE S t.header with
   |false =>
    simp only [k1,k2,k3,tfB,if_true,if_false,reduceCtorEq] at hR
    subst hR
    try simp only [ah,go_sem,hcs,hne,hg,inL,cS,eV,bg,cx,cm,aT,k1,k2,k3]
    exact Z1
   |true =>
    simp only [k1,k2,k3,tfB,if_true,if_false,reduceCtorEq] at hR
    subst hR
    try simp only [ah,go_sem,hcs,hne,hg,inL,cS,eV,bg,cx,cm,aT,k1,k2,k3]
    exact Z1
def Ic:List AV→AHeap→(AV→Prop)→Prop
 |[x,.ptr c 0],H,K=>∃ (t:SGrant) (S:Sch),(x=bj t∧H.get c=some (.cells (aS S))∧SLen S)∧K (.bool (hZ S t.table))
 |_,_,_=>False
theorem KT:EntOk Tryz.prog 141 (Ent.pure Ic):=by
 refine Ype fun _ H K h=>?_
 unfold Ic at h
 split at h
 rotate_left
 ·exact h.elim
 rename_i x c
 obtain ⟨t,S,⟨rfl,hg,hS⟩,hK⟩:=h
 refine ⟨_,hK,?_⟩
 clear hK
 have hl:=glq hg
 have hne:(c=H.nx)=False:=eq_false (by omega)
 have hcs:=ag hg
 have hgS:=hg
 generalize hR:(hZ S t.table)=R
 skip
 unfold bj
 unfold aS at hg hcs
 refine ACalls.fW ap (tCq Ag tNq) Tryz.func141 [.tmp 3] (nrq _) (T:=aj []) (h:=fun hcl hlt=>?_)
 clear hlt
 try simp only [ah,go_sem,hcs,hne,hg,inL,cS,eV,bg,cx,cm,aT]
 refine ⟨S,⟨rfl,hS⟩,?_⟩
 cases k1:hZ S t.table with
 |false =>
  simp only [k1,tfB,if_true,if_false,reduceCtorEq] at hR
  subst hR
  try simp only [ah,go_sem,hcs,hne,hg,inL,cS,eV,bg,cx,cm,aT,k1]
  exact Z1
 |true =>
  simp only [k1,tfB,if_true,if_false,reduceCtorEq] at hR
  subst hR
  try simp only [ah,go_sem,hcs,hne,hg,inL,cS,eV,bg,cx,cm,aT,k1]
  exact Z1
def LJ:List AV→AHeap→(AV→Prop)→Prop
 |[x,.ptr c 0],H,K=>∃ (t:SRole) (S:Sch),(x=bc t∧H.get c=some (.cells (aS S))∧SLen S∧t.grants.length≤1000000∧t.actions.length≤1000000)∧K (.bool (yj S t))
 |_,_,_=>False
theorem MK:EntOk Tryz.prog 139 (Ent.pure LJ):=by
 refine Ype fun _ H K h=>?_
 unfold LJ at h
 split at h
 rotate_left
 ·exact h.elim
 rename_i x c
 obtain ⟨t,S,⟨rfl,hg,hS,hgl,hal⟩,hK⟩:=h
 refine ⟨_,hK,?_⟩
 clear hK
 have hl:=glq hg
 have hne:(c=H.nx)=False:=eq_false (by omega)
 have hcs:=ag hg
 have hgS:=hg
 generalize hR:(yj S t)=R
 unfold yj at hR
 unfold bc
 unfold aS at hg hcs
 refine ACalls.fW ap (tCq wL (tCq sI tNq)) Tryz.func139 [.tmp 3] (nrq _) (T:=aj []) (h:=fun hcl hlt=>?_)
 clear hlt
 try simp only [ah,go_sem,hcs,hne,hg,inL,cS,eV,bg,cx,cm,aT]
 refine ⟨t.grants,(fun g=>hZ S g.table),⟨rfl,hgl,fun x hx H' hle' hcl'=>clB KT ⟨x,S,⟨rfl,hle'.get _ _ (by rw [zlh,if_neg (by omega)];exact hgS),hS⟩,rfl⟩⟩,?_⟩
 cases k1:t.grants.all (fun g=>hZ S g.table) with
 |false =>
  simp only [k1,tfB,if_true,if_false,reduceCtorEq] at hR
  subst hR
  try simp only [ah,go_sem,hcs,hne,hg,inL,cS,eV,bg,cx,cm,aT,k1]
  exact Z1
 |true =>
  try simp only [ah,go_sem,hcs,hne,hg,inL,cS,eV,bg,cx,cm,aT,k1]
  refine ⟨t.actions,(fun a=>ja S a),⟨rfl,hal,fun x hx H' hle' hcl'=>clB zt ⟨S,⟨rfl,hS⟩,rfl⟩⟩,?_⟩
  cases k2:t.actions.all (fun a=>ja S a) with
  |false =>
   simp only [k1,k2,tfB,if_true,if_false,reduceCtorEq] at hR
   subst hR
   try simp only [ah,go_sem,hcs,hne,hg,inL,cS,eV,bg,cx,cm,aT,k1,k2]
   exact Z1
  |true =>
   simp only [k1,k2,tfB,if_true,if_false,reduceCtorEq] at hR
   subst hR
   try simp only [ah,go_sem,hcs,hne,hg,inL,cS,eV,bg,cx,cm,aT,k1,k2]
   exact Z1
def Da:List AV→AHeap→(AV→Prop)→Prop
 |[x,.ptr c 0,.ptr d 0],H,K=>∃ (t:SPrim) (a:SAction) (S:Sch) (cs:List AV),(x=bV t∧H.get c=some (.cells (aS S))∧H.get d=some (.cells cs)∧aA a=.agg cs∧SLen S)∧K (.bool (oI S a.params.length t))
 |_,_,_=>False
theorem Iw:EntOk Tryz.prog 132 (Ent.pure Da):=by
 refine Ype fun _ H K h=>?_
 unfold Da at h
 split at h
 rotate_left
 ·exact h.elim
 rename_i x c d
 obtain ⟨t,a,S,cs,⟨rfl,hg,hgd,hac,hS⟩,hK⟩:=h
 refine ⟨_,hK,?_⟩
 clear hK
 unfold aA at hac
 cases hac
 have hl:=glq hg
 have hne:(c=H.nx)=False:=eq_false (by omega)
 have hcs:=ag hg
 have hl2:=glq hgd
 have hne2:(d=H.nx)=False:=eq_false (by omega)
 have hcs2:=ag hgd
 generalize hR:(oI S a.params.length t)=R
 unfold bV vc
 unfold aS at hg hcs
 refine ACalls.fW ap (tCq Jx tNq) Tryz.func132 [.tmp 4] (nrq _) (T:=aj []) (h:=fun hcl hlt=>?_)
 clear hlt
 simp only [go_sem,hcs,hne,hg,hcs2,hne2,hgd,yC]
 refine ⟨S,a,t,⟨rfl,rfl,rfl,hS⟩,?_⟩
 simp only [ah,go_sem,hR]
 exact Z1
def LF:List AV→AHeap→(AV→Prop)→Prop
 |[x,.ptr c 0],H,K=>∃ (t:SAction) (S:Sch),(x=aA t∧H.get c=some (.cells (aS S))∧SLen S∧t.body.length≤1000000)∧K (.bool (uz S t))
 |_,_,_=>False
theorem Nr:EntOk Tryz.prog 131 (Ent.pure LF):=by
 refine Ype fun _ H K h=>?_
 unfold LF at h
 split at h
 rotate_left
 ·exact h.elim
 rename_i x c
 obtain ⟨t,S,⟨rfl,hg,hS,hbl⟩,hK⟩:=h
 refine ⟨_,hK,?_⟩
 clear hK
 have hl:=glq hg
 have hne:(c=H.nx)=False:=eq_false (by omega)
 have hcs:=ag hg
 have hgS:=hg
 generalize hR:(uz S t)=R
 unfold uz at hR
 unfold aA
 unfold aS at hg hcs
 refine ACalls.fW ap (tCq rp tNq) Tryz.func131 [.tmp 3] (nrq _) (T:=aj []) (h:=fun hcl hlt=>?_)
 clear hlt
 try simp only [ah,go_sem,hcs,hne,hg,inL,cS,eV,bg,cx,cm,aT]
 refine ⟨t.body,(fun p=>oI S t.params.length p),⟨rfl,hbl,fun x hx H' hle' hcl'=>clB Iw ⟨x,t,S,_,⟨rfl,hle'.get _ _ (by rw [zlh,if_neg (by omega)];exact hgS),hle'.get _ _ (AHeap.get_push_new _ _),rfl,hS⟩,rfl⟩⟩,?_⟩
 cases k1:t.body.all (fun p=>oI S t.params.length p) with
 |false =>
  simp only [k1,tfB,if_true,if_false,reduceCtorEq] at hR
  subst hR
  try simp only [ah,go_sem,hcs,hne,hg,inL,cS,eV,bg,cx,cm,aT,k1]
  exact Z1
 |true =>
  simp only [k1,tfB,if_true,if_false,reduceCtorEq] at hR
  subst hR
  try simp only [ah,go_sem,hcs,hne,hg,inL,cS,eV,bg,cx,cm,aT,k1]
  exact Z1
def gI (S:Sch):Bool:=ct S 1&&(ct S 2&&(S.headers.all (vg S)&&(S.states.all (sY S)&&(S.actions.all (uz S)&&(S.tables.all (pD S)&&(S.stages.all (Ap S)&&(S.roles.all (yj S)&&S.refs.all (su S))))))))
def li:List AV→AHeap→(AV→Prop)→Prop
 |[.agg l],_,K=>∃ S:Sch,(l=aS S∧SB S)∧K (.bool (gI S))
 |_,_,_=>False
theorem A5:EntOk Tryz.prog 35 (Ent.pure li):=by
 refine Ype fun _ H K h=>?_
 unfold li at h
 split at h
 rotate_left
 ·exact h.elim
 rename_i l
 obtain ⟨S,⟨rfl,hB⟩,hK⟩:=h
 refine ⟨_,hK,?_⟩
 clear hK
 have hS:=hB.sl
 generalize hR:gI S=R
 unfold gI at hR
 refine ACalls.fW ap (tCq oQ (tCq oy (tCq oZ (tCq mB (tCq kT (tCq Ia (tCq mD (tCq ou tNq)))))))) Tryz.func35 [.tmp 2] (nrq _) (T:=aj []) (h:=fun hcl hlt=>?_)
 clear hlt
 unfold aS
 try simp only [ah,go_sem,aT,bp,bz,bm,bn,eu,bD,bM]
 refine ⟨S,⟨rfl,hS⟩,?_⟩
 cases k1:ct S 1 with
 |false =>
  simp only [k1,tfB,if_true,if_false,reduceCtorEq] at hR
  subst hR
  try simp only [ah,go_sem,aT,bp,bz,bm,bn,eu,bD,bM,k1]
  exact Z1
 |true =>
  try simp only [ah,go_sem,aT,bp,bz,bm,bn,eu,bD,bM,k1]
  refine ⟨S,⟨rfl,hS⟩,?_⟩
  cases k2:ct S 2 with
  |false =>
   simp only [k1,k2,tfB,if_true,if_false,reduceCtorEq] at hR
   subst hR
   try simp only [ah,go_sem,aT,bp,bz,bm,bn,eu,bD,bM,k1,k2]
   exact Z1
  |true =>
   try simp only [ah,go_sem,aT,bp,bz,bm,bn,eu,bD,bM,k1,k2]
   refine ⟨S.headers,vg S,⟨rfl,hS.hl,fun x hx H' hle' hcl'=>clB L9 ⟨x,S,⟨rfl,hle'.get _ _ (by (try simp only [go_sem]);first|done|rfl),hS,(hB.hn x hx).2⟩,rfl⟩⟩,?_⟩
   cases k3:S.headers.all (vg S) with
   |false =>
    simp only [k1,k2,k3,tfB,if_true,if_false,reduceCtorEq] at hR
    subst hR
    try simp only [ah,go_sem,aT,bp,bz,bm,bn,eu,bD,bM,k1,k2,k3]
    exact Z1
   |true =>
    try simp only [ah,go_sem,aT,bp,bz,bm,bn,eu,bD,bM,k1,k2,k3]
    refine ⟨S.states,sY S,⟨rfl,hS.sl,fun x hx H' hle' hcl'=>clB Jc ⟨S,x,⟨rfl,rfl,hS,hB.sn x hx⟩,rfl⟩⟩,?_⟩
    cases k4:S.states.all (sY S) with
    |false =>
     simp only [k1,k2,k3,k4,tfB,if_true,if_false,reduceCtorEq] at hR
     subst hR
     try simp only [ah,go_sem,aT,bp,bz,bm,bn,eu,bD,bM,k1,k2,k3,k4]
     exact Z1
    |true =>
     try simp only [ah,go_sem,aT,bp,bz,bm,bn,eu,bD,bM,k1,k2,k3,k4]
     refine ⟨S.actions,uz S,⟨rfl,hS.al,fun x hx H' hle' hcl'=>clB Nr ⟨x,S,⟨rfl,hle'.get _ _ (by (try simp only [go_sem]);first|done|rfl),hS,(hB.an x hx).2.2.1⟩,rfl⟩⟩,?_⟩
     cases k5:S.actions.all (uz S) with
     |false =>
      simp only [k1,k2,k3,k4,k5,tfB,if_true,if_false,reduceCtorEq] at hR
      subst hR
      try simp only [ah,go_sem,aT,bp,bz,bm,bn,eu,bD,bM,k1,k2,k3,k4,k5]
      exact Z1
     |true =>
      try simp only [ah,go_sem,aT,bp,bz,bm,bn,eu,bD,bM,k1,k2,k3,k4,k5]
      refine ⟨S.tables,pD S,⟨rfl,hS.tl,fun x hx H' hle' hcl'=>clB JP ⟨S,x,⟨rfl,rfl,hS,(hB.tn x hx).2.1,(hB.tn x hx).2.2.1⟩,rfl⟩⟩,?_⟩
      cases k6:S.tables.all (pD S) with
      |false =>
       simp only [k1,k2,k3,k4,k5,k6,tfB,if_true,if_false,reduceCtorEq] at hR
       subst hR
       try simp only [ah,go_sem,aT,bp,bz,bm,bn,eu,bD,bM,k1,k2,k3,k4,k5,k6]
       exact Z1
      |true =>
       try simp only [ah,go_sem,aT,bp,bz,bm,bn,eu,bD,bM,k1,k2,k3,k4,k5,k6]
       refine ⟨S.stages,Ap S,⟨rfl,hB.gl,fun x hx H' hle' hcl'=>clB Na ⟨x,S,⟨rfl,hle'.get _ _ (by (try simp only [go_sem]);first|done|rfl),hS⟩,rfl⟩⟩,?_⟩
       cases k7:S.stages.all (Ap S) with
       |false =>
        simp only [k1,k2,k3,k4,k5,k6,k7,tfB,if_true,if_false,reduceCtorEq] at hR
        subst hR
        try simp only [ah,go_sem,aT,bp,bz,bm,bn,eu,bD,bM,k1,k2,k3,k4,k5,k6,k7]
        exact Z1
       |true =>
        try simp only [ah,go_sem,aT,bp,bz,bm,bn,eu,bD,bM,k1,k2,k3,k4,k5,k6,k7]
        refine ⟨S.roles,yj S,⟨rfl,hS.rl,fun x hx H' hle' hcl'=>clB MK ⟨x,S,⟨rfl,hle'.get _ _ (by (try simp only [go_sem]);first|done|rfl),hS,(hB.rn x hx).2.1,(hB.rn x hx).2.2.1⟩,rfl⟩⟩,?_⟩
        cases k8:S.roles.all (yj S) with
        |false =>
         simp only [k1,k2,k3,k4,k5,k6,k7,k8,tfB,if_true,if_false,reduceCtorEq] at hR
         subst hR
         try simp only [ah,go_sem,aT,bp,bz,bm,bn,eu,bD,bM,k1,k2,k3,k4,k5,k6,k7,k8]
         exact Z1
        |true =>
         try simp only [ah,go_sem,aT,bp,bz,bm,bn,eu,bD,bM,k1,k2,k3,k4,k5,k6,k7,k8]
         refine ⟨S.refs,su S,⟨rfl,hB.xl,fun x hx H' hle' hcl'=>by
          obtain ⟨v,hv,hc'⟩:=ok_fRef.1 rfl [.agg (aS S),bU x] H' (fun v=>v=.bool (su S x)) ⟨S,x,⟨rfl,rfl,hB,fun t ht a ha=>by
           have h1:=List.all_eq_true.1 k6 t ht
           unfold pD at h1
           simp only [Bool.and_eq_true] at h1
           exact List.all_eq_true.1 h1.2.1 a ha⟩,rfl⟩
          subst hv
          exact hc'⟩,?_⟩
         cases k9:S.refs.all (su S) with
         |false =>
          simp only [k1,k2,k3,k4,k5,k6,k7,k8,k9,tfB,if_true,if_false,reduceCtorEq] at hR
          subst hR
          try simp only [ah,go_sem,aT,bp,bz,bm,bn,eu,bD,bM,k1,k2,k3,k4,k5,k6,k7,k8,k9]
          exact Z1
         |true =>
          simp only [k1,k2,k3,k4,k5,k6,k7,k8,k9,tfB,if_true,if_false,reduceCtorEq] at hR
          subst hR
          try simp only [ah,go_sem,aT,bp,bz,bm,bn,eu,bD,bM,k1,k2,k3,k4,k5,k6,k7,k8,k9]
          exact Z1
theorem nh {α:Type} {q:α→Bool} {l:List α} {x:α} (h:l.find? q=some x):∃ i:Nat,ixP q l 0=(i:Int)∧l[i]?=some x∧i<l.length:=by
 rcases z3 q l with ⟨_,h2⟩|⟨i,y,h1,h2,h3,h4⟩
 ·rw [h2] at h;cases h
 ·rw [h3] at h;cases h;exact ⟨i,h1,h2,h4⟩
def bN:List AV→AHeap→(AV→Prop)→Prop
 |[.agg l,.int .i64 n],_,K=>∃ (S:Sch) (x:SField),(l=aS S∧SLen S∧S.fields.find? (fun t=>t.id==n)=some x)∧K (.int .i64 x.bits)
 |_,_,_=>False
theorem mw:EntOk Tryz.prog 146 (Ent.pure bN):=by
 refine Ype fun _ H K h=>?_
 unfold bN at h
 split at h
 rotate_left
 ·exact h.elim
 rename_i l n
 obtain ⟨S,x,⟨rfl,hS,hx⟩,hK⟩:=h
 refine ⟨_,hK,?_⟩
 clear hK
 obtain ⟨i,i1,g1,l1⟩:=nh hx
 have ga:=a0 (f:=aX) (l:=S.fields) (k:=i) (x:=x) g1
 have hca:aX x=.agg [.int .i64 x.id,.str x.name,.int .i64 x.bits]:=rfl
 rw [hca] at ga
 refine ACalls.fW ap (tCq qu tNq) Tryz.func146 [.tmp 4] (nrq _) (T:=aj [(1,[[],[],[],[],[2],[],[],[4]])]) (h:=fun hcl hlt=>?_)
 clear hlt
 unfold aS
 simp only [go_sem,lq]
 refine ⟨S,⟨rfl,hS.fl⟩,?_⟩
 simp only [ah,go_sem,i1,ga,iNq,ybb]
 try (repeat with_reducible refine Yq ?_)
 exact Z1
theorem tE {P:Program} {H1 H:AHeap} {fr:Fr} {x:AV} {t s:Nat} {ty uy:TypeId}:eU P [.cell t ty,.cell s uy] (.ret x) H1 fr H=match zjg P ty (Fr.get fr t) H with|some r=>r.c∧(match zjg P uy (Fr.get fr s) H with|some q=>q.c∧aa H (.tup [r.v,q.v]) H1 x|none=>False)|none=>False:=by
 simp only [eU,kH,n6]
 cases zjg P ty (Fr.get fr t) H with
 |none=>rfl
 |some r =>
  cases zjg P uy (Fr.get fr s) H with
  |none=>simp
  |some q=>simp [one,and_assoc]
def nf:SKey:=⟨[],0,0⟩
def qE:List AV→AHeap→(AV→Prop)→Prop
 |[.agg l,x],_,K=>∃ (S:Sch) (r:SRef) (b:STable) (ka kb:SKey),(l=aS S∧x=bU r∧SLen S∧S.tables.find? (fun t=>t.id==r.toTable)=some b∧0≤r.toKey∧b.keys[r.toKey.toNat]?=some kb ∧
   (if r.action==0 then ∃ a,S.tables.find? (fun t=>t.id==r.table)=some a∧0≤r.key∧a.keys[r.key.toNat]?=some ka else ka=nf))∧K (.tup [bE ka,bE kb])
 |_,_,_=>False
theorem wy:EntOk Tryz.prog 145 (Ent.pure qE):=by
 refine Ype fun _ H K h=>?_
 unfold qE at h
 split at h
 rotate_left
 ·exact h.elim
 rename_i l x
 obtain ⟨S,r,b,ka,kb,⟨rfl,rfl,hS,hb,hp,hkb,hka⟩,hK⟩:=h
 refine ⟨_,hK,?_⟩
 clear hK
 unfold bU
 obtain ⟨j,j1,g2,l2⟩:=nh hb
 have gb:=a0 (f:=aC) (l:=S.tables) (k:=j) (x:=b) g2
 have hcb:aC b=.agg [.int .i64 b.id,.str b.name,.slice .any 3 (b.keys.map bE),.slice .any 1 (inL b.actions),.int .i64 b.dflt,.slice .any 2 (b.dargs.map vv),.int .i64 b.size,.str b.restr]:=rfl
 rw [hcb] at gb
 have gkb:=a0 (f:=bE) (l:=b.keys) (k:=r.toKey.toNat) (x:=kb) hkb
 have hkb':bE kb=.agg [.str kb.name,.int .i64 kb.field,.int .i64 kb.kind]:=rfl
 rw [hkb'] at gkb ⊢
 have hlb:r.toKey.toNat<b.keys.length:=by
  rcases Nat.lt_or_ge r.toKey.toNat b.keys.length with h|h
  ·exact h
  ·rw [gNq h] at hkb;cases hkb
 cases ca:r.action==0 with
 |false =>
  rw [ca,if_neg Bool.false_ne_true] at hka
  subst hka
  unfold nf bE
  refine ACalls.fW ap (tCq fK tNq) Tryz.func145 [.cell 4 53,.cell 5 53] (nrq _) (T:=aj [(2,[[],[],[],[],[],[2,4],[],[],[5],[],[],[],[5],[1,2,4,5,8,10,12]]),(3,[[],[],[],[],[],[],[3,5],[],[],[6],[],[],[],[6],[0,3,5,6],[0,2,3,5,6,9,11,13]])]) (h:=fun hcl hlt=>?_)
  clear hlt
  unfold aS
  simp only [go_sem,ca,da]
  refine ⟨S,⟨rfl,hS.tl⟩,?_⟩
  simp only [ah,go_sem,j1,gb,gkb,iNq,ybb,tE]
  refine ⟨⟨by omega,by omega⟩,⟨by omega,by omega⟩,?_⟩
  exact Z1
 |true =>
  rw [ca,if_pos rfl] at hka
  obtain ⟨a,ha,hp2,hka⟩:=hka
  obtain ⟨i,i1,g1,l1⟩:=nh ha
  have ga:=a0 (f:=aC) (l:=S.tables) (k:=i) (x:=a) g1
  have hca:aC a=.agg [.int .i64 a.id,.str a.name,.slice .any 3 (a.keys.map bE),.slice .any 1 (inL a.actions),.int .i64 a.dflt,.slice .any 2 (a.dargs.map vv),.int .i64 a.size,.str a.restr]:=rfl
  rw [hca] at ga
  have gka:=a0 (f:=bE) (l:=a.keys) (k:=r.key.toNat) (x:=ka) hka
  have hka':bE ka=.agg [.str ka.name,.int .i64 ka.field,.int .i64 ka.kind]:=rfl
  rw [hka'] at gka ⊢
  have hla:r.key.toNat<a.keys.length:=by
   rcases Nat.lt_or_ge r.key.toNat a.keys.length with h|h
   ·exact h
   ·rw [gNq h] at hka;cases hka
  refine ACalls.fW ap (tCq fK tNq) Tryz.func145 [.cell 4 53,.cell 5 53] (nrq _) (T:=aj [(2,[[],[],[],[],[],[2,4],[],[],[5],[],[],[],[5],[1,2,4,5,8,10,12]]),(3,[[],[],[],[],[],[],[3,5],[],[],[6],[],[],[],[6],[0,3,5,6],[0,2,3,5,6,9,11,13]])]) (h:=fun hcl hlt=>?_)
  clear hlt
  unfold aS
  simp only [go_sem,ca,da]
  refine ⟨S,⟨rfl,hS.tl⟩,?_⟩
  simp only [ah,go_sem,i1,ga,gka,iNq,ybb,da]
  refine ⟨⟨by omega,by omega⟩,⟨by omega,by omega⟩,?_⟩
  try simp only [ah,go_sem,da]
  refine ⟨S,⟨rfl,hS.tl⟩,?_⟩
  simp only [ah,go_sem,j1,gb,gkb,iNq,ybb,tE]
  refine ⟨⟨by omega,by omega⟩,⟨by omega,by omega⟩,?_⟩
  exact Z1
def rq (S:Sch) (r:SRef):SKey:=((S.tables.find? fun t=>t.id==r.toTable).bind fun b=>b.keys[r.toKey.toNat]?).getD nf
def r4 (S:Sch) (r:SRef):SKey:=if r.action==0 then ((S.tables.find? fun t=>t.id==r.table).bind fun b=>b.keys[r.key.toNat]?).getD nf else nf
def tT (S:Sch) (r:SRef):Prop:=su S r=true∧0≤r.key∧0≤r.toKey∧0≤r.param
theorem vh {S:Sch} {r:SRef} (h:tT S r):∃ b,S.tables.find? (fun t=>t.id==r.toTable)=some b∧0≤r.toKey∧b.keys[r.toKey.toNat]?=some (rq S r) ∧
 (if r.action==0 then ∃ a,S.tables.find? (fun t=>t.id==r.table)=some a∧0≤r.key∧a.keys[r.key.toNat]?=some (r4 S r) else r4 S r=nf):=by
 obtain ⟨h,h1,h2,_⟩:=h
 unfold su at h
 cases fa:S.tables.find? (fun t=>t.id==r.table) with
 |none=>rw [fa] at h;cases h
 |some a =>
  cases fb:S.tables.find? (fun t=>t.id==r.toTable) with
  |none=>rw [fa,fb] at h;cases h
  |some b =>
   rw [fa,fb] at h
   simp only [Bool.and_eq_true,decide_eq_true_eq] at h
   obtain ⟨h3,h4⟩:=h
   have e1:b.keys[r.toKey.toNat]?=some (rq S r):=by
    unfold rq
    rw [fb]
    have hl:r.toKey.toNat<b.keys.length:=by omega
    simp only [Option.bind_some]
    rw [gQq hl];rfl
   refine ⟨b,rfl,h2,e1,?_⟩
   cases ca:r.action==0 with
   |false =>
    rw [if_neg Bool.false_ne_true]
    unfold r4
    rw [ca,if_neg Bool.false_ne_true]
   |true =>
    rw [ca,if_pos rfl] at h4
    rw [if_pos rfl]
    refine ⟨a,rfl,h1,?_⟩
    unfold r4
    rw [ca,if_pos rfl,fa]
    have hl:r.key.toNat<a.keys.length:=by simp only [decide_eq_true_eq] at h4;omega
    simp only [Option.bind_some]
    rw [gQq hl];rfl
def exB (S:Sch) (r:SRef):Bool:=(rq S r).kind==1&&(r.action != 0||(r4 S r).kind==1)
def LI:List AV→AHeap→(AV→Prop)→Prop
 |[x,.ptr c 0],H,K=>∃ (r:SRef) (S:Sch),(x=bU r∧H.get c=some (.cells (aS S))∧SLen S∧tT S r)∧K (.bool (exB S r))
 |_,_,_=>False
theorem MN:EntOk Tryz.prog 144 (Ent.pure LI):=by
 refine Ype fun _ H K h=>?_
 unfold LI at h
 split at h
 rotate_left
 ·exact h.elim
 rename_i x c
 obtain ⟨r,S,⟨rfl,hg,hS,hr⟩,hK⟩:=h
 refine ⟨_,hK,?_⟩
 clear hK
 have hl:=glq hg
 have hne:(c=H.nx)=False:=eq_false (by omega)
 have hcs:=ag hg
 generalize hR:exB S r=R
 unfold exB at hR
 obtain ⟨b,e1,e2,e3,e4⟩:=vh hr
 unfold bU
 unfold aS at hg hcs
 refine ACalls.fW ap (tCq wy tNq) Tryz.func144 [.tmp 3] (nrq _) (T:=aj []) (h:=fun hcl hlt=>?_)
 clear hlt
 simp only [go_sem,hcs,hne,hg,qE]
 refine ⟨S,r,b,r4 S r,rq S r,⟨rfl,rfl,hS,e1,e2,e3,e4⟩,?_⟩
 generalize rq S r=kb at *
 generalize r4 S r=ka at *
 unfold bE
 cases c1:kb.kind==1 with
 |false =>
  simp only [c1,tfB,if_true,if_false,reduceCtorEq] at hR
  subst hR
  try simp only [go_sem,ah,hne,hg,hcs,c1]
  try (repeat with_reducible refine Yq ?_)
  exact Z1
 |true =>
  cases c2:r.action != 0 with
  |false =>
   cases c3:ka.kind==1 with
   |false =>
    simp only [c1,c2,c3,tfB,if_true,if_false,reduceCtorEq] at hR
    subst hR
    try simp only [go_sem,ah,hne,hg,hcs,c1,c2,c3]
    try (repeat with_reducible refine Yq ?_)
    exact Z1
   |true =>
    simp only [c1,c2,c3,tfB,if_true,if_false,reduceCtorEq] at hR
    subst hR
    try simp only [go_sem,ah,hne,hg,hcs,c1,c2,c3]
    try (repeat with_reducible refine Yq ?_)
    exact Z1
  |true =>
   simp only [c1,c2,tfB,if_true,if_false,reduceCtorEq] at hR
   subst hR
   try simp only [go_sem,ah,hne,hg,hcs,c1,c2]
   try (repeat with_reducible refine Yq ?_)
   exact Z1
def lZ:List AV→AHeap→(AV→Prop)→Prop
 |[.agg l],_,K=>∃ S:Sch,(l=aS S∧SB S∧∀ r∈S.refs,tT S r)∧K (.bool (S.refs.all (exB S)))
 |_,_,_=>False
theorem BH:EntOk Tryz.prog 36 (Ent.pure lZ):=by
 refine Ype fun _ H K h=>?_
 unfold lZ at h
 split at h
 rotate_left
 ·exact h.elim
 rename_i l
 obtain ⟨S,⟨rfl,hB,hr⟩,hK⟩:=h
 refine ⟨_,hK,?_⟩
 clear hK
 have hS:=hB.sl
 generalize hR:S.refs.all (exB S)=R
 refine ACalls.fW ap (tCq ou tNq) Tryz.func36 [.tmp 2] (nrq _) (T:=aj []) (h:=fun hcl hlt=>?_)
 clear hlt
 unfold aS
 try simp only [ah,go_sem,bM]
 refine ⟨S.refs,exB S,⟨rfl,hB.xl,fun x hx H' hle' hcl'=>clB MN ⟨x,S,⟨rfl,hle'.get _ _ (by (try simp only [go_sem]);first|done|rfl),hS,hr x hx⟩,rfl⟩⟩,?_⟩
 cases k1:S.refs.all (exB S) with
 |false =>
  simp only [k1,tfB,if_true,if_false,reduceCtorEq] at hR
  subst hR
  try simp only [ah,go_sem,bM,k1]
  exact Z1
 |true =>
  simp only [k1,tfB,if_true,if_false,reduceCtorEq] at hR
  subst hR
  try simp only [ah,go_sem,bM,k1]
  exact Z1
def btF (S:Sch) (n:Int):Int:=((S.fields.find? fun t=>t.id==n).getD ⟨0,[],0⟩).bits
theorem ji {S:Sch} {n:Int} (h:ct S n=true):∃ x,S.fields.find? (fun t=>t.id==n)=some x∧x.bits=btF S n:=by
 unfold ct at h
 rw [List.any_eq_true] at h
 obtain ⟨y,hy,h2⟩:=h
 cases hf:S.fields.find? (fun t=>t.id==n) with
 |none=>exact absurd h2 (by have:=List.find?_eq_none.1 hf y hy;simpa using this)
 |some x=>exact ⟨x,rfl,by unfold btF;rw [hf];rfl⟩
def ftV (v:Nat) (n:Int):Bool:=decide (((bl v:Nat):Int)≤n)
def nP (S:Sch) (a:SAction) (p:SPrim):Bool :=
 if nV p.op then
  if p.kind==1 then ftV p.value (if p.op==7 then 16 else btF S p.dst)
  else if p.kind==2 then decide (btF S p.n≤(if p.op==7 then 16 else btF S p.dst))
  else decide ((a.params.getD p.n.toNat ⟨[],0⟩).bits≤(if p.op==7 then 16 else btF S p.dst))
 else true
def CF:List AV→AHeap→(AV→Prop)→Prop
 |[.agg l,x,y],_,K=>∃ (S:Sch) (a:SAction) (p:SPrim),(l=aS S∧x=aA a∧y=bV p∧SLen S∧p.value<2^128∧oI S a.params.length p=true∧fpB p=true∧0≤p.n)∧K (.bool (nP S a p))
 |_,_,_=>False
theorem Mh:EntOk Tryz.prog 155 (Ent.pure CF):=by
 refine Ype fun _ H K h=>?_
 unfold CF at h
 split at h
 rotate_left
 ·exact h.elim
 rename_i l x y
 obtain ⟨S,a,p,⟨rfl,rfl,rfl,hS,hv,hk,hf,hn⟩,hK⟩:=h
 refine ⟨_,hK,?_⟩
 clear hK
 have iv:=uT hv
 have vb:=mQ p.value
 generalize hR:nP S a p=R
 unfold nP at hR
 -- what is fI of the primitive
 have hd:nV p.op=true→(p.op==7)=false→ct S p.dst=true:=fun h1 h2=>by
  unfold nV at h1
  rw [h2,Bool.or_false] at h1
  unfold oI at hk
  rw [if_pos h1] at hk
  exact (Bool.and_eq_true _ _ ▸ hk).1
 have hsrc:nV p.op=true→(p.kind==2)=true→ct S p.n=true:=fun h1 h2=>by
  unfold oI at hk
  rw [h2] at hk
  simp only [if_true] at hk
  split at hk
  ·exact (Bool.and_eq_true _ _ ▸ hk).2
  ·split at hk
   ·exfalso
    unfold nV at h1
    simp_all
   ·exact hk
 have hpar:nV p.op=true→(p.kind==1)=false→(p.kind==2)=false→p.n.toNat<a.params.length:=fun h1 h2 h3=>by
  have h4:(p.kind==3)=true:=by
   unfold fpB at hf
   rw [h1,h2,h3] at hf
   simp only [if_true,Bool.false_eq_true,if_false,Bool.false_or,Bool.and_eq_true] at hf
   exact hf.2.2.1
  unfold oI at hk
  rw [h3,h4] at hk
  simp only [if_true,Bool.false_eq_true,if_false] at hk
  split at hk
  ·have:=(Bool.and_eq_true _ _ ▸ hk).2
   simp only [decide_eq_true_eq] at this
   omega
  ·split at hk
   ·exfalso
    unfold nV at h1
    simp_all
   ·simp only [decide_eq_true_eq] at hk
    omega
 unfold aA bV vc
 refine ACalls.fW ap (tCq zV (tCq mw (tCq sP tNq))) Tryz.func155 [.tmp 6] (nrq _) (T:=aj []) (h:=fun hcl hlt=>?_)
 clear hlt
 unfold aS
 cases co:nV p.op with
 |false =>
  simp only [co,tfB,if_true,if_false,reduceCtorEq] at hR
  subst hR
  try simp only [ah,go_sem,cV,bN,ek,iv,vb,iNq,co]
  try (repeat with_reducible refine Yq ?_)
  exact Z1
 |true =>
  cases c7:p.op==7 with
  |true =>
   have c7':(p.op != 7)=false:=by simp only [bne,c7,Bool.not_true]
   try simp only [go_sem,cV,co,c7']
   cases k1:p.kind==1 with
   |true =>
    simp only [co,c7,k1,tfB,if_true,if_false,reduceCtorEq] at hR
    unfold ftV at hR
    subst hR
    try simp only [ah,go_sem,cV,bN,ek,iv,vb,iNq,co,c7,k1,c7']
    try (repeat with_reducible refine Yq ?_)
    exact Z1
   |false =>
    cases k2:p.kind==2 with
    |true =>
     obtain ⟨y,hy,hyb⟩:=ji (hsrc co k2)
     try simp only [ah,go_sem,cV,bN,ek,co,c7,k1,k2,c7']
     refine ⟨S,y,⟨rfl,hS,hy⟩,?_⟩
     simp only [co,c7,k1,k2,tfB,if_true,if_false,reduceCtorEq] at hR
     subst hR
     try simp only [ah,go_sem,cV,bN,ek,iv,vb,iNq,co,c7,k1,k2,hyb,c7']
     try (repeat with_reducible refine Yq ?_)
     exact Z1
    |false =>
     have hpl:=hpar co k1 k2
     have gp:=a0 (f:=bv) (l:=a.params) (k:=p.n.toNat) (x:=a.params[p.n.toNat]) (gQq hpl)
     have gq:a.params.getD p.n.toNat ⟨[],0⟩=a.params[p.n.toNat]:=by simp [gEq,hpl]
     rw [gq] at hR
     generalize a.params[p.n.toNat]=z at *
     have hz:bv z=.agg [.str z.name,.int .i64 z.bits]:=rfl
     rw [hz] at gp
     try simp only [ah,go_sem,cV,bN,ek,co,c7,k1,k2,gp,ybb,c7']
     refine ⟨⟨by omega,by omega⟩,?_⟩
     simp only [co,c7,k1,k2,tfB,if_true,if_false,reduceCtorEq] at hR
     subst hR
     try simp only [ah,go_sem,cV,bN,ek,iv,vb,iNq,co,c7,k1,k2,c7']
     try (repeat with_reducible refine Yq ?_)
     exact Z1
  |false =>
   have c7':(p.op != 7)=true:=by simp only [bne,c7,Bool.not_false]
   obtain ⟨x,hx,hxb⟩:=ji (hd co c7)
   try simp only [go_sem,cV,bN,co,c7']
   refine ⟨S,x,⟨rfl,hS,hx⟩,?_⟩
   try simp only [ah,go_sem,cV,bN,co,c7']
   simp only [hxb]
   cases k1:p.kind==1 with
   |true =>
    simp only [co,c7,k1,tfB,if_true,if_false,reduceCtorEq] at hR
    unfold ftV at hR
    subst hR
    try simp only [ah,go_sem,cV,bN,ek,iv,vb,iNq,co,c7,k1,c7',hxb]
    try (repeat with_reducible refine Yq ?_)
    exact Z1
   |false =>
    cases k2:p.kind==2 with
    |true =>
     obtain ⟨y,hy,hyb⟩:=ji (hsrc co k2)
     try simp only [ah,go_sem,cV,bN,ek,co,c7,k1,k2,c7',hxb]
     refine ⟨S,y,⟨rfl,hS,hy⟩,?_⟩
     simp only [co,c7,k1,k2,tfB,if_true,if_false,reduceCtorEq] at hR
     subst hR
     try simp only [ah,go_sem,cV,bN,ek,iv,vb,iNq,co,c7,k1,k2,hyb,c7',hxb]
     try (repeat with_reducible refine Yq ?_)
     exact Z1
    |false =>
     have hpl:=hpar co k1 k2
     have gp:=a0 (f:=bv) (l:=a.params) (k:=p.n.toNat) (x:=a.params[p.n.toNat]) (gQq hpl)
     have gq:a.params.getD p.n.toNat ⟨[],0⟩=a.params[p.n.toNat]:=by simp [gEq,hpl]
     rw [gq] at hR
     generalize a.params[p.n.toNat]=z at *
     have hz:bv z=.agg [.str z.name,.int .i64 z.bits]:=rfl
     rw [hz] at gp
     try simp only [ah,go_sem,cV,bN,ek,co,c7,k1,k2,gp,ybb,c7',hxb]
     refine ⟨⟨by omega,by omega⟩,?_⟩
     simp only [co,c7,k1,k2,tfB,if_true,if_false,reduceCtorEq] at hR
     subst hR
     try simp only [ah,go_sem,cV,bN,ek,iv,vb,iNq,co,c7,k1,k2,c7',hxb]
     try (repeat with_reducible refine Yq ?_)
     exact Z1
def xL:List AV→AHeap→(AV→Prop)→Prop
 |[x,.slice _ 2 y],_,K=>∃ (a:SAction) (vs:List Nat),(x=aA a∧y=vs.map vv∧a.params.length≤1000000∧vs.length≤1000000∧∀ v∈vs,v<2^128)∧K (.bool (Ju a.params vs))
 |_,_,_=>False
theorem I4:EntOk Tryz.prog 157 (Ent.pure xL):=by
 refine Ype fun _ H K h=>?_
 unfold xL at h
 split at h
 rotate_left
 ·exact h.elim
 rename_i x m y
 obtain ⟨a,vs,⟨rfl,rfl,hpl,hvl,hvs⟩,hK⟩:=h
 refine ⟨_,hK,?_⟩
 clear hK
 unfold aA
 generalize hR:Ju a.params vs=R
 unfold Ju at hR
 refine ACalls.fW ap (tCq sP tNq) Tryz.func157 [.tmp 4] (nrq _) (T:=aj [(6,[[],[],[],[],[],[],[],[0,2,6]])]) (h:=fun hcl hlt=>?_)
 have hm:∀ n',H.nx≤n'→AV.lt n' (.slice m 2 (vs.map vv)):=fun n' hn=>AV.lt_mono hn _ (hlt (.slice m 2 (vs.map vv)) (by simp))
 have hx:=AV.lt_mono (Nat.le_succ H.nx) _ (hlt _ List.mem_cons_self)
 simp only [znr] at hx
 have hcb:=af hcl hx
 clear hlt hx
 have dn1:(!true)=false:=rfl
 have dn2:(!false)=true:=rfl
 by_cases hlen:vs.length=a.params.length
 rotate_left
 ·rw [dfq hlen,Bool.false_and] at hR
  subst hR
  have dl:((vs.length:Int) != (a.params.length:Int))=true:=by simp;omega
  simp only [aE,ah,bhq,Nat.reduceMod,Nat.reduceDiv,au,aq,ay,aN,ax,aM,aJ,aK,aL,yaq,yar,yao,yap,go_sem,ybb,dl]
  exact Z1
 rw [dtq hlen,Bool.true_and] at hR
 have dl:((vs.length:Int) != (a.params.length:Int))=false:=by simp [hlen]
 simp only [aE,ah,bhq,Nat.reduceMod,Nat.reduceDiv,au,aq,ay,aN,ax,aM,aJ,aK,aL,yaq,yar,yao,yap,go_sem,ybb,dl]
 refine aD (A:=Nat) (fun k=>[(2,.ptr H.nx 0),(13,.slice m 2 (vs.map vv)),(14,.int .i64 (vs.length:Int)),(15,.int .i64 (k:Int))]) (fun _=>(H.push (.cells [.int .i64 a.id,.str a.name,.slice .any 2 (a.params.map bv),.slice .any 6 (a.body.map bV),.str a.restr])))
  (fun k=>k≤a.params.length∧EI (a.params.drop k) (vs.drop k)=R) (fun k=>a.params.length - k) 0 ⟨Nat.zero_le _,hR⟩ ?_ fun k hk=>?_
 ·refine ⟨by (try simp only [zkq,zkv,zle]);omega,by repeat first|exact .refl _|refine .push ?_ _,hcb,?_,?_⟩
  ·simp [ltF,zle,znn,znf,aZ lc,yu,hm,rK]
   try omega
  ·simp [bk,wk2,wk1,wkM,Fr.get]
 clear hR
 obtain ⟨hk,hR⟩:=hk
 simp only [aE,ah,bhq,Nat.reduceMod,Nat.reduceDiv,au,aq,ay,aN,ax,aM,aJ,aK,aL,yaq,yar,yao,yap,go_sem]
 refine ak (fun hc=>?_) (fun hc=>?_)
 ·have hk':k<a.params.length:=by simp at hc;omega
  have hkv:k<vs.length:=by omega
  obtain ⟨x,hx⟩:∃ x,x=vs[k]:=⟨_,rfl⟩
  obtain ⟨p,hp⟩:∃ p,p=a.params[k]:=⟨_,rfl⟩
  have hd:vs.drop k=x::vs.drop (k+1):=by rw [hx];exact dcq hkv
  have hdp:a.params.drop k=p::a.params.drop (k+1):=by rw [hp];exact dcq hk'
  have hgx:=a0 (f:=vv) (l:=vs) (k:=k) (x:=x) (by rw [gQq hkv,hx])
  have hgp:=a0 (f:=bv) (l:=a.params) (k:=k) (x:=p) (by rw [gQq hk',hp])
  have hxl:=hvs x (by rw [hx];exact gMq hkv)
  have iv:=uT hxl
  have e5:=Yk5 k
  rw [hd,hdp] at hR
  unfold EI at hR
  simp only [aE,ah,bhq,Nat.reduceMod,Nat.reduceDiv,au,aq,ay,aN,ax,aM,aJ,aK,aL,yaq,yar,yao,yap,go_sem,iNq,hgx,hgp,vv,bv,ybb,ek,mQ,iv]
  (repeat with_reducible refine Yq ?_)
  cases hq:decide (((bl x:Nat):Int)≤p.bits) with
  |false =>
   rw [hq,Bool.false_and] at hR
   subst hR
   simp only [aE,ah,bhq,Nat.reduceMod,Nat.reduceDiv,au,aq,ay,aN,ax,aM,aJ,aK,aL,yaq,yar,yao,yap,go_sem,dn1,dn2]
   try (repeat with_reducible refine Yq ?_)
   exact Z1
  |true =>
   rw [hq,Bool.true_and] at hR
   simp only [aE,ah,bhq,Nat.reduceMod,Nat.reduceDiv,au,aq,ay,aN,ax,aM,aJ,aK,aL,yaq,yar,yao,yap,go_sem,dn1,dn2,e5]
   try (repeat with_reducible refine Yq ?_)
   refine ⟨k+1,⟨by omega,hR⟩,by omega,?_⟩
   refine ⟨by (try simp only [zkq,zkv,zle]);omega,by repeat first|exact .refl _|refine .push ?_ _,hcb,?_,?_⟩
   ·simp [ltF,zle,znn,znf,aZ lc,yu,hm,rK]
    try omega
   ·simp [bk,wk2,wk1,wkM,Fr.get]
 ·have hk':k=a.params.length:=by simp at hc;omega
  subst hk'
  have hf:EI (a.params.drop a.params.length) (vs.drop a.params.length)=true:=by
   rw [List.drop_length,← hlen,List.drop_length];rfl
  rw [hf] at hR
  subst hR
  simp only [aE,ah,bhq,Nat.reduceMod,Nat.reduceDiv,au,aq,ay,aN,ax,aM,aJ,aK,aL,yaq,yar,yao,yap,go_sem]
  exact Z1
theorem pE {x y:Nat}:((((x/2^64:Nat):Int)==((y/2^64:Nat):Int))&&(((((x % 2^64:Nat):Int)==((y % 2^64:Nat):Int)))&&true))=decide (x=y):=by
 rw [Bool.eq_iff_iff]
 simp
 omega
def nU (S:Sch) (f:Int) (c:SCase):Bool:=ftV c.value (btF S f)&&(ftV c.mask (btF S f)&&decide (c.value &&& c.mask=c.value))
def yw:List AV→AHeap→(AV→Prop)→Prop
 |[.agg l,.int .i64 f,x],_,K=>∃ (S:Sch) (c:SCase),(l=aS S∧x=cI c∧SLen S∧ct S f=true∧c.value<2^128∧c.mask<2^128)∧K (.bool (nU S f c))
 |_,_,_=>False
theorem Kw:EntOk Tryz.prog 152 (Ent.pure yw):=by
 refine Ype fun _ H K h=>?_
 unfold yw at h
 split at h
 rotate_left
 ·exact h.elim
 rename_i l f x
 obtain ⟨S,c,⟨rfl,rfl,hS,hf,h1,h2⟩,hK⟩:=h
 refine ⟨_,hK,?_⟩
 clear hK
 have iv:=uT h1
 have iw:=uT h2
 have vb:=mQ c.value
 have wb:=mQ c.mask
 generalize hR:nU S f c=R
 unfold nU ftV at hR
 obtain ⟨y,hy,hyb⟩:=ji hf
 unfold cI vc
 refine ACalls.fW ap (tCq mw (tCq sP (tCq IL tNq))) Tryz.func152 [.tmp 6] (nrq _) (T:=aj [(2,[[],[],[],[1],[],[],[3],[],[1,3,6],[],[],[],[3,8],[],[3,8],[1,3,6,8,12,14],[],[3,8]])]) (h:=fun hcl hlt=>?_)
 clear hlt
 unfold aS
 simp only [go_sem,bN]
 refine ⟨S,y,⟨rfl,hS,hy⟩,?_⟩
 simp only [ah,go_sem,bN,ek,l5,p2V,iv,iw,vb,wb,iNq,hyb,vv,ll,kY,pE]
 try (repeat with_reducible refine Yq ?_)
 cases c1:decide (((bl c.value:Nat):Int)≤btF S f) with
 |false =>
  simp only [c1,tfB,if_true,if_false,reduceCtorEq] at hR
  subst hR
  try simp only [ah,go_sem,bN,ek,l5,p2V,iv,iw,vb,wb,iNq,hyb,vv,ll,kY,pE,c1]
  try (repeat with_reducible refine Yq ?_)
  exact Z1
 |true =>
  try simp only [ah,go_sem,bN,ek,l5,p2V,iv,iw,vb,wb,iNq,hyb,vv,ll,kY,pE,c1]
  try (repeat with_reducible refine Yq ?_)
  cases c2:decide (((bl c.mask:Nat):Int)≤btF S f) with
  |false =>
   simp only [c1,c2,tfB,if_true,if_false,reduceCtorEq] at hR
   subst hR
   try simp only [ah,go_sem,bN,ek,l5,p2V,iv,iw,vb,wb,iNq,hyb,vv,ll,kY,pE,c1,c2]
   try (repeat with_reducible refine Yq ?_)
   exact Z1
  |true =>
   try simp only [ah,go_sem,bN,ek,l5,p2V,iv,iw,vb,wb,iNq,hyb,vv,ll,kY,pE,c1,c2]
   try (repeat with_reducible refine Yq ?_)
   simp only [c1,c2,Bool.true_and] at hR
   subst hR
   try simp only [ah,go_sem,bN,ek,l5,p2V,iv,iw,vb,wb,iNq,hyb,vv,ll,kY,pE,c1,c2]
   try (repeat with_reducible refine Yq ?_)
   simp (disch:=first|exact Zd|omega) [↓zmo,beq,ybc,ybd,ybe,aa,wk,wk2,wk1,wkM,wkL,ae,ybf,hcl]
   generalize c.value &&& c.mask=z
   rw [Bool.eq_iff_iff]
   simp
   omega
def smB (S:Sch):List Int→Int→Int
 |[],n=>n
 |f::l,n=>smB S l (n+btF S f)
def qy (S:Sch) (t:SHeader):Bool:=decide (smB S t.fields 0 % 8=0)&&(decide (smB S t.fields 0≤512)&&(!t.fields.contains 1&&!t.fields.contains 2))
def ir:List AV→AHeap→(AV→Prop)→Prop
 |[.agg l,x],_,K=>∃ (S:Sch) (t:SHeader),(l=aS S∧x=aH t∧SLen S∧t.fields.length≤1000000∧∀ f∈t.fields,ct S f=true∧0≤btF S f∧btF S f≤1000000)∧K (.bool (qy S t))
 |_,_,_=>False
theorem I0:EntOk Tryz.prog 148 (Ent.pure ir):=by
 refine Ype fun _ H K h=>?_
 unfold ir at h
 split at h
 rotate_left
 ·exact h.elim
 rename_i l x
 obtain ⟨S,t,⟨rfl,rfl,hS,hfl,hf⟩,hK⟩:=h
 refine ⟨_,hK,?_⟩
 clear hK
 generalize hR:qy S t=R
 unfold qy at hR
 obtain ⟨N,hN⟩:∃ N,smB S t.fields 0=N:=⟨_,rfl⟩
 rw [hN] at hR
 unfold aH
 refine ACalls.fW ap (tCq mw (tCq oY tNq)) Tryz.func148 [.tmp 4] (nrq _) (T:=aj []) (h:=fun hcl hlt=>?_)
 have hx:=AV.lt_mono (Nat.le_succ H.nx) _ (hlt _ List.mem_cons_self)
 have hx2:=AV.lt_mono (show H.nx≤H.nx+1+1 by omega) _ (hlt _ (List.mem_cons_of_mem _ List.mem_cons_self))
 clear hlt
 simp only [znr] at hx hx2
 have hcp:=af (af hcl hx) hx2
 obtain ⟨Hb,hHb⟩:∃ Hb,(H.push (.cells (aS S))).push (.cells [.int .i64 t.id,.str t.name,.slice .any 1 (inL t.fields)])=Hb:=⟨_,rfl⟩
 have hg0:Hb.get H.nx=some (.cells (aS S)):=by rw [← hHb,zlh,if_neg (by rw [zle];omega)];exact AHeap.get_push_new _ _
 have hg1:Hb.get (H.nx+1)=some (.cells [.int .i64 t.id,.str t.name,.slice .any 1 (inL t.fields)]):=by rw [← hHb];exact AHeap.get_push_new _ _
 have hnb:Hb.nx=H.nx+1+1:=by rw [← hHb];rfl
 have hHle:H.Le Hb:=by rw [← hHb];exact ((lRq _).push _).push _
 rw [hHb] at hcp
 have hcs0:=ag hg0
 have hcs1:=ag hg1
 have hlen:(inL t.fields).length=t.fields.length:=by simp [inL]
 have hm:∀ n',AV.lt n' (.slice .any 1 (inL t.fields)):=fun n'=>by
  rw [AV.lt]
  exact ⟨fun id e=>(by cases e),fun j hj=>by simp only [inL,List.getElem_map,znf]⟩
 unfold aS at hHb hg0 hcs0 ⊢
 simp only [go_sem,hHb,hcs1,hlen]
 try simp only [go_sem,hlen]
 refine aD (A:=Nat × Int) (fun a=>[(2,.ptr H.nx 0),(3,.ptr (H.nx+1) 0),(5,.int .i64 a.2),(9,.slice .any 1 (inL t.fields)),(10,.int .i64 (t.fields.length:Int)),(11,.int .i64 (a.1:Int))]) (fun _=>Hb)
  (fun a=>a.1≤t.fields.length∧0≤a.2∧a.2≤(a.1:Int)*1000000∧smB S (t.fields.drop a.1) a.2=N) (fun a=>t.fields.length - a.1) (0,0) ⟨Nat.zero_le _,by decide,by decide,hN⟩ ?_ fun a ha=>?_
 ·refine ⟨by (try simp only [zkq,zkv]);omega,lRq _,hcp,?_,?_⟩
  ·simp [ltF,znf,znn,hm,hnb]
   try omega
  ·simp [bk,wk2,wk1,wkM,Fr.get]
 obtain ⟨k,n⟩:=a
 obtain ⟨hk,hn0,hn1,hn⟩:=ha
 dsimp only at hk hn0 hn1 hn ⊢
 simp only [go_sem]
 refine ak (fun hc=>?_) (fun hc=>?_)
 ·have hk':k<t.fields.length:=by simp at hc;omega
  obtain ⟨x,hx⟩:∃ x,x=t.fields[k]:=⟨_,rfl⟩
  have hd:t.fields.drop k=x::t.fields.drop (k+1):=by rw [hx];exact dcq hk'
  have hg':(inL t.fields).getD k .junk=.int .i64 x:=a0 (f:=AV.int .i64) (l:=t.fields) (k:=k) (x:=x) (by rw [gQq hk',hx])
  have e5:=Yk5 k
  obtain ⟨q1,q2,q3⟩:=hf x (by rw [hx];exact gMq hk')
  obtain ⟨y,hy,hyb⟩:=ji q1
  have e6:IntKind.i64.wrap (n+y.bits)=n+y.bits:=by rw [hyb];rw [wrap_i64]<;>omega
  rw [hd] at hn
  unfold smB at hn
  have hne0:(H.nx=Hb.nx)=False:=eq_false (by omega)
  simp only [go_sem,iNq,hlen,hg',hg0,hcs0,hne0,bN]
  try (repeat with_reducible refine Yq ?_)
  refine ⟨S,y,⟨rfl,hS,hy⟩,?_⟩
  simp only [ah,go_sem,e5,e6]
  refine ⟨(k+1,n+y.bits),⟨by dsimp only;omega,by dsimp only;omega,by dsimp only;rw [hyb];omega,by dsimp only;rw [hyb];exact hn⟩,by dsimp only;omega,by omega,lRq _,hcp,?_,?_⟩
  ·simp [ltF,znf,znn,hm,hnb]
   try omega
  ·simp [bk,wk2,wk1,wkM,Fr.get]
 ·have hk':k=t.fields.length:=by simp at hc;omega
  subst hk'
  rw [List.drop_length] at hn
  have hn':n=N:=hn
  subst hn'
  have hg2:=hg1
  have hne1:(H.nx+1=Hb.nx)=False:=eq_false (by omega)
  simp only [go_sem,hcs1,fk]
  have d8:(n.tmod 8==0)=decide (n % 8=0):=by
   rw [Int.tmod_eq_emod_of_nonneg hn0,Bool.eq_iff_iff];simp
  refine ⟨by decide,?_⟩
  rw [d8]
  cases c1:decide (n % 8=0) with
  |false =>
   simp only [c1,tfB,if_true,if_false,reduceCtorEq] at hR
   subst hR
   try simp only [go_sem,fk,c1]
   exact Z13
  |true =>
   try simp only [go_sem,fk,c1]
   cases c2:decide (n≤512) with
   |false =>
    simp only [c1,c2,tfB,if_true,if_false,reduceCtorEq] at hR
    subst hR
    try simp only [go_sem,fk,c1,c2]
    exact Z13
   |true =>
    try simp only [go_sem,fk,c1,c2]
    refine ⟨t.fields,⟨rfl,hfl⟩,?_⟩
    cases c3:t.fields.contains 1 with
    |true =>
     simp only [c1,c2,c3,tfB,if_true,if_false,reduceCtorEq] at hR
     subst hR
     try simp only [go_sem,fk,c1,c2,c3]
     exact Z13
    |false =>
     try simp only [go_sem,fk,c1,c2,c3]
     refine ⟨t.fields,⟨rfl,hfl⟩,?_⟩
     cases c4:t.fields.contains 2 with
     |true =>
      simp only [c1,c2,c3,c4,tfB,if_true,if_false,reduceCtorEq] at hR
      subst hR
      try simp only [go_sem,fk,c1,c2,c3,c4]
      exact Z13
     |false =>
      simp only [c1,c2,c3,c4,tfB,if_true,if_false,reduceCtorEq] at hR
      subst hR
      try simp only [go_sem,fk,c1,c2,c3,c4]
      exact Z13
def N9 (S:Sch) (t:SHeader):Prop:=t.fields.length≤1000000∧∀ f∈t.fields,ct S f=true∧0≤btF S f∧btF S f≤1000000
def Mv (S:Sch) (f:Int) (c:SCase):Prop:=ct S f=true∧c.value<2^128∧c.mask<2^128
def MU (S:Sch) (a:SAction) (p:SPrim):Prop:=p.value<2^128∧oI S a.params.length p=true∧fpB p=true∧0≤p.n
def L0:List AV→AHeap→(AV→Prop)→Prop
 |[x,.ptr c 0],H,K=>∃ (t:SHeader) (S:Sch),(x=aH t∧H.get c=some (.cells (aS S))∧SLen S∧N9 S t)∧K (.bool (qy S t))
 |_,_,_=>False
theorem Mf:EntOk Tryz.prog 147 (Ent.pure L0):=by
 refine Ype fun _ H K h=>?_
 unfold L0 at h
 split at h
 rotate_left
 ·exact h.elim
 rename_i x c
 obtain ⟨t,S,⟨rfl,hg,hS,hk⟩,hK⟩:=h
 refine ⟨_,hK,?_⟩
 clear hK
 have hl:=glq hg
 have hne:(c=H.nx)=False:=eq_false (by omega)
 have hcs:=ag hg
 have hgS:=hg
 generalize hR:(qy S t)=R
 skip
 unfold aH
 unfold aS at hg hcs
 refine ACalls.fW ap (tCq I0 tNq) Tryz.func147 [.tmp 3] (nrq _) (T:=aj []) (h:=fun hcl hlt=>?_)
 clear hlt
 try simp only [ah,go_sem,hcs,hne,hg,ir,bX,cm,cx]
 refine ⟨S,t,⟨rfl,rfl,hS,hk.1,hk.2⟩,?_⟩
 cases k1:qy S t with
 |false =>
  simp only [k1,tfB,if_true,if_false,reduceCtorEq] at hR
  subst hR
  try simp only [ah,go_sem,hcs,hne,hg,ir,bX,cm,cx,k1]
  exact Z1
 |true =>
  simp only [k1,tfB,if_true,if_false,reduceCtorEq] at hR
  subst hR
  try simp only [ah,go_sem,hcs,hne,hg,ir,bX,cm,cx,k1]
  exact Z1
def Hx:List AV→AHeap→(AV→Prop)→Prop
 |[x,.ptr c 0,.ptr d 0],H,K=>∃ (t:SCase) (a:SState) (S:Sch) (cs:List AV),(x=cI t∧H.get c=some (.cells (aS S))∧H.get d=some (.cells cs)∧aO a=.agg cs∧SLen S∧Mv S a.select t)∧K (.bool (nU S a.select t))
 |_,_,_=>False
theorem Jh:EntOk Tryz.prog 151 (Ent.pure Hx):=by
 refine Ype fun _ H K h=>?_
 unfold Hx at h
 split at h
 rotate_left
 ·exact h.elim
 rename_i x c d
 obtain ⟨t,a,S,cs,⟨rfl,hg,hgd,hac,hS,hk⟩,hK⟩:=h
 refine ⟨_,hK,?_⟩
 clear hK
 unfold aO at hac
 cases hac
 have hl:=glq hg
 have hne:(c=H.nx)=False:=eq_false (by omega)
 have hcs:=ag hg
 have hl2:=glq hgd
 have hne2:(d=H.nx)=False:=eq_false (by omega)
 have hcs2:=ag hgd
 generalize hR:(nU S a.select t)=R
 unfold cI vc
 unfold aS at hg hcs
 refine ACalls.fW ap (tCq Kw tNq) Tryz.func151 [.tmp 4] (nrq _) (T:=aj []) (h:=fun hcl hlt=>?_)
 clear hlt
 simp only [go_sem,hcs,hne,hg,hcs2,hne2,hgd,yw]
 refine ⟨S,t,⟨rfl,rfl,hS,hk.1,hk.2.1,hk.2.2⟩,?_⟩
 simp only [ah,go_sem,hR]
 exact Z1
def Fs:List AV→AHeap→(AV→Prop)→Prop
 |[x,.ptr c 0,.ptr d 0],H,K=>∃ (t:SPrim) (a:SAction) (S:Sch) (cs:List AV),(x=bV t∧H.get c=some (.cells (aS S))∧H.get d=some (.cells cs)∧aA a=.agg cs∧SLen S∧MU S a t)∧K (.bool (nP S a t))
 |_,_,_=>False
theorem IC:EntOk Tryz.prog 154 (Ent.pure Fs):=by
 refine Ype fun _ H K h=>?_
 unfold Fs at h
 split at h
 rotate_left
 ·exact h.elim
 rename_i x c d
 obtain ⟨t,a,S,cs,⟨rfl,hg,hgd,hac,hS,hk⟩,hK⟩:=h
 refine ⟨_,hK,?_⟩
 clear hK
 unfold aA at hac
 cases hac
 have hl:=glq hg
 have hne:(c=H.nx)=False:=eq_false (by omega)
 have hcs:=ag hg
 have hl2:=glq hgd
 have hne2:(d=H.nx)=False:=eq_false (by omega)
 have hcs2:=ag hgd
 generalize hR:(nP S a t)=R
 unfold bV vc
 unfold aS at hg hcs
 refine ACalls.fW ap (tCq Mh tNq) Tryz.func154 [.tmp 4] (nrq _) (T:=aj []) (h:=fun hcl hlt=>?_)
 clear hlt
 simp only [go_sem,hcs,hne,hg,hcs2,hne2,hgd,CF]
 refine ⟨S,a,t,⟨rfl,rfl,rfl,hS,hk.1,hk.2.1,hk.2.2.1,hk.2.2.2⟩,?_⟩
 simp only [ah,go_sem,hR]
 exact Z1
def LH:List AV→AHeap→(AV→Prop)→Prop
 |[x,.ptr c 0],H,K=>∃ (t:SState) (S:Sch),(x=aO t∧H.get c=some (.cells (aS S))∧SLen S∧t.cases.length≤1000000∧∀ p∈t.cases,Mv S t.select p)∧K (.bool (t.cases.all fun p=>nU S t.select p))
 |_,_,_=>False
theorem Mu:EntOk Tryz.prog 149 (Ent.pure LH):=by
 refine Ype fun _ H K h=>?_
 unfold LH at h
 split at h
 rotate_left
 ·exact h.elim
 rename_i x c
 obtain ⟨t,S,⟨rfl,hg,hS,hbl,hk⟩,hK⟩:=h
 refine ⟨_,hK,?_⟩
 clear hK
 have hl:=glq hg
 have hne:(c=H.nx)=False:=eq_false (by omega)
 have hcs:=ag hg
 have hgS:=hg
 generalize hR:(t.cases.all fun p=>nU S t.select p)=R
 skip
 unfold aO
 unfold aS at hg hcs
 refine ACalls.fW ap (tCq wg tNq) Tryz.func149 [.tmp 3] (nrq _) (T:=aj []) (h:=fun hcl hlt=>?_)
 clear hlt
 try simp only [ah,go_sem,hcs,hne,hg,ir,bX,cm,cx]
 refine ⟨t.cases,(fun p=>nU S t.select p),⟨rfl,hbl,fun p hx H' hle' hcl'=>clB Jh ⟨p,t,S,_,⟨rfl,hle'.get _ _ (by rw [zlh,if_neg (by omega)];exact hgS),hle'.get _ _ (AHeap.get_push_new _ _),rfl,hS,hk p hx⟩,rfl⟩⟩,?_⟩
 cases k1:t.cases.all (fun p=>nU S t.select p) with
 |false =>
  simp only [k1,tfB,if_true,if_false,reduceCtorEq] at hR
  subst hR
  try simp only [ah,go_sem,hcs,hne,hg,ir,bX,cm,cx,k1]
  exact Z1
 |true =>
  simp only [k1,tfB,if_true,if_false,reduceCtorEq] at hR
  subst hR
  try simp only [ah,go_sem,hcs,hne,hg,ir,bX,cm,cx,k1]
  exact Z1
def LW:List AV→AHeap→(AV→Prop)→Prop
 |[x,.ptr c 0],H,K=>∃ (t:SAction) (S:Sch),(x=aA t∧H.get c=some (.cells (aS S))∧SLen S∧t.body.length≤1000000∧∀ p∈t.body,MU S t p)∧K (.bool (t.body.all fun p=>nP S t p))
 |_,_,_=>False
theorem Mw:EntOk Tryz.prog 153 (Ent.pure LW):=by
 refine Ype fun _ H K h=>?_
 unfold LW at h
 split at h
 rotate_left
 ·exact h.elim
 rename_i x c
 obtain ⟨t,S,⟨rfl,hg,hS,hbl,hk⟩,hK⟩:=h
 refine ⟨_,hK,?_⟩
 clear hK
 have hl:=glq hg
 have hne:(c=H.nx)=False:=eq_false (by omega)
 have hcs:=ag hg
 have hgS:=hg
 generalize hR:(t.body.all fun p=>nP S t p)=R
 skip
 unfold aA
 unfold aS at hg hcs
 refine ACalls.fW ap (tCq rp tNq) Tryz.func153 [.tmp 3] (nrq _) (T:=aj []) (h:=fun hcl hlt=>?_)
 clear hlt
 try simp only [ah,go_sem,hcs,hne,hg,ir,bX,cm,cx]
 refine ⟨t.body,(fun p=>nP S t p),⟨rfl,hbl,fun p hx H' hle' hcl'=>clB IC ⟨p,t,S,_,⟨rfl,hle'.get _ _ (by rw [zlh,if_neg (by omega)];exact hgS),hle'.get _ _ (AHeap.get_push_new _ _),rfl,hS,hk p hx⟩,rfl⟩⟩,?_⟩
 cases k1:t.body.all (fun p=>nP S t p) with
 |false =>
  simp only [k1,tfB,if_true,if_false,reduceCtorEq] at hR
  subst hR
  try simp only [ah,go_sem,hcs,hne,hg,ir,bX,cm,cx,k1]
  exact Z1
 |true =>
  simp only [k1,tfB,if_true,if_false,reduceCtorEq] at hR
  subst hR
  try simp only [ah,go_sem,hcs,hne,hg,ir,bX,cm,cx,k1]
  exact Z1
def tmF (S:Sch) (t:STable):Bool:=match S.actions.find? (fun a=>a.id==t.dflt) with
 |some a=>Ju a.params t.dargs
 |none=>false
def N0 (S:Sch) (t:STable):Prop:=∃ a,S.actions.find? (fun a=>a.id==t.dflt)=some a∧a.params.length≤1000000∧t.dargs.length≤1000000∧∀ v∈t.dargs,v<2^128
def gkB (S:Sch) (g:SGrant):Bool:=match S.tables.find? (fun t=>t.id==g.table) with
 |some b=>decide (g.keys.length=b.keys.length)
 |none=>false
def LG:List AV→AHeap→(AV→Prop)→Prop
 |[x,.ptr c 0],H,K=>∃ (t:STable) (S:Sch),(x=aC t∧H.get c=some (.cells (aS S))∧SLen S∧N0 S t)∧K (.bool (tmF S t))
 |_,_,_=>False
theorem Nc:EntOk Tryz.prog 156 (Ent.pure LG):=by
 refine Ype fun _ H K h=>?_
 unfold LG at h
 split at h
 rotate_left
 ·exact h.elim
 rename_i x c
 obtain ⟨t,S,⟨rfl,hg,hS,hk⟩,hK⟩:=h
 refine ⟨_,hK,?_⟩
 clear hK
 have hl:=glq hg
 have hne:(c=H.nx)=False:=eq_false (by omega)
 have hcs:=ag hg
 have hgS:=hg
 generalize hR:(tmF S t)=R
 skip
 unfold aC
 unfold aS at hg hcs
 refine ACalls.fW ap (tCq gC (tCq I4 tNq)) Tryz.func156 [.tmp 3] (nrq _) (T:=aj [(1,[[],[],[],[],[],[2,4],[],[5],[],[],[1,2,4,5,7,9]])]) (h:=fun hcl hlt=>?_)
 clear hlt
 obtain ⟨a,ha,hpl,hal,hvs⟩:=hk
 unfold tmF at hR
 simp only [ha] at hR
 subst hR
 obtain ⟨i,i1,g1,l1⟩:=nh ha
 have ga:=a0 (f:=aA) (l:=S.actions) (k:=i) (x:=a) g1
 have hca:aA a=.agg [.int .i64 a.id,.str a.name,.slice .any 2 (a.params.map bv),.slice .any 6 (a.body.map bV),.str a.restr]:=rfl
 rw [hca] at ga
 simp only [go_sem,hcs,hne,hg,fh]
 refine ⟨S,⟨rfl,hS.al⟩,?_⟩
 simp only [ah,go_sem,hcs,hne,hg,i1,ga,iNq,ybb,xL]
 try (repeat with_reducible refine Yq ?_)
 refine ⟨a,t.dargs,⟨rfl,rfl,hpl,hal,hvs⟩,?_⟩
 try simp only [ah,go_sem]
 exact Z1
def DU:List AV→AHeap→(AV→Prop)→Prop
 |[x,.ptr c 0],H,K=>∃ (t:SGrant) (S:Sch),(x=bj t∧H.get c=some (.cells (aS S))∧SLen S∧hZ S t.table=true)∧K (.bool (gkB S t))
 |_,_,_=>False
theorem I7:EntOk Tryz.prog 160 (Ent.pure DU):=by
 refine Ype fun _ H K h=>?_
 unfold DU at h
 split at h
 rotate_left
 ·exact h.elim
 rename_i x c
 obtain ⟨t,S,⟨rfl,hg,hS,hk⟩,hK⟩:=h
 refine ⟨_,hK,?_⟩
 clear hK
 have hl:=glq hg
 have hne:(c=H.nx)=False:=eq_false (by omega)
 have hcs:=ag hg
 have hgS:=hg
 generalize hR:(gkB S t)=R
 skip
 unfold bj
 unfold aS at hg hcs
 refine ACalls.fW ap (tCq fK tNq) Tryz.func160 [.tmp 3] (nrq _) (T:=aj [(1,[[],[],[],[],[],[],[],[],[5,7],[],[],[8]])]) (h:=fun hcl hlt=>?_)
 clear hlt
 unfold hZ at hk
 obtain ⟨b,hb⟩:∃ b,S.tables.find? (fun x=>x.id==t.table)=some b:=by
  rw [List.any_eq_true] at hk
  obtain ⟨y,hy,h2⟩:=hk
  cases hf:S.tables.find? (fun x=>x.id==t.table) with
  |none=>exact absurd h2 (by have:=List.find?_eq_none.1 hf y hy;simpa using this)
  |some x=>exact ⟨x,rfl⟩
 unfold gkB at hR
 simp only [hb] at hR
 subst hR
 obtain ⟨i,i1,g1,l1⟩:=nh hb
 have ga:=a0 (f:=aC) (l:=S.tables) (k:=i) (x:=b) g1
 have hca:aC b=.agg [.int .i64 b.id,.str b.name,.slice .any 3 (b.keys.map bE),.slice .any 1 (inL b.actions),.int .i64 b.dflt,.slice .any 2 (b.dargs.map vv),.int .i64 b.size,.str b.restr]:=rfl
 rw [hca] at ga
 have hbl:(boL t.keys).length=t.keys.length:=by simp [boL]
 have heq:((t.keys.length:Int)==(b.keys.length:Int))=decide (t.keys.length=b.keys.length):=by rw [Bool.eq_iff_iff];simp;omega
 simp only [go_sem,hcs,hne,hg,da]
 refine ⟨S,⟨rfl,hS.tl⟩,?_⟩
 simp only [ah,go_sem,hcs,hne,hg,i1,ga,iNq,ybb,hbl,heq]
 try (repeat with_reducible refine Yq ?_)
 exact Z1
def L1:List AV→AHeap→(AV→Prop)→Prop
 |[x,.ptr c 0],H,K=>∃ (t:SRole) (S:Sch),(x=bc t∧H.get c=some (.cells (aS S))∧SLen S∧t.grants.length≤1000000∧∀ g∈t.grants,hZ S g.table=true)∧K (.bool (t.grants.all fun g=>gkB S g))
 |_,_,_=>False
theorem MT:EntOk Tryz.prog 159 (Ent.pure L1):=by
 refine Ype fun _ H K h=>?_
 unfold L1 at h
 split at h
 rotate_left
 ·exact h.elim
 rename_i x c
 obtain ⟨t,S,⟨rfl,hg,hS,hgl,hk⟩,hK⟩:=h
 refine ⟨_,hK,?_⟩
 clear hK
 have hl:=glq hg
 have hne:(c=H.nx)=False:=eq_false (by omega)
 have hcs:=ag hg
 have hgS:=hg
 generalize hR:(t.grants.all fun g=>gkB S g)=R
 skip
 unfold bc
 unfold aS at hg hcs
 refine ACalls.fW ap (tCq wL tNq) Tryz.func159 [.tmp 3] (nrq _) (T:=aj []) (h:=fun hcl hlt=>?_)
 clear hlt
 try simp only [ah,go_sem,hcs,hne,hg,ir,bX,cm,cx]
 refine ⟨t.grants,(fun g=>gkB S g),⟨rfl,hgl,fun x hx H' hle' hcl'=>clB I7 ⟨x,S,⟨rfl,hle'.get _ _ (by rw [zlh,if_neg (by omega)];exact hgS),hS,hk x hx⟩,rfl⟩⟩,?_⟩
 cases k1:t.grants.all (fun g=>gkB S g) with
 |false =>
  simp only [k1,tfB,if_true,if_false,reduceCtorEq] at hR
  subst hR
  try simp only [ah,go_sem,hcs,hne,hg,ir,bX,cm,cx,k1]
  exact Z1
 |true =>
  simp only [k1,tfB,if_true,if_false,reduceCtorEq] at hR
  subst hR
  try simp only [ah,go_sem,hcs,hne,hg,ir,bX,cm,cx,k1]
  exact Z1
def oN (S:Sch) (r:SRef):Bool:=if r.action==0 then btF S (r4 S r).field==btF S (rq S r).field
 else match S.actions.find? (fun t=>t.id==r.action) with
  |some c=>(c.params.getD r.param.toNat ⟨[],0⟩).bits==btF S (rq S r).field
  |none=>false
def Ob (S:Sch) (r:SRef):Prop:=tT S r∧ct S (rq S r).field=true∧((r.action==0)=true→ct S (r4 S r).field=true)
theorem G2 {S:Sch} {r:SRef} (h:tT S r) (h0:(r.action==0)=false):∃ c,S.actions.find? (fun t=>t.id==r.action)=some c∧r.param.toNat<c.params.length:=by
 obtain ⟨h,_,_,hp⟩:=h
 unfold su at h
 cases fa:S.tables.find? (fun t=>t.id==r.table) with
 |none=>rw [fa] at h;cases h
 |some a =>
  cases fb:S.tables.find? (fun t=>t.id==r.toTable) with
  |none=>rw [fa,fb] at h;cases h
  |some b =>
   rw [fa,fb] at h
   simp only [Bool.and_eq_true,h0,Bool.false_eq_true,if_false] at h
   have h3:=h.2.2
   cases fc:S.actions.find? (fun t=>t.id==r.action) with
   |none=>rw [fc] at h3;cases h3
   |some c =>
    rw [fc] at h3
    simp only [decide_eq_true_eq] at h3
    exact ⟨c,rfl,by omega⟩
def LK:List AV→AHeap→(AV→Prop)→Prop
 |[x,.ptr c 0],H,K=>∃ (t:SRef) (S:Sch),(x=bU t∧H.get c=some (.cells (aS S))∧SLen S∧Ob S t)∧K (.bool (oN S t))
 |_,_,_=>False
theorem Mg:EntOk Tryz.prog 161 (Ent.pure LK):=by
 refine Ype fun _ H K h=>?_
 unfold LK at h
 split at h
 rotate_left
 ·exact h.elim
 rename_i x c
 obtain ⟨t,S,⟨rfl,hg,hS,hk⟩,hK⟩:=h
 refine ⟨_,hK,?_⟩
 clear hK
 have hl:=glq hg
 have hne:(c=H.nx)=False:=eq_false (by omega)
 have hcs:=ag hg
 have hgS:=hg
 generalize hR:(oN S t)=R
 skip
 unfold bU
 unfold aS at hg hcs
 refine ACalls.fW ap (tCq wy (tCq mw (tCq gC tNq))) Tryz.func161 [.tmp 3] (nrq _) (T:=aj [(5,[[],[],[],[],[],[2,4],[],[],[5],[],[],[],[],[5]])]) (h:=fun hcl hlt=>?_)
 clear hlt
 obtain ⟨hr,hf1,hf2⟩:=hk
 have hne2:(c=H.nx+1)=False:=eq_false (by omega)
 have hne3:(c=H.nx+1+1)=False:=eq_false (by omega)
 obtain ⟨b,e1,e2,e3,e4⟩:=vh hr
 simp only [go_sem,hcs,hne,hne2,hne3,hg,qE]
 refine ⟨S,t,b,r4 S t,rq S t,⟨rfl,rfl,hS,e1,e2,e3,e4⟩,?_⟩
 unfold oN at hR
 have hact:=@G2 S t hr
 clear e3 e4
 generalize rq S t=kb at *
 generalize r4 S t=ka at *
 obtain ⟨y,hy,hyb⟩:=ji hf1
 unfold bE
 simp only [ah,go_sem,hcs,hne,hne2,hne3,hg,bN]
 refine ⟨S,y,⟨rfl,hS,hy⟩,?_⟩
 cases c1:t.action==0 with
 |true =>
  obtain ⟨z,hz,hzb⟩:=ji (hf2 c1)
  simp only [c1,if_true] at hR
  subst hR
  simp only [ah,go_sem,hcs,hne,hne2,hne3,hg,bN,c1]
  refine ⟨S,z,⟨rfl,hS,hz⟩,?_⟩
  simp only [ah,go_sem,hyb,hzb]
  exact Z1
 |false =>
  obtain ⟨c2,f3,hl3⟩:=hact c1
  simp only [c1,Bool.false_eq_true,if_false,f3] at hR
  subst hR
  obtain ⟨i,i1,g1,l1⟩:=nh f3
  have ga:=a0 (f:=aA) (l:=S.actions) (k:=i) (x:=c2) g1
  have hca:aA c2=.agg [.int .i64 c2.id,.str c2.name,.slice .any 2 (c2.params.map bv),.slice .any 6 (c2.body.map bV),.str c2.restr]:=rfl
  rw [hca] at ga
  have gp:=a0 (f:=bv) (l:=c2.params) (k:=t.param.toNat) (x:=c2.params[t.param.toNat]) (gQq hl3)
  have gq:c2.params.getD t.param.toNat ⟨[],0⟩=c2.params[t.param.toNat]:=by simp [gEq,hl3]
  rw [gq]
  generalize c2.params[t.param.toNat]=z at *
  have hz:bv z=.agg [.str z.name,.int .i64 z.bits]:=rfl
  rw [hz] at gp
  have hp0:=hr.2.2.2
  simp only [ah,go_sem,hcs,hne,hne2,hne3,hg,fh,c1]
  refine ⟨S,⟨rfl,hS.al⟩,?_⟩
  simp only [ah,go_sem,hcs,hne,hne2,hne3,hg,i1,ga,gp,iNq,ybb,hyb]
  try (repeat with_reducible refine Yq ?_)
  exact Z1
structure FitK (S:Sch):Prop where
 f1:ct S 1=true
 f2:ct S 2=true
 h:∀ t∈S.headers,N9 S t
 s:∀ t∈S.states,∀ p∈t.cases,Mv S t.select p
 a:∀ t∈S.actions,∀ p∈t.body,MU S t p
 t:∀ t∈S.tables,N0 S t
 r:∀ t∈S.roles,∀ g∈t.grants,hZ S g.table=true
 x:∀ r∈S.refs,Ob S r
def qp (S:Sch):Bool:=(btF S 1==16)&&((btF S 2==16)&&(S.headers.all (qy S)&&((S.states.all fun t=>t.cases.all fun p=>nU S t.select p)&&((S.actions.all fun t=>t.body.all fun p=>nP S t p)&&(S.tables.all (tmF S)&&((S.roles.all fun t=>t.grants.all fun g=>gkB S g)&&S.refs.all (oN S)))))))
def qQ:List AV→AHeap→(AV→Prop)→Prop
 |[.agg l],_,K=>∃ S:Sch,(l=aS S∧SB S∧FitK S)∧K (.bool (qp S))
 |_,_,_=>False
theorem Fg:EntOk Tryz.prog 37 (Ent.pure qQ):=by
 refine Ype fun _ H K h=>?_
 unfold qQ at h
 split at h
 rotate_left
 ·exact h.elim
 rename_i l
 obtain ⟨S,⟨rfl,hB,hF⟩,hK⟩:=h
 refine ⟨_,hK,?_⟩
 clear hK
 have hS:=hB.sl
 obtain ⟨y1,hy1,hb1⟩:=ji hF.f1
 obtain ⟨y2,hy2,hb2⟩:=ji hF.f2
 generalize hR:qp S=R
 unfold qp at hR
 refine ACalls.fW ap (tCq mw (tCq oy (tCq oZ (tCq mB (tCq kT (tCq mD (tCq ou tNq))))))) Tryz.func37 [.tmp 2] (nrq _) (T:=aj []) (h:=fun hcl hlt=>?_)
 clear hlt
 unfold aS
 try simp only [ah,go_sem,bN,hb1,hb2,bp,bz,bm,bn,bD,bM]
 refine ⟨S,y1,⟨rfl,hS,hy1⟩,?_⟩
 try simp only [ah,go_sem,hb1]
 cases k1:btF S 1==16 with
 |false =>
  simp only [k1,tfB,if_true,if_false,reduceCtorEq] at hR
  subst hR
  try simp only [ah,go_sem,bN,hb1,hb2,bp,bz,bm,bn,bD,bM,k1]
  exact Z1
 |true =>
  try simp only [ah,go_sem,bN,hb1,hb2,bp,bz,bm,bn,bD,bM,k1]
  refine ⟨S,y2,⟨rfl,hS,hy2⟩,?_⟩
  try simp only [ah,go_sem,hb2]
  cases k2:btF S 2==16 with
  |false =>
   simp only [k1,k2,tfB,if_true,if_false,reduceCtorEq] at hR
   subst hR
   try simp only [ah,go_sem,bN,hb1,hb2,bp,bz,bm,bn,bD,bM,k1,k2]
   exact Z1
  |true =>
   try simp only [ah,go_sem,bN,hb1,hb2,bp,bz,bm,bn,bD,bM,k1,k2]
   refine ⟨S.headers,qy S,⟨rfl,hS.hl,fun x hx H' hle' hcl'=>clB Mf ⟨x,S,⟨rfl,hle'.get _ _ (by (try simp only [go_sem]);first|done|rfl),hS,hF.h x hx⟩,rfl⟩⟩,?_⟩
   cases k3:S.headers.all (qy S) with
   |false =>
    simp only [k1,k2,k3,tfB,if_true,if_false,reduceCtorEq] at hR
    subst hR
    try simp only [ah,go_sem,bN,hb1,hb2,bp,bz,bm,bn,bD,bM,k1,k2,k3]
    exact Z1
   |true =>
    try simp only [ah,go_sem,bN,hb1,hb2,bp,bz,bm,bn,bD,bM,k1,k2,k3]
    refine ⟨S.states,(fun t=>t.cases.all fun p=>nU S t.select p),⟨rfl,hS.sl,fun x hx H' hle' hcl'=>clB Mu ⟨x,S,⟨rfl,hle'.get _ _ (by (try simp only [go_sem]);first|done|rfl),hS,hB.sn x hx,hF.s x hx⟩,rfl⟩⟩,?_⟩
    cases k4:S.states.all (fun t=>t.cases.all fun p=>nU S t.select p) with
    |false =>
     simp only [k1,k2,k3,k4,tfB,if_true,if_false,reduceCtorEq] at hR
     subst hR
     try simp only [ah,go_sem,bN,hb1,hb2,bp,bz,bm,bn,bD,bM,k1,k2,k3,k4]
     exact Z1
    |true =>
     try simp only [ah,go_sem,bN,hb1,hb2,bp,bz,bm,bn,bD,bM,k1,k2,k3,k4]
     refine ⟨S.actions,(fun t=>t.body.all fun p=>nP S t p),⟨rfl,hS.al,fun x hx H' hle' hcl'=>clB Mw ⟨x,S,⟨rfl,hle'.get _ _ (by (try simp only [go_sem]);first|done|rfl),hS,(hB.an x hx).2.2.1,hF.a x hx⟩,rfl⟩⟩,?_⟩
     cases k5:S.actions.all (fun t=>t.body.all fun p=>nP S t p) with
     |false =>
      simp only [k1,k2,k3,k4,k5,tfB,if_true,if_false,reduceCtorEq] at hR
      subst hR
      try simp only [ah,go_sem,bN,hb1,hb2,bp,bz,bm,bn,bD,bM,k1,k2,k3,k4,k5]
      exact Z1
     |true =>
      try simp only [ah,go_sem,bN,hb1,hb2,bp,bz,bm,bn,bD,bM,k1,k2,k3,k4,k5]
      refine ⟨S.tables,tmF S,⟨rfl,hS.tl,fun x hx H' hle' hcl'=>clB Nc ⟨x,S,⟨rfl,hle'.get _ _ (by (try simp only [go_sem]);first|done|rfl),hS,hF.t x hx⟩,rfl⟩⟩,?_⟩
      cases k6:S.tables.all (tmF S) with
      |false =>
       simp only [k1,k2,k3,k4,k5,k6,tfB,if_true,if_false,reduceCtorEq] at hR
       subst hR
       try simp only [ah,go_sem,bN,hb1,hb2,bp,bz,bm,bn,bD,bM,k1,k2,k3,k4,k5,k6]
       exact Z1
      |true =>
       try simp only [ah,go_sem,bN,hb1,hb2,bp,bz,bm,bn,bD,bM,k1,k2,k3,k4,k5,k6]
       refine ⟨S.roles,(fun t=>t.grants.all fun g=>gkB S g),⟨rfl,hS.rl,fun x hx H' hle' hcl'=>clB MT ⟨x,S,⟨rfl,hle'.get _ _ (by (try simp only [go_sem]);first|done|rfl),hS,(hB.rn x hx).2.1,hF.r x hx⟩,rfl⟩⟩,?_⟩
       cases k7:S.roles.all (fun t=>t.grants.all fun g=>gkB S g) with
       |false =>
        simp only [k1,k2,k3,k4,k5,k6,k7,tfB,if_true,if_false,reduceCtorEq] at hR
        subst hR
        try simp only [ah,go_sem,bN,hb1,hb2,bp,bz,bm,bn,bD,bM,k1,k2,k3,k4,k5,k6,k7]
        exact Z1
       |true =>
        try simp only [ah,go_sem,bN,hb1,hb2,bp,bz,bm,bn,bD,bM,k1,k2,k3,k4,k5,k6,k7]
        refine ⟨S.refs,oN S,⟨rfl,hB.xl,fun x hx H' hle' hcl'=>clB Mg ⟨x,S,⟨rfl,hle'.get _ _ (by (try simp only [go_sem]);first|done|rfl),hS,hF.x x hx⟩,rfl⟩⟩,?_⟩
        cases k8:S.refs.all (oN S) with
        |false =>
         simp only [k1,k2,k3,k4,k5,k6,k7,k8,tfB,if_true,if_false,reduceCtorEq] at hR
         subst hR
         try simp only [ah,go_sem,bN,hb1,hb2,bp,bz,bm,bn,bD,bM,k1,k2,k3,k4,k5,k6,k7,k8]
         exact Z1
        |true =>
         simp only [k1,k2,k3,k4,k5,k6,k7,k8,tfB,if_true,if_false,reduceCtorEq] at hR
         subst hR
         try simp only [ah,go_sem,bN,hb1,hb2,bp,bz,bm,bn,bD,bM,k1,k2,k3,k4,k5,k6,k7,k8]
         exact Z1
structure Rng (S:Sch):Prop where
 pv:∀ a∈S.actions,∀ p∈a.body,p.value<2^128∧0≤p.n
 cv:∀ s∈S.states,∀ c∈s.cases,c.value<2^128∧c.mask<2^128
 dv:∀ t∈S.tables,∀ v∈t.dargs,v<2^128
 rv:∀ r∈S.refs,0≤r.key∧0≤r.toKey∧0≤r.param
theorem Ln {S:Sch} {n:Int} (h:ja S n=true):∃ a,S.actions.find? (fun t=>t.id==n)=some a∧a∈S.actions:=by
 unfold ja at h
 rw [List.any_eq_true] at h
 obtain ⟨y,hy,h2⟩:=h
 cases hf:S.actions.find? (fun t=>t.id==n) with
 |none=>exact absurd h2 (by have:=List.find?_eq_none.1 hf y hy;simpa using this)
 |some x=>exact ⟨x,rfl,List.mem_of_find?_eq_some hf⟩
theorem Fv {S:Sch} (hn:S.fields.all nm1=true) {n:Int} (h:ct S n=true):0≤btF S n∧btF S n≤1000000:=by
 obtain ⟨x,hx,hb⟩:=ji h
 have hm:=List.mem_of_find?_eq_some hx
 have h1:=List.all_eq_true.1 hn x hm
 unfold nm1 wB at h1
 simp only [Bool.and_eq_true,decide_eq_true_eq] at h1
 rw [← hb]
 omega
theorem vU {S:Sch} (hk:gI S=true) (hr:Rng S):∀ r∈S.refs,tT S r:=by
 intro r h
 unfold gI at hk
 simp only [Bool.and_eq_true] at hk
 obtain ⟨k1,k2,k3,k4,k5,k6,k7,k8,k9⟩:=hk
 exact ⟨List.all_eq_true.1 k9 r h,(hr.rv r h).1,(hr.rv r h).2.1,(hr.rv r h).2.2⟩
theorem y8 {S:Sch} (k6:S.tables.all (pD S)=true) {b:STable} {n:Int} {i:Nat} {k:SKey} (hb:S.tables.find? (fun t=>t.id==n)=some b) (hk:b.keys[i]?=some k):ct S k.field=true:=by
 have h1:=List.all_eq_true.1 k6 b (List.mem_of_find?_eq_some hb)
 unfold pD at h1
 simp only [Bool.and_eq_true] at h1
 exact List.all_eq_true.1 h1.1 k (List.mem_of_getElem? hk)
theorem KC {S:Sch} (hB:SB S) (hk:gI S=true) (hn:r8 S=true) (hf:mv S=true) (hr:Rng S):FitK S:=by
 have hro:=vU hk hr
 unfold gI at hk
 simp only [Bool.and_eq_true] at hk
 obtain ⟨k1,k2,k3,k4,k5,k6,k7,k8,k9⟩:=hk
 unfold r8 at hn
 simp only [Bool.and_eq_true] at hn
 obtain ⟨n1,n2,n3,n4⟩:=hn
 unfold mv at hf
 simp only [Bool.and_eq_true] at hf
 obtain ⟨f1,f2,f3,f4⟩:=hf
 refine ⟨k1,k2,fun t ht=>⟨(hB.hn t ht).2,fun f hf'=>?_⟩,fun t ht p hp=>?_,fun t ht p hp=>?_,fun t ht=>?_,fun t ht g hg=>?_,fun r hr'=>?_⟩
 ·have h1:=List.all_eq_true.1 k3 t ht
  have h2:=List.all_eq_true.1 h1 f hf'
  exact ⟨h2,Fv n3 h2⟩
 ·refine ⟨?_,hr.cv t ht p hp⟩
  have h1:=List.all_eq_true.1 k4 t ht
  have h2:=List.all_eq_true.1 f3 t ht
  unfold sY at h1
  unfold fsB at h2
  simp only [Bool.and_eq_true,Bool.or_eq_true] at h1 h2
  rcases h1.2.1 with h3|h3
  ·rcases h2 with h4|h4
   ·exfalso
    simp [bne] at h4 h3
    exact h4 h3
   ·simp only [decide_eq_true_eq] at h4
    have:=List.length_pos_of_mem hp
    omega
  ·exact h3
 ·have h1:=List.all_eq_true.1 k5 t ht
  have h2:=List.all_eq_true.1 h1 p hp
  have h3:=List.all_eq_true.1 (List.all_eq_true.1 f1 t ht) p hp
  exact ⟨(hr.pv t ht p hp).1,h2,h3,(hr.pv t ht p hp).2⟩
 ·have h1:=List.all_eq_true.1 k6 t ht
  unfold pD at h1
  simp only [Bool.and_eq_true] at h1
  have hm:t.dflt∈t.actions:=by simpa using h1.2.2
  obtain ⟨a,ha,hma⟩:=Ln (List.all_eq_true.1 h1.2.1 _ hm)
  exact ⟨a,ha,(hB.an a hma).2.1,(hB.tn t ht).2.2.2.1,hr.dv t ht⟩
 ·have h1:=List.all_eq_true.1 k8 t ht
  unfold yj at h1
  simp only [Bool.and_eq_true] at h1
  exact List.all_eq_true.1 h1.1 g hg
 ·have hro:=hro r hr'
  obtain ⟨b,e1,e2,e3,e4⟩:=vh hro
  refine ⟨hro,y8 k6 e1 e3,fun h0=>?_⟩
  rw [if_pos h0] at e4
  obtain ⟨a,a1,a2,a3⟩:=e4
  exact y8 k6 a1 a3
end Go.AL
