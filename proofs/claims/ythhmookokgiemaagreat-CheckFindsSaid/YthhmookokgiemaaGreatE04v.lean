/- Lemmas of the proof; no condition. -/
import Derived.Test.YthhmookokgiemaaGreatE04j
import Derived.Test.YthhmookokgiemaaGreatS12k
set_option linter.all false
set_option maxRecDepth 10000
set_option maxHeartbeats 32000000
open List renaming length_cons → yaz, length_nil → yba, take_of_length_le → ybc, drop_append → ybd, take_append → ybe, drop_eq_nil_of_le → ybf, length_map → ybb, take_succ_cons → yaq, take_zero → yar, drop_succ_cons → yao, drop_zero → yap
open Go Go.AL Go.Proofs
namespace Go.AL
theorem yD:ti Tryz.prog 215=some ⟨.struct [(0,34,false)],10,208,.agg [.slice .nil 1 [],.slice .nil 1 [],.slice .nil 1 [],.slice .nil 1 [],.slice .nil 1 [],.slice .nil 1 [],.slice .nil 1 [],.slice .nil 1 [],.int .i64 0,.int .i64 0]⟩:=by kernel_rfl
attribute [go_sem] yD
def b7 (S:Sch) (n:Int):Bool:=S.fields.any fun t=>t.id==n
def aQ:List AV→AHeap→(AV→Prop)→Prop
 |[.agg l,.int .i64 n],_,K=>∃ S:Sch,(l=aG S∧SLen S)∧K (.bool (b7 S n))
 |_,_,_=>False
theorem ok_fFld:EntOk Tryz.prog 149 (Ent.pure aQ):=by
 refine Ype fun _ H K h=>?_
 unfold aQ at h
 split at h
 rotate_left
 ·exact h.elim
 rename_i l n
 obtain ⟨S,⟨rfl,hS⟩,hK⟩:=h
 refine ⟨_,hK,?_⟩
 clear hK
 have hR:decide (0≤ixP (fun t:SField=>t.id==n) S.fields 0)=b7 S n:=eg
 generalize b7 S n=R at *
 refine ACalls.fW ak (tCq ph tNq) Tryz.func149 [.tmp 4] (nrq _) (T:=ag []) (h:=fun hcl hlt=>?_)
 clear hlt
 simp only [go_sem,aG,kO]
 refine ⟨S,⟨rfl,hS.fl⟩,?_⟩
 have hR':decide (ixP (fun t:SField=>t.id==n) S.fields 0 ≥ 0)=R:=hR
 simp only [aj,go_sem,hR']
 exact Z1
def j6 (S:Sch) (n:Int):Bool:=S.headers.any fun t=>t.id==n
def bg:List AV→AHeap→(AV→Prop)→Prop
 |[.agg l,.int .i64 n],_,K=>∃ S:Sch,(l=aG S∧SLen S)∧K (.bool (j6 S n))
 |_,_,_=>False
theorem ut:EntOk Tryz.prog 160 (Ent.pure bg):=by
 refine Ype fun _ H K h=>?_
 unfold bg at h
 split at h
 rotate_left
 ·exact h.elim
 rename_i l n
 obtain ⟨S,⟨rfl,hS⟩,hK⟩:=h
 refine ⟨_,hK,?_⟩
 clear hK
 have hR:decide (0≤ixP (fun t:SHeader=>t.id==n) S.headers 0)=j6 S n:=eg
 generalize j6 S n=R at *
 refine ACalls.fW ak (tCq tY tNq) Tryz.func160 [.tmp 4] (nrq _) (T:=ag []) (h:=fun hcl hlt=>?_)
 clear hlt
 simp only [go_sem,aG,lM]
 refine ⟨S,⟨rfl,hS.hl⟩,?_⟩
 have hR':decide (ixP (fun t:SHeader=>t.id==n) S.headers 0 ≥ 0)=R:=hR
 simp only [aj,go_sem,hR']
 exact Z1
def gt (S:Sch) (n:Int):Bool:=S.tables.any fun t=>t.id==n
def eP:List AV→AHeap→(AV→Prop)→Prop
 |[.agg l,.int .i64 n],_,K=>∃ S:Sch,(l=aG S∧SLen S)∧K (.bool (gt S n))
 |_,_,_=>False
theorem zB:EntOk Tryz.prog 159 (Ent.pure eP):=by
 refine Ype fun _ H K h=>?_
 unfold eP at h
 split at h
 rotate_left
 ·exact h.elim
 rename_i l n
 obtain ⟨S,⟨rfl,hS⟩,hK⟩:=h
 refine ⟨_,hK,?_⟩
 clear hK
 have hR:decide (0≤ixP (fun t:STable=>t.id==n) S.tables 0)=gt S n:=eg
 generalize gt S n=R at *
 refine ACalls.fW ak (tCq fC tNq) Tryz.func159 [.tmp 4] (nrq _) (T:=ag []) (h:=fun hcl hlt=>?_)
 clear hlt
 simp only [go_sem,aG,cY]
 refine ⟨S,⟨rfl,hS.tl⟩,?_⟩
 have hR':decide (ixP (fun t:STable=>t.id==n) S.tables 0 ≥ 0)=R:=hR
 simp only [aj,go_sem,hR']
 exact Z1
def gV (S:Sch) (n:Int):Bool:=S.actions.any fun t=>t.id==n
def Fv:List AV→AHeap→(AV→Prop)→Prop
 |[.agg l,.int .i64 n],_,K=>∃ S:Sch,(l=aG S∧SLen S)∧K (.bool (gV S n))
 |_,_,_=>False
theorem ok_fAct:EntOk Tryz.prog 164 (Ent.pure Fv):=by
 refine Ype fun _ H K h=>?_
 unfold Fv at h
 split at h
 rotate_left
 ·exact h.elim
 rename_i l n
 obtain ⟨S,⟨rfl,hS⟩,hK⟩:=h
 refine ⟨_,hK,?_⟩
 clear hK
 have hR:decide (0≤ixP (fun t:SAction=>t.id==n) S.actions 0)=gV S n:=eg
 generalize gV S n=R at *
 refine ACalls.fW ak (tCq fV tNq) Tryz.func164 [.tmp 4] (nrq _) (T:=ag []) (h:=fun hcl hlt=>?_)
 clear hlt
 simp only [go_sem,aG,eT]
 refine ⟨S,⟨rfl,hS.al⟩,?_⟩
 have hR':decide (ixP (fun t:SAction=>t.id==n) S.actions 0 ≥ 0)=R:=hR
 simp only [aj,go_sem,hR']
 exact Z1
def jH (S:Sch) (n:Int):Bool:=n==0||(n==65535||S.states.any fun t=>t.id==n)
def dn:List AV→AHeap→(AV→Prop)→Prop
 |[.agg l,.int .i64 n],_,K=>∃ S:Sch,(l=aG S∧SLen S)∧K (.bool (jH S n))
 |_,_,_=>False
theorem zK:EntOk Tryz.prog 281 (Ent.pure dn):=by
 refine Ype fun _ H K h=>?_
 unfold dn at h
 split at h
 rotate_left
 ·exact h.elim
 rename_i l n
 obtain ⟨S,⟨rfl,hS⟩,hK⟩:=h
 refine ⟨_,hK,?_⟩
 clear hK
 unfold jH
 have hR':decide (ixP (fun t:SState=>t.id==n) S.states 0 ≥ 0)=S.states.any (fun t=>t.id==n):=eg
 generalize S.states.any (fun t=>t.id==n)=b at *
 refine ACalls.fW ak (tCq vL tNq) Tryz.func281 [.tmp 4] (nrq _) (T:=ag []) (h:=fun hcl hlt=>?_)
 clear hlt
 cases c1:n==0 with
 |true =>
  simp only [Bool.true_or]
  simp only [go_sem,aG,jA,c1]
  exact Z1
 |false =>
  cases c2:n==65535 with
  |true =>
   simp only [Bool.true_or,Bool.or_true]
   simp only [go_sem,aG,jA,c1,c2]
   exact Z1
  |false =>
   simp only [Bool.false_or]
   simp only [go_sem,aG,jA,c1,c2]
   refine ⟨S,⟨rfl,hS.sl⟩,?_⟩
   simp only [aj,go_sem,hR']
   exact Z1
def Ab:List AV→AHeap→(AV→Prop)→Prop
 |[x,.ptr c 0],H,K=>∃ (t:SCase) (S:Sch),(x=bH t∧H.get c=some (.cells (aG S))∧SLen S)∧K (.bool (jH S t.next))
 |_,_,_=>False
theorem ok_fSta1:EntOk Tryz.prog 282 (Ent.pure Ab):=by
 refine Ype fun _ H K h=>?_
 unfold Ab at h
 split at h
 rotate_left
 ·exact h.elim
 rename_i x c
 obtain ⟨t,S,⟨rfl,hg,hS⟩,hK⟩:=h
 refine ⟨_,hK,?_⟩
 clear hK
 have hl:=glq hg
 have hne:(c=H.nx)=False:=eq_false (by omega)
 have hcs:=au hg
 generalize hR:jH S t.next=R at *
 unfold bH vc
 unfold aG at hg hcs
 refine ACalls.fW ak (tCq zK tNq) Tryz.func282 [.tmp 3] (nrq _) (T:=ag []) (h:=fun hcl hlt=>?_)
 clear hlt
 simp only [go_sem,hcs,hne,hg,dn]
 refine ⟨S,⟨rfl,hS⟩,?_⟩
 simp only [aj,go_sem,hR]
 exact Z1
def vJ (S:Sch) (t:SState):Bool:=(t.header==0||j6 S t.header)&&((t.select==0||b7 S t.select)&&(jH S t.dflt&&t.cases.all fun c=>jH S c.next))
def De:List AV→AHeap→(AV→Prop)→Prop
 |[.agg l,x],_,K=>∃ (S:Sch) (t:SState),(l=aG S∧x=aH t∧SLen S∧t.cases.length≤1000000)∧K (.bool (vJ S t))
 |_,_,_=>False
theorem ok_fSta:EntOk Tryz.prog 152 (Ent.pure De):=by
 refine Ype fun _ H K h=>?_
 unfold De at h
 split at h
 rotate_left
 ·exact h.elim
 rename_i l x
 obtain ⟨S,t,⟨rfl,rfl,hS,hcl0⟩,hK⟩:=h
 refine ⟨_,hK,?_⟩
 clear hK
 generalize hR:vJ S t=R
 unfold vJ at hR
 unfold aH
 refine ACalls.fW ak (tCq ut (tCq ok_fFld (tCq zK (tCq wK tNq)))) Tryz.func152 [.tmp 4] (nrq _) (T:=ag []) (h:=fun hcl hlt=>?_)
 clear hlt
 unfold aG
 cases h0:t.header==0 with
 |true =>
  cases s0:t.select==0 with
  |true =>
   try simp only [aj,go_sem,bg,aQ,dn,bK,h0,s0]
   refine ⟨S,⟨rfl,hS⟩,?_⟩
   cases n1:jH S t.dflt with
   |false =>
    simp only [h0,s0,n1,Bool.true_and,Bool.false_and,Bool.and_true,Bool.and_false,Bool.true_or,Bool.false_or,Bool.or_true,Bool.or_false,Bool.not_true,Bool.not_false,if_true,if_false,reduceCtorEq,Bool.false_eq_true,ite_true,ite_false] at hR
    subst hR
    try simp only [aj,go_sem,bg,aQ,dn,bK,h0,s0,n1]
    exact Z1
   |true =>
    try simp only [aj,go_sem,bg,aQ,dn,bK,h0,s0,n1]
    refine ⟨t.cases,(fun c=>jH S c.next),⟨rfl,hcl0,fun x hx H' hle' hcl'=>by
     obtain ⟨v,hv,hc'⟩:=ok_fSta1.1 rfl [bH x,.ptr H.nx 0] H' (fun v=>v=.bool (jH S x.next)) ⟨x,S,⟨rfl,hle'.get _ _ (by (try simp only [go_sem]);first|done|rfl),hS⟩,rfl⟩
     subst hv
     exact hc'⟩,?_⟩
    cases k1:t.cases.all fun c=>jH S c.next with
    |false =>
     simp only [h0,s0,n1,k1,Bool.true_and,Bool.false_and,Bool.and_true,Bool.and_false,Bool.true_or,Bool.false_or,Bool.or_true,Bool.or_false,Bool.not_true,Bool.not_false,if_true,if_false,reduceCtorEq,Bool.false_eq_true,ite_true,ite_false] at hR
     subst hR
     try simp only [aj,go_sem,bg,aQ,dn,bK,h0,s0,n1,k1]
     exact Z1
    |true =>
     simp only [h0,s0,n1,k1,Bool.true_and,Bool.false_and,Bool.and_true,Bool.and_false,Bool.true_or,Bool.false_or,Bool.or_true,Bool.or_false,Bool.not_true,Bool.not_false,if_true,if_false,reduceCtorEq,Bool.false_eq_true,ite_true,ite_false] at hR
     subst hR
     try simp only [aj,go_sem,bg,aQ,dn,bK,h0,s0,n1,k1]
     exact Z1
  |false =>
   try simp only [aj,go_sem,bg,aQ,dn,bK,h0,s0]
   refine ⟨S,⟨rfl,hS⟩,?_⟩
   cases s1:b7 S t.select with
   |false =>
    simp only [h0,s0,s1,Bool.true_and,Bool.false_and,Bool.and_true,Bool.and_false,Bool.true_or,Bool.false_or,Bool.or_true,Bool.or_false,Bool.not_true,Bool.not_false,if_true,if_false,reduceCtorEq,Bool.false_eq_true,ite_true,ite_false] at hR
    subst hR
    try simp only [aj,go_sem,bg,aQ,dn,bK,h0,s0,s1]
    exact Z1
   |true =>
    try simp only [aj,go_sem,bg,aQ,dn,bK,h0,s0,s1]
    refine ⟨S,⟨rfl,hS⟩,?_⟩
    cases n1:jH S t.dflt with
    |false =>
     simp only [h0,s0,s1,n1,Bool.true_and,Bool.false_and,Bool.and_true,Bool.and_false,Bool.true_or,Bool.false_or,Bool.or_true,Bool.or_false,Bool.not_true,Bool.not_false,if_true,if_false,reduceCtorEq,Bool.false_eq_true,ite_true,ite_false] at hR
     subst hR
     try simp only [aj,go_sem,bg,aQ,dn,bK,h0,s0,s1,n1]
     exact Z1
    |true =>
     try simp only [aj,go_sem,bg,aQ,dn,bK,h0,s0,s1,n1]
     refine ⟨t.cases,(fun c=>jH S c.next),⟨rfl,hcl0,fun x hx H' hle' hcl'=>by
      obtain ⟨v,hv,hc'⟩:=ok_fSta1.1 rfl [bH x,.ptr H.nx 0] H' (fun v=>v=.bool (jH S x.next)) ⟨x,S,⟨rfl,hle'.get _ _ (by (try simp only [go_sem]);first|done|rfl),hS⟩,rfl⟩
      subst hv
      exact hc'⟩,?_⟩
     cases k1:t.cases.all fun c=>jH S c.next with
     |false =>
      simp only [h0,s0,s1,n1,k1,Bool.true_and,Bool.false_and,Bool.and_true,Bool.and_false,Bool.true_or,Bool.false_or,Bool.or_true,Bool.or_false,Bool.not_true,Bool.not_false,if_true,if_false,reduceCtorEq,Bool.false_eq_true,ite_true,ite_false] at hR
      subst hR
      try simp only [aj,go_sem,bg,aQ,dn,bK,h0,s0,s1,n1,k1]
      exact Z1
     |true =>
      simp only [h0,s0,s1,n1,k1,Bool.true_and,Bool.false_and,Bool.and_true,Bool.and_false,Bool.true_or,Bool.false_or,Bool.or_true,Bool.or_false,Bool.not_true,Bool.not_false,if_true,if_false,reduceCtorEq,Bool.false_eq_true,ite_true,ite_false] at hR
      subst hR
      try simp only [aj,go_sem,bg,aQ,dn,bK,h0,s0,s1,n1,k1]
      exact Z1
 |false =>
  try simp only [aj,go_sem,bg,aQ,dn,bK,h0]
  refine ⟨S,⟨rfl,hS⟩,?_⟩
  cases h1:j6 S t.header with
  |false =>
   simp only [h0,h1,Bool.true_and,Bool.false_and,Bool.and_true,Bool.and_false,Bool.true_or,Bool.false_or,Bool.or_true,Bool.or_false,Bool.not_true,Bool.not_false,if_true,if_false,reduceCtorEq,Bool.false_eq_true,ite_true,ite_false] at hR
   subst hR
   try simp only [aj,go_sem,bg,aQ,dn,bK,h0,h1]
   exact Z1
  |true =>
   cases s0:t.select==0 with
   |true =>
    try simp only [aj,go_sem,bg,aQ,dn,bK,h0,h1,s0]
    refine ⟨S,⟨rfl,hS⟩,?_⟩
    cases n1:jH S t.dflt with
    |false =>
     simp only [h0,h1,s0,n1,Bool.true_and,Bool.false_and,Bool.and_true,Bool.and_false,Bool.true_or,Bool.false_or,Bool.or_true,Bool.or_false,Bool.not_true,Bool.not_false,if_true,if_false,reduceCtorEq,Bool.false_eq_true,ite_true,ite_false] at hR
     subst hR
     try simp only [aj,go_sem,bg,aQ,dn,bK,h0,h1,s0,n1]
     exact Z1
    |true =>
     try simp only [aj,go_sem,bg,aQ,dn,bK,h0,h1,s0,n1]
     refine ⟨t.cases,(fun c=>jH S c.next),⟨rfl,hcl0,fun x hx H' hle' hcl'=>by
      obtain ⟨v,hv,hc'⟩:=ok_fSta1.1 rfl [bH x,.ptr H.nx 0] H' (fun v=>v=.bool (jH S x.next)) ⟨x,S,⟨rfl,hle'.get _ _ (by (try simp only [go_sem]);first|done|rfl),hS⟩,rfl⟩
      subst hv
      exact hc'⟩,?_⟩
     cases k1:t.cases.all fun c=>jH S c.next with
     |false =>
      simp only [h0,h1,s0,n1,k1,Bool.true_and,Bool.false_and,Bool.and_true,Bool.and_false,Bool.true_or,Bool.false_or,Bool.or_true,Bool.or_false,Bool.not_true,Bool.not_false,if_true,if_false,reduceCtorEq,Bool.false_eq_true,ite_true,ite_false] at hR
      subst hR
      try simp only [aj,go_sem,bg,aQ,dn,bK,h0,h1,s0,n1,k1]
      exact Z1
     |true =>
      simp only [h0,h1,s0,n1,k1,Bool.true_and,Bool.false_and,Bool.and_true,Bool.and_false,Bool.true_or,Bool.false_or,Bool.or_true,Bool.or_false,Bool.not_true,Bool.not_false,if_true,if_false,reduceCtorEq,Bool.false_eq_true,ite_true,ite_false] at hR
      subst hR
      try simp only [aj,go_sem,bg,aQ,dn,bK,h0,h1,s0,n1,k1]
      exact Z1
   |false =>
    try simp only [aj,go_sem,bg,aQ,dn,bK,h0,h1,s0]
    refine ⟨S,⟨rfl,hS⟩,?_⟩
    cases s1:b7 S t.select with
    |false =>
     simp only [h0,h1,s0,s1,Bool.true_and,Bool.false_and,Bool.and_true,Bool.and_false,Bool.true_or,Bool.false_or,Bool.or_true,Bool.or_false,Bool.not_true,Bool.not_false,if_true,if_false,reduceCtorEq,Bool.false_eq_true,ite_true,ite_false] at hR
     subst hR
     try simp only [aj,go_sem,bg,aQ,dn,bK,h0,h1,s0,s1]
     exact Z1
    |true =>
     try simp only [aj,go_sem,bg,aQ,dn,bK,h0,h1,s0,s1]
     refine ⟨S,⟨rfl,hS⟩,?_⟩
     cases n1:jH S t.dflt with
     |false =>
      simp only [h0,h1,s0,s1,n1,Bool.true_and,Bool.false_and,Bool.and_true,Bool.and_false,Bool.true_or,Bool.false_or,Bool.or_true,Bool.or_false,Bool.not_true,Bool.not_false,if_true,if_false,reduceCtorEq,Bool.false_eq_true,ite_true,ite_false] at hR
      subst hR
      try simp only [aj,go_sem,bg,aQ,dn,bK,h0,h1,s0,s1,n1]
      exact Z1
     |true =>
      try simp only [aj,go_sem,bg,aQ,dn,bK,h0,h1,s0,s1,n1]
      refine ⟨t.cases,(fun c=>jH S c.next),⟨rfl,hcl0,fun x hx H' hle' hcl'=>by
       obtain ⟨v,hv,hc'⟩:=ok_fSta1.1 rfl [bH x,.ptr H.nx 0] H' (fun v=>v=.bool (jH S x.next)) ⟨x,S,⟨rfl,hle'.get _ _ (by (try simp only [go_sem]);first|done|rfl),hS⟩,rfl⟩
       subst hv
       exact hc'⟩,?_⟩
      cases k1:t.cases.all fun c=>jH S c.next with
      |false =>
       simp only [h0,h1,s0,s1,n1,k1,Bool.true_and,Bool.false_and,Bool.and_true,Bool.and_false,Bool.true_or,Bool.false_or,Bool.or_true,Bool.or_false,Bool.not_true,Bool.not_false,if_true,if_false,reduceCtorEq,Bool.false_eq_true,ite_true,ite_false] at hR
       subst hR
       try simp only [aj,go_sem,bg,aQ,dn,bK,h0,h1,s0,s1,n1,k1]
       exact Z1
      |true =>
       simp only [h0,h1,s0,s1,n1,k1,Bool.true_and,Bool.false_and,Bool.and_true,Bool.and_false,Bool.true_or,Bool.false_or,Bool.or_true,Bool.or_false,Bool.not_true,Bool.not_false,if_true,if_false,reduceCtorEq,Bool.false_eq_true,ite_true,ite_false] at hR
       subst hR
       try simp only [aj,go_sem,bg,aQ,dn,bK,h0,h1,s0,s1,n1,k1]
       exact Z1
def nI (S:Sch) (np:Nat) (p:SPrim):Bool :=
 if p.op==1||(p.op==2||p.op==3) then b7 S p.dst&&(if p.kind==2 then b7 S p.n else if p.kind==3 then decide (p.n<(np:Int)) else true)
 else if p.op==4||p.op==5 then j6 S p.dst
 else if p.kind==2 then b7 S p.n else if p.kind==3 then decide (p.n<(np:Int)) else true
def yx:List AV→AHeap→(AV→Prop)→Prop
 |[.agg l,x,y],_,K=>∃ (S:Sch) (a:SAction) (p:SPrim),(l=aG S∧x=ap a∧y=bv p∧SLen S)∧K (.bool (nI S a.params.length p))
 |_,_,_=>False
theorem I5:EntOk Tryz.prog 155 (Ent.pure yx):=by
 refine Ype fun _ H K h=>?_
 unfold yx at h
 split at h
 rotate_left
 ·exact h.elim
 rename_i l x y
 obtain ⟨S,a,p,⟨rfl,rfl,rfl,hS⟩,hK⟩:=h
 refine ⟨_,hK,?_⟩
 clear hK
 generalize hR:nI S a.params.length p=R
 unfold nI at hR
 unfold ap bv vc
 refine ACalls.fW ak (tCq ut (tCq ok_fFld tNq)) Tryz.func155 [.tmp 6] (nrq _) (T:=ag []) (h:=fun hcl hlt=>?_)
 clear hlt
 unfold aG
 cases o1:p.op==1 with
 |false =>
  cases o2:p.op==2 with
  |false =>
   cases o3:p.op==3 with
   |false =>
    cases o4:p.op==4 with
    |false =>
     cases o5:p.op==5 with
     |false =>
      cases k2:p.kind==2 with
      |false =>
       cases k3:p.kind==3 with
       |false =>
        simp only [o1,o2,o3,o4,o5,k2,k3,Bool.true_and,Bool.false_and,Bool.and_true,Bool.and_false,Bool.true_or,Bool.false_or,Bool.or_true,Bool.or_false,Bool.not_true,Bool.not_false,if_true,if_false,reduceCtorEq,Bool.false_eq_true,ite_true,ite_false] at hR
        subst hR
        try simp only [aj,go_sem,bg,aQ,ybb,o1,o2,o3,o4,o5,k2,k3]
        exact Z1
       |true =>
        cases x3:decide (p.n<(a.params.length:Int)) with
        |false =>
         simp only [o1,o2,o3,o4,o5,k2,k3,x3,Bool.true_and,Bool.false_and,Bool.and_true,Bool.and_false,Bool.true_or,Bool.false_or,Bool.or_true,Bool.or_false,Bool.not_true,Bool.not_false,if_true,if_false,reduceCtorEq,Bool.false_eq_true,ite_true,ite_false] at hR
         subst hR
         try simp only [aj,go_sem,bg,aQ,ybb,o1,o2,o3,o4,o5,k2,k3,x3]
         exact Z1
        |true =>
         simp only [o1,o2,o3,o4,o5,k2,k3,x3,Bool.true_and,Bool.false_and,Bool.and_true,Bool.and_false,Bool.true_or,Bool.false_or,Bool.or_true,Bool.or_false,Bool.not_true,Bool.not_false,if_true,if_false,reduceCtorEq,Bool.false_eq_true,ite_true,ite_false] at hR
         subst hR
         try simp only [aj,go_sem,bg,aQ,ybb,o1,o2,o3,o4,o5,k2,k3,x3]
         exact Z1
      |true =>
       try simp only [aj,go_sem,bg,aQ,ybb,o1,o2,o3,o4,o5,k2]
       refine ⟨S,⟨rfl,hS⟩,?_⟩
       cases x2:b7 S p.n with
       |false =>
        simp only [o1,o2,o3,o4,o5,k2,x2,Bool.true_and,Bool.false_and,Bool.and_true,Bool.and_false,Bool.true_or,Bool.false_or,Bool.or_true,Bool.or_false,Bool.not_true,Bool.not_false,if_true,if_false,reduceCtorEq,Bool.false_eq_true,ite_true,ite_false] at hR
        subst hR
        try simp only [aj,go_sem,bg,aQ,ybb,o1,o2,o3,o4,o5,k2,x2]
        exact Z1
       |true =>
        simp only [o1,o2,o3,o4,o5,k2,x2,Bool.true_and,Bool.false_and,Bool.and_true,Bool.and_false,Bool.true_or,Bool.false_or,Bool.or_true,Bool.or_false,Bool.not_true,Bool.not_false,if_true,if_false,reduceCtorEq,Bool.false_eq_true,ite_true,ite_false] at hR
        subst hR
        try simp only [aj,go_sem,bg,aQ,ybb,o1,o2,o3,o4,o5,k2,x2]
        exact Z1
     |true =>
      try simp only [aj,go_sem,bg,aQ,ybb,o1,o2,o3,o4,o5]
      refine ⟨S,⟨rfl,hS⟩,?_⟩
      cases d2:j6 S p.dst with
      |false =>
       simp only [o1,o2,o3,o4,o5,d2,Bool.true_and,Bool.false_and,Bool.and_true,Bool.and_false,Bool.true_or,Bool.false_or,Bool.or_true,Bool.or_false,Bool.not_true,Bool.not_false,if_true,if_false,reduceCtorEq,Bool.false_eq_true,ite_true,ite_false] at hR
       subst hR
       try simp only [aj,go_sem,bg,aQ,ybb,o1,o2,o3,o4,o5,d2]
       exact Z1
      |true =>
       simp only [o1,o2,o3,o4,o5,d2,Bool.true_and,Bool.false_and,Bool.and_true,Bool.and_false,Bool.true_or,Bool.false_or,Bool.or_true,Bool.or_false,Bool.not_true,Bool.not_false,if_true,if_false,reduceCtorEq,Bool.false_eq_true,ite_true,ite_false] at hR
       subst hR
       try simp only [aj,go_sem,bg,aQ,ybb,o1,o2,o3,o4,o5,d2]
       exact Z1
    |true =>
     try simp only [aj,go_sem,bg,aQ,ybb,o1,o2,o3,o4]
     refine ⟨S,⟨rfl,hS⟩,?_⟩
     cases d2:j6 S p.dst with
     |false =>
      simp only [o1,o2,o3,o4,d2,Bool.true_and,Bool.false_and,Bool.and_true,Bool.and_false,Bool.true_or,Bool.false_or,Bool.or_true,Bool.or_false,Bool.not_true,Bool.not_false,if_true,if_false,reduceCtorEq,Bool.false_eq_true,ite_true,ite_false] at hR
      subst hR
      try simp only [aj,go_sem,bg,aQ,ybb,o1,o2,o3,o4,d2]
      exact Z1
     |true =>
      simp only [o1,o2,o3,o4,d2,Bool.true_and,Bool.false_and,Bool.and_true,Bool.and_false,Bool.true_or,Bool.false_or,Bool.or_true,Bool.or_false,Bool.not_true,Bool.not_false,if_true,if_false,reduceCtorEq,Bool.false_eq_true,ite_true,ite_false] at hR
      subst hR
      try simp only [aj,go_sem,bg,aQ,ybb,o1,o2,o3,o4,d2]
      exact Z1
   |true =>
    try simp only [aj,go_sem,bg,aQ,ybb,o1,o2,o3]
    refine ⟨S,⟨rfl,hS⟩,?_⟩
    cases d1:b7 S p.dst with
    |false =>
     simp only [o1,o2,o3,d1,Bool.true_and,Bool.false_and,Bool.and_true,Bool.and_false,Bool.true_or,Bool.false_or,Bool.or_true,Bool.or_false,Bool.not_true,Bool.not_false,if_true,if_false,reduceCtorEq,Bool.false_eq_true,ite_true,ite_false] at hR
     subst hR
     try simp only [aj,go_sem,bg,aQ,ybb,o1,o2,o3,d1]
     exact Z1
    |true =>
     cases k2:p.kind==2 with
     |false =>
      cases k3:p.kind==3 with
      |false =>
       simp only [o1,o2,o3,d1,k2,k3,Bool.true_and,Bool.false_and,Bool.and_true,Bool.and_false,Bool.true_or,Bool.false_or,Bool.or_true,Bool.or_false,Bool.not_true,Bool.not_false,if_true,if_false,reduceCtorEq,Bool.false_eq_true,ite_true,ite_false] at hR
       subst hR
       try simp only [aj,go_sem,bg,aQ,ybb,o1,o2,o3,d1,k2,k3]
       exact Z1
      |true =>
       cases x3:decide (p.n<(a.params.length:Int)) with
       |false =>
        simp only [o1,o2,o3,d1,k2,k3,x3,Bool.true_and,Bool.false_and,Bool.and_true,Bool.and_false,Bool.true_or,Bool.false_or,Bool.or_true,Bool.or_false,Bool.not_true,Bool.not_false,if_true,if_false,reduceCtorEq,Bool.false_eq_true,ite_true,ite_false] at hR
        subst hR
        try simp only [aj,go_sem,bg,aQ,ybb,o1,o2,o3,d1,k2,k3,x3]
        exact Z1
       |true =>
        simp only [o1,o2,o3,d1,k2,k3,x3,Bool.true_and,Bool.false_and,Bool.and_true,Bool.and_false,Bool.true_or,Bool.false_or,Bool.or_true,Bool.or_false,Bool.not_true,Bool.not_false,if_true,if_false,reduceCtorEq,Bool.false_eq_true,ite_true,ite_false] at hR
        subst hR
        try simp only [aj,go_sem,bg,aQ,ybb,o1,o2,o3,d1,k2,k3,x3]
        exact Z1
     |true =>
      try simp only [aj,go_sem,bg,aQ,ybb,o1,o2,o3,d1,k2]
      refine ⟨S,⟨rfl,hS⟩,?_⟩
      cases x2:b7 S p.n with
      |false =>
       simp only [o1,o2,o3,d1,k2,x2,Bool.true_and,Bool.false_and,Bool.and_true,Bool.and_false,Bool.true_or,Bool.false_or,Bool.or_true,Bool.or_false,Bool.not_true,Bool.not_false,if_true,if_false,reduceCtorEq,Bool.false_eq_true,ite_true,ite_false] at hR
       subst hR
       try simp only [aj,go_sem,bg,aQ,ybb,o1,o2,o3,d1,k2,x2]
       exact Z1
      |true =>
       simp only [o1,o2,o3,d1,k2,x2,Bool.true_and,Bool.false_and,Bool.and_true,Bool.and_false,Bool.true_or,Bool.false_or,Bool.or_true,Bool.or_false,Bool.not_true,Bool.not_false,if_true,if_false,reduceCtorEq,Bool.false_eq_true,ite_true,ite_false] at hR
       subst hR
       try simp only [aj,go_sem,bg,aQ,ybb,o1,o2,o3,d1,k2,x2]
       exact Z1
  |true =>
   try simp only [aj,go_sem,bg,aQ,ybb,o1,o2]
   refine ⟨S,⟨rfl,hS⟩,?_⟩
   cases d1:b7 S p.dst with
   |false =>
    simp only [o1,o2,d1,Bool.true_and,Bool.false_and,Bool.and_true,Bool.and_false,Bool.true_or,Bool.false_or,Bool.or_true,Bool.or_false,Bool.not_true,Bool.not_false,if_true,if_false,reduceCtorEq,Bool.false_eq_true,ite_true,ite_false] at hR
    subst hR
    try simp only [aj,go_sem,bg,aQ,ybb,o1,o2,d1]
    exact Z1
   |true =>
    cases k2:p.kind==2 with
    |false =>
     cases k3:p.kind==3 with
     |false =>
      simp only [o1,o2,d1,k2,k3,Bool.true_and,Bool.false_and,Bool.and_true,Bool.and_false,Bool.true_or,Bool.false_or,Bool.or_true,Bool.or_false,Bool.not_true,Bool.not_false,if_true,if_false,reduceCtorEq,Bool.false_eq_true,ite_true,ite_false] at hR
      subst hR
      try simp only [aj,go_sem,bg,aQ,ybb,o1,o2,d1,k2,k3]
      exact Z1
     |true =>
      cases x3:decide (p.n<(a.params.length:Int)) with
      |false =>
       simp only [o1,o2,d1,k2,k3,x3,Bool.true_and,Bool.false_and,Bool.and_true,Bool.and_false,Bool.true_or,Bool.false_or,Bool.or_true,Bool.or_false,Bool.not_true,Bool.not_false,if_true,if_false,reduceCtorEq,Bool.false_eq_true,ite_true,ite_false] at hR
       subst hR
       try simp only [aj,go_sem,bg,aQ,ybb,o1,o2,d1,k2,k3,x3]
       exact Z1
      |true =>
       simp only [o1,o2,d1,k2,k3,x3,Bool.true_and,Bool.false_and,Bool.and_true,Bool.and_false,Bool.true_or,Bool.false_or,Bool.or_true,Bool.or_false,Bool.not_true,Bool.not_false,if_true,if_false,reduceCtorEq,Bool.false_eq_true,ite_true,ite_false] at hR
       subst hR
       try simp only [aj,go_sem,bg,aQ,ybb,o1,o2,d1,k2,k3,x3]
       exact Z1
    |true =>
     try simp only [aj,go_sem,bg,aQ,ybb,o1,o2,d1,k2]
     refine ⟨S,⟨rfl,hS⟩,?_⟩
     cases x2:b7 S p.n with
     |false =>
      simp only [o1,o2,d1,k2,x2,Bool.true_and,Bool.false_and,Bool.and_true,Bool.and_false,Bool.true_or,Bool.false_or,Bool.or_true,Bool.or_false,Bool.not_true,Bool.not_false,if_true,if_false,reduceCtorEq,Bool.false_eq_true,ite_true,ite_false] at hR
      subst hR
      try simp only [aj,go_sem,bg,aQ,ybb,o1,o2,d1,k2,x2]
      exact Z1
     |true =>
      simp only [o1,o2,d1,k2,x2,Bool.true_and,Bool.false_and,Bool.and_true,Bool.and_false,Bool.true_or,Bool.false_or,Bool.or_true,Bool.or_false,Bool.not_true,Bool.not_false,if_true,if_false,reduceCtorEq,Bool.false_eq_true,ite_true,ite_false] at hR
      subst hR
      try simp only [aj,go_sem,bg,aQ,ybb,o1,o2,d1,k2,x2]
      exact Z1
 |true =>
  try simp only [aj,go_sem,bg,aQ,ybb,o1]
  refine ⟨S,⟨rfl,hS⟩,?_⟩
  cases d1:b7 S p.dst with
  |false =>
   simp only [o1,d1,Bool.true_and,Bool.false_and,Bool.and_true,Bool.and_false,Bool.true_or,Bool.false_or,Bool.or_true,Bool.or_false,Bool.not_true,Bool.not_false,if_true,if_false,reduceCtorEq,Bool.false_eq_true,ite_true,ite_false] at hR
   subst hR
   try simp only [aj,go_sem,bg,aQ,ybb,o1,d1]
   exact Z1
  |true =>
   cases k2:p.kind==2 with
   |false =>
    cases k3:p.kind==3 with
    |false =>
     simp only [o1,d1,k2,k3,Bool.true_and,Bool.false_and,Bool.and_true,Bool.and_false,Bool.true_or,Bool.false_or,Bool.or_true,Bool.or_false,Bool.not_true,Bool.not_false,if_true,if_false,reduceCtorEq,Bool.false_eq_true,ite_true,ite_false] at hR
     subst hR
     try simp only [aj,go_sem,bg,aQ,ybb,o1,d1,k2,k3]
     exact Z1
    |true =>
     cases x3:decide (p.n<(a.params.length:Int)) with
     |false =>
      simp only [o1,d1,k2,k3,x3,Bool.true_and,Bool.false_and,Bool.and_true,Bool.and_false,Bool.true_or,Bool.false_or,Bool.or_true,Bool.or_false,Bool.not_true,Bool.not_false,if_true,if_false,reduceCtorEq,Bool.false_eq_true,ite_true,ite_false] at hR
      subst hR
      try simp only [aj,go_sem,bg,aQ,ybb,o1,d1,k2,k3,x3]
      exact Z1
     |true =>
      simp only [o1,d1,k2,k3,x3,Bool.true_and,Bool.false_and,Bool.and_true,Bool.and_false,Bool.true_or,Bool.false_or,Bool.or_true,Bool.or_false,Bool.not_true,Bool.not_false,if_true,if_false,reduceCtorEq,Bool.false_eq_true,ite_true,ite_false] at hR
      subst hR
      try simp only [aj,go_sem,bg,aQ,ybb,o1,d1,k2,k3,x3]
      exact Z1
   |true =>
    try simp only [aj,go_sem,bg,aQ,ybb,o1,d1,k2]
    refine ⟨S,⟨rfl,hS⟩,?_⟩
    cases x2:b7 S p.n with
    |false =>
     simp only [o1,d1,k2,x2,Bool.true_and,Bool.false_and,Bool.and_true,Bool.and_false,Bool.true_or,Bool.false_or,Bool.or_true,Bool.or_false,Bool.not_true,Bool.not_false,if_true,if_false,reduceCtorEq,Bool.false_eq_true,ite_true,ite_false] at hR
     subst hR
     try simp only [aj,go_sem,bg,aQ,ybb,o1,d1,k2,x2]
     exact Z1
    |true =>
     simp only [o1,d1,k2,x2,Bool.true_and,Bool.false_and,Bool.and_true,Bool.and_false,Bool.true_or,Bool.false_or,Bool.or_true,Bool.or_false,Bool.not_true,Bool.not_false,if_true,if_false,reduceCtorEq,Bool.false_eq_true,ite_true,ite_false] at hR
     subst hR
     try simp only [aj,go_sem,bg,aQ,ybb,o1,d1,k2,x2]
     exact Z1
def Au:List AV→AHeap→(AV→Prop)→Prop
 |[x,.ptr c 0],H,K=>∃ (t:SKey) (S:Sch),(x=br t∧H.get c=some (.cells (aG S))∧SLen S)∧K (.bool (b7 S t.field))
 |_,_,_=>False
theorem ok_fDec1:EntOk Tryz.prog 283 (Ent.pure Au):=by
 refine Ype fun _ H K h=>?_
 unfold Au at h
 split at h
 rotate_left
 ·exact h.elim
 rename_i x c
 obtain ⟨t,S,⟨rfl,hg,hS⟩,hK⟩:=h
 refine ⟨_,hK,?_⟩
 clear hK
 have hl:=glq hg
 have hne:(c=H.nx)=False:=eq_false (by omega)
 have hcs:=au hg
 generalize hR:b7 S t.field=R at *
 unfold br
 unfold aG at hg hcs
 refine ACalls.fW ak (tCq ok_fFld tNq) Tryz.func283 [.tmp 3] (nrq _) (T:=ag []) (h:=fun hcl hlt=>?_)
 clear hlt
 simp only [go_sem,hcs,hne,hg,aQ]
 refine ⟨S,⟨rfl,hS⟩,?_⟩
 simp only [aj,go_sem,hR]
 exact Z1
def p8 (S:Sch) (t:STable):Bool:=(t.keys.all fun k=>b7 S k.field)&&((t.actions.all fun a=>gV S a)&&t.actions.contains t.dflt)
def G4:List AV→AHeap→(AV→Prop)→Prop
 |[.agg l,x],_,K=>∃ (S:Sch) (t:STable),(l=aG S∧x=aq t∧SLen S∧t.keys.length≤1000000∧t.actions.length≤1000000)∧K (.bool (p8 S t))
 |_,_,_=>False
theorem ok_fDec:EntOk Tryz.prog 156 (Ent.pure G4):=by
 refine Ype fun _ H K h=>?_
 unfold G4 at h
 split at h
 rotate_left
 ·exact h.elim
 rename_i l x
 obtain ⟨S,t,⟨rfl,rfl,hS,hkl,hal⟩,hK⟩:=h
 refine ⟨_,hK,?_⟩
 clear hK
 generalize hR:p8 S t=R
 unfold p8 at hR
 unfold aq
 refine ACalls.fW ak (tCq wV (tCq qq (tCq nr tNq))) Tryz.func156 [.tmp 4] (nrq _) (T:=ag []) (h:=fun hcl hlt=>?_)
 clear hlt
 unfold aG
 try simp only [aj,go_sem,gJ,cD,fg,inL]
 refine ⟨t.keys,(fun k=>b7 S k.field),⟨rfl,hkl,fun x hx H' hle' hcl'=>by
  obtain ⟨v,hv,hc'⟩:=ok_fDec1.1 rfl [br x,.ptr H.nx 0] H' (fun v=>v=.bool (b7 S x.field)) ⟨x,S,⟨rfl,hle'.get _ _ (by (try simp only [go_sem]);first|done|rfl),hS⟩,rfl⟩
  subst hv
  exact hc'⟩,?_⟩
 cases k1:t.keys.all (fun k=>b7 S k.field) with
 |false =>
  simp only [k1,Bool.true_and,Bool.false_and,Bool.and_true,Bool.and_false,Bool.true_or,Bool.false_or,Bool.or_true,Bool.or_false,Bool.not_true,Bool.not_false,if_true,if_false,reduceCtorEq,Bool.false_eq_true,ite_true,ite_false] at hR
  subst hR
  try simp only [aj,go_sem,gJ,cD,fg,inL,k1]
  exact Z1
 |true =>
  try simp only [aj,go_sem,gJ,cD,fg,inL,k1]
  refine ⟨t.actions,(fun a=>gV S a),⟨rfl,hal,fun x hx H' hle' hcl'=>by
   obtain ⟨v,hv,hc'⟩:=ok_fAct.1 rfl [.agg (aG S),.int .i64 x] H' (fun v=>v=.bool (gV S x)) ⟨S,⟨rfl,hS⟩,rfl⟩
   subst hv
   exact hc'⟩,?_⟩
  cases k2:t.actions.all (fun a=>gV S a) with
  |false =>
   simp only [k1,k2,Bool.true_and,Bool.false_and,Bool.and_true,Bool.and_false,Bool.true_or,Bool.false_or,Bool.or_true,Bool.or_false,Bool.not_true,Bool.not_false,if_true,if_false,reduceCtorEq,Bool.false_eq_true,ite_true,ite_false] at hR
   subst hR
   try simp only [aj,go_sem,gJ,cD,fg,inL,k1,k2]
   exact Z1
  |true =>
   try simp only [aj,go_sem,gJ,cD,fg,inL,k1,k2]
   refine ⟨t.actions,⟨rfl,hal⟩,?_⟩
   cases k3:t.actions.contains t.dflt with
   |false =>
    simp only [k1,k2,k3,Bool.true_and,Bool.false_and,Bool.and_true,Bool.and_false,Bool.true_or,Bool.false_or,Bool.or_true,Bool.or_false,Bool.not_true,Bool.not_false,if_true,if_false,reduceCtorEq,Bool.false_eq_true,ite_true,ite_false] at hR
    subst hR
    try simp only [aj,go_sem,gJ,cD,fg,inL,k1,k2,k3]
    exact Z1
   |true =>
    simp only [k1,k2,k3,Bool.true_and,Bool.false_and,Bool.and_true,Bool.and_false,Bool.true_or,Bool.false_or,Bool.or_true,Bool.or_false,Bool.not_true,Bool.not_false,if_true,if_false,reduceCtorEq,Bool.false_eq_true,ite_true,ite_false] at hR
    subst hR
    try simp only [aj,go_sem,gJ,cD,fg,inL,k1,k2,k3]
    exact Z1
theorem AN {α:Type} (q:α→Bool) (l:List α):(ixP q l 0 = -1∧l.find? q=none)∨∃ (i:Nat) (x:α),ixP q l 0=(i:Int)∧l[i]?=some x∧l.find? q=some x∧i<l.length:=by
 obtain ⟨b1,b2⟩:=zb (q:=q) (l:=l) (k:=0)
 rcases b2 with b2|b2
 ·exact .inl ⟨b2,xH b2⟩
 ·obtain ⟨i,hi⟩:∃ i:Nat,ixP q l 0=((0+i:Nat):Int):=⟨(ixP q l 0).toNat,by omega⟩
  obtain ⟨x,h1,h2,h3⟩:=zV hi
  rw [nzq] at hi
  refine .inr ⟨i,x,hi,h1,h3,?_⟩
  rcases Nat.lt_or_ge i l.length with h|h
  ·exact h
  ·rw [gNq h] at h1;cases h1
def rk (S:Sch) (x:SRef):Bool :=
 match S.tables.find? (fun t=>t.id==x.table),S.tables.find? (fun t=>t.id==x.toTable) with
 |some a,some b=>decide (x.toKey<(b.keys.length:Int))&&(if x.action==0 then decide (x.key<(a.keys.length:Int)) else a.actions.contains x.action&&(match S.actions.find? (fun t=>t.id==x.action) with|some c=>decide (x.param<(c.params.length:Int))|none=>false))
 |_,_=>false
def Ev:List AV→AHeap→(AV→Prop)→Prop
 |[.agg l,x],_,K=>∃ (S:Sch) (t:SRef),(l=aG S∧x=bL t∧SB S∧∀ t∈S.tables,∀ a∈t.actions,gV S a=true)∧K (.bool (rk S t))
 |_,_,_=>False
theorem ok_fRef:EntOk Tryz.prog 165 (Ent.pure Ev):=by
 refine Ype fun _ H K h=>?_
 unfold Ev at h
 split at h
 rotate_left
 ·exact h.elim
 rename_i l x
 obtain ⟨S,r,⟨rfl,rfl,hS,hA⟩,hK⟩:=h
 refine ⟨_,hK,?_⟩
 clear hK
 generalize hR:rk S r=R
 unfold rk at hR
 unfold bL
 have htl:=hS.sl.tl
 have hsl:=hS.sl.al
 rcases AN (fun t:STable=>t.id==r.table) S.tables with ⟨i1,f1⟩|⟨i,a,i1,g1,f1,l1⟩
 ·simp only [f1] at hR
  subst hR
  have d1:decide ((-1:Int)<0)=true:=rfl
  refine ACalls.fW ak (tCq fC (tCq nr (tCq fV tNq))) Tryz.func165 [.tmp 4] (nrq _) (T:=ag [(1,[[],[],[],[],[1,3],[],[],[],[],[1,3,4,6,8]]),(6,[[],[],[],[],[],[],[],[],[],[2,6,8],[],[],[9],[],[],[9],[],[9],[],[9],[2,6,8,9,17,19],[],[],[9,20]])]) (h:=fun hcl hlt=>?_)
  clear hlt
  unfold aG
  simp only [go_sem,cY,fg,eT,i1]
  refine ⟨S,⟨rfl,htl⟩,?_⟩
  simp only [aj,go_sem,cY,i1]
  refine ⟨S,⟨rfl,htl⟩,?_⟩
  simp only [aj,go_sem,i1,d1]
  exact Z1
 ·have d1:decide ((i:Int)<0)=false:=dfq (by omega)
  rcases AN (fun t:STable=>t.id==r.toTable) S.tables with ⟨i2,f2⟩|⟨j,b,i2,g2,f2,l2⟩
  ·simp only [f1,f2] at hR
   subst hR
   have d2:decide ((-1:Int)<0)=true:=rfl
   refine ACalls.fW ak (tCq fC (tCq nr (tCq fV tNq))) Tryz.func165 [.tmp 4] (nrq _) (T:=ag [(1,[[],[],[],[],[1,3],[],[],[],[],[1,3,4,6,8]]),(6,[[],[],[],[],[],[],[],[],[],[2,6,8],[],[],[9],[],[],[9],[],[9],[],[9],[2,6,8,9,17,19],[],[],[9,20]])]) (h:=fun hcl hlt=>?_)
   clear hlt
   unfold aG
   simp only [go_sem,cY,fg,eT,i1]
   refine ⟨S,⟨rfl,htl⟩,?_⟩
   simp only [aj,go_sem,cY,i1,i2]
   refine ⟨S,⟨rfl,htl⟩,?_⟩
   simp only [aj,go_sem,i1,i2,d1,d2]
   exact Z1
  ·simp only [f1,f2] at hR
   have d2:decide ((j:Int)<0)=false:=dfq (by omega)
   have ga:=aO (f:=aq) (l:=S.tables) (k:=i) (x:=a) g1
   have gb:=aO (f:=aq) (l:=S.tables) (k:=j) (x:=b) g2
   have hca:aq a=.agg [.int .i64 a.id,.str a.name,.slice .any 3 (a.keys.map br),.slice .any 1 (inL a.actions),.int .i64 a.dflt,.slice .any 2 (a.dargs.map vv),.int .i64 a.size,.str a.restr]:=rfl
   have hcb:aq b=.agg [.int .i64 b.id,.str b.name,.slice .any 3 (b.keys.map br),.slice .any 1 (inL b.actions),.int .i64 b.dflt,.slice .any 2 (b.dargs.map vv),.int .i64 b.size,.str b.restr]:=rfl
   rw [hca] at ga
   rw [hcb] at gb
   have hma:a∈S.tables:=List.mem_of_getElem? g1
   obtain ⟨c0,h0⟩:∃ c,decide (r.toKey<(b.keys.length:Int))=c:=⟨_,rfl⟩
   have d0:decide (r.toKey ≥ (b.keys.length:Int))=!c0:=by
    rw [← h0]
    by_cases h:r.toKey<(b.keys.length:Int)
    ·rw [dtq h,dfq (by omega)];rfl
    ·rw [dfq h,dtq (by omega)];rfl
   rw [h0] at hR
   refine ACalls.fW ak (tCq fC (tCq nr (tCq fV tNq))) Tryz.func165 [.tmp 4] (nrq _) (T:=ag [(1,[[],[],[],[],[1,3],[],[],[],[],[1,3,4,6,8]]),(6,[[],[],[],[],[],[],[],[],[],[2,6,8],[],[],[9],[],[],[9],[],[9],[],[9],[2,6,8,9,17,19],[],[],[9,20]])]) (h:=fun hcl hlt=>?_)
   clear hlt
   unfold aG
   simp only [go_sem,cY,fg,eT,i1]
   refine ⟨S,⟨rfl,htl⟩,?_⟩
   simp only [aj,go_sem,cY,i1,i2]
   refine ⟨S,⟨rfl,htl⟩,?_⟩
   simp only [aj,go_sem,i1,i2,d1,d2,gb,d0,iNq,ybb]
   try (repeat with_reducible refine Yq ?_)
   cases c0 with
   |false =>
    rw [Bool.false_and] at hR
    subst hR
    try simp only [go_sem]
    try (repeat with_reducible refine Yq ?_)
    exact Z1
   |true =>
    rw [Bool.true_and] at hR
    cases ca:r.action==0 with
    |true =>
     rw [ca,if_pos rfl] at hR
     subst hR
     try simp only [go_sem,ca,ga,iNq,ybb]
     try (repeat with_reducible refine Yq ?_)
     exact Z1
    |false =>
     rw [ca,if_neg Bool.false_ne_true] at hR
     try simp only [go_sem,ca,ga,iNq,ybb]
     try (repeat with_reducible refine Yq ?_)
     have hal:=(hS.tn a hma).2.2.1
     refine ⟨a.actions,⟨rfl,hal⟩,?_⟩
     cases cc:a.actions.contains r.action with
     |false =>
      rw [cc,Bool.false_and] at hR
      subst hR
      simp only [aj,go_sem,cc]
      try (repeat with_reducible refine Yq ?_)
      exact Z1
     |true =>
      rw [cc,Bool.true_and] at hR
      have hmem:r.action∈a.actions:=by simpa using cc
      have hany:=hA a hma _ hmem
      rcases AN (fun t:SAction=>t.id==r.action) S.actions with ⟨_,f3⟩|⟨m,c,i3,g3,f3,l3⟩
      ·exfalso
       unfold gV at hany
       rw [List.any_eq_true] at hany
       obtain ⟨y,hy,hy2⟩:=hany
       exact absurd hy2 (by have:=List.find?_eq_none.1 f3 y hy;simpa using this)
      ·simp only [f3] at hR
       subst hR
       have gc:=aO (f:=ap) (l:=S.actions) (k:=m) (x:=c) g3
       have hcc:ap c=.agg [.int .i64 c.id,.str c.name,.slice .any 2 (c.params.map bb),.slice .any 6 (c.body.map bv),.str c.restr]:=rfl
       rw [hcc] at gc
       simp only [aj,go_sem,cc,eT]
       refine ⟨S,⟨rfl,hsl⟩,?_⟩
       simp only [aj,go_sem,i3,gc,iNq,ybb]
       try (repeat with_reducible refine Yq ?_)
       exact Z1
def zl (S:Sch) (t:SHeader):Bool:=t.fields.all fun n=>b7 S n
def yN (S:Sch) (t:SAction):Bool:=t.body.all fun p=>nI S t.params.length p
def yi (S:Sch) (t:SStage):Bool:=gt S t.table&&(t.header==0||j6 S t.header)
def wj (S:Sch) (t:SRole):Bool:=(t.grants.all fun g=>gt S g.table)&&t.actions.all fun a=>gV S a
def JG:List AV→AHeap→(AV→Prop)→Prop
 |[x,.ptr c 0],H,K=>∃ (t:SHeader) (S:Sch),(x=az t∧H.get c=some (.cells (aG S))∧SLen S∧t.fields.length≤1000000)∧K (.bool (zl S t))
 |_,_,_=>False
theorem ok_kn1:EntOk Tryz.prog 150 (Ent.pure JG):=by
 refine Ype fun _ H K h=>?_
 unfold JG at h
 split at h
 rotate_left
 ·exact h.elim
 rename_i x c
 obtain ⟨t,S,⟨rfl,hg,hS,hfl⟩,hK⟩:=h
 refine ⟨_,hK,?_⟩
 clear hK
 have hl:=glq hg
 have hne:(c=H.nx)=False:=eq_false (by omega)
 have hcs:=au hg
 have hgS:=hg
 generalize hR:(zl S t)=R
 unfold zl at hR
 unfold az
 unfold aG at hg hcs
 refine ACalls.fW ak (tCq qq tNq) Tryz.func150 [.tmp 3] (nrq _) (T:=ag []) (h:=fun hcl hlt=>?_)
 clear hlt
 try simp only [aj,go_sem,hcs,hne,hg,inL,cD,eP,bg,b9,bV,aQ]
 refine ⟨t.fields,(fun n=>b7 S n),⟨rfl,hfl,fun x hx H' hle' hcl'=>by
  obtain ⟨v,hv,hc'⟩:=ok_fFld.1 rfl [.agg (aG S),.int .i64 x] H' (fun v=>v=.bool (b7 S x)) ⟨S,⟨rfl,hS⟩,rfl⟩
  subst hv
  exact hc'⟩,?_⟩
 cases k1:t.fields.all (fun n=>b7 S n) with
 |false =>
  simp only [k1,Bool.true_and,Bool.false_and,Bool.and_true,Bool.and_false,Bool.true_or,Bool.false_or,Bool.or_true,Bool.or_false,Bool.not_true,Bool.not_false,if_true,if_false,reduceCtorEq,Bool.false_eq_true,ite_true,ite_false] at hR
  subst hR
  try simp only [aj,go_sem,hcs,hne,hg,inL,cD,eP,bg,b9,bV,aQ,k1]
  exact Z1
 |true =>
  simp only [k1,Bool.true_and,Bool.false_and,Bool.and_true,Bool.and_false,Bool.true_or,Bool.false_or,Bool.or_true,Bool.or_false,Bool.not_true,Bool.not_false,if_true,if_false,reduceCtorEq,Bool.false_eq_true,ite_true,ite_false] at hR
  subst hR
  try simp only [aj,go_sem,hcs,hne,hg,inL,cD,eP,bg,b9,bV,aQ,k1]
  exact Z1
def Js:List AV→AHeap→(AV→Prop)→Prop
 |[x,.ptr c 0],H,K=>∃ (t:SStage) (S:Sch),(x=bB t∧H.get c=some (.cells (aG S))∧SLen S)∧K (.bool (yi S t))
 |_,_,_=>False
theorem ok_kn3:EntOk Tryz.prog 158 (Ent.pure Js):=by
 refine Ype fun _ H K h=>?_
 unfold Js at h
 split at h
 rotate_left
 ·exact h.elim
 rename_i x c
 obtain ⟨t,S,⟨rfl,hg,hS⟩,hK⟩:=h
 refine ⟨_,hK,?_⟩
 clear hK
 have hl:=glq hg
 have hne:(c=H.nx)=False:=eq_false (by omega)
 have hcs:=au hg
 have hgS:=hg
 generalize hR:(yi S t)=R
 unfold yi at hR
 unfold bB
 unfold aG at hg hcs
 refine ACalls.fW ak (tCq zB (tCq ut tNq)) Tryz.func158 [.tmp 3] (nrq _) (T:=ag []) (h:=fun hcl hlt=>?_)
 clear hlt
 try simp only [aj,go_sem,hcs,hne,hg,inL,cD,eP,bg,b9,bV,aQ]
 refine ⟨S,⟨rfl,hS⟩,?_⟩
 cases k1:gt S t.table with
 |false =>
  simp only [k1,Bool.true_and,Bool.false_and,Bool.and_true,Bool.and_false,Bool.true_or,Bool.false_or,Bool.or_true,Bool.or_false,Bool.not_true,Bool.not_false,if_true,if_false,reduceCtorEq,Bool.false_eq_true,ite_true,ite_false] at hR
  subst hR
  try simp only [aj,go_sem,hcs,hne,hg,inL,cD,eP,bg,b9,bV,aQ,k1]
  exact Z1
 |true =>
  cases k2:t.header==0 with
  |true =>
   simp only [k1,k2,Bool.true_and,Bool.false_and,Bool.and_true,Bool.and_false,Bool.true_or,Bool.false_or,Bool.or_true,Bool.or_false,Bool.not_true,Bool.not_false,if_true,if_false,reduceCtorEq,Bool.false_eq_true,ite_true,ite_false] at hR
   subst hR
   try simp only [aj,go_sem,hcs,hne,hg,inL,cD,eP,bg,b9,bV,aQ,k1,k2]
   exact Z1
  |false =>
   try simp only [aj,go_sem,hcs,hne,hg,inL,cD,eP,bg,b9,bV,aQ,k1,k2]
   refine ⟨S,⟨rfl,hS⟩,?_⟩
   cases k3:j6 S t.header with
   |false =>
    simp only [k1,k2,k3,Bool.true_and,Bool.false_and,Bool.and_true,Bool.and_false,Bool.true_or,Bool.false_or,Bool.or_true,Bool.or_false,Bool.not_true,Bool.not_false,if_true,if_false,reduceCtorEq,Bool.false_eq_true,ite_true,ite_false] at hR
    subst hR
    try simp only [aj,go_sem,hcs,hne,hg,inL,cD,eP,bg,b9,bV,aQ,k1,k2,k3]
    exact Z1
   |true =>
    simp only [k1,k2,k3,Bool.true_and,Bool.false_and,Bool.and_true,Bool.and_false,Bool.true_or,Bool.false_or,Bool.or_true,Bool.or_false,Bool.not_true,Bool.not_false,if_true,if_false,reduceCtorEq,Bool.false_eq_true,ite_true,ite_false] at hR
    subst hR
    try simp only [aj,go_sem,hcs,hne,hg,inL,cD,eP,bg,b9,bV,aQ,k1,k2,k3]
    exact Z1
def Dd:List AV→AHeap→(AV→Prop)→Prop
 |[x,.ptr c 0],H,K=>∃ (t:SGrant) (S:Sch),(x=aR t∧H.get c=some (.cells (aG S))∧SLen S)∧K (.bool (gt S t.table))
 |_,_,_=>False
theorem ok_kn41:EntOk Tryz.prog 163 (Ent.pure Dd):=by
 refine Ype fun _ H K h=>?_
 unfold Dd at h
 split at h
 rotate_left
 ·exact h.elim
 rename_i x c
 obtain ⟨t,S,⟨rfl,hg,hS⟩,hK⟩:=h
 refine ⟨_,hK,?_⟩
 clear hK
 have hl:=glq hg
 have hne:(c=H.nx)=False:=eq_false (by omega)
 have hcs:=au hg
 have hgS:=hg
 generalize hR:(gt S t.table)=R
 skip
 unfold aR
 unfold aG at hg hcs
 refine ACalls.fW ak (tCq zB tNq) Tryz.func163 [.tmp 3] (nrq _) (T:=ag []) (h:=fun hcl hlt=>?_)
 clear hlt
 try simp only [aj,go_sem,hcs,hne,hg,inL,cD,eP,bg,b9,bV,aQ]
 refine ⟨S,⟨rfl,hS⟩,?_⟩
 cases k1:gt S t.table with
 |false =>
  simp only [k1,Bool.true_and,Bool.false_and,Bool.and_true,Bool.and_false,Bool.true_or,Bool.false_or,Bool.or_true,Bool.or_false,Bool.not_true,Bool.not_false,if_true,if_false,reduceCtorEq,Bool.false_eq_true,ite_true,ite_false] at hR
  subst hR
  try simp only [aj,go_sem,hcs,hne,hg,inL,cD,eP,bg,b9,bV,aQ,k1]
  exact Z1
 |true =>
  simp only [k1,Bool.true_and,Bool.false_and,Bool.and_true,Bool.and_false,Bool.true_or,Bool.false_or,Bool.or_true,Bool.or_false,Bool.not_true,Bool.not_false,if_true,if_false,reduceCtorEq,Bool.false_eq_true,ite_true,ite_false] at hR
  subst hR
  try simp only [aj,go_sem,hcs,hne,hg,inL,cD,eP,bg,b9,bV,aQ,k1]
  exact Z1
def JI:List AV→AHeap→(AV→Prop)→Prop
 |[x,.ptr c 0],H,K=>∃ (t:SRole) (S:Sch),(x=aN t∧H.get c=some (.cells (aG S))∧SLen S∧t.grants.length≤1000000∧t.actions.length≤1000000)∧K (.bool (wj S t))
 |_,_,_=>False
theorem ok_kn4:EntOk Tryz.prog 161 (Ent.pure JI):=by
 refine Ype fun _ H K h=>?_
 unfold JI at h
 split at h
 rotate_left
 ·exact h.elim
 rename_i x c
 obtain ⟨t,S,⟨rfl,hg,hS,hgl,hal⟩,hK⟩:=h
 refine ⟨_,hK,?_⟩
 clear hK
 have hl:=glq hg
 have hne:(c=H.nx)=False:=eq_false (by omega)
 have hcs:=au hg
 have hgS:=hg
 generalize hR:(wj S t)=R
 unfold wj at hR
 unfold aN
 unfold aG at hg hcs
 refine ACalls.fW ak (tCq xA (tCq qq tNq)) Tryz.func161 [.tmp 3] (nrq _) (T:=ag []) (h:=fun hcl hlt=>?_)
 clear hlt
 try simp only [aj,go_sem,hcs,hne,hg,inL,cD,eP,bg,b9,bV,aQ]
 refine ⟨t.grants,(fun g=>gt S g.table),⟨rfl,hgl,fun x hx H' hle' hcl'=>by
  obtain ⟨v,hv,hc'⟩:=ok_kn41.1 rfl [aR x,.ptr c 0] H' (fun v=>v=.bool (gt S x.table)) ⟨x,S,⟨rfl,hle'.get _ _ (by rw [zlh,if_neg (by omega)];exact hgS),hS⟩,rfl⟩
  subst hv
  exact hc'⟩,?_⟩
 cases k1:t.grants.all (fun g=>gt S g.table) with
 |false =>
  simp only [k1,Bool.true_and,Bool.false_and,Bool.and_true,Bool.and_false,Bool.true_or,Bool.false_or,Bool.or_true,Bool.or_false,Bool.not_true,Bool.not_false,if_true,if_false,reduceCtorEq,Bool.false_eq_true,ite_true,ite_false] at hR
  subst hR
  try simp only [aj,go_sem,hcs,hne,hg,inL,cD,eP,bg,b9,bV,aQ,k1]
  exact Z1
 |true =>
  try simp only [aj,go_sem,hcs,hne,hg,inL,cD,eP,bg,b9,bV,aQ,k1]
  refine ⟨t.actions,(fun a=>gV S a),⟨rfl,hal,fun x hx H' hle' hcl'=>by
   obtain ⟨v,hv,hc'⟩:=ok_fAct.1 rfl [.agg (aG S),.int .i64 x] H' (fun v=>v=.bool (gV S x)) ⟨S,⟨rfl,hS⟩,rfl⟩
   subst hv
   exact hc'⟩,?_⟩
  cases k2:t.actions.all (fun a=>gV S a) with
  |false =>
   simp only [k1,k2,Bool.true_and,Bool.false_and,Bool.and_true,Bool.and_false,Bool.true_or,Bool.false_or,Bool.or_true,Bool.or_false,Bool.not_true,Bool.not_false,if_true,if_false,reduceCtorEq,Bool.false_eq_true,ite_true,ite_false] at hR
   subst hR
   try simp only [aj,go_sem,hcs,hne,hg,inL,cD,eP,bg,b9,bV,aQ,k1,k2]
   exact Z1
  |true =>
   simp only [k1,k2,Bool.true_and,Bool.false_and,Bool.and_true,Bool.and_false,Bool.true_or,Bool.false_or,Bool.or_true,Bool.or_false,Bool.not_true,Bool.not_false,if_true,if_false,reduceCtorEq,Bool.false_eq_true,ite_true,ite_false] at hR
   subst hR
   try simp only [aj,go_sem,hcs,hne,hg,inL,cD,eP,bg,b9,bV,aQ,k1,k2]
   exact Z1
def DG:List AV→AHeap→(AV→Prop)→Prop
 |[x,.ptr c 0,.ptr d 0],H,K=>∃ (t:SPrim) (a:SAction) (S:Sch) (cs:List AV),(x=bv t∧H.get c=some (.cells (aG S))∧H.get d=some (.cells cs)∧ap a=.agg cs∧SLen S)∧K (.bool (nI S a.params.length t))
 |_,_,_=>False
theorem ok_kn21:EntOk Tryz.prog 154 (Ent.pure DG):=by
 refine Ype fun _ H K h=>?_
 unfold DG at h
 split at h
 rotate_left
 ·exact h.elim
 rename_i x c d
 obtain ⟨t,a,S,cs,⟨rfl,hg,hgd,hac,hS⟩,hK⟩:=h
 refine ⟨_,hK,?_⟩
 clear hK
 unfold ap at hac
 cases hac
 have hl:=glq hg
 have hne:(c=H.nx)=False:=eq_false (by omega)
 have hcs:=au hg
 have hl2:=glq hgd
 have hne2:(d=H.nx)=False:=eq_false (by omega)
 have hcs2:=au hgd
 generalize hR:(nI S a.params.length t)=R
 unfold bv vc
 unfold aG at hg hcs
 refine ACalls.fW ak (tCq I5 tNq) Tryz.func154 [.tmp 4] (nrq _) (T:=ag []) (h:=fun hcl hlt=>?_)
 clear hlt
 simp only [go_sem,hcs,hne,hg,hcs2,hne2,hgd,yx]
 refine ⟨S,a,t,⟨rfl,rfl,rfl,hS⟩,?_⟩
 simp only [aj,go_sem,hR]
 exact Z1
def JP:List AV→AHeap→(AV→Prop)→Prop
 |[x,.ptr c 0],H,K=>∃ (t:SAction) (S:Sch),(x=ap t∧H.get c=some (.cells (aG S))∧SLen S∧t.body.length≤1000000)∧K (.bool (yN S t))
 |_,_,_=>False
theorem ok_kn2:EntOk Tryz.prog 153 (Ent.pure JP):=by
 refine Ype fun _ H K h=>?_
 unfold JP at h
 split at h
 rotate_left
 ·exact h.elim
 rename_i x c
 obtain ⟨t,S,⟨rfl,hg,hS,hbl⟩,hK⟩:=h
 refine ⟨_,hK,?_⟩
 clear hK
 have hl:=glq hg
 have hne:(c=H.nx)=False:=eq_false (by omega)
 have hcs:=au hg
 have hgS:=hg
 generalize hR:(yN S t)=R
 unfold yN at hR
 unfold ap
 unfold aG at hg hcs
 refine ACalls.fW ak (tCq qt tNq) Tryz.func153 [.tmp 3] (nrq _) (T:=ag []) (h:=fun hcl hlt=>?_)
 clear hlt
 try simp only [aj,go_sem,hcs,hne,hg,inL,cD,eP,bg,b9,bV,aQ]
 refine ⟨t.body,(fun p=>nI S t.params.length p),⟨rfl,hbl,fun x hx H' hle' hcl'=>by
  obtain ⟨v,hv,hc'⟩:=ok_kn21.1 rfl [bv x,.ptr c 0,.ptr H.nx 0] H' (fun v=>v=.bool (nI S t.params.length x)) ⟨x,t,S,_,⟨rfl,hle'.get _ _ (by rw [zlh,if_neg (by omega)];exact hgS),hle'.get _ _ (AHeap.get_push_new _ _),rfl,hS⟩,rfl⟩
  subst hv
  exact hc'⟩,?_⟩
 cases k1:t.body.all (fun p=>nI S t.params.length p) with
 |false =>
  simp only [k1,Bool.true_and,Bool.false_and,Bool.and_true,Bool.and_false,Bool.true_or,Bool.false_or,Bool.or_true,Bool.or_false,Bool.not_true,Bool.not_false,if_true,if_false,reduceCtorEq,Bool.false_eq_true,ite_true,ite_false] at hR
  subst hR
  try simp only [aj,go_sem,hcs,hne,hg,inL,cD,eP,bg,b9,bV,aQ,k1]
  exact Z1
 |true =>
  simp only [k1,Bool.true_and,Bool.false_and,Bool.and_true,Bool.and_false,Bool.true_or,Bool.false_or,Bool.or_true,Bool.or_false,Bool.not_true,Bool.not_false,if_true,if_false,reduceCtorEq,Bool.false_eq_true,ite_true,ite_false] at hR
  subst hR
  try simp only [aj,go_sem,hcs,hne,hg,inL,cD,eP,bg,b9,bV,aQ,k1]
  exact Z1
def jE (S:Sch):Bool:=b7 S 1&&(b7 S 2&&(S.headers.all (zl S)&&(S.states.all (vJ S)&&(S.actions.all (yN S)&&(S.tables.all (p8 S)&&(S.stages.all (yi S)&&(S.roles.all (wj S)&&S.refs.all (rk S))))))))
def kp:List AV→AHeap→(AV→Prop)→Prop
 |[.agg l],_,K=>∃ S:Sch,(l=aG S∧SB S)∧K (.bool (jE S))
 |_,_,_=>False
theorem Cq:EntOk Tryz.prog 47 (Ent.pure kp):=by
 refine Ype fun _ H K h=>?_
 unfold kp at h
 split at h
 rotate_left
 ·exact h.elim
 rename_i l
 obtain ⟨S,⟨rfl,hB⟩,hK⟩:=h
 refine ⟨_,hK,?_⟩
 clear hK
 have hS:=hB.sl
 generalize hR:jE S=R
 unfold jE at hR
 refine ACalls.fW ak (tCq ok_fFld (tCq nJ (tCq nV (tCq lR (tCq ky (tCq EF (tCq ly (tCq nD tNq)))))))) Tryz.func47 [.tmp 2] (nrq _) (T:=ag []) (h:=fun hcl hlt=>?_)
 clear hlt
 unfold aG
 try simp only [aj,go_sem,aQ,bn,bq,bk,bm,dV,bC,bF]
 refine ⟨S,⟨rfl,hS⟩,?_⟩
 cases k1:b7 S 1 with
 |false =>
  simp only [k1,Bool.true_and,Bool.false_and,Bool.and_true,Bool.and_false,Bool.true_or,Bool.false_or,Bool.or_true,Bool.or_false,Bool.not_true,Bool.not_false,if_true,if_false,reduceCtorEq,Bool.false_eq_true,ite_true,ite_false] at hR
  subst hR
  try simp only [aj,go_sem,aQ,bn,bq,bk,bm,dV,bC,bF,k1]
  exact Z1
 |true =>
  try simp only [aj,go_sem,aQ,bn,bq,bk,bm,dV,bC,bF,k1]
  refine ⟨S,⟨rfl,hS⟩,?_⟩
  cases k2:b7 S 2 with
  |false =>
   simp only [k1,k2,Bool.true_and,Bool.false_and,Bool.and_true,Bool.and_false,Bool.true_or,Bool.false_or,Bool.or_true,Bool.or_false,Bool.not_true,Bool.not_false,if_true,if_false,reduceCtorEq,Bool.false_eq_true,ite_true,ite_false] at hR
   subst hR
   try simp only [aj,go_sem,aQ,bn,bq,bk,bm,dV,bC,bF,k1,k2]
   exact Z1
  |true =>
   try simp only [aj,go_sem,aQ,bn,bq,bk,bm,dV,bC,bF,k1,k2]
   refine ⟨S.headers,zl S,⟨rfl,hS.hl,fun x hx H' hle' hcl'=>by
    obtain ⟨v,hv,hc'⟩:=ok_kn1.1 rfl [az x,.ptr (H.nx+1) 0] H' (fun v=>v=.bool (zl S x)) ⟨x,S,⟨rfl,hle'.get _ _ (by (try simp only [go_sem]);first|done|rfl),hS,(hB.hn x hx).2⟩,rfl⟩
    subst hv
    exact hc'⟩,?_⟩
   cases k3:S.headers.all (zl S) with
   |false =>
    simp only [k1,k2,k3,Bool.true_and,Bool.false_and,Bool.and_true,Bool.and_false,Bool.true_or,Bool.false_or,Bool.or_true,Bool.or_false,Bool.not_true,Bool.not_false,if_true,if_false,reduceCtorEq,Bool.false_eq_true,ite_true,ite_false] at hR
    subst hR
    try simp only [aj,go_sem,aQ,bn,bq,bk,bm,dV,bC,bF,k1,k2,k3]
    exact Z1
   |true =>
    try simp only [aj,go_sem,aQ,bn,bq,bk,bm,dV,bC,bF,k1,k2,k3]
    refine ⟨S.states,vJ S,⟨rfl,hS.sl,fun x hx H' hle' hcl'=>by
     obtain ⟨v,hv,hc'⟩:=ok_fSta.1 rfl [.agg (aG S),aH x] H' (fun v=>v=.bool (vJ S x)) ⟨S,x,⟨rfl,rfl,hS,hB.sn x hx⟩,rfl⟩
     subst hv
     exact hc'⟩,?_⟩
    cases k4:S.states.all (vJ S) with
    |false =>
     simp only [k1,k2,k3,k4,Bool.true_and,Bool.false_and,Bool.and_true,Bool.and_false,Bool.true_or,Bool.false_or,Bool.or_true,Bool.or_false,Bool.not_true,Bool.not_false,if_true,if_false,reduceCtorEq,Bool.false_eq_true,ite_true,ite_false] at hR
     subst hR
     try simp only [aj,go_sem,aQ,bn,bq,bk,bm,dV,bC,bF,k1,k2,k3,k4]
     exact Z1
    |true =>
     try simp only [aj,go_sem,aQ,bn,bq,bk,bm,dV,bC,bF,k1,k2,k3,k4]
     refine ⟨S.actions,yN S,⟨rfl,hS.al,fun x hx H' hle' hcl'=>by
      obtain ⟨v,hv,hc'⟩:=ok_kn2.1 rfl [ap x,.ptr (H.nx+1) 0] H' (fun v=>v=.bool (yN S x)) ⟨x,S,⟨rfl,hle'.get _ _ (by (try simp only [go_sem]);first|done|rfl),hS,(hB.an x hx).2.2.1⟩,rfl⟩
      subst hv
      exact hc'⟩,?_⟩
     cases k5:S.actions.all (yN S) with
     |false =>
      simp only [k1,k2,k3,k4,k5,Bool.true_and,Bool.false_and,Bool.and_true,Bool.and_false,Bool.true_or,Bool.false_or,Bool.or_true,Bool.or_false,Bool.not_true,Bool.not_false,if_true,if_false,reduceCtorEq,Bool.false_eq_true,ite_true,ite_false] at hR
      subst hR
      try simp only [aj,go_sem,aQ,bn,bq,bk,bm,dV,bC,bF,k1,k2,k3,k4,k5]
      exact Z1
     |true =>
      try simp only [aj,go_sem,aQ,bn,bq,bk,bm,dV,bC,bF,k1,k2,k3,k4,k5]
      refine ⟨S.tables,p8 S,⟨rfl,hS.tl,fun x hx H' hle' hcl'=>by
       obtain ⟨v,hv,hc'⟩:=ok_fDec.1 rfl [.agg (aG S),aq x] H' (fun v=>v=.bool (p8 S x)) ⟨S,x,⟨rfl,rfl,hS,(hB.tn x hx).2.1,(hB.tn x hx).2.2.1⟩,rfl⟩
       subst hv
       exact hc'⟩,?_⟩
      cases k6:S.tables.all (p8 S) with
      |false =>
       simp only [k1,k2,k3,k4,k5,k6,Bool.true_and,Bool.false_and,Bool.and_true,Bool.and_false,Bool.true_or,Bool.false_or,Bool.or_true,Bool.or_false,Bool.not_true,Bool.not_false,if_true,if_false,reduceCtorEq,Bool.false_eq_true,ite_true,ite_false] at hR
       subst hR
       try simp only [aj,go_sem,aQ,bn,bq,bk,bm,dV,bC,bF,k1,k2,k3,k4,k5,k6]
       exact Z1
      |true =>
       try simp only [aj,go_sem,aQ,bn,bq,bk,bm,dV,bC,bF,k1,k2,k3,k4,k5,k6]
       refine ⟨S.stages,yi S,⟨rfl,hB.gl,fun x hx H' hle' hcl'=>by
        obtain ⟨v,hv,hc'⟩:=ok_kn3.1 rfl [bB x,.ptr (H.nx+1) 0] H' (fun v=>v=.bool (yi S x)) ⟨x,S,⟨rfl,hle'.get _ _ (by (try simp only [go_sem]);first|done|rfl),hS⟩,rfl⟩
        subst hv
        exact hc'⟩,?_⟩
       cases k7:S.stages.all (yi S) with
       |false =>
        simp only [k1,k2,k3,k4,k5,k6,k7,Bool.true_and,Bool.false_and,Bool.and_true,Bool.and_false,Bool.true_or,Bool.false_or,Bool.or_true,Bool.or_false,Bool.not_true,Bool.not_false,if_true,if_false,reduceCtorEq,Bool.false_eq_true,ite_true,ite_false] at hR
        subst hR
        try simp only [aj,go_sem,aQ,bn,bq,bk,bm,dV,bC,bF,k1,k2,k3,k4,k5,k6,k7]
        exact Z1
       |true =>
        try simp only [aj,go_sem,aQ,bn,bq,bk,bm,dV,bC,bF,k1,k2,k3,k4,k5,k6,k7]
        refine ⟨S.roles,wj S,⟨rfl,hS.rl,fun x hx H' hle' hcl'=>by
         obtain ⟨v,hv,hc'⟩:=ok_kn4.1 rfl [aN x,.ptr (H.nx+1) 0] H' (fun v=>v=.bool (wj S x)) ⟨x,S,⟨rfl,hle'.get _ _ (by (try simp only [go_sem]);first|done|rfl),hS,(hB.rn x hx).2.1,(hB.rn x hx).2.2.1⟩,rfl⟩
         subst hv
         exact hc'⟩,?_⟩
        cases k8:S.roles.all (wj S) with
        |false =>
         simp only [k1,k2,k3,k4,k5,k6,k7,k8,Bool.true_and,Bool.false_and,Bool.and_true,Bool.and_false,Bool.true_or,Bool.false_or,Bool.or_true,Bool.or_false,Bool.not_true,Bool.not_false,if_true,if_false,reduceCtorEq,Bool.false_eq_true,ite_true,ite_false] at hR
         subst hR
         try simp only [aj,go_sem,aQ,bn,bq,bk,bm,dV,bC,bF,k1,k2,k3,k4,k5,k6,k7,k8]
         exact Z1
        |true =>
         try simp only [aj,go_sem,aQ,bn,bq,bk,bm,dV,bC,bF,k1,k2,k3,k4,k5,k6,k7,k8]
         refine ⟨S.refs,rk S,⟨rfl,hB.xl,fun x hx H' hle' hcl'=>by
          obtain ⟨v,hv,hc'⟩:=ok_fRef.1 rfl [.agg (aG S),bL x] H' (fun v=>v=.bool (rk S x)) ⟨S,x,⟨rfl,rfl,hB,fun t ht a ha=>by
           have h1:=List.all_eq_true.1 k6 t ht
           unfold p8 at h1
           simp only [Bool.and_eq_true] at h1
           exact List.all_eq_true.1 h1.2.1 a ha⟩,rfl⟩
          subst hv
          exact hc'⟩,?_⟩
         cases k9:S.refs.all (rk S) with
         |false =>
          simp only [k1,k2,k3,k4,k5,k6,k7,k8,k9,Bool.true_and,Bool.false_and,Bool.and_true,Bool.and_false,Bool.true_or,Bool.false_or,Bool.or_true,Bool.or_false,Bool.not_true,Bool.not_false,if_true,if_false,reduceCtorEq,Bool.false_eq_true,ite_true,ite_false] at hR
          subst hR
          try simp only [aj,go_sem,aQ,bn,bq,bk,bm,dV,bC,bF,k1,k2,k3,k4,k5,k6,k7,k8,k9]
          exact Z1
         |true =>
          simp only [k1,k2,k3,k4,k5,k6,k7,k8,k9,Bool.true_and,Bool.false_and,Bool.and_true,Bool.and_false,Bool.true_or,Bool.false_or,Bool.or_true,Bool.or_false,Bool.not_true,Bool.not_false,if_true,if_false,reduceCtorEq,Bool.false_eq_true,ite_true,ite_false] at hR
          subst hR
          try simp only [aj,go_sem,aQ,bn,bq,bk,bm,dV,bC,bF,k1,k2,k3,k4,k5,k6,k7,k8,k9]
          exact Z1
theorem mq {α:Type} {q:α→Bool} {l:List α} {x:α} (h:l.find? q=some x):∃ i:Nat,ixP q l 0=(i:Int)∧l[i]?=some x∧i<l.length:=by
 rcases AN q l with ⟨_,h2⟩|⟨i,y,h1,h2,h3,h4⟩
 ·rw [h2] at h;cases h
 ·rw [h3] at h;cases h;exact ⟨i,h1,h2,h4⟩
def bI:List AV→AHeap→(AV→Prop)→Prop
 |[.agg l,.int .i64 n],_,K=>∃ (S:Sch) (x:SField),(l=aG S∧SLen S∧S.fields.find? (fun t=>t.id==n)=some x)∧K (.int .i64 x.bits)
 |_,_,_=>False
theorem lD:EntOk Tryz.prog 168 (Ent.pure bI):=by
 refine Ype fun _ H K h=>?_
 unfold bI at h
 split at h
 rotate_left
 ·exact h.elim
 rename_i l n
 obtain ⟨S,x,⟨rfl,hS,hx⟩,hK⟩:=h
 refine ⟨_,hK,?_⟩
 clear hK
 obtain ⟨i,i1,g1,l1⟩:=mq hx
 have ga:=aO (f:=aI) (l:=S.fields) (k:=i) (x:=x) g1
 have hca:aI x=.agg [.int .i64 x.id,.str x.name,.int .i64 x.bits]:=rfl
 rw [hca] at ga
 refine ACalls.fW ak (tCq ph tNq) Tryz.func168 [.tmp 4] (nrq _) (T:=ag [(1,[[],[],[],[],[2],[],[],[4]])]) (h:=fun hcl hlt=>?_)
 clear hlt
 unfold aG
 simp only [go_sem,kO]
 refine ⟨S,⟨rfl,hS.fl⟩,?_⟩
 simp only [aj,go_sem,i1,ga,iNq,ybb]
 try (repeat with_reducible refine Yq ?_)
 exact Z1
theorem sV {P:Program} {H1 H:AHeap} {fr:Fr} {x:AV} {t s:Nat} {ty uy:TypeId}:eQ P [.cell t ty,.cell s uy] (.ret x) H1 fr H=match zjg P ty (Fr.get fr t) H with|some r=>r.c∧(match zjg P uy (Fr.get fr s) H with|some q=>q.c∧aa H (.tup [r.v,q.v]) H1 x|none=>False)|none=>False:=by
 simp only [eQ,kc,m7]
 cases zjg P ty (Fr.get fr t) H with
 |none=>rfl
 |some r =>
  cases zjg P uy (Fr.get fr s) H with
  |none=>simp
  |some q=>simp [one,and_assoc]
def mc:SKey:=⟨[],0,0⟩
def pP:List AV→AHeap→(AV→Prop)→Prop
 |[.agg l,x],_,K=>∃ (S:Sch) (r:SRef) (b:STable) (ka kb:SKey),(l=aG S∧x=bL r∧SLen S∧S.tables.find? (fun t=>t.id==r.toTable)=some b∧0≤r.toKey∧b.keys[r.toKey.toNat]?=some kb ∧
   (if r.action==0 then ∃ a,S.tables.find? (fun t=>t.id==r.table)=some a∧0≤r.key∧a.keys[r.key.toNat]?=some ka else ka=mc))∧K (.tup [br ka,br kb])
 |_,_,_=>False
theorem wU:EntOk Tryz.prog 167 (Ent.pure pP):=by
 refine Ype fun _ H K h=>?_
 unfold pP at h
 split at h
 rotate_left
 ·exact h.elim
 rename_i l x
 obtain ⟨S,r,b,ka,kb,⟨rfl,rfl,hS,hb,hp,hkb,hka⟩,hK⟩:=h
 refine ⟨_,hK,?_⟩
 clear hK
 unfold bL
 obtain ⟨j,j1,g2,l2⟩:=mq hb
 have gb:=aO (f:=aq) (l:=S.tables) (k:=j) (x:=b) g2
 have hcb:aq b=.agg [.int .i64 b.id,.str b.name,.slice .any 3 (b.keys.map br),.slice .any 1 (inL b.actions),.int .i64 b.dflt,.slice .any 2 (b.dargs.map vv),.int .i64 b.size,.str b.restr]:=rfl
 rw [hcb] at gb
 have gkb:=aO (f:=br) (l:=b.keys) (k:=r.toKey.toNat) (x:=kb) hkb
 have hkb':br kb=.agg [.str kb.name,.int .i64 kb.field,.int .i64 kb.kind]:=rfl
 rw [hkb'] at gkb ⊢
 have hlb:r.toKey.toNat<b.keys.length:=by
  rcases Nat.lt_or_ge r.toKey.toNat b.keys.length with h|h
  ·exact h
  ·rw [gNq h] at hkb;cases hkb
 cases ca:r.action==0 with
 |false =>
  rw [ca,if_neg Bool.false_ne_true] at hka
  subst hka
  unfold mc br
  refine ACalls.fW ak (tCq fC tNq) Tryz.func167 [.cell 4 53,.cell 5 53] (nrq _) (T:=ag [(2,[[],[],[],[],[],[2,4],[],[],[5],[],[],[],[5],[1,2,4,5,8,10,12]]),(3,[[],[],[],[],[],[],[3,5],[],[],[6],[],[],[],[6],[0,3,5,6],[0,2,3,5,6,9,11,13]])]) (h:=fun hcl hlt=>?_)
  clear hlt
  unfold aG
  simp only [go_sem,ca,cY]
  refine ⟨S,⟨rfl,hS.tl⟩,?_⟩
  simp only [aj,go_sem,j1,gb,gkb,iNq,ybb,sV]
  refine ⟨⟨by omega,by omega⟩,⟨by omega,by omega⟩,?_⟩
  exact Z1
 |true =>
  rw [ca,if_pos rfl] at hka
  obtain ⟨a,ha,hp2,hka⟩:=hka
  obtain ⟨i,i1,g1,l1⟩:=mq ha
  have ga:=aO (f:=aq) (l:=S.tables) (k:=i) (x:=a) g1
  have hca:aq a=.agg [.int .i64 a.id,.str a.name,.slice .any 3 (a.keys.map br),.slice .any 1 (inL a.actions),.int .i64 a.dflt,.slice .any 2 (a.dargs.map vv),.int .i64 a.size,.str a.restr]:=rfl
  rw [hca] at ga
  have gka:=aO (f:=br) (l:=a.keys) (k:=r.key.toNat) (x:=ka) hka
  have hka':br ka=.agg [.str ka.name,.int .i64 ka.field,.int .i64 ka.kind]:=rfl
  rw [hka'] at gka ⊢
  have hla:r.key.toNat<a.keys.length:=by
   rcases Nat.lt_or_ge r.key.toNat a.keys.length with h|h
   ·exact h
   ·rw [gNq h] at hka;cases hka
  refine ACalls.fW ak (tCq fC tNq) Tryz.func167 [.cell 4 53,.cell 5 53] (nrq _) (T:=ag [(2,[[],[],[],[],[],[2,4],[],[],[5],[],[],[],[5],[1,2,4,5,8,10,12]]),(3,[[],[],[],[],[],[],[3,5],[],[],[6],[],[],[],[6],[0,3,5,6],[0,2,3,5,6,9,11,13]])]) (h:=fun hcl hlt=>?_)
  clear hlt
  unfold aG
  simp only [go_sem,ca,cY]
  refine ⟨S,⟨rfl,hS.tl⟩,?_⟩
  simp only [aj,go_sem,i1,ga,gka,iNq,ybb,cY]
  refine ⟨⟨by omega,by omega⟩,⟨by omega,by omega⟩,?_⟩
  try simp only [aj,go_sem,cY]
  refine ⟨S,⟨rfl,hS.tl⟩,?_⟩
  simp only [aj,go_sem,j1,gb,gkb,iNq,ybb,sV]
  refine ⟨⟨by omega,by omega⟩,⟨by omega,by omega⟩,?_⟩
  exact Z1
def rf (S:Sch) (r:SRef):SKey:=((S.tables.find? fun t=>t.id==r.toTable).bind fun b=>b.keys[r.toKey.toNat]?).getD mc
def qn (S:Sch) (r:SRef):SKey:=if r.action==0 then ((S.tables.find? fun t=>t.id==r.table).bind fun b=>b.keys[r.key.toNat]?).getD mc else mc
def sD (S:Sch) (r:SRef):Prop:=rk S r=true∧0≤r.key∧0≤r.toKey∧0≤r.param
theorem u2 {S:Sch} {r:SRef} (h:sD S r):∃ b,S.tables.find? (fun t=>t.id==r.toTable)=some b∧0≤r.toKey∧b.keys[r.toKey.toNat]?=some (rf S r) ∧
 (if r.action==0 then ∃ a,S.tables.find? (fun t=>t.id==r.table)=some a∧0≤r.key∧a.keys[r.key.toNat]?=some (qn S r) else qn S r=mc):=by
 obtain ⟨h,h1,h2,_⟩:=h
 unfold rk at h
 cases fa:S.tables.find? (fun t=>t.id==r.table) with
 |none=>rw [fa] at h;cases h
 |some a =>
  cases fb:S.tables.find? (fun t=>t.id==r.toTable) with
  |none=>rw [fa,fb] at h;cases h
  |some b =>
   rw [fa,fb] at h
   simp only [Bool.and_eq_true,decide_eq_true_eq] at h
   obtain ⟨h3,h4⟩:=h
   have e1:b.keys[r.toKey.toNat]?=some (rf S r):=by
    unfold rf
    rw [fb]
    have hl:r.toKey.toNat<b.keys.length:=by omega
    simp only [Option.bind_some]
    rw [gQq hl];rfl
   refine ⟨b,rfl,h2,e1,?_⟩
   cases ca:r.action==0 with
   |false =>
    rw [if_neg Bool.false_ne_true]
    unfold qn
    rw [ca,if_neg Bool.false_ne_true]
   |true =>
    rw [ca,if_pos rfl] at h4
    rw [if_pos rfl]
    refine ⟨a,rfl,h1,?_⟩
    unfold qn
    rw [ca,if_pos rfl,fa]
    have hl:r.key.toNat<a.keys.length:=by simp only [decide_eq_true_eq] at h4;omega
    simp only [Option.bind_some]
    rw [gQq hl];rfl
def exB (S:Sch) (r:SRef):Bool:=(rf S r).kind==1&&(r.action != 0||(qn S r).kind==1)
def Jz:List AV→AHeap→(AV→Prop)→Prop
 |[x,.ptr c 0],H,K=>∃ (r:SRef) (S:Sch),(x=bL r∧H.get c=some (.cells (aG S))∧SLen S∧sD S r)∧K (.bool (exB S r))
 |_,_,_=>False
theorem ok_ex1:EntOk Tryz.prog 166 (Ent.pure Jz):=by
 refine Ype fun _ H K h=>?_
 unfold Jz at h
 split at h
 rotate_left
 ·exact h.elim
 rename_i x c
 obtain ⟨r,S,⟨rfl,hg,hS,hr⟩,hK⟩:=h
 refine ⟨_,hK,?_⟩
 clear hK
 have hl:=glq hg
 have hne:(c=H.nx)=False:=eq_false (by omega)
 have hcs:=au hg
 generalize hR:exB S r=R
 unfold exB at hR
 obtain ⟨b,e1,e2,e3,e4⟩:=u2 hr
 unfold bL
 unfold aG at hg hcs
 refine ACalls.fW ak (tCq wU tNq) Tryz.func166 [.tmp 3] (nrq _) (T:=ag []) (h:=fun hcl hlt=>?_)
 clear hlt
 simp only [go_sem,hcs,hne,hg,pP]
 refine ⟨S,r,b,qn S r,rf S r,⟨rfl,rfl,hS,e1,e2,e3,e4⟩,?_⟩
 generalize rf S r=kb at *
 generalize qn S r=ka at *
 unfold br
 cases c1:kb.kind==1 with
 |false =>
  simp only [c1,Bool.true_and,Bool.false_and,Bool.and_true,Bool.and_false,Bool.true_or,Bool.false_or,Bool.or_true,Bool.or_false,Bool.not_true,Bool.not_false,if_true,if_false,reduceCtorEq,Bool.false_eq_true,ite_true,ite_false] at hR
  subst hR
  try simp only [go_sem,aj,hne,hg,hcs,c1]
  try (repeat with_reducible refine Yq ?_)
  exact Z1
 |true =>
  cases c2:r.action != 0 with
  |false =>
   cases c3:ka.kind==1 with
   |false =>
    simp only [c1,c2,c3,Bool.true_and,Bool.false_and,Bool.and_true,Bool.and_false,Bool.true_or,Bool.false_or,Bool.or_true,Bool.or_false,Bool.not_true,Bool.not_false,if_true,if_false,reduceCtorEq,Bool.false_eq_true,ite_true,ite_false] at hR
    subst hR
    try simp only [go_sem,aj,hne,hg,hcs,c1,c2,c3]
    try (repeat with_reducible refine Yq ?_)
    exact Z1
   |true =>
    simp only [c1,c2,c3,Bool.true_and,Bool.false_and,Bool.and_true,Bool.and_false,Bool.true_or,Bool.false_or,Bool.or_true,Bool.or_false,Bool.not_true,Bool.not_false,if_true,if_false,reduceCtorEq,Bool.false_eq_true,ite_true,ite_false] at hR
    subst hR
    try simp only [go_sem,aj,hne,hg,hcs,c1,c2,c3]
    try (repeat with_reducible refine Yq ?_)
    exact Z1
  |true =>
   simp only [c1,c2,Bool.true_and,Bool.false_and,Bool.and_true,Bool.and_false,Bool.true_or,Bool.false_or,Bool.or_true,Bool.or_false,Bool.not_true,Bool.not_false,if_true,if_false,reduceCtorEq,Bool.false_eq_true,ite_true,ite_false] at hR
   subst hR
   try simp only [go_sem,aj,hne,hg,hcs,c1,c2]
   try (repeat with_reducible refine Yq ?_)
   exact Z1
def lz:List AV→AHeap→(AV→Prop)→Prop
 |[.agg l],_,K=>∃ S:Sch,(l=aG S∧SB S∧∀ r∈S.refs,sD S r)∧K (.bool (S.refs.all (exB S)))
 |_,_,_=>False
theorem CM:EntOk Tryz.prog 48 (Ent.pure lz):=by
 refine Ype fun _ H K h=>?_
 unfold lz at h
 split at h
 rotate_left
 ·exact h.elim
 rename_i l
 obtain ⟨S,⟨rfl,hB,hr⟩,hK⟩:=h
 refine ⟨_,hK,?_⟩
 clear hK
 have hS:=hB.sl
 generalize hR:S.refs.all (exB S)=R
 refine ACalls.fW ak (tCq nD tNq) Tryz.func48 [.tmp 2] (nrq _) (T:=ag []) (h:=fun hcl hlt=>?_)
 clear hlt
 unfold aG
 try simp only [aj,go_sem,bF]
 refine ⟨S.refs,exB S,⟨rfl,hB.xl,fun x hx H' hle' hcl'=>by
  obtain ⟨v,hv,hc'⟩:=ok_ex1.1 rfl [bL x,.ptr H.nx 0] H' (fun v=>v=.bool (exB S x)) ⟨x,S,⟨rfl,hle'.get _ _ (by (try simp only [go_sem]);first|done|rfl),hS,hr x hx⟩,rfl⟩
  subst hv
  exact hc'⟩,?_⟩
 cases k1:S.refs.all (exB S) with
 |false =>
  simp only [k1,Bool.true_and,Bool.false_and,Bool.and_true,Bool.and_false,Bool.true_or,Bool.false_or,Bool.or_true,Bool.or_false,Bool.not_true,Bool.not_false,if_true,if_false,reduceCtorEq,Bool.false_eq_true,ite_true,ite_false] at hR
  subst hR
  try simp only [aj,go_sem,bF,k1]
  exact Z1
 |true =>
  simp only [k1,Bool.true_and,Bool.false_and,Bool.and_true,Bool.and_false,Bool.true_or,Bool.false_or,Bool.or_true,Bool.or_false,Bool.not_true,Bool.not_false,if_true,if_false,reduceCtorEq,Bool.false_eq_true,ite_true,ite_false] at hR
  subst hR
  try simp only [aj,go_sem,bF,k1]
  exact Z1
def btF (S:Sch) (n:Int):Int:=((S.fields.find? fun t=>t.id==n).getD ⟨0,[],0⟩).bits
theorem iQ {S:Sch} {n:Int} (h:b7 S n=true):∃ x,S.fields.find? (fun t=>t.id==n)=some x∧x.bits=btF S n:=by
 unfold b7 at h
 rw [List.any_eq_true] at h
 obtain ⟨y,hy,h2⟩:=h
 cases hf:S.fields.find? (fun t=>t.id==n) with
 |none=>exact absurd h2 (by have:=List.find?_eq_none.1 hf y hy;simpa using this)
 |some x=>exact ⟨x,rfl,by unfold btF;rw [hf];rfl⟩
def ftV (v:Nat) (n:Int):Bool:=decide (((bl v:Nat):Int)≤n)
def nZ (S:Sch) (a:SAction) (p:SPrim):Bool :=
 if mX p.op then
  if p.kind==1 then ftV p.value (if p.op==7 then 16 else btF S p.dst)
  else if p.kind==2 then decide (btF S p.n≤(if p.op==7 then 16 else btF S p.dst))
  else decide ((a.params.getD p.n.toNat ⟨[],0⟩).bits≤(if p.op==7 then 16 else btF S p.dst))
 else true
def ES:List AV→AHeap→(AV→Prop)→Prop
 |[.agg l,x,y],_,K=>∃ (S:Sch) (a:SAction) (p:SPrim),(l=aG S∧x=ap a∧y=bv p∧SLen S∧p.value<2^128∧nI S a.params.length p=true∧fpB p=true∧0≤p.n)∧K (.bool (nZ S a p))
 |_,_,_=>False
theorem Kr:EntOk Tryz.prog 177 (Ent.pure ES):=by
 refine Ype fun _ H K h=>?_
 unfold ES at h
 split at h
 rotate_left
 ·exact h.elim
 rename_i l x y
 obtain ⟨S,a,p,⟨rfl,rfl,rfl,hS,hv,hk,hf,hn⟩,hK⟩:=h
 refine ⟨_,hK,?_⟩
 clear hK
 have iv:=uk hv
 have vb:=lC p.value
 generalize hR:nZ S a p=R
 unfold nZ at hR
 -- what is fK of the primitive
 have hd:mX p.op=true→(p.op==7)=false→b7 S p.dst=true:=fun h1 h2=>by
  unfold mX at h1
  rw [h2,Bool.or_false] at h1
  unfold nI at hk
  rw [if_pos h1] at hk
  exact (Bool.and_eq_true _ _ ▸ hk).1
 have hsrc:mX p.op=true→(p.kind==2)=true→b7 S p.n=true:=fun h1 h2=>by
  unfold nI at hk
  rw [h2] at hk
  simp only [if_true] at hk
  split at hk
  ·exact (Bool.and_eq_true _ _ ▸ hk).2
  ·split at hk
   ·exfalso
    unfold mX at h1
    simp_all
   ·exact hk
 have hpar:mX p.op=true→(p.kind==1)=false→(p.kind==2)=false→p.n.toNat<a.params.length:=fun h1 h2 h3=>by
  have h4:(p.kind==3)=true:=by
   unfold fpB at hf
   rw [h1,h2,h3] at hf
   simp only [if_true,Bool.false_eq_true,if_false,Bool.false_or,Bool.and_eq_true] at hf
   exact hf.2.2.1
  unfold nI at hk
  rw [h3,h4] at hk
  simp only [if_true,Bool.false_eq_true,if_false] at hk
  split at hk
  ·have:=(Bool.and_eq_true _ _ ▸ hk).2
   simp only [decide_eq_true_eq] at this
   omega
  ·split at hk
   ·exfalso
    unfold mX at h1
    simp_all
   ·simp only [decide_eq_true_eq] at hk
    omega
 unfold ap bv vc
 refine ACalls.fW ak (tCq Am (tCq lD (tCq qs tNq))) Tryz.func177 [.tmp 6] (nrq _) (T:=ag []) (h:=fun hcl hlt=>?_)
 clear hlt
 unfold aG
 cases co:mX p.op with
 |false =>
  simp only [co,Bool.true_and,Bool.false_and,Bool.and_true,Bool.and_false,Bool.true_or,Bool.false_or,Bool.or_true,Bool.or_false,Bool.not_true,Bool.not_false,if_true,if_false,reduceCtorEq,Bool.false_eq_true,ite_true,ite_false] at hR
  subst hR
  try simp only [aj,go_sem,cQ,bI,eb,iv,vb,iNq,co]
  try (repeat with_reducible refine Yq ?_)
  exact Z1
 |true =>
  cases c7:p.op==7 with
  |true =>
   have c7':(p.op != 7)=false:=by simp only [bne,c7,Bool.not_true]
   try simp only [go_sem,cQ,co,c7']
   cases k1:p.kind==1 with
   |true =>
    simp only [co,c7,k1,Bool.true_and,Bool.false_and,Bool.and_true,Bool.and_false,Bool.true_or,Bool.false_or,Bool.or_true,Bool.or_false,Bool.not_true,Bool.not_false,if_true,if_false,reduceCtorEq,Bool.false_eq_true,ite_true,ite_false] at hR
    unfold ftV at hR
    subst hR
    try simp only [aj,go_sem,cQ,bI,eb,iv,vb,iNq,co,c7,k1,c7']
    try (repeat with_reducible refine Yq ?_)
    exact Z1
   |false =>
    cases k2:p.kind==2 with
    |true =>
     obtain ⟨y,hy,hyb⟩:=iQ (hsrc co k2)
     try simp only [aj,go_sem,cQ,bI,eb,co,c7,k1,k2,c7']
     refine ⟨S,y,⟨rfl,hS,hy⟩,?_⟩
     simp only [co,c7,k1,k2,Bool.true_and,Bool.false_and,Bool.and_true,Bool.and_false,Bool.true_or,Bool.false_or,Bool.or_true,Bool.or_false,Bool.not_true,Bool.not_false,if_true,if_false,reduceCtorEq,Bool.false_eq_true,ite_true,ite_false] at hR
     subst hR
     try simp only [aj,go_sem,cQ,bI,eb,iv,vb,iNq,co,c7,k1,k2,hyb,c7']
     try (repeat with_reducible refine Yq ?_)
     exact Z1
    |false =>
     have hpl:=hpar co k1 k2
     have gp:=aO (f:=bb) (l:=a.params) (k:=p.n.toNat) (x:=a.params[p.n.toNat]) (gQq hpl)
     have gq:a.params.getD p.n.toNat ⟨[],0⟩=a.params[p.n.toNat]:=by simp [gEq,hpl]
     rw [gq] at hR
     generalize a.params[p.n.toNat]=z at *
     have hz:bb z=.agg [.str z.name,.int .i64 z.bits]:=rfl
     rw [hz] at gp
     try simp only [aj,go_sem,cQ,bI,eb,co,c7,k1,k2,gp,ybb,c7']
     refine ⟨⟨by omega,by omega⟩,?_⟩
     simp only [co,c7,k1,k2,Bool.true_and,Bool.false_and,Bool.and_true,Bool.and_false,Bool.true_or,Bool.false_or,Bool.or_true,Bool.or_false,Bool.not_true,Bool.not_false,if_true,if_false,reduceCtorEq,Bool.false_eq_true,ite_true,ite_false] at hR
     subst hR
     try simp only [aj,go_sem,cQ,bI,eb,iv,vb,iNq,co,c7,k1,k2,c7']
     try (repeat with_reducible refine Yq ?_)
     exact Z1
  |false =>
   have c7':(p.op != 7)=true:=by simp only [bne,c7,Bool.not_false]
   obtain ⟨x,hx,hxb⟩:=iQ (hd co c7)
   try simp only [go_sem,cQ,bI,co,c7']
   refine ⟨S,x,⟨rfl,hS,hx⟩,?_⟩
   try simp only [aj,go_sem,cQ,bI,co,c7']
   simp only [hxb]
   cases k1:p.kind==1 with
   |true =>
    simp only [co,c7,k1,Bool.true_and,Bool.false_and,Bool.and_true,Bool.and_false,Bool.true_or,Bool.false_or,Bool.or_true,Bool.or_false,Bool.not_true,Bool.not_false,if_true,if_false,reduceCtorEq,Bool.false_eq_true,ite_true,ite_false] at hR
    unfold ftV at hR
    subst hR
    try simp only [aj,go_sem,cQ,bI,eb,iv,vb,iNq,co,c7,k1,c7',hxb]
    try (repeat with_reducible refine Yq ?_)
    exact Z1
   |false =>
    cases k2:p.kind==2 with
    |true =>
     obtain ⟨y,hy,hyb⟩:=iQ (hsrc co k2)
     try simp only [aj,go_sem,cQ,bI,eb,co,c7,k1,k2,c7',hxb]
     refine ⟨S,y,⟨rfl,hS,hy⟩,?_⟩
     simp only [co,c7,k1,k2,Bool.true_and,Bool.false_and,Bool.and_true,Bool.and_false,Bool.true_or,Bool.false_or,Bool.or_true,Bool.or_false,Bool.not_true,Bool.not_false,if_true,if_false,reduceCtorEq,Bool.false_eq_true,ite_true,ite_false] at hR
     subst hR
     try simp only [aj,go_sem,cQ,bI,eb,iv,vb,iNq,co,c7,k1,k2,hyb,c7',hxb]
     try (repeat with_reducible refine Yq ?_)
     exact Z1
    |false =>
     have hpl:=hpar co k1 k2
     have gp:=aO (f:=bb) (l:=a.params) (k:=p.n.toNat) (x:=a.params[p.n.toNat]) (gQq hpl)
     have gq:a.params.getD p.n.toNat ⟨[],0⟩=a.params[p.n.toNat]:=by simp [gEq,hpl]
     rw [gq] at hR
     generalize a.params[p.n.toNat]=z at *
     have hz:bb z=.agg [.str z.name,.int .i64 z.bits]:=rfl
     rw [hz] at gp
     try simp only [aj,go_sem,cQ,bI,eb,co,c7,k1,k2,gp,ybb,c7',hxb]
     refine ⟨⟨by omega,by omega⟩,?_⟩
     simp only [co,c7,k1,k2,Bool.true_and,Bool.false_and,Bool.and_true,Bool.and_false,Bool.true_or,Bool.false_or,Bool.or_true,Bool.or_false,Bool.not_true,Bool.not_false,if_true,if_false,reduceCtorEq,Bool.false_eq_true,ite_true,ite_false] at hR
     subst hR
     try simp only [aj,go_sem,cQ,bI,eb,iv,vb,iNq,co,c7,k1,k2,c7',hxb]
     try (repeat with_reducible refine Yq ?_)
     exact Z1
def xM:List AV→AHeap→(AV→Prop)→Prop
 |[x,.slice _ 2 y],_,K=>∃ (a:SAction) (vs:List Nat),(x=ap a∧y=vs.map vv∧a.params.length≤1000000∧vs.length≤1000000∧∀ v∈vs,v<2^128)∧K (.bool (Jj a.params vs))
 |_,_,_=>False
theorem IK:EntOk Tryz.prog 179 (Ent.pure xM):=by
 refine Ype fun _ H K h=>?_
 unfold xM at h
 split at h
 rotate_left
 ·exact h.elim
 rename_i x m y
 obtain ⟨a,vs,⟨rfl,rfl,hpl,hvl,hvs⟩,hK⟩:=h
 refine ⟨_,hK,?_⟩
 clear hK
 unfold ap
 generalize hR:Jj a.params vs=R
 unfold Jj at hR
 refine ACalls.fW ak (tCq qs tNq) Tryz.func179 [.tmp 4] (nrq _) (T:=ag [(6,[[],[],[],[],[],[],[],[0,2,6]])]) (h:=fun hcl hlt=>?_)
 have hm:∀ n',H.nx≤n'→AV.lt n' (.slice m 2 (vs.map vv)):=fun n' hn=>AV.lt_mono hn _ (hlt (.slice m 2 (vs.map vv)) (by simp))
 have hx:=AV.lt_mono (Nat.le_succ H.nx) _ (hlt _ List.mem_cons_self)
 simp only [znr] at hx
 have hcb:=ae hcl hx
 clear hlt hx
 have dn1:(!true)=false:=rfl
 have dn2:(!false)=true:=rfl
 by_cases hlen:vs.length=a.params.length
 rotate_left
 ·rw [dfq hlen,Bool.false_and] at hR
  subst hR
  have dl:((vs.length:Int) != (a.params.length:Int))=true:=by simp;omega
  simp only [aM,aj,bhq,Nat.reduceMod,Nat.reduceDiv,aB,aC,aD,ba,aE,aZ,aV,aX,aW,yaq,yar,yao,yap,go_sem,ybb,dl]
  exact Z1
 rw [dtq hlen,Bool.true_and] at hR
 have dl:((vs.length:Int) != (a.params.length:Int))=false:=by simp [hlen]
 simp only [aM,aj,bhq,Nat.reduceMod,Nat.reduceDiv,aB,aC,aD,ba,aE,aZ,aV,aX,aW,yaq,yar,yao,yap,go_sem,ybb,dl]
 refine ay (A:=Nat) (fun k=>[(2,.ptr H.nx 0),(13,.slice m 2 (vs.map vv)),(14,.int .i64 (vs.length:Int)),(15,.int .i64 (k:Int))]) (fun _=>(H.push (.cells [.int .i64 a.id,.str a.name,.slice .any 2 (a.params.map bb),.slice .any 6 (a.body.map bv),.str a.restr])))
  (fun k=>k≤a.params.length∧Fy (a.params.drop k) (vs.drop k)=R) (fun k=>a.params.length - k) 0 ⟨Nat.zero_le _,hR⟩ ?_ fun k hk=>?_
 ·refine ⟨by (try simp only [zkq,zkv,zle]);omega,by repeat first|exact .refl _|refine .push ?_ _,hcb,?_,?_⟩
  ·simp [ltF,zle,znn,znf,aL lH,yP,hm,lf]
   try omega
  ·simp [aS,wk2,wk1,wkM,Fr.get]
 clear hR
 obtain ⟨hk,hR⟩:=hk
 simp only [aM,aj,bhq,Nat.reduceMod,Nat.reduceDiv,aB,aC,aD,ba,aE,aZ,aV,aX,aW,yaq,yar,yao,yap,go_sem]
 refine ah (fun hc=>?_) (fun hc=>?_)
 ·have hk':k<a.params.length:=by simp at hc;omega
  have hkv:k<vs.length:=by omega
  obtain ⟨x,hx⟩:∃ x,x=vs[k]:=⟨_,rfl⟩
  obtain ⟨p,hp⟩:∃ p,p=a.params[k]:=⟨_,rfl⟩
  have hd:vs.drop k=x::vs.drop (k+1):=by rw [hx];exact dcq hkv
  have hdp:a.params.drop k=p::a.params.drop (k+1):=by rw [hp];exact dcq hk'
  have hgx:=aO (f:=vv) (l:=vs) (k:=k) (x:=x) (by rw [gQq hkv,hx])
  have hgp:=aO (f:=bb) (l:=a.params) (k:=k) (x:=p) (by rw [gQq hk',hp])
  have hxl:=hvs x (by rw [hx];exact gMq hkv)
  have iv:=uk hxl
  have e5:=Yk5 k
  rw [hd,hdp] at hR
  unfold Fy at hR
  simp only [aM,aj,bhq,Nat.reduceMod,Nat.reduceDiv,aB,aC,aD,ba,aE,aZ,aV,aX,aW,yaq,yar,yao,yap,go_sem,iNq,hgx,hgp,vv,bb,ybb,eb,lC,iv]
  (repeat with_reducible refine Yq ?_)
  cases hq:decide (((bl x:Nat):Int)≤p.bits) with
  |false =>
   rw [hq,Bool.false_and] at hR
   subst hR
   simp only [aM,aj,bhq,Nat.reduceMod,Nat.reduceDiv,aB,aC,aD,ba,aE,aZ,aV,aX,aW,yaq,yar,yao,yap,go_sem,dn1,dn2]
   try (repeat with_reducible refine Yq ?_)
   exact Z1
  |true =>
   rw [hq,Bool.true_and] at hR
   simp only [aM,aj,bhq,Nat.reduceMod,Nat.reduceDiv,aB,aC,aD,ba,aE,aZ,aV,aX,aW,yaq,yar,yao,yap,go_sem,dn1,dn2,e5]
   try (repeat with_reducible refine Yq ?_)
   refine ⟨k+1,⟨by omega,hR⟩,by omega,?_⟩
   refine ⟨by (try simp only [zkq,zkv,zle]);omega,by repeat first|exact .refl _|refine .push ?_ _,hcb,?_,?_⟩
   ·simp [ltF,zle,znn,znf,aL lH,yP,hm,lf]
    try omega
   ·simp [aS,wk2,wk1,wkM,Fr.get]
 ·have hk':k=a.params.length:=by simp at hc;omega
  subst hk'
  have hf:Fy (a.params.drop a.params.length) (vs.drop a.params.length)=true:=by
   rw [List.drop_length,← hlen,List.drop_length];rfl
  rw [hf] at hR
  subst hR
  simp only [aM,aj,bhq,Nat.reduceMod,Nat.reduceDiv,aB,aC,aD,ba,aE,aZ,aV,aX,aW,yaq,yar,yao,yap,go_sem]
  exact Z1
theorem oF {x y:Nat}:((((x/2^64:Nat):Int)==((y/2^64:Nat):Int))&&(((((x % 2^64:Nat):Int)==((y % 2^64:Nat):Int)))&&true))=decide (x=y):=by
 rw [Bool.eq_iff_iff]
 simp
 omega
def nz (S:Sch) (f:Int) (c:SCase):Bool:=ftV c.value (btF S f)&&(ftV c.mask (btF S f)&&decide (c.value &&& c.mask=c.value))
def zq:List AV→AHeap→(AV→Prop)→Prop
 |[.agg l,.int .i64 f,x],_,K=>∃ (S:Sch) (c:SCase),(l=aG S∧x=bH c∧SLen S∧b7 S f=true∧c.value<2^128∧c.mask<2^128)∧K (.bool (nz S f c))
 |_,_,_=>False
theorem IQ:EntOk Tryz.prog 174 (Ent.pure zq):=by
 refine Ype fun _ H K h=>?_
 unfold zq at h
 split at h
 rotate_left
 ·exact h.elim
 rename_i l f x
 obtain ⟨S,c,⟨rfl,rfl,hS,hf,h1,h2⟩,hK⟩:=h
 refine ⟨_,hK,?_⟩
 clear hK
 have iv:=uk h1
 have iw:=uk h2
 have vb:=lC c.value
 have wb:=lC c.mask
 generalize hR:nz S f c=R
 unfold nz ftV at hR
 obtain ⟨y,hy,hyb⟩:=iQ hf
 unfold bH vc
 refine ACalls.fW ak (tCq lD (tCq qs (tCq It tNq))) Tryz.func174 [.tmp 6] (nrq _) (T:=ag [(2,[[],[],[],[1],[],[],[3],[],[1,3,6],[],[],[],[3,8],[],[3,8],[1,3,6,8,12,14],[],[3,8]])]) (h:=fun hcl hlt=>?_)
 clear hlt
 unfold aG
 simp only [go_sem,bI]
 refine ⟨S,y,⟨rfl,hS,hy⟩,?_⟩
 simp only [aj,go_sem,bI,eb,lT,p2V,iv,iw,vb,wb,iNq,hyb,vv,kz,ki,oF]
 try (repeat with_reducible refine Yq ?_)
 cases c1:decide (((bl c.value:Nat):Int)≤btF S f) with
 |false =>
  simp only [c1,Bool.true_and,Bool.false_and,Bool.and_true,Bool.and_false,Bool.true_or,Bool.false_or,Bool.or_true,Bool.or_false,Bool.not_true,Bool.not_false,if_true,if_false,reduceCtorEq,Bool.false_eq_true,ite_true,ite_false] at hR
  subst hR
  try simp only [aj,go_sem,bI,eb,lT,p2V,iv,iw,vb,wb,iNq,hyb,vv,kz,ki,oF,c1]
  try (repeat with_reducible refine Yq ?_)
  exact Z1
 |true =>
  try simp only [aj,go_sem,bI,eb,lT,p2V,iv,iw,vb,wb,iNq,hyb,vv,kz,ki,oF,c1]
  try (repeat with_reducible refine Yq ?_)
  cases c2:decide (((bl c.mask:Nat):Int)≤btF S f) with
  |false =>
   simp only [c1,c2,Bool.true_and,Bool.false_and,Bool.and_true,Bool.and_false,Bool.true_or,Bool.false_or,Bool.or_true,Bool.or_false,Bool.not_true,Bool.not_false,if_true,if_false,reduceCtorEq,Bool.false_eq_true,ite_true,ite_false] at hR
   subst hR
   try simp only [aj,go_sem,bI,eb,lT,p2V,iv,iw,vb,wb,iNq,hyb,vv,kz,ki,oF,c1,c2]
   try (repeat with_reducible refine Yq ?_)
   exact Z1
  |true =>
   try simp only [aj,go_sem,bI,eb,lT,p2V,iv,iw,vb,wb,iNq,hyb,vv,kz,ki,oF,c1,c2]
   try (repeat with_reducible refine Yq ?_)
   simp only [c1,c2,Bool.true_and] at hR
   subst hR
   try simp only [aj,go_sem,bI,eb,lT,p2V,iv,iw,vb,wb,iNq,hyb,vv,kz,ki,oF,c1,c2]
   try (repeat with_reducible refine Yq ?_)
   simp (disch:=first|exact Zd|omega) [↓zmo,beq,ybc,ybd,ybe,aa,wk,wk2,wk1,wkM,wkL,af,ybf,hcl]
   generalize c.value &&& c.mask=z
   rw [Bool.eq_iff_iff]
   simp
   omega
def smB (S:Sch):List Int→Int→Int
 |[],n=>n
 |f::l,n=>smB S l (n+btF S f)
def rR (S:Sch) (t:SHeader):Bool:=decide (smB S t.fields 0 % 8=0)&&(decide (smB S t.fields 0≤512)&&(!t.fields.contains 1&&!t.fields.contains 2))
def ia:List AV→AHeap→(AV→Prop)→Prop
 |[.agg l,x],_,K=>∃ (S:Sch) (t:SHeader),(l=aG S∧x=az t∧SLen S∧t.fields.length≤1000000∧∀ f∈t.fields,b7 S f=true∧0≤btF S f∧btF S f≤1000000)∧K (.bool (rR S t))
 |_,_,_=>False
theorem Iu:EntOk Tryz.prog 170 (Ent.pure ia):=by
 refine Ype fun _ H K h=>?_
 unfold ia at h
 split at h
 rotate_left
 ·exact h.elim
 rename_i l x
 obtain ⟨S,t,⟨rfl,rfl,hS,hfl,hf⟩,hK⟩:=h
 refine ⟨_,hK,?_⟩
 clear hK
 generalize hR:rR S t=R
 unfold rR at hR
 obtain ⟨N,hN⟩:∃ N,smB S t.fields 0=N:=⟨_,rfl⟩
 rw [hN] at hR
 unfold az
 refine ACalls.fW ak (tCq lD (tCq nr tNq)) Tryz.func170 [.tmp 4] (nrq _) (T:=ag []) (h:=fun hcl hlt=>?_)
 have hx:=AV.lt_mono (Nat.le_succ H.nx) _ (hlt _ List.mem_cons_self)
 have hx2:=AV.lt_mono (show H.nx≤H.nx+1+1 by omega) _ (hlt _ (List.mem_cons_of_mem _ List.mem_cons_self))
 clear hlt
 simp only [znr] at hx hx2
 have hcp:=ae (ae hcl hx) hx2
 obtain ⟨Hb,hHb⟩:∃ Hb,(H.push (.cells (aG S))).push (.cells [.int .i64 t.id,.str t.name,.slice .any 1 (inL t.fields)])=Hb:=⟨_,rfl⟩
 have hg0:Hb.get H.nx=some (.cells (aG S)):=by rw [← hHb,zlh,if_neg (by rw [zle];omega)];exact AHeap.get_push_new _ _
 have hg1:Hb.get (H.nx+1)=some (.cells [.int .i64 t.id,.str t.name,.slice .any 1 (inL t.fields)]):=by rw [← hHb];exact AHeap.get_push_new _ _
 have hnb:Hb.nx=H.nx+1+1:=by rw [← hHb];rfl
 have hHle:H.Le Hb:=by rw [← hHb];exact ((lRq _).push _).push _
 rw [hHb] at hcp
 have hcs0:=au hg0
 have hcs1:=au hg1
 have hlen:(inL t.fields).length=t.fields.length:=by simp [inL]
 have hm:∀ n',AV.lt n' (.slice .any 1 (inL t.fields)):=fun n'=>by
  rw [AV.lt]
  exact ⟨fun id e=>(by cases e),fun j hj=>by simp only [inL,List.getElem_map,znf]⟩
 unfold aG at hHb hg0 hcs0 ⊢
 simp only [go_sem,hHb,hcs1,hlen]
 try simp only [go_sem,hlen]
 refine ay (A:=Nat × Int) (fun a=>[(2,.ptr H.nx 0),(3,.ptr (H.nx+1) 0),(5,.int .i64 a.2),(9,.slice .any 1 (inL t.fields)),(10,.int .i64 (t.fields.length:Int)),(11,.int .i64 (a.1:Int))]) (fun _=>Hb)
  (fun a=>a.1≤t.fields.length∧0≤a.2∧a.2≤(a.1:Int)*1000000∧smB S (t.fields.drop a.1) a.2=N) (fun a=>t.fields.length - a.1) (0,0) ⟨Nat.zero_le _,by decide,by decide,hN⟩ ?_ fun a ha=>?_
 ·refine ⟨by (try simp only [zkq,zkv]);omega,lRq _,hcp,?_,?_⟩
  ·simp [ltF,znf,znn,hm,hnb]
   try omega
  ·simp [aS,wk2,wk1,wkM,Fr.get]
 obtain ⟨k,n⟩:=a
 obtain ⟨hk,hn0,hn1,hn⟩:=ha
 dsimp only at hk hn0 hn1 hn ⊢
 simp only [go_sem]
 refine ah (fun hc=>?_) (fun hc=>?_)
 ·have hk':k<t.fields.length:=by simp at hc;omega
  obtain ⟨x,hx⟩:∃ x,x=t.fields[k]:=⟨_,rfl⟩
  have hd:t.fields.drop k=x::t.fields.drop (k+1):=by rw [hx];exact dcq hk'
  have hg':(inL t.fields).getD k .junk=.int .i64 x:=aO (f:=AV.int .i64) (l:=t.fields) (k:=k) (x:=x) (by rw [gQq hk',hx])
  have e5:=Yk5 k
  obtain ⟨q1,q2,q3⟩:=hf x (by rw [hx];exact gMq hk')
  obtain ⟨y,hy,hyb⟩:=iQ q1
  have e6:IntKind.i64.wrap (n+y.bits)=n+y.bits:=by rw [hyb];rw [wrap_i64]<;>omega
  rw [hd] at hn
  unfold smB at hn
  have hne0:(H.nx=Hb.nx)=False:=eq_false (by omega)
  simp only [go_sem,iNq,hlen,hg',hg0,hcs0,hne0,bI]
  try (repeat with_reducible refine Yq ?_)
  refine ⟨S,y,⟨rfl,hS,hy⟩,?_⟩
  simp only [aj,go_sem,e5,e6]
  refine ⟨(k+1,n+y.bits),⟨by dsimp only;omega,by dsimp only;omega,by dsimp only;rw [hyb];omega,by dsimp only;rw [hyb];exact hn⟩,by dsimp only;omega,by omega,lRq _,hcp,?_,?_⟩
  ·simp [ltF,znf,znn,hm,hnb]
   try omega
  ·simp [aS,wk2,wk1,wkM,Fr.get]
 ·have hk':k=t.fields.length:=by simp at hc;omega
  subst hk'
  rw [List.drop_length] at hn
  have hn':n=N:=hn
  subst hn'
  have hg2:=hg1
  have hne1:(H.nx+1=Hb.nx)=False:=eq_false (by omega)
  simp only [go_sem,hcs1,fg]
  have d8:(n.tmod 8==0)=decide (n % 8=0):=by
   rw [Int.tmod_eq_emod_of_nonneg hn0,Bool.eq_iff_iff];simp
  refine ⟨by decide,?_⟩
  rw [d8]
  cases c1:decide (n % 8=0) with
  |false =>
   simp only [c1,Bool.true_and,Bool.false_and,Bool.and_true,Bool.and_false,Bool.true_or,Bool.false_or,Bool.or_true,Bool.or_false,Bool.not_true,Bool.not_false,if_true,if_false,reduceCtorEq,Bool.false_eq_true,ite_true,ite_false] at hR
   subst hR
   try simp only [go_sem,fg,c1]
   exact Z13
  |true =>
   try simp only [go_sem,fg,c1]
   cases c2:decide (n≤512) with
   |false =>
    simp only [c1,c2,Bool.true_and,Bool.false_and,Bool.and_true,Bool.and_false,Bool.true_or,Bool.false_or,Bool.or_true,Bool.or_false,Bool.not_true,Bool.not_false,if_true,if_false,reduceCtorEq,Bool.false_eq_true,ite_true,ite_false] at hR
    subst hR
    try simp only [go_sem,fg,c1,c2]
    exact Z13
   |true =>
    try simp only [go_sem,fg,c1,c2]
    refine ⟨t.fields,⟨rfl,hfl⟩,?_⟩
    cases c3:t.fields.contains 1 with
    |true =>
     simp only [c1,c2,c3,Bool.true_and,Bool.false_and,Bool.and_true,Bool.and_false,Bool.true_or,Bool.false_or,Bool.or_true,Bool.or_false,Bool.not_true,Bool.not_false,if_true,if_false,reduceCtorEq,Bool.false_eq_true,ite_true,ite_false] at hR
     subst hR
     try simp only [go_sem,fg,c1,c2,c3]
     exact Z13
    |false =>
     try simp only [go_sem,fg,c1,c2,c3]
     refine ⟨t.fields,⟨rfl,hfl⟩,?_⟩
     cases c4:t.fields.contains 2 with
     |true =>
      simp only [c1,c2,c3,c4,Bool.true_and,Bool.false_and,Bool.and_true,Bool.and_false,Bool.true_or,Bool.false_or,Bool.or_true,Bool.or_false,Bool.not_true,Bool.not_false,if_true,if_false,reduceCtorEq,Bool.false_eq_true,ite_true,ite_false] at hR
      subst hR
      try simp only [go_sem,fg,c1,c2,c3,c4]
      exact Z13
     |false =>
      simp only [c1,c2,c3,c4,Bool.true_and,Bool.false_and,Bool.and_true,Bool.and_false,Bool.true_or,Bool.false_or,Bool.or_true,Bool.or_false,Bool.not_true,Bool.not_false,if_true,if_false,reduceCtorEq,Bool.false_eq_true,ite_true,ite_false] at hR
      subst hR
      try simp only [go_sem,fg,c1,c2,c3,c4]
      exact Z13
def LL (S:Sch) (t:SHeader):Prop:=t.fields.length≤1000000∧∀ f∈t.fields,b7 S f=true∧0≤btF S f∧btF S f≤1000000
def KA (S:Sch) (f:Int) (c:SCase):Prop:=b7 S f=true∧c.value<2^128∧c.mask<2^128
def KE (S:Sch) (a:SAction) (p:SPrim):Prop:=p.value<2^128∧nI S a.params.length p=true∧fpB p=true∧0≤p.n
def Jw:List AV→AHeap→(AV→Prop)→Prop
 |[x,.ptr c 0],H,K=>∃ (t:SHeader) (S:Sch),(x=az t∧H.get c=some (.cells (aG S))∧SLen S∧LL S t)∧K (.bool (rR S t))
 |_,_,_=>False
theorem ok_ft1:EntOk Tryz.prog 169 (Ent.pure Jw):=by
 refine Ype fun _ H K h=>?_
 unfold Jw at h
 split at h
 rotate_left
 ·exact h.elim
 rename_i x c
 obtain ⟨t,S,⟨rfl,hg,hS,hk⟩,hK⟩:=h
 refine ⟨_,hK,?_⟩
 clear hK
 have hl:=glq hg
 have hne:(c=H.nx)=False:=eq_false (by omega)
 have hcs:=au hg
 have hgS:=hg
 generalize hR:(rR S t)=R
 skip
 unfold az
 unfold aG at hg hcs
 refine ACalls.fW ak (tCq Iu tNq) Tryz.func169 [.tmp 3] (nrq _) (T:=ag []) (h:=fun hcl hlt=>?_)
 clear hlt
 try simp only [aj,go_sem,hcs,hne,hg,ia,bK,bV,b9]
 refine ⟨S,t,⟨rfl,rfl,hS,hk.1,hk.2⟩,?_⟩
 cases k1:rR S t with
 |false =>
  simp only [k1,Bool.true_and,Bool.false_and,Bool.and_true,Bool.and_false,Bool.true_or,Bool.false_or,Bool.or_true,Bool.or_false,Bool.not_true,Bool.not_false,if_true,if_false,reduceCtorEq,Bool.false_eq_true,ite_true,ite_false] at hR
  subst hR
  try simp only [aj,go_sem,hcs,hne,hg,ia,bK,bV,b9,k1]
  exact Z1
 |true =>
  simp only [k1,Bool.true_and,Bool.false_and,Bool.and_true,Bool.and_false,Bool.true_or,Bool.false_or,Bool.or_true,Bool.or_false,Bool.not_true,Bool.not_false,if_true,if_false,reduceCtorEq,Bool.false_eq_true,ite_true,ite_false] at hR
  subst hR
  try simp only [aj,go_sem,hcs,hne,hg,ia,bK,bV,b9,k1]
  exact Z1
def E1:List AV→AHeap→(AV→Prop)→Prop
 |[x,.ptr c 0,.ptr d 0],H,K=>∃ (t:SCase) (a:SState) (S:Sch) (cs:List AV),(x=bH t∧H.get c=some (.cells (aG S))∧H.get d=some (.cells cs)∧aH a=.agg cs∧SLen S∧KA S a.select t)∧K (.bool (nz S a.select t))
 |_,_,_=>False
theorem ok_ft21:EntOk Tryz.prog 173 (Ent.pure E1):=by
 refine Ype fun _ H K h=>?_
 unfold E1 at h
 split at h
 rotate_left
 ·exact h.elim
 rename_i x c d
 obtain ⟨t,a,S,cs,⟨rfl,hg,hgd,hac,hS,hk⟩,hK⟩:=h
 refine ⟨_,hK,?_⟩
 clear hK
 unfold aH at hac
 cases hac
 have hl:=glq hg
 have hne:(c=H.nx)=False:=eq_false (by omega)
 have hcs:=au hg
 have hl2:=glq hgd
 have hne2:(d=H.nx)=False:=eq_false (by omega)
 have hcs2:=au hgd
 generalize hR:(nz S a.select t)=R
 unfold bH vc
 unfold aG at hg hcs
 refine ACalls.fW ak (tCq IQ tNq) Tryz.func173 [.tmp 4] (nrq _) (T:=ag []) (h:=fun hcl hlt=>?_)
 clear hlt
 simp only [go_sem,hcs,hne,hg,hcs2,hne2,hgd,zq]
 refine ⟨S,t,⟨rfl,rfl,hS,hk.1,hk.2.1,hk.2.2⟩,?_⟩
 simp only [aj,go_sem,hR]
 exact Z1
def FL:List AV→AHeap→(AV→Prop)→Prop
 |[x,.ptr c 0,.ptr d 0],H,K=>∃ (t:SPrim) (a:SAction) (S:Sch) (cs:List AV),(x=bv t∧H.get c=some (.cells (aG S))∧H.get d=some (.cells cs)∧ap a=.agg cs∧SLen S∧KE S a t)∧K (.bool (nZ S a t))
 |_,_,_=>False
theorem ok_ft31:EntOk Tryz.prog 176 (Ent.pure FL):=by
 refine Ype fun _ H K h=>?_
 unfold FL at h
 split at h
 rotate_left
 ·exact h.elim
 rename_i x c d
 obtain ⟨t,a,S,cs,⟨rfl,hg,hgd,hac,hS,hk⟩,hK⟩:=h
 refine ⟨_,hK,?_⟩
 clear hK
 unfold ap at hac
 cases hac
 have hl:=glq hg
 have hne:(c=H.nx)=False:=eq_false (by omega)
 have hcs:=au hg
 have hl2:=glq hgd
 have hne2:(d=H.nx)=False:=eq_false (by omega)
 have hcs2:=au hgd
 generalize hR:(nZ S a t)=R
 unfold bv vc
 unfold aG at hg hcs
 refine ACalls.fW ak (tCq Kr tNq) Tryz.func176 [.tmp 4] (nrq _) (T:=ag []) (h:=fun hcl hlt=>?_)
 clear hlt
 simp only [go_sem,hcs,hne,hg,hcs2,hne2,hgd,ES]
 refine ⟨S,a,t,⟨rfl,rfl,rfl,hS,hk.1,hk.2.1,hk.2.2.1,hk.2.2.2⟩,?_⟩
 simp only [aj,go_sem,hR]
 exact Z1
def Jv:List AV→AHeap→(AV→Prop)→Prop
 |[x,.ptr c 0],H,K=>∃ (t:SState) (S:Sch),(x=aH t∧H.get c=some (.cells (aG S))∧SLen S∧t.cases.length≤1000000∧∀ p∈t.cases,KA S t.select p)∧K (.bool (t.cases.all fun p=>nz S t.select p))
 |_,_,_=>False
theorem ok_ft2:EntOk Tryz.prog 171 (Ent.pure Jv):=by
 refine Ype fun _ H K h=>?_
 unfold Jv at h
 split at h
 rotate_left
 ·exact h.elim
 rename_i x c
 obtain ⟨t,S,⟨rfl,hg,hS,hbl,hk⟩,hK⟩:=h
 refine ⟨_,hK,?_⟩
 clear hK
 have hl:=glq hg
 have hne:(c=H.nx)=False:=eq_false (by omega)
 have hcs:=au hg
 have hgS:=hg
 generalize hR:(t.cases.all fun p=>nz S t.select p)=R
 skip
 unfold aH
 unfold aG at hg hcs
 refine ACalls.fW ak (tCq wK tNq) Tryz.func171 [.tmp 3] (nrq _) (T:=ag []) (h:=fun hcl hlt=>?_)
 clear hlt
 try simp only [aj,go_sem,hcs,hne,hg,ia,bK,bV,b9]
 refine ⟨t.cases,(fun p=>nz S t.select p),⟨rfl,hbl,fun p hx H' hle' hcl'=>by
  obtain ⟨v,hv,hc'⟩:=ok_ft21.1 rfl [bH p,.ptr c 0,.ptr H.nx 0] H' (fun v=>v=.bool (nz S t.select p)) ⟨p,t,S,_,⟨rfl,hle'.get _ _ (by rw [zlh,if_neg (by omega)];exact hgS),hle'.get _ _ (AHeap.get_push_new _ _),rfl,hS,hk p hx⟩,rfl⟩
  subst hv
  exact hc'⟩,?_⟩
 cases k1:t.cases.all (fun p=>nz S t.select p) with
 |false =>
  simp only [k1,Bool.true_and,Bool.false_and,Bool.and_true,Bool.and_false,Bool.true_or,Bool.false_or,Bool.or_true,Bool.or_false,Bool.not_true,Bool.not_false,if_true,if_false,reduceCtorEq,Bool.false_eq_true,ite_true,ite_false] at hR
  subst hR
  try simp only [aj,go_sem,hcs,hne,hg,ia,bK,bV,b9,k1]
  exact Z1
 |true =>
  simp only [k1,Bool.true_and,Bool.false_and,Bool.and_true,Bool.and_false,Bool.true_or,Bool.false_or,Bool.or_true,Bool.or_false,Bool.not_true,Bool.not_false,if_true,if_false,reduceCtorEq,Bool.false_eq_true,ite_true,ite_false] at hR
  subst hR
  try simp only [aj,go_sem,hcs,hne,hg,ia,bK,bV,b9,k1]
  exact Z1
def JK:List AV→AHeap→(AV→Prop)→Prop
 |[x,.ptr c 0],H,K=>∃ (t:SAction) (S:Sch),(x=ap t∧H.get c=some (.cells (aG S))∧SLen S∧t.body.length≤1000000∧∀ p∈t.body,KE S t p)∧K (.bool (t.body.all fun p=>nZ S t p))
 |_,_,_=>False
theorem ok_ft3:EntOk Tryz.prog 175 (Ent.pure JK):=by
 refine Ype fun _ H K h=>?_
 unfold JK at h
 split at h
 rotate_left
 ·exact h.elim
 rename_i x c
 obtain ⟨t,S,⟨rfl,hg,hS,hbl,hk⟩,hK⟩:=h
 refine ⟨_,hK,?_⟩
 clear hK
 have hl:=glq hg
 have hne:(c=H.nx)=False:=eq_false (by omega)
 have hcs:=au hg
 have hgS:=hg
 generalize hR:(t.body.all fun p=>nZ S t p)=R
 skip
 unfold ap
 unfold aG at hg hcs
 refine ACalls.fW ak (tCq qt tNq) Tryz.func175 [.tmp 3] (nrq _) (T:=ag []) (h:=fun hcl hlt=>?_)
 clear hlt
 try simp only [aj,go_sem,hcs,hne,hg,ia,bK,bV,b9]
 refine ⟨t.body,(fun p=>nZ S t p),⟨rfl,hbl,fun p hx H' hle' hcl'=>by
  obtain ⟨v,hv,hc'⟩:=ok_ft31.1 rfl [bv p,.ptr c 0,.ptr H.nx 0] H' (fun v=>v=.bool (nZ S t p)) ⟨p,t,S,_,⟨rfl,hle'.get _ _ (by rw [zlh,if_neg (by omega)];exact hgS),hle'.get _ _ (AHeap.get_push_new _ _),rfl,hS,hk p hx⟩,rfl⟩
  subst hv
  exact hc'⟩,?_⟩
 cases k1:t.body.all (fun p=>nZ S t p) with
 |false =>
  simp only [k1,Bool.true_and,Bool.false_and,Bool.and_true,Bool.and_false,Bool.true_or,Bool.false_or,Bool.or_true,Bool.or_false,Bool.not_true,Bool.not_false,if_true,if_false,reduceCtorEq,Bool.false_eq_true,ite_true,ite_false] at hR
  subst hR
  try simp only [aj,go_sem,hcs,hne,hg,ia,bK,bV,b9,k1]
  exact Z1
 |true =>
  simp only [k1,Bool.true_and,Bool.false_and,Bool.and_true,Bool.and_false,Bool.true_or,Bool.false_or,Bool.or_true,Bool.or_false,Bool.not_true,Bool.not_false,if_true,if_false,reduceCtorEq,Bool.false_eq_true,ite_true,ite_false] at hR
  subst hR
  try simp only [aj,go_sem,hcs,hne,hg,ia,bK,bV,b9,k1]
  exact Z1
def tmF (S:Sch) (t:STable):Bool:=match S.actions.find? (fun a=>a.id==t.dflt) with
 |some a=>Jj a.params t.dargs
 |none=>false
def L4 (S:Sch) (t:STable):Prop:=∃ a,S.actions.find? (fun a=>a.id==t.dflt)=some a∧a.params.length≤1000000∧t.dargs.length≤1000000∧∀ v∈t.dargs,v<2^128
def gkB (S:Sch) (g:SGrant):Bool:=match S.tables.find? (fun t=>t.id==g.table) with
 |some b=>decide (g.keys.length=b.keys.length)
 |none=>false
def JC:List AV→AHeap→(AV→Prop)→Prop
 |[x,.ptr c 0],H,K=>∃ (t:STable) (S:Sch),(x=aq t∧H.get c=some (.cells (aG S))∧SLen S∧L4 S t)∧K (.bool (tmF S t))
 |_,_,_=>False
theorem ok_ft4:EntOk Tryz.prog 178 (Ent.pure JC):=by
 refine Ype fun _ H K h=>?_
 unfold JC at h
 split at h
 rotate_left
 ·exact h.elim
 rename_i x c
 obtain ⟨t,S,⟨rfl,hg,hS,hk⟩,hK⟩:=h
 refine ⟨_,hK,?_⟩
 clear hK
 have hl:=glq hg
 have hne:(c=H.nx)=False:=eq_false (by omega)
 have hcs:=au hg
 have hgS:=hg
 generalize hR:(tmF S t)=R
 skip
 unfold aq
 unfold aG at hg hcs
 refine ACalls.fW ak (tCq fV (tCq IK tNq)) Tryz.func178 [.tmp 3] (nrq _) (T:=ag [(1,[[],[],[],[],[],[2,4],[],[5],[],[],[1,2,4,5,7,9]])]) (h:=fun hcl hlt=>?_)
 clear hlt
 obtain ⟨a,ha,hpl,hal,hvs⟩:=hk
 unfold tmF at hR
 simp only [ha] at hR
 subst hR
 obtain ⟨i,i1,g1,l1⟩:=mq ha
 have ga:=aO (f:=ap) (l:=S.actions) (k:=i) (x:=a) g1
 have hca:ap a=.agg [.int .i64 a.id,.str a.name,.slice .any 2 (a.params.map bb),.slice .any 6 (a.body.map bv),.str a.restr]:=rfl
 rw [hca] at ga
 simp only [go_sem,hcs,hne,hg,eT]
 refine ⟨S,⟨rfl,hS.al⟩,?_⟩
 simp only [aj,go_sem,hcs,hne,hg,i1,ga,iNq,ybb,xM]
 try (repeat with_reducible refine Yq ?_)
 refine ⟨a,t.dargs,⟨rfl,rfl,hpl,hal,hvs⟩,?_⟩
 try simp only [aj,go_sem]
 exact Z1
def C6:List AV→AHeap→(AV→Prop)→Prop
 |[x,.ptr c 0],H,K=>∃ (t:SGrant) (S:Sch),(x=aR t∧H.get c=some (.cells (aG S))∧SLen S∧gt S t.table=true)∧K (.bool (gkB S t))
 |_,_,_=>False
theorem ok_ft51:EntOk Tryz.prog 181 (Ent.pure C6):=by
 refine Ype fun _ H K h=>?_
 unfold C6 at h
 split at h
 rotate_left
 ·exact h.elim
 rename_i x c
 obtain ⟨t,S,⟨rfl,hg,hS,hk⟩,hK⟩:=h
 refine ⟨_,hK,?_⟩
 clear hK
 have hl:=glq hg
 have hne:(c=H.nx)=False:=eq_false (by omega)
 have hcs:=au hg
 have hgS:=hg
 generalize hR:(gkB S t)=R
 skip
 unfold aR
 unfold aG at hg hcs
 refine ACalls.fW ak (tCq fC tNq) Tryz.func181 [.tmp 3] (nrq _) (T:=ag [(1,[[],[],[],[],[],[],[],[],[5,7],[],[],[8]])]) (h:=fun hcl hlt=>?_)
 clear hlt
 unfold gt at hk
 obtain ⟨b,hb⟩:∃ b,S.tables.find? (fun x=>x.id==t.table)=some b:=by
  rw [List.any_eq_true] at hk
  obtain ⟨y,hy,h2⟩:=hk
  cases hf:S.tables.find? (fun x=>x.id==t.table) with
  |none=>exact absurd h2 (by have:=List.find?_eq_none.1 hf y hy;simpa using this)
  |some x=>exact ⟨x,rfl⟩
 unfold gkB at hR
 simp only [hb] at hR
 subst hR
 obtain ⟨i,i1,g1,l1⟩:=mq hb
 have ga:=aO (f:=aq) (l:=S.tables) (k:=i) (x:=b) g1
 have hca:aq b=.agg [.int .i64 b.id,.str b.name,.slice .any 3 (b.keys.map br),.slice .any 1 (inL b.actions),.int .i64 b.dflt,.slice .any 2 (b.dargs.map vv),.int .i64 b.size,.str b.restr]:=rfl
 rw [hca] at ga
 have hbl:(boL t.keys).length=t.keys.length:=by simp [boL]
 have heq:((t.keys.length:Int)==(b.keys.length:Int))=decide (t.keys.length=b.keys.length):=by rw [Bool.eq_iff_iff];simp;omega
 simp only [go_sem,hcs,hne,hg,cY]
 refine ⟨S,⟨rfl,hS.tl⟩,?_⟩
 simp only [aj,go_sem,hcs,hne,hg,i1,ga,iNq,ybb,hbl,heq]
 try (repeat with_reducible refine Yq ?_)
 exact Z1
def JR:List AV→AHeap→(AV→Prop)→Prop
 |[x,.ptr c 0],H,K=>∃ (t:SRole) (S:Sch),(x=aN t∧H.get c=some (.cells (aG S))∧SLen S∧t.grants.length≤1000000∧∀ g∈t.grants,gt S g.table=true)∧K (.bool (t.grants.all fun g=>gkB S g))
 |_,_,_=>False
theorem ok_ft5:EntOk Tryz.prog 180 (Ent.pure JR):=by
 refine Ype fun _ H K h=>?_
 unfold JR at h
 split at h
 rotate_left
 ·exact h.elim
 rename_i x c
 obtain ⟨t,S,⟨rfl,hg,hS,hgl,hk⟩,hK⟩:=h
 refine ⟨_,hK,?_⟩
 clear hK
 have hl:=glq hg
 have hne:(c=H.nx)=False:=eq_false (by omega)
 have hcs:=au hg
 have hgS:=hg
 generalize hR:(t.grants.all fun g=>gkB S g)=R
 skip
 unfold aN
 unfold aG at hg hcs
 refine ACalls.fW ak (tCq xA tNq) Tryz.func180 [.tmp 3] (nrq _) (T:=ag []) (h:=fun hcl hlt=>?_)
 clear hlt
 try simp only [aj,go_sem,hcs,hne,hg,ia,bK,bV,b9]
 refine ⟨t.grants,(fun g=>gkB S g),⟨rfl,hgl,fun x hx H' hle' hcl'=>by
  obtain ⟨v,hv,hc'⟩:=ok_ft51.1 rfl [aR x,.ptr c 0] H' (fun v=>v=.bool (gkB S x)) ⟨x,S,⟨rfl,hle'.get _ _ (by rw [zlh,if_neg (by omega)];exact hgS),hS,hk x hx⟩,rfl⟩
  subst hv
  exact hc'⟩,?_⟩
 cases k1:t.grants.all (fun g=>gkB S g) with
 |false =>
  simp only [k1,Bool.true_and,Bool.false_and,Bool.and_true,Bool.and_false,Bool.true_or,Bool.false_or,Bool.or_true,Bool.or_false,Bool.not_true,Bool.not_false,if_true,if_false,reduceCtorEq,Bool.false_eq_true,ite_true,ite_false] at hR
  subst hR
  try simp only [aj,go_sem,hcs,hne,hg,ia,bK,bV,b9,k1]
  exact Z1
 |true =>
  simp only [k1,Bool.true_and,Bool.false_and,Bool.and_true,Bool.and_false,Bool.true_or,Bool.false_or,Bool.or_true,Bool.or_false,Bool.not_true,Bool.not_false,if_true,if_false,reduceCtorEq,Bool.false_eq_true,ite_true,ite_false] at hR
  subst hR
  try simp only [aj,go_sem,hcs,hne,hg,ia,bK,bV,b9,k1]
  exact Z1
def pT (S:Sch) (r:SRef):Bool:=if r.action==0 then btF S (qn S r).field==btF S (rf S r).field
 else match S.actions.find? (fun t=>t.id==r.action) with
  |some c=>(c.params.getD r.param.toNat ⟨[],0⟩).bits==btF S (rf S r).field
  |none=>false
def LV (S:Sch) (r:SRef):Prop:=sD S r∧b7 S (rf S r).field=true∧((r.action==0)=true→b7 S (qn S r).field=true)
theorem Gp {S:Sch} {r:SRef} (h:sD S r) (h0:(r.action==0)=false):∃ c,S.actions.find? (fun t=>t.id==r.action)=some c∧r.param.toNat<c.params.length:=by
 obtain ⟨h,_,_,hp⟩:=h
 unfold rk at h
 cases fa:S.tables.find? (fun t=>t.id==r.table) with
 |none=>rw [fa] at h;cases h
 |some a =>
  cases fb:S.tables.find? (fun t=>t.id==r.toTable) with
  |none=>rw [fa,fb] at h;cases h
  |some b =>
   rw [fa,fb] at h
   simp only [Bool.and_eq_true,h0,Bool.false_eq_true,if_false] at h
   have h3:=h.2.2
   cases fc:S.actions.find? (fun t=>t.id==r.action) with
   |none=>rw [fc] at h3;cases h3
   |some c =>
    rw [fc] at h3
    simp only [decide_eq_true_eq] at h3
    exact ⟨c,rfl,by omega⟩
def JY:List AV→AHeap→(AV→Prop)→Prop
 |[x,.ptr c 0],H,K=>∃ (t:SRef) (S:Sch),(x=bL t∧H.get c=some (.cells (aG S))∧SLen S∧LV S t)∧K (.bool (pT S t))
 |_,_,_=>False
theorem ok_ft6:EntOk Tryz.prog 182 (Ent.pure JY):=by
 refine Ype fun _ H K h=>?_
 unfold JY at h
 split at h
 rotate_left
 ·exact h.elim
 rename_i x c
 obtain ⟨t,S,⟨rfl,hg,hS,hk⟩,hK⟩:=h
 refine ⟨_,hK,?_⟩
 clear hK
 have hl:=glq hg
 have hne:(c=H.nx)=False:=eq_false (by omega)
 have hcs:=au hg
 have hgS:=hg
 generalize hR:(pT S t)=R
 skip
 unfold bL
 unfold aG at hg hcs
 refine ACalls.fW ak (tCq wU (tCq lD (tCq fV tNq))) Tryz.func182 [.tmp 3] (nrq _) (T:=ag [(5,[[],[],[],[],[],[2,4],[],[],[5],[],[],[],[],[5]])]) (h:=fun hcl hlt=>?_)
 clear hlt
 obtain ⟨hr,hf1,hf2⟩:=hk
 have hne2:(c=H.nx+1)=False:=eq_false (by omega)
 have hne3:(c=H.nx+1+1)=False:=eq_false (by omega)
 obtain ⟨b,e1,e2,e3,e4⟩:=u2 hr
 simp only [go_sem,hcs,hne,hne2,hne3,hg,pP]
 refine ⟨S,t,b,qn S t,rf S t,⟨rfl,rfl,hS,e1,e2,e3,e4⟩,?_⟩
 unfold pT at hR
 have hact:=@Gp S t hr
 clear e3 e4
 generalize rf S t=kb at *
 generalize qn S t=ka at *
 obtain ⟨y,hy,hyb⟩:=iQ hf1
 unfold br
 simp only [aj,go_sem,hcs,hne,hne2,hne3,hg,bI]
 refine ⟨S,y,⟨rfl,hS,hy⟩,?_⟩
 cases c1:t.action==0 with
 |true =>
  obtain ⟨z,hz,hzb⟩:=iQ (hf2 c1)
  simp only [c1,if_true] at hR
  subst hR
  simp only [aj,go_sem,hcs,hne,hne2,hne3,hg,bI,c1]
  refine ⟨S,z,⟨rfl,hS,hz⟩,?_⟩
  simp only [aj,go_sem,hyb,hzb]
  exact Z1
 |false =>
  obtain ⟨c2,f3,hl3⟩:=hact c1
  simp only [c1,Bool.false_eq_true,if_false,f3] at hR
  subst hR
  obtain ⟨i,i1,g1,l1⟩:=mq f3
  have ga:=aO (f:=ap) (l:=S.actions) (k:=i) (x:=c2) g1
  have hca:ap c2=.agg [.int .i64 c2.id,.str c2.name,.slice .any 2 (c2.params.map bb),.slice .any 6 (c2.body.map bv),.str c2.restr]:=rfl
  rw [hca] at ga
  have gp:=aO (f:=bb) (l:=c2.params) (k:=t.param.toNat) (x:=c2.params[t.param.toNat]) (gQq hl3)
  have gq:c2.params.getD t.param.toNat ⟨[],0⟩=c2.params[t.param.toNat]:=by simp [gEq,hl3]
  rw [gq]
  generalize c2.params[t.param.toNat]=z at *
  have hz:bb z=.agg [.str z.name,.int .i64 z.bits]:=rfl
  rw [hz] at gp
  have hp0:=hr.2.2.2
  simp only [aj,go_sem,hcs,hne,hne2,hne3,hg,eT,c1]
  refine ⟨S,⟨rfl,hS.al⟩,?_⟩
  simp only [aj,go_sem,hcs,hne,hne2,hne3,hg,i1,ga,gp,iNq,ybb,hyb]
  try (repeat with_reducible refine Yq ?_)
  exact Z1
structure FitK (S:Sch):Prop where
 f1:b7 S 1=true
 f2:b7 S 2=true
 h:∀ t∈S.headers,LL S t
 s:∀ t∈S.states,∀ p∈t.cases,KA S t.select p
 a:∀ t∈S.actions,∀ p∈t.body,KE S t p
 t:∀ t∈S.tables,L4 S t
 r:∀ t∈S.roles,∀ g∈t.grants,gt S g.table=true
 x:∀ r∈S.refs,LV S r
def xz (S:Sch):Bool:=(btF S 1==16)&&((btF S 2==16)&&(S.headers.all (rR S)&&((S.states.all fun t=>t.cases.all fun p=>nz S t.select p)&&((S.actions.all fun t=>t.body.all fun p=>nZ S t p)&&(S.tables.all (tmF S)&&((S.roles.all fun t=>t.grants.all fun g=>gkB S g)&&S.refs.all (pT S)))))))
def pr:List AV→AHeap→(AV→Prop)→Prop
 |[.agg l],_,K=>∃ S:Sch,(l=aG S∧SB S∧FitK S)∧K (.bool (xz S))
 |_,_,_=>False
theorem G1:EntOk Tryz.prog 49 (Ent.pure pr):=by
 refine Ype fun _ H K h=>?_
 unfold pr at h
 split at h
 rotate_left
 ·exact h.elim
 rename_i l
 obtain ⟨S,⟨rfl,hB,hF⟩,hK⟩:=h
 refine ⟨_,hK,?_⟩
 clear hK
 have hS:=hB.sl
 obtain ⟨y1,hy1,hb1⟩:=iQ hF.f1
 obtain ⟨y2,hy2,hb2⟩:=iQ hF.f2
 generalize hR:xz S=R
 unfold xz at hR
 refine ACalls.fW ak (tCq lD (tCq nJ (tCq nV (tCq lR (tCq ky (tCq ly (tCq nD tNq))))))) Tryz.func49 [.tmp 2] (nrq _) (T:=ag []) (h:=fun hcl hlt=>?_)
 clear hlt
 unfold aG
 try simp only [aj,go_sem,bI,hb1,hb2,bn,bq,bk,bm,bC,bF]
 refine ⟨S,y1,⟨rfl,hS,hy1⟩,?_⟩
 try simp only [aj,go_sem,hb1]
 cases k1:btF S 1==16 with
 |false =>
  simp only [k1,Bool.true_and,Bool.false_and,Bool.and_true,Bool.and_false,Bool.true_or,Bool.false_or,Bool.or_true,Bool.or_false,Bool.not_true,Bool.not_false,if_true,if_false,reduceCtorEq,Bool.false_eq_true,ite_true,ite_false] at hR
  subst hR
  try simp only [aj,go_sem,bI,hb1,hb2,bn,bq,bk,bm,bC,bF,k1]
  exact Z1
 |true =>
  try simp only [aj,go_sem,bI,hb1,hb2,bn,bq,bk,bm,bC,bF,k1]
  refine ⟨S,y2,⟨rfl,hS,hy2⟩,?_⟩
  try simp only [aj,go_sem,hb2]
  cases k2:btF S 2==16 with
  |false =>
   simp only [k1,k2,Bool.true_and,Bool.false_and,Bool.and_true,Bool.and_false,Bool.true_or,Bool.false_or,Bool.or_true,Bool.or_false,Bool.not_true,Bool.not_false,if_true,if_false,reduceCtorEq,Bool.false_eq_true,ite_true,ite_false] at hR
   subst hR
   try simp only [aj,go_sem,bI,hb1,hb2,bn,bq,bk,bm,bC,bF,k1,k2]
   exact Z1
  |true =>
   try simp only [aj,go_sem,bI,hb1,hb2,bn,bq,bk,bm,bC,bF,k1,k2]
   refine ⟨S.headers,rR S,⟨rfl,hS.hl,fun x hx H' hle' hcl'=>by
    obtain ⟨v,hv,hc'⟩:=ok_ft1.1 rfl [az x,.ptr H.nx 0] H' (fun v=>v=.bool (rR S x)) ⟨x,S,⟨rfl,hle'.get _ _ (by (try simp only [go_sem]);first|done|rfl),hS,hF.h x hx⟩,rfl⟩
    subst hv
    exact hc'⟩,?_⟩
   cases k3:S.headers.all (rR S) with
   |false =>
    simp only [k1,k2,k3,Bool.true_and,Bool.false_and,Bool.and_true,Bool.and_false,Bool.true_or,Bool.false_or,Bool.or_true,Bool.or_false,Bool.not_true,Bool.not_false,if_true,if_false,reduceCtorEq,Bool.false_eq_true,ite_true,ite_false] at hR
    subst hR
    try simp only [aj,go_sem,bI,hb1,hb2,bn,bq,bk,bm,bC,bF,k1,k2,k3]
    exact Z1
   |true =>
    try simp only [aj,go_sem,bI,hb1,hb2,bn,bq,bk,bm,bC,bF,k1,k2,k3]
    refine ⟨S.states,(fun t=>t.cases.all fun p=>nz S t.select p),⟨rfl,hS.sl,fun x hx H' hle' hcl'=>by
     obtain ⟨v,hv,hc'⟩:=ok_ft2.1 rfl [aH x,.ptr H.nx 0] H' (fun v=>v=.bool ((fun t=>t.cases.all fun p=>nz S t.select p) x)) ⟨x,S,⟨rfl,hle'.get _ _ (by (try simp only [go_sem]);first|done|rfl),hS,hB.sn x hx,hF.s x hx⟩,rfl⟩
     subst hv
     exact hc'⟩,?_⟩
    cases k4:S.states.all (fun t=>t.cases.all fun p=>nz S t.select p) with
    |false =>
     simp only [k1,k2,k3,k4,Bool.true_and,Bool.false_and,Bool.and_true,Bool.and_false,Bool.true_or,Bool.false_or,Bool.or_true,Bool.or_false,Bool.not_true,Bool.not_false,if_true,if_false,reduceCtorEq,Bool.false_eq_true,ite_true,ite_false] at hR
     subst hR
     try simp only [aj,go_sem,bI,hb1,hb2,bn,bq,bk,bm,bC,bF,k1,k2,k3,k4]
     exact Z1
    |true =>
     try simp only [aj,go_sem,bI,hb1,hb2,bn,bq,bk,bm,bC,bF,k1,k2,k3,k4]
     refine ⟨S.actions,(fun t=>t.body.all fun p=>nZ S t p),⟨rfl,hS.al,fun x hx H' hle' hcl'=>by
      obtain ⟨v,hv,hc'⟩:=ok_ft3.1 rfl [ap x,.ptr H.nx 0] H' (fun v=>v=.bool ((fun t=>t.body.all fun p=>nZ S t p) x)) ⟨x,S,⟨rfl,hle'.get _ _ (by (try simp only [go_sem]);first|done|rfl),hS,(hB.an x hx).2.2.1,hF.a x hx⟩,rfl⟩
      subst hv
      exact hc'⟩,?_⟩
     cases k5:S.actions.all (fun t=>t.body.all fun p=>nZ S t p) with
     |false =>
      simp only [k1,k2,k3,k4,k5,Bool.true_and,Bool.false_and,Bool.and_true,Bool.and_false,Bool.true_or,Bool.false_or,Bool.or_true,Bool.or_false,Bool.not_true,Bool.not_false,if_true,if_false,reduceCtorEq,Bool.false_eq_true,ite_true,ite_false] at hR
      subst hR
      try simp only [aj,go_sem,bI,hb1,hb2,bn,bq,bk,bm,bC,bF,k1,k2,k3,k4,k5]
      exact Z1
     |true =>
      try simp only [aj,go_sem,bI,hb1,hb2,bn,bq,bk,bm,bC,bF,k1,k2,k3,k4,k5]
      refine ⟨S.tables,tmF S,⟨rfl,hS.tl,fun x hx H' hle' hcl'=>by
       obtain ⟨v,hv,hc'⟩:=ok_ft4.1 rfl [aq x,.ptr H.nx 0] H' (fun v=>v=.bool (tmF S x)) ⟨x,S,⟨rfl,hle'.get _ _ (by (try simp only [go_sem]);first|done|rfl),hS,hF.t x hx⟩,rfl⟩
       subst hv
       exact hc'⟩,?_⟩
      cases k6:S.tables.all (tmF S) with
      |false =>
       simp only [k1,k2,k3,k4,k5,k6,Bool.true_and,Bool.false_and,Bool.and_true,Bool.and_false,Bool.true_or,Bool.false_or,Bool.or_true,Bool.or_false,Bool.not_true,Bool.not_false,if_true,if_false,reduceCtorEq,Bool.false_eq_true,ite_true,ite_false] at hR
       subst hR
       try simp only [aj,go_sem,bI,hb1,hb2,bn,bq,bk,bm,bC,bF,k1,k2,k3,k4,k5,k6]
       exact Z1
      |true =>
       try simp only [aj,go_sem,bI,hb1,hb2,bn,bq,bk,bm,bC,bF,k1,k2,k3,k4,k5,k6]
       refine ⟨S.roles,(fun t=>t.grants.all fun g=>gkB S g),⟨rfl,hS.rl,fun x hx H' hle' hcl'=>by
        obtain ⟨v,hv,hc'⟩:=ok_ft5.1 rfl [aN x,.ptr H.nx 0] H' (fun v=>v=.bool ((fun t=>t.grants.all fun g=>gkB S g) x)) ⟨x,S,⟨rfl,hle'.get _ _ (by (try simp only [go_sem]);first|done|rfl),hS,(hB.rn x hx).2.1,hF.r x hx⟩,rfl⟩
        subst hv
        exact hc'⟩,?_⟩
       cases k7:S.roles.all (fun t=>t.grants.all fun g=>gkB S g) with
       |false =>
        simp only [k1,k2,k3,k4,k5,k6,k7,Bool.true_and,Bool.false_and,Bool.and_true,Bool.and_false,Bool.true_or,Bool.false_or,Bool.or_true,Bool.or_false,Bool.not_true,Bool.not_false,if_true,if_false,reduceCtorEq,Bool.false_eq_true,ite_true,ite_false] at hR
        subst hR
        try simp only [aj,go_sem,bI,hb1,hb2,bn,bq,bk,bm,bC,bF,k1,k2,k3,k4,k5,k6,k7]
        exact Z1
       |true =>
        try simp only [aj,go_sem,bI,hb1,hb2,bn,bq,bk,bm,bC,bF,k1,k2,k3,k4,k5,k6,k7]
        refine ⟨S.refs,pT S,⟨rfl,hB.xl,fun x hx H' hle' hcl'=>by
         obtain ⟨v,hv,hc'⟩:=ok_ft6.1 rfl [bL x,.ptr H.nx 0] H' (fun v=>v=.bool (pT S x)) ⟨x,S,⟨rfl,hle'.get _ _ (by (try simp only [go_sem]);first|done|rfl),hS,hF.x x hx⟩,rfl⟩
         subst hv
         exact hc'⟩,?_⟩
        cases k8:S.refs.all (pT S) with
        |false =>
         simp only [k1,k2,k3,k4,k5,k6,k7,k8,Bool.true_and,Bool.false_and,Bool.and_true,Bool.and_false,Bool.true_or,Bool.false_or,Bool.or_true,Bool.or_false,Bool.not_true,Bool.not_false,if_true,if_false,reduceCtorEq,Bool.false_eq_true,ite_true,ite_false] at hR
         subst hR
         try simp only [aj,go_sem,bI,hb1,hb2,bn,bq,bk,bm,bC,bF,k1,k2,k3,k4,k5,k6,k7,k8]
         exact Z1
        |true =>
         simp only [k1,k2,k3,k4,k5,k6,k7,k8,Bool.true_and,Bool.false_and,Bool.and_true,Bool.and_false,Bool.true_or,Bool.false_or,Bool.or_true,Bool.or_false,Bool.not_true,Bool.not_false,if_true,if_false,reduceCtorEq,Bool.false_eq_true,ite_true,ite_false] at hR
         subst hR
         try simp only [aj,go_sem,bI,hb1,hb2,bn,bq,bk,bm,bC,bF,k1,k2,k3,k4,k5,k6,k7,k8]
         exact Z1
structure Rng (S:Sch):Prop where
 pv:∀ a∈S.actions,∀ p∈a.body,p.value<2^128∧0≤p.n
 cv:∀ s∈S.states,∀ c∈s.cases,c.value<2^128∧c.mask<2^128
 dv:∀ t∈S.tables,∀ v∈t.dargs,v<2^128
 rv:∀ r∈S.refs,0≤r.key∧0≤r.toKey∧0≤r.param
theorem HU {S:Sch} {n:Int} (h:gV S n=true):∃ a,S.actions.find? (fun t=>t.id==n)=some a∧a∈S.actions:=by
 unfold gV at h
 rw [List.any_eq_true] at h
 obtain ⟨y,hy,h2⟩:=h
 cases hf:S.actions.find? (fun t=>t.id==n) with
 |none=>exact absurd h2 (by have:=List.find?_eq_none.1 hf y hy;simpa using this)
 |some x=>exact ⟨x,rfl,List.mem_of_find?_eq_some hf⟩
theorem Dh {S:Sch} (hn:S.fields.all nm1=true) {n:Int} (h:b7 S n=true):0≤btF S n∧btF S n≤1000000:=by
 obtain ⟨x,hx,hb⟩:=iQ h
 have hm:=List.mem_of_find?_eq_some hx
 have h1:=List.all_eq_true.1 hn x hm
 unfold nm1 wB at h1
 simp only [Bool.and_eq_true,decide_eq_true_eq] at h1
 rw [← hb]
 omega
theorem vR {S:Sch} (hk:jE S=true) (hr:Rng S):∀ r∈S.refs,sD S r:=by
 intro r h
 unfold jE at hk
 simp only [Bool.and_eq_true] at hk
 obtain ⟨k1,k2,k3,k4,k5,k6,k7,k8,k9⟩:=hk
 exact ⟨List.all_eq_true.1 k9 r h,(hr.rv r h).1,(hr.rv r h).2.1,(hr.rv r h).2.2⟩
theorem z4 {S:Sch} (k6:S.tables.all (p8 S)=true) {b:STable} {n:Int} {i:Nat} {k:SKey} (hb:S.tables.find? (fun t=>t.id==n)=some b) (hk:b.keys[i]?=some k):b7 S k.field=true:=by
 have h1:=List.all_eq_true.1 k6 b (List.mem_of_find?_eq_some hb)
 unfold p8 at h1
 simp only [Bool.and_eq_true] at h1
 exact List.all_eq_true.1 h1.1 k (List.mem_of_getElem? hk)
theorem HV {S:Sch} (hB:SB S) (hk:jE S=true) (hn:yk S=true) (hf:rb S=true) (hr:Rng S):FitK S:=by
 have hro:=vR hk hr
 unfold jE at hk
 simp only [Bool.and_eq_true] at hk
 obtain ⟨k1,k2,k3,k4,k5,k6,k7,k8,k9⟩:=hk
 unfold yk at hn
 simp only [Bool.and_eq_true] at hn
 obtain ⟨n1,n2,n3,n4⟩:=hn
 unfold rb at hf
 simp only [Bool.and_eq_true] at hf
 obtain ⟨f1,f2,f3,f4⟩:=hf
 refine ⟨k1,k2,fun t ht=>⟨(hB.hn t ht).2,fun f hf'=>?_⟩,fun t ht p hp=>?_,fun t ht p hp=>?_,fun t ht=>?_,fun t ht g hg=>?_,fun r hr'=>?_⟩
 ·have h1:=List.all_eq_true.1 k3 t ht
  have h2:=List.all_eq_true.1 h1 f hf'
  exact ⟨h2,Dh n3 h2⟩
 ·refine ⟨?_,hr.cv t ht p hp⟩
  have h1:=List.all_eq_true.1 k4 t ht
  have h2:=List.all_eq_true.1 f3 t ht
  unfold vJ at h1
  unfold fsB at h2
  simp only [Bool.and_eq_true,Bool.or_eq_true] at h1 h2
  rcases h1.2.1 with h3|h3
  ·rcases h2 with h4|h4
   ·exfalso
    simp [bne] at h4 h3
    exact h4 h3
   ·simp only [decide_eq_true_eq] at h4
    have:=List.length_pos_of_mem hp
    omega
  ·exact h3
 ·have h1:=List.all_eq_true.1 k5 t ht
  have h2:=List.all_eq_true.1 h1 p hp
  have h3:=List.all_eq_true.1 (List.all_eq_true.1 f1 t ht) p hp
  exact ⟨(hr.pv t ht p hp).1,h2,h3,(hr.pv t ht p hp).2⟩
 ·have h1:=List.all_eq_true.1 k6 t ht
  unfold p8 at h1
  simp only [Bool.and_eq_true] at h1
  have hm:t.dflt∈t.actions:=by simpa using h1.2.2
  obtain ⟨a,ha,hma⟩:=HU (List.all_eq_true.1 h1.2.1 _ hm)
  exact ⟨a,ha,(hB.an a hma).2.1,(hB.tn t ht).2.2.2.1,hr.dv t ht⟩
 ·have h1:=List.all_eq_true.1 k8 t ht
  unfold wj at h1
  simp only [Bool.and_eq_true] at h1
  exact List.all_eq_true.1 h1.1 g hg
 ·have hro:=hro r hr'
  obtain ⟨b,e1,e2,e3,e4⟩:=u2 hro
  refine ⟨hro,z4 k6 e1 e3,fun h0=>?_⟩
  rw [if_pos h0] at e4
  obtain ⟨a,a1,a2,a3⟩:=e4
  exact z4 k6 a1 a3
end Go.AL
