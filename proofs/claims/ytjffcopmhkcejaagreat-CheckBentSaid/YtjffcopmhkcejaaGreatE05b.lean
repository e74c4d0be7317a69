/- Lemmas of the proof; no condition. -/
import Derived.Test.YtjffcopmhkcejaaGreatE04v
import Derived.Test.YtjffcopmhkcejaaGreatW03p
import Derived.Test.YtjffcopmhkcejaaGreatLVis
import Derived.Test.YtjffcopmhkcejaaGreatE04x
set_option linter.all false
set_option maxRecDepth 10000
open Go Go.AL Go.Proofs
namespace Go.AL
def Enc.ok(x:Enc):Prop:=x.l=false∧x.f=false∧x.a=false
def ok_add{x y:Enc}:(x.add y).ok↔x.ok∧y.ok:=by
 simp only[Enc.ok,Enc.add,Bool.or_eq_false_iff]
 constructor
 ·rintro⟨⟨a,b⟩,⟨c,d⟩,⟨e,f⟩⟩;exact⟨⟨a,c,e⟩,⟨b,d,f⟩⟩
 ·rintro⟨⟨a,c,e⟩,⟨b,d,f⟩⟩;exact⟨⟨a,b⟩,⟨c,d⟩,⟨e,f⟩⟩
def R2(n:Int):Prop:=0≤n∧n<65536
def R1(n:Int):Prop:=0≤n∧n<256
def ok_num2{n:Int}:(b8 n 2).ok↔R2 n:=by
 simp[Enc.ok,b8,rg,R2]
def pk{n:Int}:(b8 n 1).ok↔R1 n:=by
 simp[Enc.ok,b8,rg,R1]
def Nm(s:By)(m:Int):Prop:=(s.length:Int)≤m∧s.any mF=false
def t8{s:By}{m:Int}:(iy s m).ok↔Nm s m:=by
 simp only[Nm,Enc.ok,iy,decide_eq_false_iff_not,and_true]
 constructor
 ·rintro⟨h1,h2⟩;exact⟨Xa,h2⟩
 ·rintro⟨h1,h2⟩;exact⟨Xa,h2⟩
def y8{v:Nat}:(ko v).ok↔True:=by simp[Enc.ok,ko]
def ok_tru{v:Bool}:(jf v).ok↔True:=by simp[Enc.ok,jf]
theorem HP{α:Type}{g:α→Enc}:∀{l:List α},(bX g l).ok↔∀ x∈l,(g x).ok
 |[]=>by simp[bX,enc0,Enc.ok]
 |x::l=>by rw[bX,ok_add,HP,List.forall_mem_cons]
def ok_list{α:Type}{g:α→Enc}{m:Int}{l:List α}:(bn g m l).ok↔(l.length:Int)≤m∧∀ x∈l,(g x).ok:=by
 rw[bn,ok_add,HP]
 refine and_congr_left fun _=>?_
 simp only[Enc.ok,dy,decide_eq_false_iff_not,and_true]
 omega
structure Bd(S:Sch):Prop where
 nb:R2 S.maxBatch
 nu:R2 S.budget
 f:(S.fields.length:Int)≤32∧∀ x∈S.fields,R2 x.id∧Nm x.name 24∧R1 x.bits
 h:(S.headers.length:Int)≤8∧∀ x∈S.headers,R2 x.id∧Nm x.name 24∧(x.fields.length:Int)≤32∧∀ n∈x.fields,R2 n
 s:(S.states.length:Int)≤12∧∀ x∈S.states,R2 x.id∧R2 x.header∧R2 x.select∧((x.cases.length:Int)≤6∧∀ c∈x.cases,R2 c.next)∧R2 x.dflt
 a:(S.actions.length:Int)≤12∧∀ x∈S.actions,R2 x.id∧Nm x.name 24∧((x.params.length:Int)≤4∧∀ p∈x.params,Nm p.name 24∧R1 p.bits)∧((x.body.length:Int)≤12∧∀ p∈x.body,R1 p.op∧R2 p.dst∧R1 p.kind∧R2 p.n)∧Nm x.restr 400
 t:(S.tables.length:Int)≤8∧∀ x∈S.tables,R2 x.id∧Nm x.name 24∧((x.keys.length:Int)≤4∧∀ k∈x.keys,Nm k.name 24∧R2 k.field∧R1 k.kind)∧((x.actions.length:Int)≤12∧∀ n∈x.actions,R2 n)∧R2 x.dflt∧(x.dargs.length:Int)≤4∧R2 x.size∧Nm x.restr 400
 g:(S.stages.length:Int)≤12∧∀ x∈S.stages,R2 x.table∧R2 x.header
 r:(S.roles.length:Int)≤6∧∀ x∈S.roles,R2 x.id∧Nm x.name 24∧((x.grants.length:Int)≤8∧∀ g∈x.grants,R2 g.table∧(g.keys.length:Int)≤4)∧((x.actions.length:Int)≤12∧∀ n∈x.actions,R2 n)∧R2 x.quota
 x:(S.refs.length:Int)≤8∧∀ x∈S.refs,R2 x.table∧R1 x.key∧R2 x.action∧R1 x.param∧R2 x.toTable∧R1 x.toKey
def Rv{S:Sch}(h:(iP S).ok):Bd S:=by
 simp only[iP,fH,ok_add,ok_list,ok_num2]at h
 obtain⟨h1,h2,⟨⟨h3,f3⟩,⟨h4,f4⟩,⟨h5,f5⟩⟩,⟨h6,f6⟩,⟨h7,f7⟩,⟨h8,f8⟩,⟨h9,f9⟩,⟨h10,f10⟩⟩:=h
 refine⟨h1,h2,⟨h3,fun x hx=>?_⟩,⟨h4,fun x hx=>?_⟩,⟨h5,fun x hx=>?_⟩,⟨h6,fun x hx=>?_⟩,⟨h7,fun x hx=>?_⟩,⟨h8,fun x hx=>?_⟩,⟨h9,fun x hx=>?_⟩,⟨h10,fun x hx=>?_⟩⟩
 ·have:=f3 x hx
  simpa only[gy,ok_add,ok_num2,pk,t8]using this
 ·have:=f4 x hx
  simpa only[fT,jP,ok_add,ok_num2,pk,t8,ok_list]using this
 ·have:=f5 x hx
  simpa only[iD,mu,ok_add,ok_num2,pk,t8,ok_list,y8,true_and]using this
 ·have:=f6 x hx
  simpa only[eO,jq,mM,ok_add,ok_num2,pk,t8,ok_list,y8,and_true]using this
 ·have:=f7 x hx
  simpa only[gx,pH,jP,ok_add,ok_num2,pk,t8,ok_list,y8,and_true,implies_true,forall_const]using this
 ·have:=f8 x hx
  simpa only[hZ,ok_add,ok_num2]using this
 ·have:=f9 x hx
  simpa only[ky,jo,jP,ok_add,ok_num2,pk,t8,ok_list,y8,ok_tru,and_true,true_and,implies_true]using this
 ·have:=f10 x hx
  simpa only[pU,ok_add,ok_num2,pk]using this
def LX{S:Sch}(h:(sk S).2=0):(iP S).ok:=by
 rcases sj (rfl:sk S=sk S)with⟨_,e⟩|⟨_,_,e⟩|⟨_,_,_,e⟩|⟨_,_,_,_,e⟩|⟨a,b,c,_,_⟩
 ·rw[e]at h;cases h
 ·rw[e]at h;cases h
 ·rw[e]at h;cases h
 ·rw[e]at h;cases h
 ·exact⟨a,b,c⟩
theorem Id{α β:Type}{f:α→List β}{m:Nat}:∀{l:List α},(∀ x∈l,(f x).length≤m)→(l.flatMap f).length≤l.length*m
 |[],_=>Xc
 |x::l,h=>by
  have h1:=h x List.mem_cons_self
  have h2:=Id fun y hy=>h y (List.mem_cons_of_mem x hy)
  rw[List.flatMap_cons,lAq,yaz,Nat.succ_mul];omega
def RA{S:Sch}(h:Bd S):SB S:=by
 obtain⟨_,_,⟨f1,f2⟩,⟨h1,h2⟩,⟨s1,s2⟩,⟨a1,a2⟩,⟨t1,t2⟩,⟨g1,g2⟩,⟨r1,r2⟩,⟨x1,x2⟩⟩:=h
 refine⟨⟨Xa,Xa,Xa,Xa,Xa,Xa⟩,Xa,Xa,fun x hx=>?_,fun x hx=>?_,fun x hx=>?_,fun x hx=>?_,fun x hx=>?_,fun x hx=>?_⟩
 ·have:=(f2 x hx).2.1.1;omega
 ·obtain⟨_,⟨q1,_⟩,q2,_⟩:=h2 x hx;exact⟨Xa,Xa⟩
 ·obtain⟨_,_,_,⟨q,_⟩,_⟩:=s2 x hx;omega
 ·obtain⟨_,⟨q1,_⟩,⟨q2,p2⟩,⟨q3,_⟩,_⟩:=a2 x hx
  exact⟨Xa,Xa,Xa,fun p hp=>by have:=(p2 p hp).1.1;omega⟩
 ·obtain⟨_,⟨q1,_⟩,⟨q2,p2⟩,⟨q3,_⟩,_,q4,_⟩:=t2 x hx
  exact⟨Xa,Xa,Xa,Xa,fun p hp=>by have:=(p2 p hp).1.1;omega⟩
 ·obtain⟨_,⟨q1,_⟩,⟨q2,p2⟩,⟨q3,_⟩,_⟩:=r2 x hx
  exact⟨Xa,Xa,Xa,fun p hp=>by have:=(p2 p hp).2;omega⟩
def nn{n:Int}(h:R2 n):i64 n:=by unfold R2 at h;unfold i64;omega
def RJ{S:Sch}(h:Bd S):SI S:=by
 obtain⟨_,_,⟨f1,f2⟩,⟨h1,h2⟩,⟨s1,s2⟩,⟨a1,a2⟩,⟨t1,t2⟩,⟨g1,g2⟩,⟨r1,r2⟩,⟨x1,x2⟩⟩:=h
 refine⟨fun x hx=>nn (f2 x hx).1,fun x hx=>nn (h2 x hx).1,fun x hx=>nn (s2 x hx).1,fun x hx=>nn (a2 x hx).1,fun x hx=>?_,fun x hx=>?_,fun n hn=>?_,?_⟩
 ·obtain⟨q0,_,_,⟨_,q3⟩,_⟩:=t2 x hx
  exact⟨nn q0,fun a ha=>nn (q3 a ha)⟩
 ·obtain⟨q0,_,⟨_,q2⟩,⟨_,q3⟩,_⟩:=r2 x hx
  exact⟨nn q0,fun a ha=>nn (q3 a ha),fun g hg=>nn (q2 g hg).1⟩
 ·obtain⟨x,hx,hn⟩:=List.mem_flatMap.1 hn
  exact nn ((h2 x hx).2.2.2 n hn)
 ·have:=Id (f:=(·.fields)) (l:=S.headers) (m:=32) fun x hx=>by have:=(h2 x hx).2.2.1;omega
  have h3:S.headers.length*32≤8*32:=Nat.mul_le_mul_right _ Xa
  omega
def LN{S:Sch}(h:Bd S)(hk:OkSch S):Rng S:=by
 obtain⟨_,_,⟨f1,f2⟩,⟨h1,h2⟩,⟨s1,s2⟩,⟨a1,a2⟩,⟨t1,t2⟩,⟨g1,g2⟩,⟨r1,r2⟩,⟨x1,x2⟩⟩:=h
 refine⟨fun a ha p hp=>⟨(hk.a a ha).2.2.1 p hp,?_⟩,fun s hs c hc=>(hk.s s hs) c hc,fun t ht v hv=>(hk.t t ht).2.2.1 v hv,fun r hr=>?_⟩
 ·obtain⟨_,_,_,⟨_,q⟩,_⟩:=a2 a ha
  exact(q p hp).2.2.2.1
 ·obtain⟨_,q1,_,q2,_,q3⟩:=x2 r hr
  exact⟨q1.1,q3.1,q2.1⟩
def wx{S:Sch}(hk:kg S=true):uE S:=by
 intro r hr
 unfold kg at hk
 simp only[Bool.and_eq_true]at hk
 obtain⟨k1,k2,k3,k4,k5,k6,k7,k8,k9⟩:=hk
 have h:=List.all_eq_true.1 k9 r hr
 unfold nD at h
 have key:∀{n:Int}{a:STable},S.tables.find? (fun t=>t.id==n)=some a→n∈iA S:=fun{n a} ha=>by
  have h1:=List.mem_of_find?_eq_some ha
  have h2:=List.find?_some ha
  have h3:a.id=n:=by simpa using h2
  exact List.mem_map.2 ⟨a,h1,h3⟩
 cases fa:S.tables.find? (fun t=>t.id==r.table)with
 |none=>rw[fa]at h;cases h
 |some a =>
  cases fb:S.tables.find? (fun t=>t.id==r.toTable)with
  |none=>rw[fa,fb]at h;cases h
  |some b=>exact⟨key fa,key fb⟩
def zA(S:Sch):Int :=
 if((sk S).2 !=0)=true then(sk S).2 else if nc S=false then 2 else if tt S=false then 4 else if oL S=false then 7 else if mK S=false then 13
 else if kg S=false then 6 else if S.refs.all (exB S)=false then 13 else if sy S=false then 9 else if rD S=false then 8 else 0
def xe:PCt
 |[.agg l],_,K=>∃ S:Sch,(l=aR S∧OkSch S∧(iP S).b.length≤dX)∧K (.int .i64 (zA S))
 |_,_,_=>False
set_option maxHeartbeats 16000000 in
theorem Ep:EPp 8 xe:=by
 refine Ype fun _ H K h=>?_
 unfold xe at h
 split at h<;>try exact h.elim
 rename_i l
 obtain⟨S,⟨rfl,hk,hl⟩,hK⟩:=h
 refine⟨_,hK,?_⟩
 clear hK
 generalize hR:zA S=R
 unfold zA at hR
 refine Yfu aD (tCq PU (tCq GZ (tCq Oh (tCq M1 (tCq Kq (tCq GG (tCq GO (tCq Nf (tCq On tNq))))))))) Tryz.func8 [.tmp 2] fun hcl=>?_
 have hPE:CV=kw:=rfl
 have dn1:(!true)=false:=rfl
 have dn2:(!false)=true:=rfl
 unfold aR
 simp only[aX,aA,bhq,go_sem,hPE,kw]
 refine⟨S,⟨rfl,hk,hl⟩,?_⟩
 cases c0:((sk S).2 !=0)with
 |true=>
  simp only[c0,if_true]at hR
  subst hR
  simp only[aX,aA,bhq,go_sem,c0]
  exact Z1
 |_=>
  have bd:=Rv (LX (S:=S) (by simpa using c0))
  have sb:=RA bd
  have si:=RJ bd
  have rg:=LN bd hk
  rw[c0]at hR
  simp only[Bool.false_eq_true,if_false]at hR
  simp only[aX,aA,bhq,go_sem,kz,c0,dn1,dn2]
  refine⟨S,⟨rfl,sb⟩,?_⟩
  cases c1:nc S with
  |false=>
   rw[c1]at hR
   simp only[if_true]at hR
   subst hR
   simp only[aX,aA,bhq,go_sem,c0,c1,dn1,dn2]
   exact Z1
  |true=>
   rw[c1]at hR
   simp only[reduceCtorEq,if_false]at hR
   simp only[aX,aA,bhq,go_sem,kz,pn,c0,c1,dn1,dn2]
   refine⟨S,⟨rfl,sb⟩,?_⟩
   cases c2:tt S with
   |false=>
    rw[c2]at hR
    simp only[if_true]at hR
    subst hR
    simp only[aX,aA,bhq,go_sem,c0,c1,c2,dn1,dn2]
    exact Z1
   |true=>
    rw[c2]at hR
    simp only[reduceCtorEq,if_false]at hR
    simp only[aX,aA,bhq,go_sem,kz,pn,nM,c0,c1,c2,dn1,dn2]
    refine⟨S,⟨rfl,sb,si⟩,?_⟩
    cases c3:oL S with
    |false=>
     rw[c3]at hR
     simp only[if_true]at hR
     subst hR
     simp only[aX,aA,bhq,go_sem,c0,c1,c2,c3,dn1,dn2]
     exact Z1
    |true=>
     rw[c3]at hR
     simp only[reduceCtorEq,if_false]at hR
     simp only[aX,aA,bhq,go_sem,kz,pn,nM,pA,c0,c1,c2,c3,dn1,dn2]
     refine⟨S,⟨rfl,sb,fun a ha x hx=>(rg.pv a ha x hx).1⟩,?_⟩
     cases c4:mK S with
     |false=>
      rw[c4]at hR
      simp only[if_true]at hR
      subst hR
      simp only[aX,aA,bhq,go_sem,c0,c1,c2,c3,c4,dn1,dn2]
      exact Z1
     |true=>
      rw[c4]at hR
      simp only[reduceCtorEq,if_false]at hR
      simp only[aX,aA,bhq,go_sem,kz,pn,nM,pA,oN,c0,c1,c2,c3,c4,dn1,dn2]
      refine⟨S,⟨rfl,sb⟩,?_⟩
      cases c5:kg S with
      |false=>
       rw[c5]at hR
       simp only[if_true]at hR
       subst hR
       simp only[aX,aA,bhq,go_sem,c0,c1,c2,c3,c4,c5,dn1,dn2]
       exact Z1
      |true=>
       rw[c5]at hR
       simp only[reduceCtorEq,if_false]at hR
       simp only[aX,aA,bhq,go_sem,kz,pn,nM,pA,oN,qh,c0,c1,c2,c3,c4,c5,dn1,dn2]
       refine⟨S,⟨rfl,sb,vS c5 rg⟩,?_⟩
       cases c6:S.refs.all (exB S)with
       |false=>
        rw[c6]at hR
        simp only[if_true]at hR
        subst hR
        simp only[aX,aA,bhq,go_sem,c0,c1,c2,c3,c4,c5,c6,dn1,dn2]
        exact Z1
       |true=>
        rw[c6]at hR
        simp only[reduceCtorEq,if_false]at hR
        simp only[aX,aA,bhq,go_sem,kz,pn,nM,pA,oN,qh,u6,c0,c1,c2,c3,c4,c5,c6,dn1,dn2]
        refine⟨S,⟨rfl,sb,DK sb c5 c2 c4 rg⟩,?_⟩
        cases c7:sy S with
        |false=>
         rw[c7]at hR
         simp only[if_true]at hR
         subst hR
         simp only[aX,aA,bhq,go_sem,c0,c1,c2,c3,c4,c5,c6,c7,dn1,dn2]
         exact Z1
        |true=>
         rw[c7]at hR
         simp only[reduceCtorEq,if_false]at hR
         have ri:∀ r∈S.refs,i64 r.toTable:=fun r hr=>nn (bd.x.2 r hr).2.2.2.2.1
         simp only[aX,aA,bhq,go_sem,kz,pn,nM,pA,oN,qh,u6,C5,c0,c1,c2,c3,c4,c5,c6,c7,dn1,dn2]
         refine⟨S,⟨rfl,sb,si,wx c5,ri⟩,?_⟩
         cases c8:rD S with
         |false=>
          rw[c8]at hR
          simp only[if_true]at hR
          exact Y122
         |true=>
          rw[c8]at hR
          simp only[reduceCtorEq,if_false]at hR
          exact Y122
end Go.AL
