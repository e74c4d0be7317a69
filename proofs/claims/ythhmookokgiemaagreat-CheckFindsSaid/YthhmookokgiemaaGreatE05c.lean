/- Lemmas of the proof; no condition. -/
import Derived.Test.YthhmookokgiemaaGreatE04v
import Derived.Test.YthhmookokgiemaaGreatW03p
import Derived.Test.YthhmookokgiemaaGreatLVis
import Derived.Test.YthhmookokgiemaaGreatE04x
set_option linter.all false
set_option maxRecDepth 10000
set_option maxHeartbeats 32000000
open List renaming length_cons → yaz, length_nil → yba, take_succ_cons → yaq, take_zero → yar, drop_succ_cons → yao, drop_zero → yap, take_of_length_le → ybc, drop_append → ybd, take_append → ybe, drop_eq_nil_of_le → ybf, take_nil → yas
open Go Go.AL Go.Proofs
namespace Go.AL
def Enc.ok (x:Enc):Prop:=x.l=false∧x.f=false∧x.a=false
theorem jB {x y:Enc}:(x.add y).ok↔x.ok∧y.ok:=by
 simp only [Enc.ok,Enc.add,Bool.or_eq_false_iff]
 constructor
 ·rintro ⟨⟨a,b⟩,⟨c,d⟩,⟨e,f⟩⟩;exact ⟨⟨a,c,e⟩,⟨b,d,f⟩⟩
 ·rintro ⟨⟨a,c,e⟩,⟨b,d,f⟩⟩;exact ⟨⟨a,b⟩,⟨c,d⟩,⟨e,f⟩⟩
def R2 (n:Int):Prop:=0≤n∧n<65536
def R1 (n:Int):Prop:=0≤n∧n<256
theorem jf {n:Int}:(eI n 2).ok↔R2 n:=by
 simp [Enc.ok,eI,rg,R2]
theorem kZ {n:Int}:(eI n 1).ok↔R1 n:=by
 simp [Enc.ok,eI,rg,R1]
def Nm (s:List UInt8) (m:Int):Prop:=(s.length:Int)≤m∧s.any ji=false
theorem oO {s:List UInt8} {m:Int}:(kT s m).ok↔Nm s m:=by
 simp only [Nm,Enc.ok,kT,decide_eq_false_iff_not,and_true]
 constructor
 ·rintro ⟨h1,h2⟩;exact ⟨by omega,h2⟩
 ·rintro ⟨h1,h2⟩;exact ⟨by omega,h2⟩
theorem vD {v:Nat}:(jw v).ok↔True:=by simp [Enc.ok,jw]
theorem Kk {v:Bool}:(je v).ok↔True:=by simp [Enc.ok,je]
theorem Gs {α:Type} {g:α→Enc}:∀ {l:List α},(bZ g l).ok↔∀ x∈l,(g x).ok
 |[]=>by simp [bZ,enc0,Enc.ok]
 |x::l=>by rw [bZ,jB,Gs,List.forall_mem_cons]
theorem mm {α:Type} {g:α→Enc} {m:Int} {l:List α}:(b5 g m l).ok↔(l.length:Int)≤m∧∀ x∈l,(g x).ok:=by
 rw [b5,jB,Gs]
 refine and_congr_left fun _=>?_
 simp only [Enc.ok,ea,decide_eq_false_iff_not,and_true]
 omega
structure Bd (S:Sch):Prop where
 nb:R2 S.maxBatch
 nu:R2 S.budget
 f:(S.fields.length:Int)≤32∧∀ x∈S.fields,R2 x.id∧Nm x.name 24∧R1 x.bits
 h:(S.headers.length:Int)≤8∧∀ x∈S.headers,R2 x.id∧Nm x.name 24∧(x.fields.length:Int)≤32∧∀ n∈x.fields,R2 n
 s:(S.states.length:Int)≤12∧∀ x∈S.states,R2 x.id∧R2 x.header∧R2 x.select∧((x.cases.length:Int)≤6∧∀ c∈x.cases,R2 c.next)∧R2 x.dflt
 a:(S.actions.length:Int)≤12∧∀ x∈S.actions,R2 x.id∧Nm x.name 24∧((x.params.length:Int)≤4∧∀ p∈x.params,Nm p.name 24∧R1 p.bits)∧((x.body.length:Int)≤12∧∀ p∈x.body,R1 p.op∧R2 p.dst∧R1 p.kind∧R2 p.n)∧Nm x.restr 400
 t:(S.tables.length:Int)≤8∧∀ x∈S.tables,R2 x.id∧Nm x.name 24∧((x.keys.length:Int)≤4∧∀ k∈x.keys,Nm k.name 24∧R2 k.field∧R1 k.kind)∧((x.actions.length:Int)≤12∧∀ n∈x.actions,R2 n)∧R2 x.dflt∧(x.dargs.length:Int)≤4∧R2 x.size∧Nm x.restr 400
 g:(S.stages.length:Int)≤12∧∀ x∈S.stages,R2 x.table∧R2 x.header
 r:(S.roles.length:Int)≤6∧∀ x∈S.roles,R2 x.id∧Nm x.name 24∧((x.grants.length:Int)≤8∧∀ g∈x.grants,R2 g.table∧(g.keys.length:Int)≤4)∧((x.actions.length:Int)≤12∧∀ n∈x.actions,R2 n)∧R2 x.quota
 x:(S.refs.length:Int)≤8∧∀ x∈S.refs,R2 x.table∧R1 x.key∧R2 x.action∧R1 x.param∧R2 x.toTable∧R1 x.toKey
theorem Ly {S:Sch} (h:(ge S).ok):Bd S:=by
 simp only [ge,pw,jB,mm,jf] at h
 obtain ⟨h1,h2,⟨⟨h3,f3⟩,⟨h4,f4⟩,⟨h5,f5⟩⟩,⟨h6,f6⟩,⟨h7,f7⟩,⟨h8,f8⟩,⟨h9,f9⟩,⟨h10,f10⟩⟩:=h
 refine ⟨h1,h2,⟨h3,fun x hx=>?_⟩,⟨h4,fun x hx=>?_⟩,⟨h5,fun x hx=>?_⟩,⟨h6,fun x hx=>?_⟩,⟨h7,fun x hx=>?_⟩,⟨h8,fun x hx=>?_⟩,⟨h9,fun x hx=>?_⟩,⟨h10,fun x hx=>?_⟩⟩
 ·have:=f3 x hx
  simpa only [gT,jB,jf,kZ,oO] using this
 ·have:=f4 x hx
  simpa only [fH,kN,jB,jf,kZ,oO,mm] using this
 ·have:=f5 x hx
  simpa only [gO,jL,jB,jf,kZ,oO,mm,vD,true_and] using this
 ·have:=f6 x hx
  simpa only [fI,ik,j5,jB,jf,kZ,oO,mm,vD,and_true] using this
 ·have:=f7 x hx
  simpa only [gN,nH,kN,jB,jf,kZ,oO,mm,vD,and_true,implies_true,forall_const] using this
 ·have:=f8 x hx
  simpa only [gW,jB,jf] using this
 ·have:=f9 x hx
  simpa only [jy,iq,kN,jB,jf,kZ,oO,mm,vD,Kk,and_true,true_and,implies_true] using this
 ·have:=f10 x hx
  simpa only [mV,jB,jf,kZ] using this
theorem KT {S:Sch} (h:(rm S).2=0):(ge S).ok:=by
 rcases qD (rfl:rm S=rm S) with ⟨_,e⟩|⟨_,_,e⟩|⟨_,_,_,e⟩|⟨_,_,_,_,e⟩|⟨a,b,c,_,_⟩
 ·rw [e] at h;cases h
 ·rw [e] at h;cases h
 ·rw [e] at h;cases h
 ·rw [e] at h;cases h
 ·exact ⟨a,b,c⟩
theorem Fs {α β:Type} {f:α→List β} {m:Nat}:∀ {l:List α},(∀ x∈l,(f x).length≤m)→(l.flatMap f).length≤l.length*m
 |[],_=>by simp
 |x::l,h=>by
  have h1:=h x List.mem_cons_self
  have h2:=Fs fun y hy=>h y (List.mem_cons_of_mem x hy)
  rw [List.flatMap_cons,lAq,yaz,Nat.succ_mul];omega
theorem Lp {S:Sch} (h:Bd S):SB S:=by
 obtain ⟨_,_,⟨f1,f2⟩,⟨h1,h2⟩,⟨s1,s2⟩,⟨a1,a2⟩,⟨t1,t2⟩,⟨g1,g2⟩,⟨r1,r2⟩,⟨x1,x2⟩⟩:=h
 refine ⟨⟨by omega,by omega,by omega,by omega,by omega,by omega⟩,by omega,by omega,fun x hx=>?_,fun x hx=>?_,fun x hx=>?_,fun x hx=>?_,fun x hx=>?_,fun x hx=>?_⟩
 ·have:=(f2 x hx).2.1.1;omega
 ·obtain ⟨_,⟨q1,_⟩,q2,_⟩:=h2 x hx;exact ⟨by omega,by omega⟩
 ·obtain ⟨_,_,_,⟨q,_⟩,_⟩:=s2 x hx;omega
 ·obtain ⟨_,⟨q1,_⟩,⟨q2,p2⟩,⟨q3,_⟩,_⟩:=a2 x hx
  exact ⟨by omega,by omega,by omega,fun p hp=>by have:=(p2 p hp).1.1;omega⟩
 ·obtain ⟨_,⟨q1,_⟩,⟨q2,p2⟩,⟨q3,_⟩,_,q4,_⟩:=t2 x hx
  exact ⟨by omega,by omega,by omega,by omega,fun p hp=>by have:=(p2 p hp).1.1;omega⟩
 ·obtain ⟨_,⟨q1,_⟩,⟨q2,p2⟩,⟨q3,_⟩,_⟩:=r2 x hx
  exact ⟨by omega,by omega,by omega,fun p hp=>by have:=(p2 p hp).2;omega⟩
theorem js {n:Int} (h:R2 n):i64 n:=by unfold R2 at h;unfold i64;omega
theorem LA {S:Sch} (h:Bd S):SI S:=by
 obtain ⟨_,_,⟨f1,f2⟩,⟨h1,h2⟩,⟨s1,s2⟩,⟨a1,a2⟩,⟨t1,t2⟩,⟨g1,g2⟩,⟨r1,r2⟩,⟨x1,x2⟩⟩:=h
 refine ⟨fun x hx=>js (f2 x hx).1,fun x hx=>js (h2 x hx).1,fun x hx=>js (s2 x hx).1,fun x hx=>js (a2 x hx).1,fun x hx=>?_,fun x hx=>?_,fun n hn=>?_,?_⟩
 ·obtain ⟨q0,_,_,⟨_,q3⟩,_⟩:=t2 x hx
  exact ⟨js q0,fun a ha=>js (q3 a ha)⟩
 ·obtain ⟨q0,_,⟨_,q2⟩,⟨_,q3⟩,_⟩:=r2 x hx
  exact ⟨js q0,fun a ha=>js (q3 a ha),fun g hg=>js (q2 g hg).1⟩
 ·obtain ⟨x,hx,hn⟩:=List.mem_flatMap.1 hn
  exact js ((h2 x hx).2.2.2 n hn)
 ·have:=Fs (f:=(·.fields)) (l:=S.headers) (m:=32) fun x hx=>by have:=(h2 x hx).2.2.1;omega
  have h3:S.headers.length*32≤8*32:=Nat.mul_le_mul_right _ (by omega)
  omega
theorem J6 {S:Sch} (h:Bd S) (hk:OkSch S):Rng S:=by
 obtain ⟨_,_,⟨f1,f2⟩,⟨h1,h2⟩,⟨s1,s2⟩,⟨a1,a2⟩,⟨t1,t2⟩,⟨g1,g2⟩,⟨r1,r2⟩,⟨x1,x2⟩⟩:=h
 refine ⟨fun a ha p hp=>⟨(hk.a a ha).2.2.1 p hp,?_⟩,fun s hs c hc=>(hk.s s hs) c hc,fun t ht v hv=>(hk.t t ht).2.2.1 v hv,fun r hr=>?_⟩
 ·obtain ⟨_,_,_,⟨_,q⟩,_⟩:=a2 a ha
  exact (q p hp).2.2.2.1
 ·obtain ⟨_,q1,_,q2,_,q3⟩:=x2 r hr
  exact ⟨q1.1,q3.1,q2.1⟩
theorem F1 {S:Sch} (hk:jE S=true):AC S:=by
 intro r hr
 unfold jE at hk
 simp only [Bool.and_eq_true] at hk
 obtain ⟨k1,k2,k3,k4,k5,k6,k7,k8,k9⟩:=hk
 have h:=List.all_eq_true.1 k9 r hr
 unfold rk at h
 have key:∀ {n:Int} {a:STable},S.tables.find? (fun t=>t.id==n)=some a→n∈kD S:=fun {n a} ha=>by
  have h1:=List.mem_of_find?_eq_some ha
  have h2:=List.find?_some ha
  have h3:a.id=n:=by simpa using h2
  exact List.mem_map.2 ⟨a,h1,h3⟩
 cases fa:S.tables.find? (fun t=>t.id==r.table) with
 |none=>rw [fa] at h;cases h
 |some a =>
  cases fb:S.tables.find? (fun t=>t.id==r.toTable) with
  |none=>rw [fa,fb] at h;cases h
  |some b=>exact ⟨key fa,key fb⟩
def Hw (S:Sch):Int :=
 if ((rm S).2 != 0)=true then (rm S).2 else if qo S=false then 2 else if yk S=false then 4 else if wW S=false then 7 else if rb S=false then 13
 else if jE S=false then 6 else if S.refs.all (exB S)=false then 13 else if xz S=false then 9 else if y6 S=false then 8 else 0
def zk:List AV→AHeap→(AV→Prop)→Prop
 |[.agg l],_,K=>∃ S:Sch,(l=aG S∧OkSch S∧(ge S).b.length≤cz)∧K (.int .i64 (Hw S))
 |_,_,_=>False
theorem IC:EntOk Tryz.prog 13 (Ent.pure zk):=by
 refine Ype fun _ H K h=>?_
 unfold zk at h
 split at h
 rotate_left
 ·exact h.elim
 rename_i l
 obtain ⟨S,⟨rfl,hk,hl⟩,hK⟩:=h
 refine ⟨_,hK,?_⟩
 clear hK
 generalize hR:Hw S=R
 unfold Hw at hR
 refine ACalls.fW ak (tCq H4 (tCq Cl (tCq I4 (tCq FZ (tCq FJ (tCq Cq (tCq CM (tCq G1 (tCq In tNq))))))))) Tryz.func13 [.tmp 2] (nrq _) (T:=ag []) (h:=fun hcl hlt=>?_)
 clear hlt
 have hPE:yR=Ik:=rfl
 have dn1:(!true)=false:=rfl
 have dn2:(!false)=true:=rfl
 unfold aG
 simp only [aM,aj,bhq,Nat.reduceMod,Nat.reduceDiv,aB,aC,aD,ba,aE,aZ,aV,aX,aW,yaq,yar,yao,yap,go_sem,hPE,Ik]
 refine ⟨S,⟨rfl,hk,hl⟩,?_⟩
 cases c0:((rm S).2 != 0) with
 |true =>
  simp only [c0,if_true] at hR
  subst hR
  simp only [aM,aj,bhq,Nat.reduceMod,Nat.reduceDiv,aB,aC,aD,ba,aE,aZ,aV,aX,aW,yaq,yar,yao,yap,go_sem,c0]
  exact Z1
 |false =>
  have bd:=Ly (KT (S:=S) (by simpa using c0))
  have sb:=Lp bd
  have si:=LA bd
  have rg:=J6 bd hk
  rw [c0] at hR
  simp only [Bool.false_eq_true,if_false] at hR
  simp only [aM,aj,bhq,Nat.reduceMod,Nat.reduceDiv,aB,aC,aD,ba,aE,aZ,aV,aX,aW,yaq,yar,yao,yap,go_sem,gx,c0,dn1,dn2]
  refine ⟨S,⟨rfl,sb⟩,?_⟩
  cases c1:qo S with
  |false =>
   rw [c1] at hR
   simp only [if_true] at hR
   subst hR
   simp only [aM,aj,bhq,Nat.reduceMod,Nat.reduceDiv,aB,aC,aD,ba,aE,aZ,aV,aX,aW,yaq,yar,yao,yap,go_sem,c0,c1,dn1,dn2]
   exact Z1
  |true =>
   rw [c1] at hR
   simp only [reduceCtorEq,if_false] at hR
   simp only [aM,aj,bhq,Nat.reduceMod,Nat.reduceDiv,aB,aC,aD,ba,aE,aZ,aV,aX,aW,yaq,yar,yao,yap,go_sem,gx,kW,c0,c1,dn1,dn2]
   refine ⟨S,⟨rfl,sb⟩,?_⟩
   cases c2:yk S with
   |false =>
    rw [c2] at hR
    simp only [if_true] at hR
    subst hR
    simp only [aM,aj,bhq,Nat.reduceMod,Nat.reduceDiv,aB,aC,aD,ba,aE,aZ,aV,aX,aW,yaq,yar,yao,yap,go_sem,c0,c1,c2,dn1,dn2]
    exact Z1
   |true =>
    rw [c2] at hR
    simp only [reduceCtorEq,if_false] at hR
    simp only [aM,aj,bhq,Nat.reduceMod,Nat.reduceDiv,aB,aC,aD,ba,aE,aZ,aV,aX,aW,yaq,yar,yao,yap,go_sem,gx,kW,jU,c0,c1,c2,dn1,dn2]
    refine ⟨S,⟨rfl,sb,si⟩,?_⟩
    cases c3:wW S with
    |false =>
     rw [c3] at hR
     simp only [if_true] at hR
     subst hR
     simp only [aM,aj,bhq,Nat.reduceMod,Nat.reduceDiv,aB,aC,aD,ba,aE,aZ,aV,aX,aW,yaq,yar,yao,yap,go_sem,c0,c1,c2,c3,dn1,dn2]
     exact Z1
    |true =>
     rw [c3] at hR
     simp only [reduceCtorEq,if_false] at hR
     simp only [aM,aj,bhq,Nat.reduceMod,Nat.reduceDiv,aB,aC,aD,ba,aE,aZ,aV,aX,aW,yaq,yar,yao,yap,go_sem,gx,kW,jU,kU,c0,c1,c2,c3,dn1,dn2]
     refine ⟨S,⟨rfl,sb,fun a ha x hx=>(rg.pv a ha x hx).1⟩,?_⟩
     cases c4:rb S with
     |false =>
      rw [c4] at hR
      simp only [if_true] at hR
      subst hR
      simp only [aM,aj,bhq,Nat.reduceMod,Nat.reduceDiv,aB,aC,aD,ba,aE,aZ,aV,aX,aW,yaq,yar,yao,yap,go_sem,c0,c1,c2,c3,c4,dn1,dn2]
      exact Z1
     |true =>
      rw [c4] at hR
      simp only [reduceCtorEq,if_false] at hR
      simp only [aM,aj,bhq,Nat.reduceMod,Nat.reduceDiv,aB,aC,aD,ba,aE,aZ,aV,aX,aW,yaq,yar,yao,yap,go_sem,gx,kW,jU,kU,kp,c0,c1,c2,c3,c4,dn1,dn2]
      refine ⟨S,⟨rfl,sb⟩,?_⟩
      cases c5:jE S with
      |false =>
       rw [c5] at hR
       simp only [if_true] at hR
       subst hR
       simp only [aM,aj,bhq,Nat.reduceMod,Nat.reduceDiv,aB,aC,aD,ba,aE,aZ,aV,aX,aW,yaq,yar,yao,yap,go_sem,c0,c1,c2,c3,c4,c5,dn1,dn2]
       exact Z1
      |true =>
       rw [c5] at hR
       simp only [reduceCtorEq,if_false] at hR
       simp only [aM,aj,bhq,Nat.reduceMod,Nat.reduceDiv,aB,aC,aD,ba,aE,aZ,aV,aX,aW,yaq,yar,yao,yap,go_sem,gx,kW,jU,kU,kp,lz,c0,c1,c2,c3,c4,c5,dn1,dn2]
       refine ⟨S,⟨rfl,sb,vR c5 rg⟩,?_⟩
       cases c6:S.refs.all (exB S) with
       |false =>
        rw [c6] at hR
        simp only [if_true] at hR
        subst hR
        simp only [aM,aj,bhq,Nat.reduceMod,Nat.reduceDiv,aB,aC,aD,ba,aE,aZ,aV,aX,aW,yaq,yar,yao,yap,go_sem,c0,c1,c2,c3,c4,c5,c6,dn1,dn2]
        exact Z1
       |true =>
        rw [c6] at hR
        simp only [reduceCtorEq,if_false] at hR
        simp only [aM,aj,bhq,Nat.reduceMod,Nat.reduceDiv,aB,aC,aD,ba,aE,aZ,aV,aX,aW,yaq,yar,yao,yap,go_sem,gx,kW,jU,kU,kp,lz,pr,c0,c1,c2,c3,c4,c5,c6,dn1,dn2]
        refine ⟨S,⟨rfl,sb,HV sb c5 c2 c4 rg⟩,?_⟩
        cases c7:xz S with
        |false =>
         rw [c7] at hR
         simp only [if_true] at hR
         subst hR
         simp only [aM,aj,bhq,Nat.reduceMod,Nat.reduceDiv,aB,aC,aD,ba,aE,aZ,aV,aX,aW,yaq,yar,yao,yap,go_sem,c0,c1,c2,c3,c4,c5,c6,c7,dn1,dn2]
         exact Z1
        |true =>
         rw [c7] at hR
         simp only [reduceCtorEq,if_false] at hR
         have ri:∀ r∈S.refs,i64 r.toTable:=fun r hr=>js (bd.x.2 r hr).2.2.2.2.1
         simp only [aM,aj,bhq,Nat.reduceMod,Nat.reduceDiv,aB,aC,aD,ba,aE,aZ,aV,aX,aW,yaq,yar,yao,yap,go_sem,gx,kW,jU,kU,kp,lz,pr,yw,c0,c1,c2,c3,c4,c5,c6,c7,dn1,dn2]
         refine ⟨S,⟨rfl,sb,si,F1 c5,ri⟩,?_⟩
         cases c8:y6 S with
         |false =>
          rw [c8] at hR
          simp only [if_true] at hR
          subst hR
          simp only [aM,aj,bhq,Nat.reduceMod,Nat.reduceDiv,aB,aC,aD,ba,aE,aZ,aV,aX,aW,yaq,yar,yao,yap,go_sem,c0,c1,c2,c3,c4,c5,c6,c7,c8,dn1,dn2]
          exact Z1
         |true =>
          rw [c8] at hR
          simp only [reduceCtorEq,if_false] at hR
          subst hR
          simp only [aM,aj,bhq,Nat.reduceMod,Nat.reduceDiv,aB,aC,aD,ba,aE,aZ,aV,aX,aW,yaq,yar,yao,yap,go_sem,c0,c1,c2,c3,c4,c5,c6,c7,c8,dn1,dn2]
          exact Z1
def Gb:SRef:=⟨1,0,4,0,1,0⟩
def sb04:Sch:={ (fZ [] 0).1 with refs:=[Gb] }
theorem IL:Hw sb04=8:=by decide +kernel
theorem Kt:ixP (fun t:STable=>t.id==4) sb04.tables 0=3:=by decide +kernel
theorem Ht:ixP (fun t:STable=>t.id==9) sb04.tables 0 = -1:=by decide +kernel
theorem sm_b04:SmP 40 1000 sb04:=by
 have h:=vQ [] 0
 exact ⟨h.f,h.h,h.s,h.a,h.t,h.g,h.r,by simp [sb04]⟩
def oU:List AV→AHeap→(AV→Prop)→Prop
 |[],_,K=>K (.bool true)
 |_,_,_=>False
theorem yA:EntOk Tryz.prog 9 (Ent.pure oU):=by
 refine Ype fun _ H K h=>?_
 unfold oU at h
 split at h
 rotate_left
 ·exact h.elim
 refine ⟨_,h,?_⟩
 clear h
 have h1:=IL
 have h2:=Kt
 have h3:=Ht
 have h4:=sm_b04.ok
 have h5:=(sm_b04.mono (N':=50) (R':=1100000) (by decide) (by decide)).len
 have h6:sb04.tables.length≤1000000:=by have:=sm_b04.t.1;omega
 obtain ⟨S,hS⟩:∃ S,(fZ [] 0).1=S:=⟨_,rfl⟩
 have hsb:sb04={ S with refs:=[Gb] }:=by rw [← hS];rfl
 have hsC:aG sb04=[.slice .any 3 (S.fields.map aI),.slice .any 3 (S.headers.map az),.slice .any 5 (S.states.map aH),.slice .any 5 (S.actions.map ap),.slice .any 8 (S.tables.map aq),.slice .any 2 (S.stages.map bB),.slice .any 6 (S.roles.map aN),.slice .any 6 [bL Gb],.int .i64 S.maxBatch,.int .i64 S.budget]:=by rw [hsb];rfl
 clear hsb
 generalize sb04=S2 at *
 refine ACalls.fW ak (tCq A3 (tCq qv (tCq IC (tCq fC tNq)))) Tryz.func9 [.tmp 0] (nrq _) (T:=ag [(2,[[3]]),(3,[[1]])]) (h:=fun hcl hlt=>?_)
 clear hlt
 have hze:zod ([]:List UInt8) 0=eU [] (cp 0 0):=s7
 have hS':jb (fZ [] 0).1=.agg (aG S):=by rw [hS];rfl
 simp only [go_sem,p6]
 refine ⟨[],⟨rfl,by omega⟩,?_⟩
 simp only [aM,aj,bhq,Nat.reduceMod,Nat.reduceDiv,aB,aC,aD,ba,aE,aZ,aV,aX,aW,yaq,yar,yao,yap,go_sem,p6,mh,eG,yas,hze,bO (b:=[]) (by decide),yba,Nat.min_zero,hS',aG]
 refine eZ (H.nx+1) (cs:=[.slice .any 3 (S.fields.map aI),.slice .any 3 (S.headers.map az),.slice .any 5 (S.states.map aH),.slice .any 5 (S.actions.map ap),.slice .any 8 (S.tables.map aq),.slice .any 2 (S.stages.map bB),.slice .any 6 (S.roles.map aN),.slice .full 6 [.agg [.int .i64 1,.int .i64 0,.int .i64 4,.int .i64 0,.int .i64 1,.int .i64 0]],.int .i64 S.maxBatch,.int .i64 S.budget]) [.slice .any 3 (S.fields.map aI),.slice .any 3 (S.headers.map az),.slice .any 5 (S.states.map aH),.slice .any 5 (S.actions.map ap),.slice .any 8 (S.tables.map aq),.slice .any 2 (S.stages.map bB),.slice .any 6 (S.roles.map aN),.slice .any 6 [bL Gb],.int .i64 S.maxBatch,.int .i64 S.budget] (by simp only [go_sem]) ?_ ?_
 ·simp only [cl,cN,nT,true_and,and_true]
  rw [ck]
  exact .inl ⟨by simp [wkM],rfl,by simp [Gb,bL,fo,cG,wkDL_same]⟩
 have d1:((8:Int)==8)=true:=rfl
 have d2:((3:Int)==3)=true:=rfl
 have d3:((-1:Int) == -1)=true:=rfl
 simp only [aM,aj,bhq,Nat.reduceMod,Nat.reduceDiv,aB,aC,aD,ba,aE,aZ,aV,aX,aW,yaq,yar,yao,yap,go_sem,zk]
 refine ⟨S2,⟨hsC.symm,h4,h5⟩,?_⟩
 rw [h1]
 simp only [aM,aj,bhq,Nat.reduceMod,Nat.reduceDiv,aB,aC,aD,ba,aE,aZ,aV,aX,aW,yaq,yar,yao,yap,go_sem,d1,cY]
 refine ⟨S2,⟨hsC.symm,h6⟩,?_⟩
 rw [h2]
 simp only [aM,aj,bhq,Nat.reduceMod,Nat.reduceDiv,aB,aC,aD,ba,aE,aZ,aV,aX,aW,yaq,yar,yao,yap,go_sem,d2,cY]
 refine ⟨S2,⟨hsC.symm,h6⟩,?_⟩
 rw [h3]
 simp only [aM,aj,bhq,Nat.reduceMod,Nat.reduceDiv,aB,aC,aD,ba,aE,aZ,aV,aX,aW,yaq,yar,yao,yap,go_sem,d3]
 simp (disch:=first|exact Zd|omega) [↓zmo,beq,ybc,ybd,ybe,aa,wk,wk2,wk1,wkM,wkL,af,ybf,hcl]
 first|done|repeat first|exact .refl _|refine .push ?_ _
end Go.AL
