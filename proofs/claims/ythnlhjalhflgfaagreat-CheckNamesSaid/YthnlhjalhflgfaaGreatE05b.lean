/- Lemmas of the proof; no condition. -/
import Derived.Test.YthnlhjalhflgfaaGreatE04v
import Derived.Test.YthnlhjalhflgfaaGreatW03p
import Derived.Test.YthnlhjalhflgfaaGreatLVis
import Derived.Test.YthnlhjalhflgfaaGreatE04x
set_option linter.all false
set_option maxRecDepth 10000
open List renaming length_cons → yaz, length_nil → yba, take_succ_cons → yaq, take_zero → yar, drop_succ_cons → yao, drop_zero → yap, take_of_length_le → ybc, drop_append → ybd, take_append → ybe, drop_eq_nil_of_le → ybf
open Go Go.AL Go.Proofs
namespace Go.AL
def Enc.ok (x:Enc):Prop:=x.l=false∧x.f=false∧x.a=false
theorem jX {x y:Enc}:(x.add y).ok↔x.ok∧y.ok:=by
 simp only [Enc.ok,Enc.add,Bool.or_eq_false_iff]
 constructor
 ·rintro ⟨⟨a,b⟩,⟨c,d⟩,⟨e,f⟩⟩;exact ⟨⟨a,c,e⟩,⟨b,d,f⟩⟩
 ·rintro ⟨⟨a,c,e⟩,⟨b,d,f⟩⟩;exact ⟨⟨a,b⟩,⟨c,d⟩,⟨e,f⟩⟩
def R2 (n:Int):Prop:=0≤n∧n<65536
def R1 (n:Int):Prop:=0≤n∧n<256
theorem jC {n:Int}:(eH n 2).ok↔R2 n:=by
 simp [Enc.ok,eH,rg,R2]
theorem lv {n:Int}:(eH n 1).ok↔R1 n:=by
 simp [Enc.ok,eH,rg,R1]
def Nm (s:List UInt8) (m:Int):Prop:=(s.length:Int)≤m∧s.any jI=false
theorem pZ {s:List UInt8} {m:Int}:(iS s m).ok↔Nm s m:=by
 simp only [Nm,Enc.ok,iS,decide_eq_false_iff_not,and_true]
 constructor
 ·rintro ⟨h1,h2⟩;exact ⟨by omega,h2⟩
 ·rintro ⟨h1,h2⟩;exact ⟨by omega,h2⟩
theorem vo {v:Nat}:(jH v).ok↔True:=by simp [Enc.ok,jH]
theorem Mi {v:Bool}:(jw v).ok↔True:=by simp [Enc.ok,jw]
theorem Dk {α:Type} {g:α→Enc}:∀ {l:List α},(bR g l).ok↔∀ x∈l,(g x).ok
 |[]=>by simp [bR,enc0,Enc.ok]
 |x::l=>by rw [bR,jX,Dk,List.forall_mem_cons]
theorem mS {α:Type} {g:α→Enc} {m:Int} {l:List α}:(bF g m l).ok↔(l.length:Int)≤m∧∀ x∈l,(g x).ok:=by
 rw [bF,jX,Dk]
 refine and_congr_left fun _=>?_
 simp only [Enc.ok,d7,decide_eq_false_iff_not,and_true]
 omega
structure Bd (S:Sch):Prop where
 nb:R2 S.maxBatch
 nu:R2 S.budget
 f:(S.fields.length:Int)≤32∧∀ x∈S.fields,R2 x.id∧Nm x.name 24∧R1 x.bits
 h:(S.headers.length:Int)≤8∧∀ x∈S.headers,R2 x.id∧Nm x.name 24∧(x.fields.length:Int)≤32∧∀ n∈x.fields,R2 n
 s:(S.states.length:Int)≤12∧∀ x∈S.states,R2 x.id∧R2 x.header∧R2 x.select∧((x.cases.length:Int)≤6∧∀ c∈x.cases,R2 c.next)∧R2 x.dflt
 a:(S.actions.length:Int)≤12∧∀ x∈S.actions,R2 x.id∧Nm x.name 24∧((x.params.length:Int)≤4∧∀ p∈x.params,Nm p.name 24∧R1 p.bits)∧((x.body.length:Int)≤12∧∀ p∈x.body,R1 p.op∧R2 p.dst∧R1 p.kind∧R2 p.n)∧Nm x.restr 400
 t:(S.tables.length:Int)≤8∧∀ x∈S.tables,R2 x.id∧Nm x.name 24∧((x.keys.length:Int)≤4∧∀ k∈x.keys,Nm k.name 24∧R2 k.field∧R1 k.kind)∧((x.actions.length:Int)≤12∧∀ n∈x.actions,R2 n)∧R2 x.dflt∧(x.dargs.length:Int)≤4∧R2 x.size∧Nm x.restr 400
 g:(S.stages.length:Int)≤12∧∀ x∈S.stages,R2 x.table∧R2 x.header
 r:(S.roles.length:Int)≤6∧∀ x∈S.roles,R2 x.id∧Nm x.name 24∧((x.grants.length:Int)≤8∧∀ g∈x.grants,R2 g.table∧(g.keys.length:Int)≤4)∧((x.actions.length:Int)≤12∧∀ n∈x.actions,R2 n)∧R2 x.quota
 x:(S.refs.length:Int)≤8∧∀ x∈S.refs,R2 x.table∧R1 x.key∧R2 x.action∧R1 x.param∧R2 x.toTable∧R1 x.toKey
theorem NV {S:Sch} (h:(fe S).ok):Bd S:=by
 simp only [fe,ng,jX,mS,jC] at h
 obtain ⟨h1,h2,⟨⟨h3,f3⟩,⟨h4,f4⟩,⟨h5,f5⟩⟩,⟨h6,f6⟩,⟨h7,f7⟩,⟨h8,f8⟩,⟨h9,f9⟩,⟨h10,f10⟩⟩:=h
 refine ⟨h1,h2,⟨h3,fun x hx=>?_⟩,⟨h4,fun x hx=>?_⟩,⟨h5,fun x hx=>?_⟩,⟨h6,fun x hx=>?_⟩,⟨h7,fun x hx=>?_⟩,⟨h8,fun x hx=>?_⟩,⟨h9,fun x hx=>?_⟩,⟨h10,fun x hx=>?_⟩⟩
 ·have:=f3 x hx
  simpa only [fp,jX,jC,lv,pZ] using this
 ·have:=f4 x hx
  simpa only [g9,kc,jX,jC,lv,pZ,mS] using this
 ·have:=f5 x hx
  simpa only [jt,mh,jX,jC,lv,pZ,mS,vo,true_and] using this
 ·have:=f6 x hx
  simpa only [hG,jZ,mb,jX,jC,lv,pZ,mS,vo,and_true] using this
 ·have:=f7 x hx
  simpa only [jv,sy,kc,jX,jC,lv,pZ,mS,vo,and_true,implies_true,forall_const] using this
 ·have:=f8 x hx
  simpa only [ju,jX,jC] using this
 ·have:=f9 x hx
  simpa only [kL,jP,kc,jX,jC,lv,pZ,mS,vo,Mi,and_true,true_and,implies_true] using this
 ·have:=f10 x hx
  simpa only [pK,jX,jC,lv] using this
theorem MS {S:Sch} (h:(me S).2=0):(fe S).ok:=by
 rcases nW (rfl:me S=me S) with ⟨_,e⟩|⟨_,_,e⟩|⟨_,_,_,e⟩|⟨_,_,_,_,e⟩|⟨a,b,c,_,_⟩
 ·rw [e] at h;cases h
 ·rw [e] at h;cases h
 ·rw [e] at h;cases h
 ·rw [e] at h;cases h
 ·exact ⟨a,b,c⟩
theorem D7 {α β:Type} {f:α→List β} {m:Nat}:∀ {l:List α},(∀ x∈l,(f x).length≤m)→(l.flatMap f).length≤l.length*m
 |[],_=>by simp
 |x::l,h=>by
  have h1:=h x List.mem_cons_self
  have h2:=D7 fun y hy=>h y (List.mem_cons_of_mem x hy)
  rw [List.flatMap_cons,lAq,yaz,Nat.succ_mul];omega
theorem N8 {S:Sch} (h:Bd S):SB S:=by
 obtain ⟨_,_,⟨f1,f2⟩,⟨h1,h2⟩,⟨s1,s2⟩,⟨a1,a2⟩,⟨t1,t2⟩,⟨g1,g2⟩,⟨r1,r2⟩,⟨x1,x2⟩⟩:=h
 refine ⟨⟨by omega,by omega,by omega,by omega,by omega,by omega⟩,by omega,by omega,fun x hx=>?_,fun x hx=>?_,fun x hx=>?_,fun x hx=>?_,fun x hx=>?_,fun x hx=>?_⟩
 ·have:=(f2 x hx).2.1.1;omega
 ·obtain ⟨_,⟨q1,_⟩,q2,_⟩:=h2 x hx;exact ⟨by omega,by omega⟩
 ·obtain ⟨_,_,_,⟨q,_⟩,_⟩:=s2 x hx;omega
 ·obtain ⟨_,⟨q1,_⟩,⟨q2,p2⟩,⟨q3,_⟩,_⟩:=a2 x hx
  exact ⟨by omega,by omega,by omega,fun p hp=>by have:=(p2 p hp).1.1;omega⟩
 ·obtain ⟨_,⟨q1,_⟩,⟨q2,p2⟩,⟨q3,_⟩,_,q4,_⟩:=t2 x hx
  exact ⟨by omega,by omega,by omega,by omega,fun p hp=>by have:=(p2 p hp).1.1;omega⟩
 ·obtain ⟨_,⟨q1,_⟩,⟨q2,p2⟩,⟨q3,_⟩,_⟩:=r2 x hx
  exact ⟨by omega,by omega,by omega,fun p hp=>by have:=(p2 p hp).2;omega⟩
theorem jU {n:Int} (h:R2 n):i64 n:=by unfold R2 at h;unfold i64;omega
theorem Oa {S:Sch} (h:Bd S):SI S:=by
 obtain ⟨_,_,⟨f1,f2⟩,⟨h1,h2⟩,⟨s1,s2⟩,⟨a1,a2⟩,⟨t1,t2⟩,⟨g1,g2⟩,⟨r1,r2⟩,⟨x1,x2⟩⟩:=h
 refine ⟨fun x hx=>jU (f2 x hx).1,fun x hx=>jU (h2 x hx).1,fun x hx=>jU (s2 x hx).1,fun x hx=>jU (a2 x hx).1,fun x hx=>?_,fun x hx=>?_,fun n hn=>?_,?_⟩
 ·obtain ⟨q0,_,_,⟨_,q3⟩,_⟩:=t2 x hx
  exact ⟨jU q0,fun a ha=>jU (q3 a ha)⟩
 ·obtain ⟨q0,_,⟨_,q2⟩,⟨_,q3⟩,_⟩:=r2 x hx
  exact ⟨jU q0,fun a ha=>jU (q3 a ha),fun g hg=>jU (q2 g hg).1⟩
 ·obtain ⟨x,hx,hn⟩:=List.mem_flatMap.1 hn
  exact jU ((h2 x hx).2.2.2 n hn)
 ·have:=D7 (f:=(·.fields)) (l:=S.headers) (m:=32) fun x hx=>by have:=(h2 x hx).2.2.1;omega
  have h3:S.headers.length*32≤8*32:=Nat.mul_le_mul_right _ (by omega)
  omega
theorem Mx {S:Sch} (h:Bd S) (hk:OkSch S):Rng S:=by
 obtain ⟨_,_,⟨f1,f2⟩,⟨h1,h2⟩,⟨s1,s2⟩,⟨a1,a2⟩,⟨t1,t2⟩,⟨g1,g2⟩,⟨r1,r2⟩,⟨x1,x2⟩⟩:=h
 refine ⟨fun a ha p hp=>⟨(hk.a a ha).2.2.1 p hp,?_⟩,fun s hs c hc=>(hk.s s hs) c hc,fun t ht v hv=>(hk.t t ht).2.2.1 v hv,fun r hr=>?_⟩
 ·obtain ⟨_,_,_,⟨_,q⟩,_⟩:=a2 a ha
  exact (q p hp).2.2.2.1
 ·obtain ⟨_,q1,_,q2,_,q3⟩:=x2 r hr
  exact ⟨q1.1,q3.1,q2.1⟩
theorem rB {S:Sch} (hk:gI S=true):wQ S:=by
 intro r hr
 unfold gI at hk
 simp only [Bool.and_eq_true] at hk
 obtain ⟨k1,k2,k3,k4,k5,k6,k7,k8,k9⟩:=hk
 have h:=List.all_eq_true.1 k9 r hr
 unfold su at h
 have key:∀ {n:Int} {a:STable},S.tables.find? (fun t=>t.id==n)=some a→n∈j8 S:=fun {n a} ha=>by
  have h1:=List.mem_of_find?_eq_some ha
  have h2:=List.find?_some ha
  have h3:a.id=n:=by simpa using h2
  exact List.mem_map.2 ⟨a,h1,h3⟩
 cases fa:S.tables.find? (fun t=>t.id==r.table) with
 |none=>rw [fa] at h;cases h
 |some a =>
  cases fb:S.tables.find? (fun t=>t.id==r.toTable) with
  |none=>rw [fa,fb] at h;cases h
  |some b=>exact ⟨key fa,key fb⟩
def pC (S:Sch):Int :=
 if ((me S).2 != 0)=true then (me S).2 else if kD S=false then 2 else if r8 S=false then 4 else if nB S=false then 7 else if mv S=false then 13
 else if gI S=false then 6 else if S.refs.all (exB S)=false then 13 else if qp S=false then 9 else if qZ S=false then 8 else 0
def rd:List AV→AHeap→(AV→Prop)→Prop
 |[.agg l],_,K=>∃ S:Sch,(l=aS S∧OkSch S∧(fe S).b.length≤cG)∧K (.int .i64 (pC S))
 |_,_,_=>False
set_option maxHeartbeats 16000000 in
theorem zz:EntOk Tryz.prog 12 (Ent.pure rd):=by
 refine Ype fun _ H K h=>?_
 unfold rd at h
 split at h
 rotate_left
 ·exact h.elim
 rename_i l
 obtain ⟨S,⟨rfl,hk,hl⟩,hK⟩:=h
 refine ⟨_,hK,?_⟩
 clear hK
 generalize hR:pC S=R
 unfold pC at hR
 refine ACalls.fW ap (tCq Ld (tCq BP (tCq Jw (tCq C9 (tCq HK (tCq A5 (tCq BH (tCq Fg (tCq JN tNq))))))))) Tryz.func12 [.tmp 2] (nrq _) (T:=aj []) (h:=fun hcl hlt=>?_)
 clear hlt
 have hPE:yc=Ke:=rfl
 have dn1:(!true)=false:=rfl
 have dn2:(!false)=true:=rfl
 unfold aS
 simp only [aE,ah,bhq,Nat.reduceMod,Nat.reduceDiv,au,aq,ay,aN,ax,aM,aJ,aK,aL,yaq,yar,yao,yap,go_sem,hPE,Ke]
 refine ⟨S,⟨rfl,hk,hl⟩,?_⟩
 cases c0:((me S).2 != 0) with
 |true =>
  simp only [c0,if_true] at hR
  subst hR
  simp only [aE,ah,bhq,Nat.reduceMod,Nat.reduceDiv,au,aq,ay,aN,ax,aM,aJ,aK,aL,yaq,yar,yao,yap,go_sem,c0]
  exact Z1
 |false =>
  have bd:=NV (MS (S:=S) (by simpa using c0))
  have sb:=N8 bd
  have si:=Oa bd
  have rg:=Mx bd hk
  rw [c0] at hR
  simp only [Bool.false_eq_true,if_false] at hR
  simp only [aE,ah,bhq,Nat.reduceMod,Nat.reduceDiv,au,aq,ay,aN,ax,aM,aJ,aK,aL,yaq,yar,yao,yap,go_sem,gS,c0,dn1,dn2]
  refine ⟨S,⟨rfl,sb⟩,?_⟩
  cases c1:kD S with
  |false =>
   rw [c1] at hR
   simp only [if_true] at hR
   subst hR
   simp only [aE,ah,bhq,Nat.reduceMod,Nat.reduceDiv,au,aq,ay,aN,ax,aM,aJ,aK,aL,yaq,yar,yao,yap,go_sem,c0,c1,dn1,dn2]
   exact Z1
  |true =>
   rw [c1] at hR
   simp only [reduceCtorEq,if_false] at hR
   simp only [aE,ah,bhq,Nat.reduceMod,Nat.reduceDiv,au,aq,ay,aN,ax,aM,aJ,aK,aL,yaq,yar,yao,yap,go_sem,gS,lP,c0,c1,dn1,dn2]
   refine ⟨S,⟨rfl,sb⟩,?_⟩
   cases c2:r8 S with
   |false =>
    rw [c2] at hR
    simp only [if_true] at hR
    subst hR
    simp only [aE,ah,bhq,Nat.reduceMod,Nat.reduceDiv,au,aq,ay,aN,ax,aM,aJ,aK,aL,yaq,yar,yao,yap,go_sem,c0,c1,c2,dn1,dn2]
    exact Z1
   |true =>
    rw [c2] at hR
    simp only [reduceCtorEq,if_false] at hR
    simp only [aE,ah,bhq,Nat.reduceMod,Nat.reduceDiv,au,aq,ay,aN,ax,aM,aJ,aK,aL,yaq,yar,yao,yap,go_sem,gS,lP,ky,c0,c1,c2,dn1,dn2]
    refine ⟨S,⟨rfl,sb,si⟩,?_⟩
    cases c3:nB S with
    |false =>
     rw [c3] at hR
     simp only [if_true] at hR
     subst hR
     simp only [aE,ah,bhq,Nat.reduceMod,Nat.reduceDiv,au,aq,ay,aN,ax,aM,aJ,aK,aL,yaq,yar,yao,yap,go_sem,c0,c1,c2,c3,dn1,dn2]
     exact Z1
    |true =>
     rw [c3] at hR
     simp only [reduceCtorEq,if_false] at hR
     simp only [aE,ah,bhq,Nat.reduceMod,Nat.reduceDiv,au,aq,ay,aN,ax,aM,aJ,aK,aL,yaq,yar,yao,yap,go_sem,gS,lP,ky,lE,c0,c1,c2,c3,dn1,dn2]
     refine ⟨S,⟨rfl,sb,fun a ha x hx=>(rg.pv a ha x hx).1⟩,?_⟩
     cases c4:mv S with
     |false =>
      rw [c4] at hR
      simp only [if_true] at hR
      subst hR
      simp only [aE,ah,bhq,Nat.reduceMod,Nat.reduceDiv,au,aq,ay,aN,ax,aM,aJ,aK,aL,yaq,yar,yao,yap,go_sem,c0,c1,c2,c3,c4,dn1,dn2]
      exact Z1
     |true =>
      rw [c4] at hR
      simp only [reduceCtorEq,if_false] at hR
      simp only [aE,ah,bhq,Nat.reduceMod,Nat.reduceDiv,au,aq,ay,aN,ax,aM,aJ,aK,aL,yaq,yar,yao,yap,go_sem,gS,lP,ky,lE,li,c0,c1,c2,c3,c4,dn1,dn2]
      refine ⟨S,⟨rfl,sb⟩,?_⟩
      cases c5:gI S with
      |false =>
       rw [c5] at hR
       simp only [if_true] at hR
       subst hR
       simp only [aE,ah,bhq,Nat.reduceMod,Nat.reduceDiv,au,aq,ay,aN,ax,aM,aJ,aK,aL,yaq,yar,yao,yap,go_sem,c0,c1,c2,c3,c4,c5,dn1,dn2]
       exact Z1
      |true =>
       rw [c5] at hR
       simp only [reduceCtorEq,if_false] at hR
       simp only [aE,ah,bhq,Nat.reduceMod,Nat.reduceDiv,au,aq,ay,aN,ax,aM,aJ,aK,aL,yaq,yar,yao,yap,go_sem,gS,lP,ky,lE,li,lZ,c0,c1,c2,c3,c4,c5,dn1,dn2]
       refine ⟨S,⟨rfl,sb,vU c5 rg⟩,?_⟩
       cases c6:S.refs.all (exB S) with
       |false =>
        rw [c6] at hR
        simp only [if_true] at hR
        subst hR
        simp only [aE,ah,bhq,Nat.reduceMod,Nat.reduceDiv,au,aq,ay,aN,ax,aM,aJ,aK,aL,yaq,yar,yao,yap,go_sem,c0,c1,c2,c3,c4,c5,c6,dn1,dn2]
        exact Z1
       |true =>
        rw [c6] at hR
        simp only [reduceCtorEq,if_false] at hR
        simp only [aE,ah,bhq,Nat.reduceMod,Nat.reduceDiv,au,aq,ay,aN,ax,aM,aJ,aK,aL,yaq,yar,yao,yap,go_sem,gS,lP,ky,lE,li,lZ,qQ,c0,c1,c2,c3,c4,c5,c6,dn1,dn2]
        refine ⟨S,⟨rfl,sb,KC sb c5 c2 c4 rg⟩,?_⟩
        cases c7:qp S with
        |false =>
         rw [c7] at hR
         simp only [if_true] at hR
         subst hR
         simp only [aE,ah,bhq,Nat.reduceMod,Nat.reduceDiv,au,aq,ay,aN,ax,aM,aJ,aK,aL,yaq,yar,yao,yap,go_sem,c0,c1,c2,c3,c4,c5,c6,c7,dn1,dn2]
         exact Z1
        |true =>
         rw [c7] at hR
         simp only [reduceCtorEq,if_false] at hR
         have ri:∀ r∈S.refs,i64 r.toTable:=fun r hr=>jU (bd.x.2 r hr).2.2.2.2.1
         simp only [aE,ah,bhq,Nat.reduceMod,Nat.reduceDiv,au,aq,ay,aN,ax,aM,aJ,aK,aL,yaq,yar,yao,yap,go_sem,gS,lP,ky,lE,li,lZ,qQ,x6,c0,c1,c2,c3,c4,c5,c6,c7,dn1,dn2]
         refine ⟨S,⟨rfl,sb,si,rB c5,ri⟩,?_⟩
         cases c8:qZ S with
         |false =>
          rw [c8] at hR
          simp only [if_true] at hR
          subst hR
          simp only [aE,ah,bhq,Nat.reduceMod,Nat.reduceDiv,au,aq,ay,aN,ax,aM,aJ,aK,aL,yaq,yar,yao,yap,go_sem,c0,c1,c2,c3,c4,c5,c6,c7,c8,dn1,dn2]
          exact Z1
         |true =>
          rw [c8] at hR
          simp only [reduceCtorEq,if_false] at hR
          subst hR
          simp only [aE,ah,bhq,Nat.reduceMod,Nat.reduceDiv,au,aq,ay,aN,ax,aM,aJ,aK,aL,yaq,yar,yao,yap,go_sem,c0,c1,c2,c3,c4,c5,c6,c7,c8,dn1,dn2]
          exact Z1
end Go.AL
