/- Lemmas of the proof; no condition. -/
import Derived.Test.YtjffcopmhkcejaaGreatE05b
import Derived.Test.YtjffcopmhkcejaaGreatW03p
import Derived.Test.YtjffcopmhkcejaaGreatS13b
import Derived.Test.YtjffcopmhkcejaaGreatE05e
set_option linter.all false
set_option maxRecDepth 10000
open Go Go.AL Go.Proofs
namespace Go.AL
def Pos(L:List SRef)(p:Int→Nat):Prop:=∀ r∈L,p r.toTable<p r.table
def Jm{S:Sch}(h:uE S):rD S=true↔∃ p,Pos S.refs p:=by
 have hs:=wi h
 unfold rD
 constructor
 ·intro ha
  split at ha
  ·rename_i D hD
   obtain⟨h1,_,h3⟩:=uW (fun y d d'=>zP _) hD .nil
   have key:∀{D:List Int},Ord (mA S.refs) D→∃ p:Int→Nat,(∀ x∈D,p x≤D.length)∧(∀ x,x ∉ D→p x=0)∧(∀ x∈D,0<p x)∧∀ r∈S.refs,r.table∈D→p r.toTable<p r.table:=by
    intro D hD
    induction hD with
    |nil=>exact⟨fun _=>0,Xc,Xc,Xc,Xc⟩
    |@cons x d hd hx ih =>
     obtain⟨p,p1,p2,p4,p3⟩:=ih
     by_cases hxd:x∈d
     ·refine⟨p,fun y hy=>?_,fun y hy=>p2 y fun h=>hy (List.mem_cons_of_mem _ h),fun y hy=>?_,fun r hr hm=>?_⟩
      ·rcases List.mem_cons.1 hy with rfl|hy
       ·have:=p1 _ hxd;simp only[List.length_cons];omega
       ·have:=p1 y hy;simp only[List.length_cons];omega
      ·rcases List.mem_cons.1 hy with rfl|hy
       ·exact p4 _ hxd
       ·exact p4 y hy
      ·rcases List.mem_cons.1 hm with he|hm
       ·exact p3 r hr (he▸hxd)
       ·exact p3 r hr hm
     ·refine⟨fun y=>if y=x then d.length+1 else p y,fun y hy=>?_,fun y hy=>?_,fun y hy=>?_,fun r hr hm=>?_⟩
      ·dsimp only
       split
       ·simp
       ·rename_i hne
        rcases List.mem_cons.1 hy with e|hy
        ·exact absurd e hne
        ·have:=p1 y hy;simp only[List.length_cons];omega
      ·dsimp only
       rw[if_neg (fun e:y=x=>hy (by rw[e];exact List.mem_cons_self))]
       exact p2 y fun h=>hy (List.mem_cons_of_mem _ h)
      ·dsimp only
       split
       ·omega
       ·rename_i hne
        rcases List.mem_cons.1 hy with e|hy
        ·exact absurd e hne
        ·exact p4 y hy
      ·dsimp only
       by_cases he:r.table=x
       ·rw[if_pos he]
        have hm2:r.toTable∈d:=hx _ (List.mem_map.2 ⟨r,hr,by rw[he]⟩)
        rw[if_neg (fun e:r.toTable=x=>hxd (by rw[← e];exact hm2))]
        have:=p1 _ hm2;omega
       ·rw[if_neg he]
        have hd':r.table∈d:=(List.mem_cons.1 hm).resolve_left he
        have:=p3 r hr hd'
        split
        ·rename_i e2
         have h5:p r.toTable=0:=p2 _ (e2▸hxd)
         exfalso
         -- the successor of a done one is done
         have:∀{D:List Int},Ord (mA S.refs) D→∀ z∈D,∀ y,(z,y)∈mA S.refs→y∈D:=by
          intro D hD
          induction hD with
          |nil=>intro z hz;cases hz
          |@cons x d hd hx ih =>
           intro z hz y hy
           rcases List.mem_cons.1 hz with rfl|hz
           ·exact List.mem_cons_of_mem _ (hx y hy)
           ·exact List.mem_cons_of_mem _ (ih z hz y hy)
         have h6:=this hd r.table hd' r.toTable (List.mem_map.2 ⟨r,hr,rfl⟩)
         exact hxd (e2▸h6)
        ·exact this
   obtain⟨p,_,_,_,p3⟩:=key h1
   exact⟨p,fun r hr=>p3 r hr (h3 (h r hr).1)⟩
  ·cases ha
 ·rintro⟨p,hp⟩
  have h1:mN (mA S.refs) (S.tables.length+1) (iA S)≠some none:=u4 (P:=fun _=>True) (fun y d _=>vp (pos:=p) (fun r hr=>by
   obtain⟨x,hx,rfl⟩:=List.mem_map.1 hr
   exact hp x hx) _ (fun x hx=>by cases hx)) fun _ _=>trivial
  cases hw:mN (mA S.refs) (S.tables.length+1) (iA S)with
  |none=>exact absurd hw hs
  |some q=>cases q with
   |none=>exact absurd hw h1
   |some D=>rfl
def rf(f t:Nat):SRef:=⟨(f:Int),0,0,0,(t:Int),0⟩
def yP{s:By}{m:Int}{k:Nat}(h:s.length≤k):(iy s m).b.length≤4+k:=by
 have h0:=fm (s.length:Int) 2
 unfold iy jT
 rw[lAq]
 rw[n6]
 rw[List.length_take]
 omega
def Bl{k:Nat}{S:Sch}(h:SmB k S):(iP S).b.length≤6200+1250*k:=by
 obtain⟨⟨f1,f2⟩,⟨h1,h2⟩,⟨s1,s2⟩,⟨a1,a2⟩,⟨t1,t2⟩,g,⟨r1,r2⟩,x⟩:=h
 have e1:=dU (g:=gy) (m:=32) (n:=9) (B:=74) (l:=S.fields) Xa fun a ha=>by
  unfold gy;rw[bm,bm]
  have:=cb a.id 2;have:=yP (m:=24) (f2 a ha);have:=cb a.bits 1;omega
 have e2:=dU (g:=fT) (m:=8) (n:=3) (B:=86+4*k) (l:=S.headers) Xa fun a ha=>by
  unfold fT;rw[bm,bm]
  have:=cb a.id 2;have:=yP (m:=24) (h2 a ha).1
  have:=dU (g:=jP) (m:=32) (h2 a ha).2 (B:=4) fun n _=>cb n 2
  omega
 have e3:=dU (g:=iD) (m:=12) (n:=3) (B:=134+38*k) (l:=S.states) Xa fun a ha=>by
  unfold iD;rw[bm,bm,bm,bm]
  have:=cb a.id 2;have:=cb a.header 2;have:=cb a.select 2;have:=cb a.dflt 2
  have:=dU (g:=mu) (m:=6) (s2 a ha).1 (B:=38) fun c hc=>by
   unfold mu;rw[bm,bm]
   have:=qz ((s2 a ha).2 c hc).1;have:=qz ((s2 a ha).2 c hc).2;have:=cb c.next 2;omega
  omega
 have e4:=dU (g:=eO) (m:=12) (n:=6) (B:=384+103*k) (l:=S.actions) Xa fun a ha=>by
  obtain⟨b1,b2,b3,b4,b5,b6⟩:=a2 a ha
  unfold eO;rw[bm,bm,bm,bm]
  have:=cb a.id 2;have:=yP (m:=24) b1;have:=yP (m:=400) b6
  have:=dU (g:=jq) (m:=4) b2 (B:=70) fun p hp=>by
   unfold jq;rw[bm]
   have:=yP (m:=24) (b3 p hp);have:=cb p.bits 1;omega
  have:=dU (g:=mM) (m:=12) b4 (B:=33) fun p hp=>by
   unfold mM;rw[bm,bm,bm,bm]
   have:=cb p.op 1;have:=cb p.dst 2;have:=cb p.kind 1;have:=cb p.n 2;have:=qz (b5 p hp);omega
  omega
 have e5:=dU (g:=gx) (m:=8) (n:=4) (B:=418+95*k) (l:=S.tables) Xa fun a ha=>by
  obtain⟨b1,b2,b3,b4,b5,b6,b7⟩:=t2 a ha
  unfold gx;rw[bm,bm,bm,bm,bm,bm,bm]
  have:=cb a.id 2;have:=yP (m:=24) b1;have:=yP (m:=400) b7;have:=cb a.dflt 2;have:=cb a.size 2
  have:=dU (g:=pH) (m:=4) b2 (B:=74) fun p hp=>by
   unfold pH;rw[bm,bm]
   have:=yP (m:=24) (b3 p hp);have:=cb p.field 2;have:=cb p.kind 1;omega
  have:=dU (g:=jP) (m:=12) b4 (B:=4) fun n _=>cb n 2
  have:=dU (g:=ko) (m:=4) b5 (B:=17) fun v hv=>qz (b6 v hv)
  omega
 have e6:=dU (g:=hZ) (m:=12) (n:=5+k) (B:=8) (l:=S.stages) Xa fun a _=>by
  unfold hZ;rw[bm]
  have:=cb a.table 2;have:=cb a.header 2;omega
 have e7:=dU (g:=ky) (m:=6) (n:=3) (B:=168+18*k) (l:=S.roles) Xa fun a ha=>by
  obtain⟨b1,b2,b3,b4⟩:=r2 a ha
  unfold ky;rw[bm,bm,bm,bm,bm]
  have:=cb a.id 2;have:=yP (m:=24) b1;have:=cb a.quota 2;have:=qi a.audit
  have:=dU (g:=jo) (m:=8) b2 (B:=14) fun q hq=>by
   unfold jo;rw[bm,bm,bm]
   have:=cb q.table 2;have:=qi q.read;have:=qi q.write
   have:=dU (g:=jf) (m:=4) (b3 q hq) (B:=1) fun v _=>qi v
   omega
  have:=dU (g:=jP) (m:=12) b4 (B:=4) fun n _=>cb n 2
  omega
 have e8:=dU (g:=pU) (m:=8) (n:=4+k) (B:=24) (l:=S.refs) Xa fun a _=>by
  unfold pU;rw[bm,bm,bm,bm,bm]
  exact Y135
 have:=cb S.maxBatch 2;have:=cb S.budget 2
 unfold iP fH
 rw[bm,bm,bm,bm,bm,bm,bm,bm,bm]
 omega
def N5{S:Sch}(h:SmB 1 S):(iP S).b.length≤8000:=Nat.le_trans (Bl h) Xb
def Ji{k:Nat}{S:Sch}(h:SmB k S):OkSch S:=by
 obtain⟨⟨f1,f2⟩,⟨h1,h2⟩,⟨s1,s2⟩,⟨a1,a2⟩,⟨t1,t2⟩,g,⟨r1,r2⟩,x⟩:=h
 have ok:∀{s:By},s.length≤62→qA s:=fun h=>fY Xa
 exact⟨fun a ha=>ok (f2 a ha),fun a ha=>ok (h2 a ha).1,fun a ha=>(s2 a ha).2,fun a ha=>⟨ok (a2 a ha).1,fun p hp=>ok ((a2 a ha).2.2.1 p hp),(a2 a ha).2.2.2.2.1,ok (a2 a ha).2.2.2.2.2⟩,fun a ha=>⟨ok (t2 a ha).1,fun p hp=>ok ((t2 a ha).2.2.1 p hp),(t2 a ha).2.2.2.2.2.1,ok (t2 a ha).2.2.2.2.2.2⟩,fun a ha=>ok (r2 a ha).1⟩
theorem dsF_iff{α:Type}[BEq α][LawfulBEq α]:∀{l s:List α},dsF s l=true↔l.Nodup∧∀ x∈l,x ∉ s
 |[],s=>by simp[dsF]
 |x::l,s=>by
  unfold dsF
  rw[Bool.and_eq_true,dsF_iff (l:=l),List.nodup_cons]
  simp only[Bool.not_eq_true',List.contains_eq_mem,decide_eq_false_iff_not,List.mem_cons,not_or]
  constructor
  ·rintro⟨h1,h2,h3⟩
   exact⟨⟨fun h=>(h3 x h).1 rfl,h2⟩,fun y hy=>by rcases hy with rfl|hy;exact h1;exact(h3 y hy).2⟩
  ·rintro⟨⟨h1,h2⟩,h3⟩
   exact⟨h3 x (.inl rfl),h2,fun y hy=>⟨fun e=>h1 (e▸hy),h3 y (.inr hy)⟩⟩
def G4(n:Nat)(l:List SGrant):Prop:=l.length≤n∧∀ q∈l,q.keys.length≤4
theorem G4.nil{n:Nat}:G4 n []:=⟨Nat.zero_le _,fun q hq=>by cases hq⟩
theorem G4.cons{n:Nat}{l:List SGrant}{q:SGrant}(h:G4 n l)(hq:q.keys.length≤4):G4 (n+1) (q::l) :=
 ⟨Nat.succ_le_succ h.1,fun x hx=>(List.mem_cons.1 hx).elim (fun e=>e▸hq) (h.2 x)⟩
theorem G4.up{n:Nat}{l:List SGrant}(h:G4 n l):G4 (n+1) l:=⟨Nat.le_succ_of_le h.1,h.2⟩
theorem oX(b:By):∀(ts:List STable)(v:Nat),(∀ t∈ts,t.keys.length≤4)→G4 ts.length (eJ b ts v).1.1∧G4 ts.length (eJ b ts v).1.2.1∧G4 ts.length (eJ b ts v).1.2.2
 |[],v,_=>⟨.nil,.nil,.nil⟩
 |t::ts,v,h=>by
  have ht:=h t List.mem_cons_self
  have hp:∀ v,(kT b v t.keys.length).length≤4:=fun v=>by simp[kT];exact ht
  have hr:(List.replicate t.keys.length true).length≤4:=by simp;exact ht
  simp only[eJ]
  rw[List.length_cons]
  split<;>split
  ·obtain⟨i1,i2,i3⟩:=oX b ts (v+t.keys.length+3+3) fun x hx=>h x (List.mem_cons_of_mem _ hx)
   exact⟨i1.cons hr,i2.cons (hp _),i3.cons hr⟩
  ·obtain⟨i1,i2,i3⟩:=oX b ts (v+t.keys.length+3+1) fun x hx=>h x (List.mem_cons_of_mem _ hx)
   exact⟨i1.cons hr,i2.cons (hp _),i3.up⟩
  ·obtain⟨i1,i2,i3⟩:=oX b ts (v+t.keys.length+1+3) fun x hx=>h x (List.mem_cons_of_mem _ hx)
   exact⟨i1.cons hr,i2.up,i3.cons hr⟩
  ·obtain⟨i1,i2,i3⟩:=oX b ts (v+t.keys.length+1+1) fun x hx=>h x (List.mem_cons_of_mem _ hx)
   exact⟨i1.cons hr,i2.up,i3.up⟩
def J5(b:By)(v:Nat):(bE b v).1.length=3∧∀ a∈(bE b v).1,a.cases.length≤3:=by
 unfold bE
 (repeat' split)<;>refine⟨Xc,fun a ha=>?_⟩<;>simp only[List.mem_cons,List.not_mem_nil,or_false]at ha<;>rcases ha with rfl|rfl|rfl<;>simp
def Tj(b:By)(v:Nat):∀ x∈dZ b v,x.name.length≤62∧x.params.length≤2∧(∀ p∈x.params,p.name.length≤62)∧x.body.length≤3∧x.restr.length≤62:=by
 intro x hx
 simp only[dZ,List.mem_cons,List.not_mem_nil,or_false]at hx
 rcases hx with rfl|rfl|rfl|rfl|rfl|rfl<;>refine⟨Xc,Xc,fun p hp=>?_,Xc,by dsimp only;(try split)<;>simp⟩<;>simp only[List.mem_cons,List.not_mem_nil,or_false]at hp
 ·subst hp;simp
 ·subst hp;simp
 ·rcases hp with rfl|rfl<;>simp
def uV{L:List (By)}(h:∀ s∈L,s.length≤62)(i:Nat):(L.getD i []).length≤62:=by
 rw[gEq]
 cases hi:L[i]? with
 |none=>simp
 |some s=>exact h s (List.mem_of_getElem? hi)
def SD(b:By)(v:Nat):∀ x∈cD b v,x.name.length≤62∧x.keys.length≤3∧(∀ p∈x.keys,p.name.length≤62)∧x.actions.length≤5∧x.dargs.length≤1∧x.restr.length≤62:=by
 intro x hx
 simp only[cD,List.mem_cons,List.not_mem_nil,or_false]at hx
 rcases hx with rfl|rfl|rfl|rfl
 ·refine⟨by simp[iJ],by simp[iJ],fun p hp=>?_,by simp[iJ],by simp[iJ],uV Xb _⟩
  simp only[iJ,List.mem_cons,List.not_mem_nil,or_false]at hp
  subst hp;simp
 ·refine⟨by simp[hG],by simp only[hG];split<;>simp,fun p hp=>?_,by simp[hG],by simp[hG],uV Xb _⟩
  simp only[hG]at hp
  split at hp<;>simp only[List.cons_append,List.nil_append,List.append_nil,List.mem_cons,List.not_mem_nil,or_false]at hp
  ·rcases hp with rfl|rfl<;>simp
  ·subst hp;simp
 ·refine⟨by simp[fg],by simp only[fg];split<;>simp,fun p hp=>?_,by simp[fg],by simp[fg],uV Xb _⟩
  simp only[fg]at hp
  split at hp<;>simp only[List.cons_append,List.nil_append,List.append_nil,List.mem_cons,List.not_mem_nil,or_false]at hp
  ·rcases hp with rfl|rfl|rfl<;>simp
  ·rcases hp with rfl|rfl<;>simp
 ·refine⟨by simp[fe],by simp only[fe];split<;>simp,fun p hp=>?_,by simp[fe],by simp[fe],uV Xb _⟩
  simp only[fe]at hp
  split at hp<;>simp only[List.cons_append,List.nil_append,List.append_nil,List.mem_cons,List.not_mem_nil,or_false]at hp
  ·rcases hp with rfl|rfl|rfl<;>simp
  ·subst hp;simp
def CT(b:By)(v:Nat):SmB 0 (d7 b v).1:=by
 have h0:=Ah b v
 unfold d7 at h0 ⊢
 dsimp only at h0 ⊢
 have hT:=SD b (cp (bE b (cp v 2)).2 4)
 refine⟨⟨rfl,?_⟩,⟨rfl,?_⟩,⟨(J5 b _).1,fun x hx=>⟨(J5 b _).2 x hx,(h0.s.2 x hx).2⟩⟩,⟨rfl,fun x hx=>?_⟩,⟨rfl,fun x hx=>?_⟩,?_,⟨rfl,fun x hx=>?_⟩,?_⟩
 ·show ∀ x∈gFields,x.name.length≤62
  decide
 ·show ∀ x∈gHeaders,x.name.length≤62∧x.fields.length≤3
  decide
 ·obtain⟨a1,a2,a3,a4,a5⟩:=Tj b _ x hx
  exact⟨a1,a2,a3,a4,(h0.a.2 x hx).1.2.2.1,a5⟩
 ·obtain⟨a1,a2,a3,a4,a5,a6⟩:=hT x hx
  exact⟨a1,a2,a3,a4,a5,(h0.t.2 x hx).1.2.2.1,a6⟩
 ·split<;>simp
 ·obtain⟨g1,g2,g3⟩:=oX b (cD b (cp (bE b (cp v 2)).2 4)) (cp (bE b (cp v 2)).2 16+4) fun t ht=>by have:=(hT t ht).2.1;omega
  rw[show(cD b (cp (bE b (cp v 2)).2 4)).length=4 from rfl]at g1 g2 g3
  simp only[jV,List.mem_cons,List.not_mem_nil,or_false]at hx
  rcases hx with rfl|rfl|rfl
  ·exact⟨Xc,g1.1,g1.2,Xc⟩
  ·exact⟨Xc,g2.1,g2.2,Xc⟩
  ·exact⟨Xc,g3.1,g3.2,Xc⟩
 ·(repeat' split)<;>simp
def tu(e:Enc):Bool:=!e.l&&(!e.f&&!e.a)
def kY{e:Enc}(h:tu e=true):e.ok:=by
 simpa[tu,Enc.ok,and_assoc]using h
def skS:Sch:=⟨gFields,gHeaders,[],dZ [] 0,cD [] 0,[],[],[],0,0⟩
def Rd(x:SField):Bool:=df x.name&&(nm1 x&&tu (gy x))
def Rq(x:SHeader):Bool:=df x.name&&(nm2 x&&(rR skS x&&(rz skS x&&tu (fT x))))
def LZ(L:List SState):Bool:=dsF [] (L.map (·.id))&&(decide (L.length≤12)&&L.all fun t=>wB t.id 1 65534&&(fsB t&&(pR {skS with states:=L} t&&((t.cases.all fun p=>mV skS t.select p)&&tu (iD t)))))
def Hy(a:SAction):Bool:=tr a&&(nm4 a&&(a.body.all fpB&&(wr skS a&&((a.body.all fun p=>mI skS a p)&&(tu (eO a)&&dsF [] (a.params.map (·.name)))))))
def xG(t:STable):Bool:=rV t&&(nm5 t&&(ftB t.keys 0&&(dsF [] (t.actions.map fun n=>n)&&(nd skS t&&(tmF skS t&&(tu (gx t)&&dsF [] (t.keys.map (·.name))))))))
def stF(p q:Bool)(c d:Nat)(e0 e1 e2:Int):List SState :=
 [⟨1,1,4,[⟨1,15,2⟩,⟨2,3,3⟩]++(if p then [⟨8*c,8,e2⟩]else []),e0⟩,⟨2,2,0,[],e1⟩,⟨3,3,9,if q then [⟨5,15,1+d⟩]else [],0⟩]
def zw:∀ p q:Bool,∀ c∈List.range 2,∀ d∈List.range 3,∀ e0∈[(0:Int),65535,3],∀ e1∈[(0:Int),65535,3],∀ e2∈[(0:Int),65535,3],LZ (stF p q c d e0 e1 e2)=true:=by decide +kernel
def mh(n:Nat):nQ n∈[(0:Int),65535,3]:=by
 unfold nQ
 split
 ·simp
 ·split<;>simp
def SN(b:By)(v:Nat):LZ (bE b v).1=true:=by
 have c1:∀ u,cv b u 2∈List.range 2:=fun u=>List.mem_range.2 (jO Xb)
 have c3:∀ u,cv b u 3∈List.range 3:=fun u=>List.mem_range.2 (jO Xb)
 unfold bE
 split<;>split
 ·exact zw true true _ (c1 _) _ (c3 _) _ (mh _) _ (mh _) _ (mh _)
 ·exact zw true false _ (c1 _) 0 Xc _ (mh _) _ (mh _) _ (mh _)
 ·exact zw false true 0 Xc _ (c3 _) _ (mh _) _ (mh _) 0 Xc
 ·exact zw false false 0 Xc 0 Xc _ (mh _) _ (mh _) 0 Xc
def Te:∀ d∈List.range 2,∀ w∈List.range 256,Hy ⟨6,[115,116,114,105,112],[],[⟨5,2+(d:Int),0,0,0⟩,⟨2,6,1,0,w⟩],[]⟩=true:=by decide +kernel
def S6(b:By)(v:Nat):∀ a∈dZ b v,Hy a=true:=by
 intro a ha
 simp only[dZ,List.mem_cons,List.not_mem_nil,or_false]at ha
 rcases ha with rfl|rfl|rfl|rfl|rfl|rfl
 ·decide +kernel
 ·decide +kernel
 ·split<;>decide +kernel
 ·decide +kernel
 ·split<;>decide +kernel
 ·exact Te _ (List.mem_range.2 (jO Xb)) _ (List.mem_range.2 (jO Xb))
def SM:∀ d∈List.range 2,∀ z∈List.range 5,∀ r∈List.range 3,xG ⟨1,[112,111,114,116,115],[⟨[97],4,1⟩],[1,2,4],1+(d:Int),[],2+(z:Int),gText0.getD r []⟩=true:=by decide +kernel
def SG:∀ p:Bool,∀ z∈List.range 6,∀ r∈List.range 3,xG ⟨2,[114,111,117,116,101,115],[⟨[100],7,2⟩]++(if p=true then [⟨[109],3,1⟩]else []),[1,2,3,4],2,[],3+(z:Int),gText1.getD r []⟩=true:=by decide +kernel
def R9:∀ p:Bool,∀ z∈List.range 6,∀ r∈List.range 3,xG ⟨3,[97,99,108],[⟨[101],6,3⟩,⟨[97],4,3⟩]++(if p=true then [⟨[98],5,1⟩]else []),[1,2,3,5,6],1,[],4+(z:Int),gText2.getD r []⟩=true:=by decide +kernel
def Sf:∀ p:Bool,∀ z∈List.range 5,∀ r∈List.range 3,xG ⟨4,[115,112,97,110,115],[⟨[102],8,4⟩]++(if p=true then [⟨[103],9,1⟩,⟨[100],7,2⟩]else []),[1,3,5],3,[7],3+(z:Int),gText3.getD r []⟩=true:=by decide +kernel
def Ca{α:Type}{p:Prop}[Decidable p]{a b:α}:(if p then a else b)=if decide p=true then a else b:=by
 by_cases h:p<;>simp[h]
def R6(b:By)(v:Nat):∀ a∈cD b v,xG a=true:=by
 have c:∀{u n:Nat},0<n→cv b u n∈List.range n:=fun h=>List.mem_range.2 (jO h)
 intro a ha
 simp only[cD,List.mem_cons,List.not_mem_nil,or_false]at ha
 rcases ha with rfl|rfl|rfl|rfl
 ·exact SM _ (c Xb) _ (c Xb) _ (c Xb)
 ·unfold hG;rw[Ca];exact SG _ _ (c Xb) _ (c Xb)
 ·unfold fg;rw[Ca];exact R9 _ _ (c Xb) _ (c Xb)
 ·unfold fe;rw[Ca];exact Sf _ _ (c Xb) _ (c Xb)
def GrK(T:List STable)(q:SGrant):Prop:=∃ t∈T,q.table=t.id∧q.keys.length=t.keys.length
theorem oz(b:By):∀(ts:List STable)(v:Nat),∀ i:Fin 3,let g:=match i with|0=>(eJ b ts v).1.1|1=>(eJ b ts v).1.2.1|2=>(eJ b ts v).1.2.2
 List.Sublist (g.map (·.table)) (ts.map (·.id))∧∀ q∈g,GrK ts q
 |[],v,i=>by
  match i with
  |0=>exact⟨.slnil,fun q hq=>by cases hq⟩
  |1=>exact⟨.slnil,fun q hq=>by cases hq⟩
  |2=>exact⟨.slnil,fun q hq=>by cases hq⟩
 |t::ts,v,i=>by
  have key:∀{g:List SGrant} (ih:List.Sublist (g.map (·.table)) (ts.map (·.id))∧∀ q∈g,GrK ts q),List.Sublist (g.map (·.table)) ((t::ts).map (·.id))∧∀ q∈g,GrK (t::ts) q:=fun ih =>
   ⟨ih.1.cons _,fun q hq=>let ⟨x,h1,h2⟩:=ih.2 q hq;⟨x,List.mem_cons_of_mem _ h1,h2⟩⟩
  have key2:∀{g:List SGrant}{r w:Bool}{ks:List Bool}(hk:ks.length=t.keys.length) (ih:List.Sublist (g.map (·.table)) (ts.map (·.id))∧∀ q∈g,GrK ts q),
   List.Sublist (((⟨t.id,r,w,ks⟩:SGrant)::g).map (·.table)) ((t::ts).map (·.id))∧∀ q∈(⟨t.id,r,w,ks⟩:SGrant)::g,GrK (t::ts) q:=fun hk ih =>
   ⟨ih.1.cons₂ _,fun q hq=>by
    rcases List.mem_cons.1 hq with rfl|hq
    ·exact⟨t,List.mem_cons_self,rfl,hk⟩
    ·exact(key ih).2 q hq⟩
  have l1:∀ u,(kT b u t.keys.length).length=t.keys.length:=fun u=>by simp[kT]
  have l2:(List.replicate t.keys.length true).length=t.keys.length:=Xc
  simp only[eJ]
  match i with
  |0=>exact key2 l2 (oz b ts _ 0)
  |1 =>
   dsimp only
   split
   ·exact key2 (l1 _) (oz b ts _ 1)
   ·exact key (oz b ts _ 1)
  |2 =>
   dsimp only
   split<;>split
   ·exact key2 l2 (oz b ts _ 2)
   ·exact key (oz b ts _ 2)
   ·exact key2 l2 (oz b ts _ 2)
   ·exact key (oz b ts _ 2)
def BQ(nm:By)(id:Int)(acts:List Int)(q:Int):Bool :=
 df nm&&(wB id 1 65534&&(decide (q≤512)&&(dsF [] (acts.map fun n=>n)&&(acts.all (fun a=>fh skS a)&&(tu (b8 id 2)&&(tu (iy nm 24)&&(tu (bn jP 12 acts)&&tu (b8 q 2))))))))
def PH:∀ d∈List.range 3,∀ q∈List.range 6,BQ [115,111,109,101] 2 [1,2,3+(d:Int)] (1+(q:Int))=true:=by decide +kernel
def N6:∀ d∈List.range 6,∀ q∈List.range 4,BQ [102,101,119] 7 [1+(d:Int)] (q:Int)=true:=by decide +kernel
def St(b:By)(v w:Nat):∀ r∈(jV b v (cD b w)).1,BQ r.name r.id r.actions r.quota=true∧List.Sublist (r.grants.map (·.table)) [1,2,3,4]∧∀ q∈r.grants,GrK (cD b w) q:=by
 have c:∀{u n:Nat},0<n→cv b u n∈List.range n:=fun h=>List.mem_range.2 (jO h)
 intro r hr
 simp only[jV,List.mem_cons,List.not_mem_nil,or_false]at hr
 rcases hr with rfl|rfl|rfl
 ·exact⟨show BQ [97,108,108] 1 [1,2,3,4,5,6] 40=true by decide +kernel,oz b (cD b w) (v+4) 0⟩
 ·exact⟨PH _ (c Xb) _ (c Xb),oz b (cD b w) (v+4) 1⟩
 ·exact⟨N6 _ (c Xb) _ (c Xb),oz b (cD b w) (v+4) 2⟩
def Hw(b:By)(w:Nat):∀ t∈cD b w,(cD b w).find? (fun x=>x.id==t.id)=some t∧fZ skS t.id=true∧R2 t.id∧t.keys.length≤4:=by
 intro t ht
 simp only[cD,List.mem_cons,List.not_mem_nil,or_false]at ht
 rcases ht with rfl|rfl|rfl|rfl
 ·exact⟨rfl,rfl,⟨show(0:Int)≤1 by decide,show(1:Int)<65536 by decide⟩,show 1≤4 by decide⟩
 ·exact⟨rfl,rfl,⟨show(0:Int)≤2 by decide,show(2:Int)<65536 by decide⟩,by simp only[hG];split<;>decide⟩
 ·exact⟨rfl,rfl,⟨show(0:Int)≤3 by decide,show(3:Int)<65536 by decide⟩,by simp only[fg];split<;>decide⟩
 ·exact⟨rfl,rfl,⟨show(0:Int)≤4 by decide,show(4:Int)<65536 by decide⟩,by simp only[fe];split<;>decide⟩
def Q0(S:Sch)(r:SRef):Bool:=frB r&&(nD S r&&(exB S r&&(mJ S r&&tu (pU r))))
def Af{S:Sch}(h:SmB 2 S):(iP S).b.length≤16000:=Nat.le_trans (Bl h) Xb
def B7(b:By)(v:Nat):∀ r∈(d7 b v).1.refs,Q0 (d7 b v).1 r=true∧(r.table=2∨r.table=3∨r.table=4)∧r.toTable=1:=by
 unfold d7
 dsimp only
 intro r hr
 rw[List.mem_append,List.mem_append]at hr
 rcases hr with(hr|hr)|hr<;>split at hr<;>simp only[List.mem_cons,List.not_mem_nil,or_false]at hr
 ·subst hr;exact⟨rfl,.inl rfl,rfl⟩
 ·rename_i hk
  have h2:cD b (cp (bE b (cp v 2)).2 4)=[iJ b (cp (bE b (cp v 2)).2 4),hG b (cp (bE b (cp v 2)).2 4),⟨3,[97,99,108],[⟨[101],6,3⟩,⟨[97],4,3⟩,⟨[98],5,1⟩],[1,2,3,5,6],1,[],4+ci b (cp (bE b (cp v 2)).2 4+4) 6,gText2.getD (cv b (cp (bE b (cp v 2)).2 4+10) 3) []⟩,fe b (cp (bE b (cp v 2)).2 4)]:=by
   unfold cD fg
   rw[if_pos (show cv b (cp (bE b (cp v 2)).2 4+5) 2=1 from hk.2)]
   rfl
  rw[h2]
  subst hr;exact⟨rfl,.inr (.inl rfl),rfl⟩
 ·rename_i hk
  have h2:cD b (cp (bE b (cp v 2)).2 4)=[iJ b (cp (bE b (cp v 2)).2 4),hG b (cp (bE b (cp v 2)).2 4),fg b (cp (bE b (cp v 2)).2 4),⟨4,[115,112,97,110,115],[⟨[102],8,4⟩,⟨[103],9,1⟩,⟨[100],7,2⟩],[1,3,5],3,[7],3+ci b (cp (bE b (cp v 2)).2 4+6) 5,gText3.getD (cv b (cp (bE b (cp v 2)).2 4+11) 3) []⟩]:=by
   unfold cD fe
   rw[if_pos (show cv b (cp (bE b (cp v 2)).2 4+7) 2=1 from hk.2)]
   rfl
  rw[h2]
  rcases hr with rfl|rfl<;>exact⟨rfl,.inr (.inr rfl),rfl⟩
def Px(b:By)(v:Nat):rD (d7 b v).1=true:=by
 have ht:iA (d7 b v).1=[1,2,3,4]:=rfl
 have m4:∀{n:Int},1≤n∧n≤4→n∈iA (d7 b v).1:=fun{n} h=>by
  rw[ht]
  have:n=1∨n=2∨n=3∨n=4:=Xa
  rcases this with rfl|rfl|rfl|rfl<;>simp
 refine(Jm fun r hr=>?_).2 ⟨fun n=>if n=1 then 0 else 1,fun r hr=>?_⟩
 ·obtain⟨_,h1,h2⟩:=B7 b v r hr
  exact⟨m4 Xa,m4 Xa⟩
 ·obtain⟨_,h1,h2⟩:=B7 b v r hr
  dsimp only
  rw[h2,if_pos rfl,if_neg (Xa)]
  omega
def Up(b:By)(u:Nat)(n:Int):((dZ b u).find? fun a=>a.id==n).map (·.params)=((dZ [] 0).find? fun a=>a.id==n).map (·.params):=by
 simp only[dZ,List.find?]
 generalize ((1:Int)==n)=q1
 generalize ((2:Int)==n)=q2
 generalize ((3:Int)==n)=q3
 generalize ((4:Int)==n)=q4
 generalize ((5:Int)==n)=q5
 generalize ((6:Int)==n)=q6
 cases q1<;>cases q2<;>cases q3<;>cases q4<;>cases q5<;>cases q6<;>rfl
def Nb(S:Sch)(t:STable):tmF S t=((S.actions.find? fun a=>a.id==t.dflt).map (·.params)).elim false fun ps=>xE ps t.dargs:=by
 unfold tmF
 cases S.actions.find? fun a=>a.id==t.dflt<;>rfl
theorem Kb{S T:Sch}(h:∀ n,btF S n=btF T n):∀(l:List Int)(n:Int),smB S l n=smB T l n
 |[],n=>rfl
 |f::l,n=>by rw[smB,smB,h,Kb h l]
def SJ(b:By)(v:Nat):zA (d7 b v).1=0:=by
 have hlen:=N5 (qn (CT b v))
 have hacy:=Px b v
 have hx:=B7 b v
 have hsm:=CT b v
 have c0:=jO (b:=b) (v:=cp v 0) (n:=8) Xb
 have c1:=jO (b:=b) (v:=cp v 1) (n:=30) Xb
 have hg:∀ x∈(d7 b v).1.stages,x∈[(⟨1,1⟩:SStage),⟨2,2⟩,⟨3,0⟩,⟨4,3⟩,⟨1,0⟩]:=by
  unfold d7
  dsimp only
  intro x hx
  rw[List.mem_append]at hx
  rcases hx with hx|hx
  ·simp only[List.mem_cons,List.not_mem_nil,or_false]at hx ⊢
   rcases hx with rfl|rfl|rfl|rfl<;>simp
  ·split at hx
   ·simp only[List.mem_singleton]at hx;subst hx;simp
   ·cases hx
 obtain⟨u,hu⟩:∃ u,u=(bE b (cp v 2)).2:=⟨_,rfl⟩
 have hSt:=SN b (cp v 2)
 have hAc:=S6 b u
 have hTa:=R6 b (cp u 4)
 have hRo:=St b (cp u 16) (cp u 4)
 have hFi:=Hw b (cp u 4)
 have hf:(d7 b v).1.fields=gFields:=rfl
 have hh:(d7 b v).1.headers=gHeaders:=rfl
 have hs:(d7 b v).1.states=(bE b (cp v 2)).1:=rfl
 have ha:(d7 b v).1.actions=dZ b u:=by rw[hu];rfl
 have ht:(d7 b v).1.tables=cD b (cp u 4):=by rw[hu];rfl
 have hr:(d7 b v).1.roles=(jV b (cp u 16) (cD b (cp u 4))).1:=by rw[hu];rfl
 have hm:(d7 b v).1.maxBatch=2+((cv b (cp v 0) 8:Nat):Int)∧(d7 b v).1.budget=12+((cv b (cp v 1) 30:Nat):Int):=⟨rfl,rfl⟩
 generalize (d7 b v).1=S at *
 generalize (bE b (cp v 2)).1=L at *
 have eF:∀ n,bp S n=bp skS n:=fun n=>by unfold bp;rw[hf];rfl
 have eH:∀ n,fu S n=fu skS n:=fun n=>by unfold fu;rw[hh];rfl
 have eA:∀ n,fh S n=fh skS n:=fun n=>by unfold fh;rw[ha];rfl
 have eT:∀ n,fZ S n=fZ skS n:=fun n=>by unfold fZ;rw[ht];rfl
 have eB:∀ n,btF S n=btF skS n:=fun n=>by unfold btF;rw[hf];rfl
 have gF:∀ x∈gFields,Rd x=true:=by decide +kernel
 have gH:∀ x∈gHeaders,Rq x=true:=by decide +kernel
 have gG:∀ x∈[(⟨1,1⟩:SStage),⟨2,2⟩,⟨3,0⟩,⟨4,3⟩,⟨1,0⟩],th skS x=true∧tu (hZ x)=true:=by decide +kernel
 simp only[LZ,Bool.and_eq_true,List.all_eq_true,decide_eq_true_eq]at hSt
 simp only[Rd,Bool.and_eq_true]at gF
 simp only[Rq,Bool.and_eq_true]at gH
 simp only[Hy,Bool.and_eq_true,List.all_eq_true]at hAc
 simp only[xG,Bool.and_eq_true]at hTa
 simp only[BQ,Bool.and_eq_true,List.all_eq_true,decide_eq_true_eq]at hRo
 simp only[Q0,Bool.and_eq_true]at hx
 obtain⟨st1,st2,st3⟩:=hSt
 have nd4:([1,2,3,4]:List Int).Nodup:=Xb
 -- the parts
 have k1:nc S=true:=by
  unfold nc
  rw[hf,hh,ha,ht,hr]
  refine Tq42 ?_
  exact⟨fun x h=>(gF x h).1,fun x h=>(gH x h).1,fun x h=>(hAc x h).1,fun x h=>(hTa x h).1,fun x h=>(hRo x h).1.1⟩
 have k2:tt S=true:=by
  unfold tt
  rw[hf,hh,hs,ha,ht,hr]
  refine Tq42 ?_
  refine⟨by rw[hm.1];simp only[wB,Bool.and_eq_true,decide_eq_true_eq];omega,by rw[hm.2];simp only[wB,Bool.and_eq_true,decide_eq_true_eq];omega,fun x h=>(gF x h).2.1,fun x h=>(gH x h).2.1,fun x h=>(st3 x h).1,fun x h=>(hAc x h).2.1,fun x h=>(hTa x h).2.1,fun x h=>?_⟩
  unfold nm6
  rw[(hRo x h).1.2.1,Bool.true_and,decide_eq_true_eq]
  exact(hRo x h).1.2.2.1
 have k3:oL S=true:=by
  unfold oL
  rw[Hu,hf,hh,hs,ha,ht,hr]
  refine Tq42 ?_
  refine⟨by decide +kernel,by decide +kernel,st1,rfl,rfl,rfl,⟨by decide +kernel,by decide +kernel,⟨rfl,fun x h=>(hAc x h).2.2.2.2.2.2⟩,⟨rfl,fun x h=>(hTa x h).2.2.2.2.2.2.2⟩,rfl⟩,by decide +kernel,fun x h=>(hTa x h).2.2.2.1,fun x h=>?_⟩
  unfold rlB
  rw[(hRo x h).1.2.2.2.1,Bool.true_and]
  exact dsF_iff.2 ⟨(hRo x h).2.1.nodup nd4,fun _ _=>Xc⟩
 have k4:mK S=true:=by
  unfold mK
  rw[hs,ha,ht]
  refine Tq42 ?_
  exact⟨fun x h=>(hAc x h).2.2.1,fun x h=>(hTa x h).2.2.1,fun x h=>(st3 x h).2.1,fun x h=>(hx x h).1.1⟩
 have k5:kg S=true:=by
  have p1:∀ t,rR S t=rR skS t:=fun t=>by unfold rR;simp only[eF]
  have p2:∀ t,pR S t=pR {skS with states:=L} t:=fun t=>by
   unfold pR j4
   rw[hs]
   simp only[eF,eH]
   rfl
  have p3:∀ t,wr S t=wr skS t:=fun t=>by unfold wr oP;simp only[eF,eH]
  have p4:∀ t,nd S t=nd skS t:=fun t=>by unfold nd;simp only[eF,eA]
  have p5:∀ t,th S t=th skS t:=fun t=>by unfold th;simp only[eT,eH]
  unfold kg
  rw[hh,hs,ha,ht,hr]
  refine Tq42 ?_
  refine⟨by rw[eF];rfl,by rw[eF];rfl,fun x h=>by rw[p1];exact(gH x h).2.2.1,fun x h=>by rw[p2];exact(st3 x h).2.2.1,fun x h=>by rw[p3];exact(hAc x h).2.2.2.1,fun x h=>by rw[p4];exact(hTa x h).2.2.2.2.1,fun x h=>by rw[p5];exact(gG x (hg x h)).1,fun x h=>?_,fun x h=>(hx x h).1.2.1⟩
  unfold t9
  refine Tq42 ?_
  refine⟨fun q hq=>?_,fun n hn=>by rw[eA];exact(hRo x h).1.2.2.2.2.1 n hn⟩
  obtain⟨t,h1,h2,_⟩:=(hRo x h).2.2 q hq
  rw[eT,h2];exact(hFi t h1).2.1
 have k6:S.refs.all (exB S)=true:=List.all_eq_true.2 fun x h=>(hx x h).1.2.2.1
 have k7:sy S=true:=by
  have p1:∀ t,rz S t=rz skS t:=fun t=>by unfold rz;simp only[Kb eB]
  have p2:∀ f c,mV S f c=mV skS f c:=fun f c=>by unfold mV;simp only[eB]
  have p3:∀ t p,mI S t p=mI skS t p:=fun t p=>by unfold mI;simp only[eB]
  have p4:∀ t,tmF S t=tmF skS t:=fun t=>by rw[Nb,Nb,ha,Up];rfl
  unfold sy
  rw[hh,hs,ha,ht,hr]
  simp only[Bool.and_eq_true,List.all_eq_true,p1,p2,p3,p4]
  refine⟨by rw[eB];rfl,by rw[eB];rfl,fun x h=>(gH x h).2.2.2.1,fun x h p hp=>(st3 x h).2.2.2.1 p hp,fun x h p hp=>(hAc x h).2.2.2.2.1 p hp,fun x h=>(hTa x h).2.2.2.2.2.1,fun x h q hq=>?_,fun x h=>(hx x h).1.2.2.2.1⟩
  obtain⟨t,h1,h2,h3⟩:=(hRo x h).2.2 q hq
  unfold gkB
  rw[ht,h2,(hFi t h1).1]
  simpa using h3
 have k8:(iP S).ok:=by
  have hsr:=hsm.r.1
  have hsg:=hsm.g
  have hsx:=hsm.x
  have la:(dZ b u).length=6:=rfl
  have lt:(cD b (cp u 4)).length=4:=rfl
  simp only[iP,fH,ok_add,ok_list,ok_num2]
  rw[hf,hh,hs,ha,ht]
  refine⟨by rw[hm.1];unfold R2;omega,by rw[hm.2];unfold R2;omega,⟨⟨Xb,fun x h=>kY (gF x h).2.2⟩,⟨Xb,fun x h=>kY (gH x h).2.2.2.2⟩,⟨Xa,fun x h=>kY (st3 x h).2.2.2.2⟩⟩,⟨Xa,fun x h=>kY (hAc x h).2.2.2.2.2.1⟩,⟨Xa,fun x h=>kY (hTa x h).2.2.2.2.2.2.1⟩,⟨Xa,fun x h=>kY (gG x (hg x h)).2⟩,⟨Xa,fun x h=>?_⟩,⟨Xa,fun x h=>kY (hx x h).1.2.2.2.2⟩⟩
  rw[hr]at h
  obtain⟨⟨_,_,_,_,_,o1,o2,o3,o4⟩,g1,g2⟩:=hRo x h
  have gl:=g1.length_le
  rw[List.length_map]at gl
  refine ok_add.2 ⟨kY o1,ok_add.2 ⟨kY o2,ok_add.2 ⟨ok_list.2 ⟨by simp at gl;omega,fun q hq=>?_⟩,ok_add.2 ⟨kY o3,ok_add.2 ⟨kY o4,ok_tru.2 trivial⟩⟩⟩⟩⟩
  obtain⟨t,h1,h2,h3⟩:=g2 q hq
  obtain⟨_,_,f1,f2⟩:=hFi t h1
  exact ok_add.2 ⟨ok_num2.2 (by rw[h2];exact f1),ok_add.2 ⟨ok_tru.2 trivial,ok_add.2 ⟨ok_tru.2 trivial,ok_list.2 ⟨Xa,fun _ _=>ok_tru.2 trivial⟩⟩⟩⟩
 have k9:(sk S).2=0:=by
  unfold sk
  rw[k8.1,k8.2.1,k8.2.2]
  simp only[Bool.false_eq_true,if_false]
  rw[if_neg (Xa)]
 unfold zA
 rw[k9,k1,k2,k3,k4,k5,k6,k7,hacy]
 rfl
end Go.AL
