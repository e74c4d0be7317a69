/- Lemmas of the proof; no condition. -/
import Derived.Test.YthnlhjalhflgfaaGreatE05b
import Derived.Test.YthnlhjalhflgfaaGreatW03p
import Derived.Test.YthnlhjalhflgfaaGreatS13b
import Derived.Test.YthnlhjalhflgfaaGreatE05c
set_option linter.all false
set_option maxRecDepth 10000
open Go Go.AL Go.Proofs
namespace Go.AL
def Pos (L:List SRef) (p:Int→Nat):Prop:=∀ r∈L,p r.toTable<p r.table
theorem wv {S:Sch} (h:wQ S):qZ S=true↔∃ p,Pos S.refs p:=by
 have hs:=rh h
 unfold qZ
 constructor
 ·intro ha
  split at ha
  ·rename_i D hD
   obtain ⟨h1,_,h3⟩:=u2 (fun y d d'=>zp _) hD .nil
   have key:∀ {D:List Int},Ord (lO S.refs) D→∃ p:Int→Nat,(∀ x∈D,p x≤D.length)∧(∀ x,x ∉ D→p x=0)∧(∀ x∈D,0<p x)∧∀ r∈S.refs,r.table∈D→p r.toTable<p r.table:=by
    intro D hD
    induction hD with
    |nil=>exact ⟨fun _=>0,by simp,by simp,by simp,by simp⟩
    |@cons x d hd hx ih =>
     obtain ⟨p,p1,p2,p4,p3⟩:=ih
     by_cases hxd:x∈d
     ·refine ⟨p,fun y hy=>?_,fun y hy=>p2 y fun h=>hy (List.mem_cons_of_mem _ h),fun y hy=>?_,fun r hr hm=>?_⟩
      ·rcases List.mem_cons.1 hy with rfl|hy
       ·have:=p1 _ hxd;simp only [List.length_cons];omega
       ·have:=p1 y hy;simp only [List.length_cons];omega
      ·rcases List.mem_cons.1 hy with rfl|hy
       ·exact p4 _ hxd
       ·exact p4 y hy
      ·rcases List.mem_cons.1 hm with he|hm
       ·exact p3 r hr (he ▸ hxd)
       ·exact p3 r hr hm
     ·refine ⟨fun y=>if y=x then d.length+1 else p y,fun y hy=>?_,fun y hy=>?_,fun y hy=>?_,fun r hr hm=>?_⟩
      ·dsimp only
       split
       ·simp
       ·rename_i hne
        rcases List.mem_cons.1 hy with e|hy
        ·exact absurd e hne
        ·have:=p1 y hy;simp only [List.length_cons];omega
      ·dsimp only
       rw [if_neg (fun e:y=x=>hy (by rw [e];exact List.mem_cons_self))]
       exact p2 y fun h=>hy (List.mem_cons_of_mem _ h)
      ·dsimp only
       split
       ·omega
       ·rename_i hne
        rcases List.mem_cons.1 hy with e|hy
        ·exact absurd e hne
        ·exact p4 y hy
      ·dsimp only
       by_cases he:r.table=x
       ·rw [if_pos he]
        have hm2:r.toTable∈d:=hx _ (List.mem_map.2 ⟨r,hr,by rw [he]⟩)
        rw [if_neg (fun e:r.toTable=x=>hxd (by rw [← e];exact hm2))]
        have:=p1 _ hm2;omega
       ·rw [if_neg he]
        have hd':r.table∈d:=(List.mem_cons.1 hm).resolve_left he
        have:=p3 r hr hd'
        split
        ·rename_i e2
         have h5:p r.toTable=0:=p2 _ (e2 ▸ hxd)
         exfalso
         -- the successor of a done one is done
         have:∀ {D:List Int},Ord (lO S.refs) D→∀ z∈D,∀ y,(z,y)∈lO S.refs→y∈D:=by
          intro D hD
          induction hD with
          |nil=>intro z hz;cases hz
          |@cons x d hd hx ih =>
           intro z hz y hy
           rcases List.mem_cons.1 hz with rfl|hz
           ·exact List.mem_cons_of_mem _ (hx y hy)
           ·exact List.mem_cons_of_mem _ (ih z hz y hy)
         have h6:=this hd r.table hd' r.toTable (List.mem_map.2 ⟨r,hr,rfl⟩)
         exact hxd (e2 ▸ h6)
        ·exact this
   obtain ⟨p,_,_,_,p3⟩:=key h1
   exact ⟨p,fun r hr=>p3 r hr (h3 (h r hr).1)⟩
  ·cases ha
 ·rintro ⟨p,hp⟩
  have h1:oB (lO S.refs) (S.tables.length+1) (j8 S)≠some none:=vp (P:=fun _=>True) (fun y d _=>wc (pos:=p) (fun r hr=>by
   obtain ⟨x,hx,rfl⟩:=List.mem_map.1 hr
   exact hp x hx) _ (fun x hx=>by cases hx)) fun _ _=>trivial
  cases hw:oB (lO S.refs) (S.tables.length+1) (j8 S) with
  |none=>exact absurd hw hs
  |some q=>cases q with
   |none=>exact absurd hw h1
   |some D=>rfl
def rnN (i:Nat):List UInt8:=[113,UInt8.ofNat (97+i % 26),UInt8.ofNat (97+i/26)]
def rnA:Nat→List SField→List SField
 |_,[]=>[]
 |i,x::l=>{ x with name:=rnN i }::rnA (i+1) l
theorem nd:∀ (i:Nat) (l:List SField),(rnA i l).length=l.length
 |_,[]=>rfl
 |i,x::l=>by rw [rnA,List.length_cons,nd,List.length_cons]
theorem qJ {α:Type} {f:SField→α} (hf:∀ x n,f { x with name:=n }=f x):∀ (i:Nat) (l:List SField),(rnA i l).map f=l.map f
 |_,[]=>rfl
 |i,x::l=>by rw [rnA,List.map_cons,hf,qJ hf,List.map_cons]
theorem In {f:SField→Bool} (hf:∀ x n,f { x with name:=n }=f x) (i:Nat) (l:List SField):(rnA i l).all f=l.all f:=by
 have h:=qJ (f:=f) hf i l
 have e:∀ l:List SField,l.all f=(l.map f).all id:=fun l=>by rw [List.all_map];rfl
 rw [e,e,h]
theorem z0 {f:SField→Bool} (hf:∀ x n,f { x with name:=n }=f x) (i:Nat) (l:List SField):(rnA i l).any f=l.any f:=by
 have h:=qJ (f:=f) hf i l
 have e:∀ l:List SField,l.any f=(l.map f).any id:=fun l=>by rw [List.any_map];rfl
 rw [e,e,h]
theorem qI {P:List UInt8→Prop}:∀ (i:Nat) (l:List SField),(∀ j,i≤j→j<i+l.length→P (rnN j))→∀ x∈rnA i l,P x.name
 |_,[],_,x,hx=>by cases hx
 |i,y::l,h,x,hx=>by
  rw [rnA] at hx
  rcases List.mem_cons.1 hx with rfl|hx
  ·exact h i (nrq _) (by simp)
  ·exact qI (i+1) l (fun j h1 h2=>h j (by omega) (by simp only [List.length_cons];omega)) x hx
theorem xa {g:SField→Bool} {d:SField} (hg:∀ x n,g { x with name:=n }=g x):∀ (i:Nat) (l:List SField),(((rnA i l).find? g).getD d).bits=((l.find? g).getD d).bits
 |_,[]=>rfl
 |i,x::l=>by
  rw [rnA,List.find?_cons,List.find?_cons,hg]
  cases g x with
  |true=>rfl
  |false=>exact xa hg (i+1) l
def rnS (S:Sch):Sch:={ S with fields:=rnA 0 S.fields,roles:=S.roles.reverse,refs:=S.refs.reverse }
theorem u1 {α:Type} {g:α→Enc}:∀ (l:List α),(bR g l).l=l.any fun x=>(g x).l
 |[]=>rfl
 |x::l=>by rw [bR,List.any_cons,← u1 l];rfl
theorem vq {α:Type} {g:α→Enc}:∀ (l:List α),(bR g l).f=l.any fun x=>(g x).f
 |[]=>rfl
 |x::l=>by rw [bR,List.any_cons,← vq l];rfl
theorem sq {α:Type} {g:α→Enc}:∀ (l:List α),(bR g l).a=l.any fun x=>(g x).a
 |[]=>rfl
 |x::l=>by rw [bR,List.any_cons,← sq l];rfl
theorem FP {α:Type} {g:α→Enc} (l:List α):(bR g l.reverse).l=(bR g l).l∧(bR g l.reverse).f=(bR g l).f∧(bR g l.reverse).a=(bR g l).a:=by
 rw [u1,u1,vq,vq,sq,sq]
 simp only [List.any_reverse,and_self]
theorem t7 {α:Type} {g:α→Enc} {m:Int} (l:List α):(bF g m l.reverse).l=(bF g m l).l∧(bF g m l.reverse).f=(bF g m l).f∧(bF g m l.reverse).a=(bF g m l).a:=by
 obtain ⟨h1,h2,h3⟩:=FP (g:=g) l
 unfold bF Enc.add
 rw [List.length_reverse]
 exact ⟨by rw [h1],by rw [h2],by rw [h3]⟩
theorem yg:∀ j,j<9→(iS (rnN j) 24).l=false∧(iS (rnN j) 24).f=false∧dx (rnN j)=true:=by decide +kernel
theorem xA {l:List SField} (hl:l.length=9) (h1:(bF fp 32 l).l=false) (h2:(bF fp 32 l).f=false):(bF fp 32 (rnA 0 l)).l=false∧(bF fp 32 (rnA 0 l)).f=false∧(bF fp 32 (rnA 0 l)).a=(bF fp 32 l).a:=by
 have hn:∀ x∈rnA 0 l,(iS x.name 24).l=false∧(iS x.name 24).f=false:=qI (P:=fun s=>(iS s 24).l=false∧(iS s 24).f=false) 0 l fun j _ h=>⟨(yg j (by omega)).1,(yg j (by omega)).2.1⟩
 unfold bF Enc.add at h1 h2 ⊢
 rw [nd]
 dsimp only at h1 h2 ⊢
 rw [Bool.or_eq_false_iff] at h1 h2
 refine ⟨by rw [h1.1,Bool.false_or,u1,List.any_eq_false];intro x hx;have:=hn x hx;simp [fp,Enc.add,eH,this.1],by rw [h2.1,Bool.false_or,vq,List.any_eq_false];intro x hx;have:=hn x hx;simp [fp,Enc.add,eH,this.2],?_⟩
 rw [sq,sq,z0 (fun x n=>by simp [fp,Enc.add,iS])]
theorem tX {S:Sch} (hl:S.fields.length=9) (h1:(fe S).l=false) (h2:(fe S).f=false):(fe (rnS S)).l=false∧(fe (rnS S)).f=false∧(fe (rnS S)).a=(fe S).a:=by
 have r:=t7 (g:=kL) (m:=6) S.roles
 have q:=t7 (g:=pK) (m:=8) S.refs
 simp only [fe,ng,Enc.add,Bool.or_eq_false_iff] at h1 h2 ⊢
 obtain ⟨a1,a2,⟨a3,a4,a5⟩,a6,a7,a8,a9,a10⟩:=h1
 obtain ⟨b1,b2,⟨b3,b4,b5⟩,b6,b7,b8,b9,b10⟩:=h2
 obtain ⟨f1,f2,f3⟩:=xA hl a3 b3
 refine ⟨⟨a1,a2,⟨f1,a4,a5⟩,a6,a7,a8,r.1.trans a9,q.1.trans a10⟩,⟨b1,b2,⟨f2,b4,b5⟩,b6,b7,b8,r.2.1.trans b9,q.2.1.trans b10⟩,?_⟩
 simp only [rnS,f3,r.2.2,q.2.2]
theorem uB {s:List UInt8} {m:Int} {k:Nat} (h:s.length≤k):(iS s m).b.length≤4+k:=by
 have h0:=cO (s.length:Int) 2
 unfold iS lG
 rw [lAq]
 rw [nZ]
 rw [List.length_take]
 omega
theorem qD {S:Sch} (h:SmB 1 S):(fe S).b.length≤8000:=by
 obtain ⟨⟨f1,f2⟩,⟨h1,h2⟩,⟨s1,s2⟩,⟨a1,a2⟩,⟨t1,t2⟩,g,⟨r1,r2⟩,x⟩:=h
 have e1:=cn (g:=fp) (m:=32) (n:=9) (B:=74) (l:=S.fields) (by omega) fun a ha=>by
  unfold fp;rw [aQ,aQ]
  have:=bq a.id 2;have:=uB (m:=24) (f2 a ha);have:=bq a.bits 1;omega
 have e2:=cn (g:=g9) (m:=8) (n:=3) (B:=90) (l:=S.headers) (by omega) fun a ha=>by
  unfold g9;rw [aQ,aQ]
  have:=bq a.id 2;have:=uB (m:=24) (h2 a ha).1
  have:=cn (g:=kc) (m:=32) (h2 a ha).2 (B:=4) fun n _=>bq n 2
  omega
 have e3:=cn (g:=jt) (m:=12) (n:=3) (B:=172) (l:=S.states) (by omega) fun a ha=>by
  unfold jt;rw [aQ,aQ,aQ,aQ]
  have:=bq a.id 2;have:=bq a.header 2;have:=bq a.select 2;have:=bq a.dflt 2
  have:=cn (g:=mh) (m:=6) (s2 a ha).1 (B:=38) fun c hc=>by
   unfold mh;rw [aQ,aQ]
   have:=mu ((s2 a ha).2 c hc).1;have:=mu ((s2 a ha).2 c hc).2;have:=bq c.next 2;omega
  omega
 have e4:=cn (g:=hG) (m:=12) (n:=6) (B:=486) (l:=S.actions) (by omega) fun a ha=>by
  obtain ⟨b1,b2,b3,b4,b5,b6⟩:=a2 a ha
  unfold hG;rw [aQ,aQ,aQ,aQ]
  have:=bq a.id 2;have:=uB (m:=24) b1;have:=uB (m:=400) b6
  have:=cn (g:=jZ) (m:=4) b2 (B:=70) fun p hp=>by
   unfold jZ;rw [aQ]
   have:=uB (m:=24) (b3 p hp);have:=bq p.bits 1;omega
  have:=cn (g:=mb) (m:=12) b4 (B:=33) fun p hp=>by
   unfold mb;rw [aQ,aQ,aQ,aQ]
   have:=bq p.op 1;have:=bq p.dst 2;have:=bq p.kind 1;have:=bq p.n 2;have:=mu (b5 p hp);omega
  omega
 have e5:=cn (g:=jv) (m:=8) (n:=4) (B:=512) (l:=S.tables) (by omega) fun a ha=>by
  obtain ⟨b1,b2,b3,b4,b5,b6,b7⟩:=t2 a ha
  unfold jv;rw [aQ,aQ,aQ,aQ,aQ,aQ,aQ]
  have:=bq a.id 2;have:=uB (m:=24) b1;have:=uB (m:=400) b7;have:=bq a.dflt 2;have:=bq a.size 2
  have:=cn (g:=sy) (m:=4) b2 (B:=74) fun p hp=>by
   unfold sy;rw [aQ,aQ]
   have:=uB (m:=24) (b3 p hp);have:=bq p.field 2;have:=bq p.kind 1;omega
  have:=cn (g:=kc) (m:=12) b4 (B:=4) fun n _=>bq n 2
  have:=cn (g:=jH) (m:=4) b5 (B:=17) fun v hv=>mu (b6 v hv)
  omega
 have e6:=cn (g:=ju) (m:=12) (n:=6) (B:=8) (l:=S.stages) (by omega) fun a _=>by
  unfold ju;rw [aQ]
  have:=bq a.table 2;have:=bq a.header 2;omega
 have e7:=cn (g:=kL) (m:=6) (n:=3) (B:=200) (l:=S.roles) (by omega) fun a ha=>by
  obtain ⟨b1,b2,b3,b4⟩:=r2 a ha
  unfold kL;rw [aQ,aQ,aQ,aQ,aQ]
  have:=bq a.id 2;have:=uB (m:=24) b1;have:=bq a.quota 2;have:=mn a.audit
  have:=cn (g:=jP) (m:=8) b2 (B:=14) fun q hq=>by
   unfold jP;rw [aQ,aQ,aQ]
   have:=bq q.table 2;have:=mn q.read;have:=mn q.write
   have:=cn (g:=jw) (m:=4) (b3 q hq) (B:=1) fun v _=>mn v
   omega
  have:=cn (g:=kc) (m:=12) b4 (B:=4) fun n _=>bq n 2
  omega
 have e8:=cn (g:=pK) (m:=8) (n:=5) (B:=24) (l:=S.refs) (by omega) fun a _=>by
  unfold pK;rw [aQ,aQ,aQ,aQ,aQ]
  have:=bq a.table 2;have:=bq a.key 1;have:=bq a.action 2;have:=bq a.param 1;have:=bq a.toTable 2;have:=bq a.toKey 1;omega
 have:=bq S.maxBatch 2;have:=bq S.budget 2
 unfold fe ng
 rw [aQ,aQ,aQ,aQ,aQ,aQ,aQ,aQ,aQ]
 omega
theorem Hk {k:Nat} {S:Sch} (h:SmB k S):OkSch S:=by
 obtain ⟨⟨f1,f2⟩,⟨h1,h2⟩,⟨s1,s2⟩,⟨a1,a2⟩,⟨t1,t2⟩,g,⟨r1,r2⟩,x⟩:=h
 have ok:∀ {s:List UInt8},s.length≤62→mt s:=fun h=>dp (by omega)
 exact ⟨fun a ha=>ok (f2 a ha),fun a ha=>ok (h2 a ha).1,fun a ha=>(s2 a ha).2,fun a ha=>⟨ok (a2 a ha).1,fun p hp=>ok ((a2 a ha).2.2.1 p hp),(a2 a ha).2.2.2.2.1,ok (a2 a ha).2.2.2.2.2⟩,fun a ha=>⟨ok (t2 a ha).1,fun p hp=>ok ((t2 a ha).2.2.1 p hp),(t2 a ha).2.2.2.2.2.1,ok (t2 a ha).2.2.2.2.2.2⟩,fun a ha=>ok (r2 a ha).1⟩
theorem vC {k:Nat} {S:Sch} (h:SmB k S):SmB k (rnS S):=by
 obtain ⟨⟨f1,f2⟩,h2,h3,h4,h5,g,⟨r1,r2⟩,x⟩:=h
 refine ⟨⟨(nd 0 S.fields).trans f1,qI (P:=fun s=>s.length≤62) 0 S.fields fun j _ _=>by simp [rnN]⟩,h2,h3,h4,h5,g,⟨by simpa [rnS] using r1,fun y hy=>r2 y (by simpa [rnS] using hy)⟩,by simpa [rnS] using x⟩
theorem AO {S:Sch} (hl:S.fields.length=9) (h:kD S=true):kD (rnS S)=true:=by
 unfold kD at h ⊢
 simp only [Bool.and_eq_true] at h ⊢
 obtain ⟨h1,h2,h3,h4,h5⟩:=h
 refine ⟨List.all_eq_true.2 (qI (P:=fun s=>dx s=true) 0 S.fields fun j _ hj=>(yg j (by omega)).2.2),h2,h3,h4,?_⟩
 simp only [rnS,List.all_reverse];exact h5
theorem KZ {S:Sch}:r8 (rnS S)=r8 S:=by
 unfold r8
 simp only [rnS,List.all_reverse]
 rw [In (f:=nm1) fun _ _=>rfl]
theorem D5 {S:Sch}:mv (rnS S)=mv S:=by
 unfold mv
 simp only [rnS,List.all_reverse]
theorem oX {S:Sch}:ct (rnS S)=ct S:=by
 funext n
 exact z0 (f:=fun t=>t.id==n) (fun _ _=>rfl) 0 S.fields
theorem rj {S:Sch}:btF (rnS S)=btF S:=by
 funext n
 exact xa (g:=fun t=>t.id==n) (fun _ _=>rfl) 0 S.fields
theorem t9 {S:Sch}:gI (rnS S)=gI S:=by
 have e1:vg (rnS S)=vg S:=by unfold vg;rw [oX]
 have e2:sY (rnS S)=sY S:=by unfold sY;rw [oX];rfl
 have e3:uz (rnS S)=uz S:=by unfold uz oI;rw [oX];rfl
 have e4:pD (rnS S)=pD S:=by unfold pD;rw [oX];rfl
 unfold gI
 rw [oX,e1,e2,e3,e4]
 simp only [rnS,List.all_reverse]
 rfl
theorem Mm {S:Sch}:(rnS S).refs.all (exB (rnS S))=S.refs.all (exB S):=by
 simp only [rnS,List.all_reverse]
 rfl
theorem HM {S:Sch}:qp (rnS S)=qp S:=by
 have e1:qy (rnS S)=qy S:=by
  have h:smB (rnS S)=smB S:=by
   funext l
   induction l with
   |nil=>rfl
   |cons x l ih=>funext n;unfold smB;rw [ih,rj]
  unfold qy;rw [h]
 have e2:nU (rnS S)=nU S:=by unfold nU;rw [rj]
 have e3:nP (rnS S)=nP S:=by unfold nP;rw [rj]
 have e4:oN (rnS S)=oN S:=by unfold oN;rw [rj];rfl
 unfold qp
 rw [rj,e1,e2,e3,e4]
 simp only [rnS,List.all_reverse]
 rfl
theorem z9 {α:Type} [BEq α] [LawfulBEq α]:∀ {l s:List α},dsF s l=true↔l.Nodup∧∀ x∈l,x ∉ s
 |[],s=>by simp [dsF]
 |x::l,s=>by
  unfold dsF
  rw [Bool.and_eq_true,z9 (l:=l),List.nodup_cons]
  simp only [Bool.not_eq_true',List.contains_eq_mem,decide_eq_false_iff_not,List.mem_cons,not_or]
  constructor
  ·rintro ⟨h1,h2,h3⟩
   exact ⟨⟨fun h=>(h3 x h).1 rfl,h2⟩,fun y hy=>by rcases hy with rfl|hy;exact h1;exact (h3 y hy).2⟩
  ·rintro ⟨⟨h1,h2⟩,h3⟩
   exact ⟨h3 x (.inl rfl),h2,fun y hy=>⟨fun e=>h1 (e ▸ hy),h3 y (.inr hy)⟩⟩
theorem Lj {α:Type} [BEq α] [LawfulBEq α] {l:List α} (h:dsF [] l=true):dsF [] l.reverse=true:=by
 rw [z9] at h ⊢
 exact ⟨List.pairwise_reverse.2 (h.1.imp fun h=>h.symm),fun x hx=>by simp⟩
theorem zr {α:Type} [BEq α] [LawfulBEq α]:∀ {l p:List α},onF p l=true↔l.Nodup∧∀ x∈l,x ∉ p
 |[],p=>by simp [onF]
 |x::l,p=>by
  unfold onF
  rw [Bool.and_eq_true,zr (l:=l),List.nodup_cons]
  simp only [Bool.not_eq_true',List.contains_eq_mem,decide_eq_false_iff_not,List.mem_append,List.mem_singleton,not_or]
  constructor
  ·rintro ⟨h1,h2,h3⟩
   exact ⟨⟨fun h=>(h3 x h).2 rfl,h2⟩,fun y hy=>by rcases List.mem_cons.1 hy with rfl|hy;exact h1;exact (h3 y hy).1⟩
  ·rintro ⟨⟨h1,h2⟩,h3⟩
   exact ⟨h3 x (by simp),h2,fun y hy=>⟨h3 y (by simp [hy]),fun e=>h1 (e ▸ hy)⟩⟩
theorem tJ:∀ (i:Nat) (l:List SField),(rnA i l).map (·.name)=(List.range' i l.length).map rnN
 |_,[]=>rfl
 |i,x::l=>by rw [rnA,List.map_cons,tJ,List.length_cons,List.range'_succ,List.map_cons]
theorem My:onF [] ((List.range' 0 9).map rnN)=true:=by decide +kernel
theorem Eu {S:Sch} (hl:S.fields.length=9) (h:nB S=true):nB (rnS S)=true:=by
 unfold nB at h ⊢
 rw [Ml] at h ⊢
 simp only [Bool.and_eq_true] at h ⊢
 obtain ⟨h1,h2,h3,h4,h5,h6,⟨n1,n2,n3,n4,n5⟩,h8,h9,h10⟩:=h
 refine ⟨?_,h2,h3,h4,h5,?_,⟨?_,n2,n3,n4,?_⟩,h8,h9,?_⟩
 ·show dsF [] ((rnA 0 S.fields).map (·.id))=true
  rw [qJ (f:=(·.id)) fun _ _=>rfl];exact h1
 ·show dsF [] (S.roles.reverse.map (·.id))=true
  rw [List.map_reverse];exact Lj h6
 ·show onF [] ((rnA 0 S.fields).map (·.name))=true
  rw [tJ,hl];exact My
 ·show onF [] (S.roles.reverse.map (·.name))=true
  rw [List.map_reverse]
  rw [zr] at n5 ⊢
  exact ⟨List.pairwise_reverse.2 (n5.1.imp fun h=>h.symm),fun x hx=>by simp⟩
 ·simp only [rnS,List.all_reverse];exact h10
theorem Kc {S:Sch} (hk:gI S=true):qZ (rnS S)=qZ S:=by
 rw [Bool.eq_iff_iff,wv (rB (by rw [t9];exact hk)),wv (rB hk)]
 constructor<;>rintro ⟨p,hp⟩<;>exact ⟨p,fun r hr=>hp r (by simpa [rnS] using hr)⟩
theorem Bq {S:Sch} (hS:SmB 1 S) (e2:pC S≠2) (e7:pC S≠7) (e3:pC S≠3):pC (rnS S)=pC S:=by
 have hl:=hS.f.1
 have hT:=qD (vC hS)
 have hL:=qD hS
 have ho:(me (rnS S)).2=(me S).2:=by
  have hc:=nW (x:=S) rfl
  have hne:∀ z,(me S).2=z→z≠0→pC S=z:=fun z hz h0=>by
   unfold pC
   rw [if_pos (by rw [hz];simpa using h0),hz]
  rcases hc with ⟨_,e⟩|⟨_,_,e⟩|⟨l,f,a,e⟩|⟨_,_,_,g,_⟩|⟨l,f,a,g,e⟩
  ·exact absurd (hne 3 (by rw [e]) (by decide)) e3
  ·exact absurd (hne 2 (by rw [e]) (by decide)) e2
  ·obtain ⟨l',f',a'⟩:=tX hl l f
   rw [e]
   unfold me
   rw [l',f',a',a]
   simp
  ·omega
  ·obtain ⟨l',f',a'⟩:=tX hl l f
   rw [e]
   unfold me
   rw [l',f',a',a]
   simp [show ¬ 8000<(fe (rnS S)).b.length by omega]
 unfold pC at e2 e7 e3 ⊢
 rw [ho]
 by_cases h0:((me S).2 != 0)=true
 ·rw [if_pos h0,if_pos h0]
 rw [if_neg h0] at e2 e7 e3 ⊢
 rw [if_neg h0]
 by_cases h1:kD S=false
 ·rw [if_pos h1] at e2;exact absurd rfl e2
 have h1':kD S=true:=by simpa using h1
 rw [if_neg h1] at e2 e7 e3 ⊢
 rw [AO hl h1',if_neg (by decide),KZ]
 by_cases h2:r8 S=false
 ·rw [if_pos h2,if_pos h2]
 rw [if_neg h2] at e2 e7 e3 ⊢
 rw [if_neg h2]
 by_cases h3:nB S=false
 ·rw [if_pos h3] at e7;exact absurd rfl e7
 have h3':nB S=true:=by simpa using h3
 rw [if_neg h3] at e2 e7 e3 ⊢
 rw [Eu hl h3',if_neg (by decide),D5,t9,Mm,HM]
 by_cases h4:mv S=false
 ·rw [if_pos h4,if_pos h4]
 rw [if_neg h4,if_neg h4]
 by_cases h5:gI S=false
 ·rw [if_pos h5,if_pos h5]
 rw [if_neg h5,if_neg h5,Kc (by simpa using h5)]
def G4 (n:Nat) (l:List SGrant):Prop:=l.length≤n∧∀ q∈l,q.keys.length≤4
theorem G4.nil {n:Nat}:G4 n []:=⟨Nat.zero_le _,fun q hq=>by cases hq⟩
theorem G4.cons {n:Nat} {l:List SGrant} {q:SGrant} (h:G4 n l) (hq:q.keys.length≤4):G4 (n+1) (q::l) :=
 ⟨Nat.succ_le_succ h.1,fun x hx=>(List.mem_cons.1 hx).elim (fun e=>e ▸ hq) (h.2 x)⟩
theorem G4.up {n:Nat} {l:List SGrant} (h:G4 n l):G4 (n+1) l:=⟨Nat.le_succ_of_le h.1,h.2⟩
theorem ld (b:List UInt8):∀ (ts:List STable) (v:Nat),(∀ t∈ts,t.keys.length≤4)→G4 ts.length (cQ b ts v).1.1∧G4 ts.length (cQ b ts v).1.2.1∧G4 ts.length (cQ b ts v).1.2.2
 |[],v,_=>⟨.nil,.nil,.nil⟩
 |t::ts,v,h=>by
  have ht:=h t List.mem_cons_self
  have hp:∀ v,(iU b v t.keys.length).length≤4:=fun v=>by simp [iU];exact ht
  have hr:(List.replicate t.keys.length true).length≤4:=by simp;exact ht
  simp only [cQ]
  rw [List.length_cons]
  split<;>split
  ·obtain ⟨i1,i2,i3⟩:=ld b ts (v+t.keys.length+3+3) fun x hx=>h x (List.mem_cons_of_mem _ hx)
   exact ⟨i1.cons hr,i2.cons (hp _),i3.cons hr⟩
  ·obtain ⟨i1,i2,i3⟩:=ld b ts (v+t.keys.length+3+1) fun x hx=>h x (List.mem_cons_of_mem _ hx)
   exact ⟨i1.cons hr,i2.cons (hp _),i3.up⟩
  ·obtain ⟨i1,i2,i3⟩:=ld b ts (v+t.keys.length+1+3) fun x hx=>h x (List.mem_cons_of_mem _ hx)
   exact ⟨i1.cons hr,i2.up,i3.cons hr⟩
  ·obtain ⟨i1,i2,i3⟩:=ld b ts (v+t.keys.length+1+1) fun x hx=>h x (List.mem_cons_of_mem _ hx)
   exact ⟨i1.cons hr,i2.up,i3.up⟩
theorem Fy (b:List UInt8) (v:Nat):(bL b v).1.length=3∧∀ a∈(bL b v).1,a.cases.length≤3:=by
 unfold bL
 (repeat' split)<;>refine ⟨by simp,fun a ha=>?_⟩<;>simp only [List.mem_cons,List.not_mem_nil,or_false] at ha<;>rcases ha with rfl|rfl|rfl<;>simp
theorem MI (b:List UInt8) (v:Nat):∀ x∈dn b v,x.name.length≤62∧x.params.length≤2∧(∀ p∈x.params,p.name.length≤62)∧x.body.length≤3∧x.restr.length≤62:=by
 intro x hx
 simp only [dn,List.mem_cons,List.not_mem_nil,or_false] at hx
 rcases hx with rfl|rfl|rfl|rfl|rfl|rfl<;>refine ⟨by simp,by simp,fun p hp=>?_,by simp,by dsimp only;(try split)<;>simp⟩<;>simp only [List.mem_cons,List.not_mem_nil,or_false] at hp
 ·subst hp;simp
 ·subst hp;simp
 ·rcases hp with rfl|rfl<;>simp
theorem qN {L:List (List UInt8)} (h:∀ s∈L,s.length≤62) (i:Nat):(L.getD i []).length≤62:=by
 rw [gEq]
 cases hi:L[i]? with
 |none=>simp
 |some s=>exact h s (List.mem_of_getElem? hi)
theorem MC (b:List UInt8) (v:Nat):∀ x∈cN b v,x.name.length≤62∧x.keys.length≤3∧(∀ p∈x.keys,p.name.length≤62)∧x.actions.length≤5∧x.dargs.length≤1∧x.restr.length≤62:=by
 intro x hx
 simp only [cN,List.mem_cons,List.not_mem_nil,or_false] at hx
 rcases hx with rfl|rfl|rfl|rfl
 ·refine ⟨by simp [fV],by simp [fV],fun p hp=>?_,by simp [fV],by simp [fV],qN (by decide) _⟩
  simp only [fV,List.mem_cons,List.not_mem_nil,or_false] at hp
  subst hp;simp
 ·refine ⟨by simp [fX],by simp only [fX];split<;>simp,fun p hp=>?_,by simp [fX],by simp [fX],qN (by decide) _⟩
  simp only [fX] at hp
  split at hp<;>simp only [List.cons_append,List.nil_append,List.append_nil,List.mem_cons,List.not_mem_nil,or_false] at hp
  ·rcases hp with rfl|rfl<;>simp
  ·subst hp;simp
 ·refine ⟨by simp [dh],by simp only [dh];split<;>simp,fun p hp=>?_,by simp [dh],by simp [dh],qN (by decide) _⟩
  simp only [dh] at hp
  split at hp<;>simp only [List.cons_append,List.nil_append,List.append_nil,List.mem_cons,List.not_mem_nil,or_false] at hp
  ·rcases hp with rfl|rfl|rfl<;>simp
  ·rcases hp with rfl|rfl<;>simp
 ·refine ⟨by simp [di],by simp only [di];split<;>simp,fun p hp=>?_,by simp [di],by simp [di],qN (by decide) _⟩
  simp only [di] at hp
  split at hp<;>simp only [List.cons_append,List.nil_append,List.append_nil,List.mem_cons,List.not_mem_nil,or_false] at hp
  ·rcases hp with rfl|rfl|rfl<;>simp
  ·subst hp;simp
theorem Nf (b:List UInt8) (v:Nat):SmB 0 (fU b v).1:=by
 have h0:=vJ b v
 unfold fU at h0 ⊢
 dsimp only at h0 ⊢
 have hT:=MC b (cp (bL b (cp v 2)).2 4)
 refine ⟨⟨rfl,?_⟩,⟨rfl,?_⟩,⟨(Fy b _).1,fun x hx=>⟨(Fy b _).2 x hx,(h0.s.2 x hx).2⟩⟩,⟨rfl,fun x hx=>?_⟩,⟨rfl,fun x hx=>?_⟩,?_,⟨rfl,fun x hx=>?_⟩,?_⟩
 ·show ∀ x∈gFields,x.name.length≤62
  decide
 ·show ∀ x∈gHeaders,x.name.length≤62∧x.fields.length≤3
  decide
 ·obtain ⟨a1,a2,a3,a4,a5⟩:=MI b _ x hx
  exact ⟨a1,a2,a3,a4,(h0.a.2 x hx).1.2.2.1,a5⟩
 ·obtain ⟨a1,a2,a3,a4,a5,a6⟩:=hT x hx
  exact ⟨a1,a2,a3,a4,a5,(h0.t.2 x hx).1.2.2.1,a6⟩
 ·split<;>simp
 ·obtain ⟨g1,g2,g3⟩:=ld b (cN b (cp (bL b (cp v 2)).2 4)) (cp (bL b (cp v 2)).2 16+4) fun t ht=>by have:=(hT t ht).2.1;omega
  rw [show (cN b (cp (bL b (cp v 2)).2 4)).length=4 from rfl] at g1 g2 g3
  simp only [iO,List.mem_cons,List.not_mem_nil,or_false] at hx
  rcases hx with rfl|rfl|rfl
  ·exact ⟨by simp,g1.1,g1.2,by simp⟩
  ·exact ⟨by simp,g2.1,g2.2,by simp⟩
  ·exact ⟨by simp,g3.1,g3.2,by simp⟩
 ·(repeat' split)<;>simp
end Go.AL
