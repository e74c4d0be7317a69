/- Lemmas of the proof; no condition. -/
import Derived.Test.YthnlhjalhflgfaaGreatE05b
import Derived.Test.YthnlhjalhflgfaaGreatW03p
set_option linter.all false
set_option maxRecDepth 10000
open Go Go.AL Go.Proofs
namespace Go.AL
def Pos (L:List SRef) (p:Int→Nat):Prop:=∀ r∈L,p r.toTable<p r.table
theorem DH {S:Sch} (h:uC S):oJ S=true↔∃ p,Pos S.refs p:=by
 have hs:=qC h
 unfold oJ
 constructor
 ·intro ha
  split at ha
  ·rename_i D hD
   obtain ⟨h1,_,h3⟩:=sP (fun y d d'=>xJ _) hD .nil
   have key:∀ {D:List Int},Ord (j7 S.refs) D→∃ p:Int→Nat,(∀ x∈D,p x≤D.length)∧(∀ x,x ∉ D→p x=0)∧(∀ x∈D,0<p x)∧∀ r∈S.refs,r.table∈D→p r.toTable<p r.table:=by
    intro D hD
    induction hD with
    |nil=>exact ⟨fun _=>0,by simp,by simp,by simp,by simp⟩
    |@cons x d hd hx ih =>
     obtain ⟨p,p1,p2,p4,p3⟩:=ih
     by_cases hxd:x∈d
     ·refine ⟨p,fun y hy=>?_,fun y hy=>p2 y fun h=>hy (List.mem_cons_of_mem _ h),fun y hy=>?_,fun r hr hm=>?_⟩
      ·rcases List.mem_cons.1 hy with rfl|hy
       ·have:=p1 _ hxd;simp only [List.length_cons];omega
       ·have:=p1 y hy;simp only [List.length_cons];omega
      ·rcases List.mem_cons.1 hy with rfl|hy
       ·exact p4 _ hxd
       ·exact p4 y hy
      ·rcases List.mem_cons.1 hm with he|hm
       ·exact p3 r hr (he ▸ hxd)
       ·exact p3 r hr hm
     ·refine ⟨fun y=>if y=x then d.length+1 else p y,fun y hy=>?_,fun y hy=>?_,fun y hy=>?_,fun r hr hm=>?_⟩
      ·dsimp only
       split
       ·simp
       ·rename_i hne
        rcases List.mem_cons.1 hy with e|hy
        ·exact absurd e hne
        ·have:=p1 y hy;simp only [List.length_cons];omega
      ·dsimp only
       rw [if_neg (fun e:y=x=>hy (by rw [e];exact List.mem_cons_self))]
       exact p2 y fun h=>hy (List.mem_cons_of_mem _ h)
      ·dsimp only
       split
       ·omega
       ·rename_i hne
        rcases List.mem_cons.1 hy with e|hy
        ·exact absurd e hne
        ·exact p4 y hy
      ·dsimp only
       by_cases he:r.table=x
       ·rw [if_pos he]
        have hm2:r.toTable∈d:=hx _ (List.mem_map.2 ⟨r,hr,by rw [he]⟩)
        rw [if_neg (fun e:r.toTable=x=>hxd (by rw [← e];exact hm2))]
        have:=p1 _ hm2;omega
       ·rw [if_neg he]
        have hd':r.table∈d:=(List.mem_cons.1 hm).resolve_left he
        have:=p3 r hr hd'
        split
        ·rename_i e2
         have h5:p r.toTable=0:=p2 _ (e2 ▸ hxd)
         exfalso
         -- the successor of a done one is done
         have:∀ {D:List Int},Ord (j7 S.refs) D→∀ z∈D,∀ y,(z,y)∈j7 S.refs→y∈D:=by
          intro D hD
          induction hD with
          |nil=>intro z hz;cases hz
          |@cons x d hd hx ih =>
           intro z hz y hy
           rcases List.mem_cons.1 hz with rfl|hz
           ·exact List.mem_cons_of_mem _ (hx y hy)
           ·exact List.mem_cons_of_mem _ (ih z hz y hy)
         have h6:=this hd r.table hd' r.toTable (List.mem_map.2 ⟨r,hr,rfl⟩)
         exact hxd (e2 ▸ h6)
        ·exact this
   obtain ⟨p,_,_,_,p3⟩:=key h1
   exact ⟨p,fun r hr=>p3 r hr (h3 (h r hr).1)⟩
  ·cases ha
 ·rintro ⟨p,hp⟩
  have h1:nl (j7 S.refs) (S.tables.length+1) (jd S)≠some none:=tf (P:=fun _=>True) (fun y d _=>uL (pos:=p) (fun r hr=>by
   obtain ⟨x,hx,rfl⟩:=List.mem_map.1 hr
   exact hp x hx) _ (fun x hx=>by cases hx)) fun _ _=>trivial
  cases hw:nl (j7 S.refs) (S.tables.length+1) (jd S) with
  |none=>exact absurd hw hs
  |some q=>cases q with
   |none=>exact absurd hw h1
   |some D=>rfl
abbrev Mx:=Nat→Nat→Bool
def rf (f t:Nat):SRef:=⟨(f:Int),0,0,0,(t:Int),0⟩
structure RInv (L:List (Nat × Nat)) (M:Mx):Prop where
 pos:∃ p:Nat→Nat,∀ r∈L,p r.2<p r.1
 snd:∀ p:Nat→Nat,(∀ r∈L,p r.2<p r.1)→∀ x y,M x y=true→p y<p x
 cmp:∀ r∈L,M r.1 r.2=true∧∀ y,M r.2 y=true→M r.1 y=true
def mv (M:Mx) (f t:Nat):Bool:=f==t||M t f
def oK (M:Mx) (f t:Nat):Mx:=fun x y=>M x y||((x==f||M x f)&&(y==t||M t y))
theorem Hu {L:List (Nat × Nat)} {M:Mx} {f t:Nat} (h:RInv L M) (hb:mv M f t=true):¬ ∃ p:Nat→Nat,∀ r∈L++[(f,t)],p r.2<p r.1:=by
 rintro ⟨p,hp⟩
 have h1:=hp (f,t) (by simp)
 dsimp only at h1
 unfold mv at hb
 rcases Bool.or_eq_true _ _ ▸ hb with h2|h2
 ·have:f=t:=by simpa using h2
  subst this;omega
 ·have:=h.snd p (fun r hr=>hp r (List.mem_append_left _ hr)) t f h2
  omega
theorem uc {L:List (Nat × Nat)} {M:Mx} {f t:Nat} (h:RInv L M) (hb:mv M f t=false):∃ p:Nat→Nat,∀ r∈L++[(f,t)],p r.2<p r.1:=by
 obtain ⟨p,hp⟩:=h.pos
 unfold mv at hb
 obtain ⟨b1,b2⟩:=Bool.or_eq_false_iff.1 hb
 have b1':f≠t:=by simpa using b1
 refine ⟨fun x=>if (x==f||M x f)=true then p x+p t+1 else p x,fun r hr=>?_⟩
 rcases List.mem_append.1 hr with hr|hr
 ·have h1:=hp r hr
  obtain ⟨c1,c2⟩:=h.cmp r hr
  dsimp only
  by_cases hc:(r.2==f||M r.2 f)=true
  ·have:(r.1==f||M r.1 f)=true:=by
    rw [Bool.or_eq_true] at hc ⊢
    rcases hc with hc|hc
    ·have:r.2=f:=by simpa using hc
     rw [← this];exact .inr c1
    ·exact .inr (c2 f hc)
   rw [if_pos hc,if_pos this];omega
  ·rw [if_neg hc];split<;>omega
 ·obtain rfl:r=(f,t):=by simpa using hr
  dsimp only
  have e1:(f==f||M f f)=true:=by simp
  have e2:¬ (t==f||M t f)=true:=by
   rw [b2,Bool.or_false]
   simpa using fun e:t=f=>b1' e.symm
  rw [if_pos e1,if_neg e2]
  omega
theorem rI {f t:Nat} (b:(f==t)=false):(t==f)=false:=by
 have h0:f≠t:=by simpa using b
 simpa using fun e:t=f=>h0 e.symm
theorem Cp {L:List (Nat × Nat)} {M:Mx} {f t:Nat} (h:RInv L M) (hb:mv M f t=false):RInv (L++[(f,t)]) (oK M f t):=by
 refine ⟨uc h hb,fun p hp x y hxy=>?_,fun r hr=>?_⟩
 ·have hL:=fun r hr=>hp r (List.mem_append_left [(f,t)] hr)
  have h1:=hp (f,t) (by simp)
  dsimp only at h1
  unfold oK at hxy
  rw [Bool.or_eq_true] at hxy
  rcases hxy with h2|h2
  ·exact h.snd p hL x y h2
  ·obtain ⟨h3,h4⟩:=Bool.and_eq_true_iff.1 h2
   have e1:p f≤p x:=by
    rcases Bool.or_eq_true_iff.1 h3 with h3|h3
    ·have:x=f:=by simpa using h3
     rw [this];exact nrq _
    ·exact Nat.le_of_lt (h.snd p hL x f h3)
   have e2:p y≤p t:=by
    rcases Bool.or_eq_true_iff.1 h4 with h4|h4
    ·have:y=t:=by simpa using h4
     rw [this];exact nrq _
    ·exact Nat.le_of_lt (h.snd p hL t y h4)
   omega
 ·unfold mv at hb
  obtain ⟨b1,b2⟩:=Bool.or_eq_false_iff.1 hb
  have b1':(t==f)=false:=rI b1
  rcases List.mem_append.1 hr with hr|hr
  ·obtain ⟨c1,c2⟩:=h.cmp r hr
   refine ⟨by unfold oK;rw [c1,Bool.true_or],fun y hy=>?_⟩
   unfold oK at hy ⊢
   rcases Bool.or_eq_true_iff.1 hy with hy|hy
   ·rw [c2 y hy,Bool.true_or]
   ·obtain ⟨h3,h4⟩:=Bool.and_eq_true_iff.1 hy
    have:M r.1 f=true:=by
     rcases Bool.or_eq_true_iff.1 h3 with h3|h3
     ·have:r.2=f:=by simpa using h3
      rw [← this];exact c1
     ·exact c2 f h3
    rw [this,h4,Bool.or_true,Bool.and_true,Bool.or_true]
  ·obtain rfl:r=(f,t):=by simpa using hr
   refine ⟨by unfold oK;simp,fun y hy=>?_⟩
   dsimp only at hy ⊢
   unfold oK at hy ⊢
   rw [b1',b2,Bool.false_or,Bool.false_and,Bool.or_false] at hy
   rw [hy,BEq.rfl,Bool.true_or,Bool.or_true,Bool.and_true,Bool.or_true]
def iy (M:Mx) (f t x y:Nat):Mx:=fun a b=>M a b||((decide (a<x)||(a==x&&decide (b<y)))&&((a==f||M a f)&&(b==t||M t b)))
theorem LQ {M:Mx} {f t x y a:Nat} (hb:mv M f t=false):iy M f t x y a f=M a f:=by
 unfold mv at hb
 obtain ⟨b1,b2⟩:=Bool.or_eq_false_iff.1 hb
 unfold iy
 rw [b1,b2];simp
theorem LR {M:Mx} {f t x y b:Nat} (hb:mv M f t=false):iy M f t x y t b=M t b:=by
 unfold mv at hb
 obtain ⟨b1,b2⟩:=Bool.or_eq_false_iff.1 hb
 have b1':(t==f)=false:=rI b1
 unfold iy
 rw [b1',b2];simp
def Dm (M:Mx):Prop:=∀ a b,M a b=true→(1≤a∧a≤6)∧1≤b∧b≤6
theorem FJ {M:Mx} {f t:Nat} (h:Dm M) (h1:1≤f∧f≤6) (h2:1≤t∧t≤6):Dm (oK M f t):=by
 intro a b hab
 unfold oK at hab
 rcases Bool.or_eq_true_iff.1 hab with hab|hab
 ·exact h a b hab
 ·obtain ⟨c1,c2⟩:=Bool.and_eq_true_iff.1 hab
  constructor
  ·rcases Bool.or_eq_true_iff.1 c1 with c|c
   ·have:a=f:=by simpa using c
    omega
   ·exact (h a f c).1
  ·rcases Bool.or_eq_true_iff.1 c2 with c|c
   ·have:b=t:=by simpa using c
    omega
   ·exact (h t b c).2
theorem tr {M:Mx} {f t a b:Nat} (h:Dm M) (h1:1≤f∧f≤6) (h2:1≤t∧t≤6) (hc:((a==f||M a f)&&(b==t||M t b))=true):(1≤a∧a≤6)∧1≤b∧b≤6 :=
 FJ h h1 h2 a b (by unfold oK;rw [hc,Bool.or_true])
theorem Lk {M:Mx} {f t x y x' y':Nat} (h:Dm M) (h1:1≤f∧f≤6) (h2:1≤t∧t≤6) (he:∀ a b,(1≤a∧a≤6)→(1≤b∧b≤6)→(decide (a<x)||(a==x&&decide (b<y)))=(decide (a<x')||(a==x'&&decide (b<y')))):iy M f t x y=iy M f t x' y':=by
 funext a b
 unfold iy
 cases hc:((a==f||M a f)&&(b==t||M t b)) with
 |false=>rw [Bool.and_false,Bool.and_false]
 |true =>
  obtain ⟨c1,c2⟩:=tr h h1 h2 hc
  rw [he a b c1 c2]
theorem zy {M:Mx} {f t:Nat} (h:Dm M) (h1:1≤f∧f≤6) (h2:1≤t∧t≤6):iy M f t 1 1=M:=by
 funext a b
 unfold iy
 cases hc:((a==f||M a f)&&(b==t||M t b)) with
 |false=>rw [Bool.and_false,Bool.or_false]
 |true =>
  obtain ⟨c1,c2⟩:=tr h h1 h2 hc
  rw [dfq (show ¬ a<1 by omega),dfq (show ¬ b<1 by omega)]
  simp
theorem Jc {M:Mx} {f t x:Nat} (h:Dm M) (h1:1≤f∧f≤6) (h2:1≤t∧t≤6):iy M f t x 7=iy M f t (x+1) 1 :=
 Lk h h1 h2 fun a b ha hb=>by
  rw [Bool.eq_iff_iff]
  simp only [Bool.or_eq_true,Bool.and_eq_true,decide_eq_true_eq,beq_iff_eq]
  omega
theorem IX {M:Mx} {f t:Nat} (h:Dm M) (h1:1≤f∧f≤6) (h2:1≤t∧t≤6):iy M f t 7 1=oK M f t:=by
 funext a b
 unfold iy oK
 cases hc:((a==f||M a f)&&(b==t||M t b)) with
 |false=>rw [Bool.and_false]
 |true =>
  obtain ⟨c1,c2⟩:=tr h h1 h2 hc
  rw [dtq (show a<7 by omega)]
  simp
theorem uq {M:Mx} {f t x y:Nat} (a b:Nat):iy M f t x (y+1) a b=if a=x∧b=y then M x y||((x==f||M x f)&&(y==t||M t y)) else iy M f t x y a b:=by
 unfold iy
 by_cases hab:a=x∧b=y
 ·obtain ⟨rfl,rfl⟩:=hab
  rw [if_pos ⟨rfl,rfl⟩]
  simp
 ·rw [if_neg hab]
  congr 2
  rw [Bool.eq_iff_iff]
  simp only [Bool.or_eq_true,Bool.and_eq_true,decide_eq_true_eq,beq_iff_eq]
  omega
theorem qH {M:Mx} {f t x y:Nat} (h:((x==f||M x f)&&(y==t||M t y))=false):iy M f t x (y+1)=iy M f t x y:=by
 funext a b
 rw [uq,h,Bool.or_false]
 by_cases hab:a=x∧b=y
 ·obtain ⟨rfl,rfl⟩:=hab
  rw [if_pos ⟨rfl,rfl⟩]
  unfold iy
  simp
 ·rw [if_neg hab]
theorem lr {M:Mx} {f t x y:Nat} (h:((x==f||M x f)&&(y==t||M t y))=true) (a b:Nat):iy M f t x (y+1) a b=if a=x∧b=y then true else iy M f t x y a b:=by
 rw [uq,h,Bool.or_true]
def chT (i:Nat):STable:=⟨(i:Int),[116,UInt8.ofNat (48+i)],[⟨[97],4,1⟩],[1],1,[],1,[]⟩
def jM (n:Nat):List STable:=(List.range n).map fun i=>chT (i+1)
def chS (R:List SRef):Sch:={ (fk [] 0).1 with refs:=R,tables:=jM 6,stages:=[],roles:=[] }
def rfs (L:List (Nat × Nat)):List SRef:=L.map fun r=>rf r.1 r.2
def RIn (L:List (Nat × Nat)):Prop:=∀ r∈L,(1≤r.1∧r.1≤6)∧1≤r.2∧r.2≤6
theorem six {P:Nat→Nat→Prop} (h:∀ a,a<6→∀ b,b<6→P (a+1) (b+1)) {f t:Nat} (h1:1≤f∧f≤6) (h2:1≤t∧t≤6):P f t:=by
 have:=h (f - 1) (by omega) (t - 1) (by omega)
 rwa [show f - 1+1=f by omega,show t - 1+1=t by omega] at this
theorem oU {g:SRef→Bool} (h:∀ a,a<6→∀ b,b<6→g (rf (a+1) (b+1))=true) {L:List (Nat × Nat)} (hL:RIn L):(rfs L).all g=true:=by
 rw [List.all_eq_true]
 intro r hr
 obtain ⟨x,hx,rfl⟩:=List.mem_map.1 hr
 exact six (P:=fun a b=>g (rf a b)=true) h (hL x hx).1 (hL x hx).2
theorem In {f t:Nat} (h1:1≤f∧f≤6) (h2:1≤t∧t≤6):(j2 (rf f t)).ok∧(j2 (rf f t)).b.length≤10 :=
 six (P:=fun f t=>(j2 (rf f t)).ok∧(j2 (rf f t)).b.length≤10) (by unfold Enc.ok;decide +kernel) h1 h2
def tv (x:Sch):Enc:=(dK x.maxBatch 2).add ((dK x.budget 2).add ((mP x).add ((bD gM 12 x.actions).add ((bD i9 8 x.tables).add ((bD i7 12 x.stages).add (bD kH 6 x.roles))))))
theorem GV (x:Sch):eD x=(tv x).add (bD j2 8 x.refs):=by
 simp only [eD,tv,aI]
theorem KQ (R:List SRef):(tv (chS R)).ok :=
 have h:(tv (chS [])).l=false∧(tv (chS [])).f=false∧(tv (chS [])).a=false:=by decide +kernel
 h
theorem Iq (R:List SRef):(tv (chS R)).b.length≤1000 :=
 have h:(tv (chS [])).b.length≤1000:=by decide +kernel
 h
theorem Di {L:List (Nat × Nat)} (hL:RIn L) (h8:L.length≤8):(eD (chS (rfs L))).ok∧(eD (chS (rfs L))).b.length≤2000:=by
 have hr:∀ r∈rfs L,(j2 r).ok∧(j2 r).b.length≤10:=fun r hr=>by
  obtain ⟨x,hx,rfl⟩:=List.mem_map.1 hr
  exact In (hL x hx).1 (hL x hx).2
 have hl:(rfs L).length≤8:=by unfold rfs;rw [List.length_map];exact h8
 rw [GV,iA,bP]
 have h1:((tv (chS (rfs L))).b.length≤1000):=Iq _
 have h2:=dT (g:=j2) (m:=8) (n:=8) (B:=10) hl fun r h=>(hr r h).2
 exact ⟨⟨KQ _,ok_list.2 ⟨by show ((rfs L).length:Int)≤8;omega,fun r h=>(hr r h).1⟩⟩,by
  show _+(bD j2 8 (rfs L)).b.length≤2000
  omega⟩
theorem I2 {S:Sch} (h:(eD S).ok) (hl:(eD S).b.length≤8000):(oo S).2=0:=by
 obtain ⟨a,b,c⟩:=h
 unfold oo
 rw [a,b,c]
 simp [show ¬ 8000<(eD S).b.length by omega]
theorem sc (R:List SRef):OkSch (chS R) :=
 have h:OkSch (chS []):=⟨(ln [] 0).f.2,fun a ha=>((ln [] 0).h.2 a ha).1,fun a ha=>((ln [] 0).s.2 a ha).2,fun a ha=>((ln [] 0).a.2 a ha).1,fun a ha=>by
  obtain ⟨i,_,rfl⟩:=List.mem_map.1 (show a∈(List.range 6).map fun i=>chT (i+1) from ha)
  exact ⟨cB (by simp [chT]),fun k hk=>by rw [show k=⟨[97],4,1⟩ by simpa [chT] using hk];exact cB (by simp),fun v hv=>by simp [chT] at hv,cB (by simp [chT])⟩,fun a ha=>by cases (show a∈([]:List SRole) from ha)⟩
 ⟨h.f,h.h,h.s,h.a,h.t,h.r⟩
theorem AZ (R:List SRef):mc (chS R)=true :=
 have h:mc (chS [])=true:=by decide +kernel
 h
theorem KO (R:List SRef):sY (chS R)=true :=
 have h:sY (chS [])=true:=by decide +kernel
 h
theorem Gq (R:List SRef):qj (chS R)=true :=
 have h:qj (chS [])=true:=by decide +kernel
 h
theorem GZ {L:List (Nat × Nat)} (hL:RIn L):mL (chS (rfs L))=true:=by
 unfold mL
 simp only [Bool.and_eq_true]
 refine ⟨?_,?_,?_,?_⟩
 ·exact (by decide +kernel:((chS []).actions.all fun a=>a.body.all fpB)=true)
 ·exact (by decide +kernel:((chS []).tables.all fun t=>ftB t.keys 0)=true)
 ·exact (by decide +kernel:((chS []).states.all fsB)=true)
 ·exact oU (by decide +kernel) hL
theorem tX {L:List (Nat × Nat)} (hL:RIn L):hP (chS (rfs L))=true:=by
 unfold hP
 simp only [Bool.and_eq_true]
 refine ⟨?_,?_,?_,?_,?_,?_,?_,?_,?_⟩
 ·exact (by decide +kernel:bW (chS []) 1=true)
 ·exact (by decide +kernel:bW (chS []) 2=true)
 ·exact (by decide +kernel:((chS []).headers.all (vL (chS [])))=true)
 ·exact (by decide +kernel:((chS []).states.all (uG (chS [])))=true)
 ·exact (by decide +kernel:((chS []).actions.all (wS (chS [])))=true)
 ·exact (by decide +kernel:((chS []).tables.all (p9 (chS [])))=true)
 ·exact (by decide +kernel:((chS []).stages.all (wA (chS [])))=true)
 ·exact (by decide +kernel:((chS []).roles.all (uW (chS [])))=true)
 ·exact oU (fun a ha b hb=>(by decide +kernel:∀ a,a<6→∀ b,b<6→oF (chS []) (rf (a+1) (b+1))=true) a ha b hb) hL
theorem E3 {L:List (Nat × Nat)} (hL:RIn L):(chS (rfs L)).refs.all (exB (chS (rfs L)))=true :=
 oU (fun a ha b hb=>(by decide +kernel:∀ a,a<6→∀ b,b<6→exB (chS []) (rf (a+1) (b+1))=true) a ha b hb) hL
theorem GC {L:List (Nat × Nat)} (hL:RIn L):pH (chS (rfs L))=true:=by
 unfold pH
 simp only [Bool.and_eq_true]
 refine ⟨?_,?_,?_,?_,?_,?_,?_,?_⟩
 ·exact (by decide +kernel:(btF (chS []) 1==16)=true)
 ·exact (by decide +kernel:(btF (chS []) 2==16)=true)
 ·exact (by decide +kernel:((chS []).headers.all (qY (chS [])))=true)
 ·exact (by decide +kernel:((chS []).states.all fun t=>t.cases.all fun p=>om (chS []) t.select p)=true)
 ·exact (by decide +kernel:((chS []).actions.all fun t=>t.body.all fun p=>nF (chS []) t p)=true)
 ·exact (by decide +kernel:((chS []).tables.all (tmF (chS [])))=true)
 ·exact (by decide +kernel:((chS []).roles.all fun t=>t.grants.all fun g=>gkB (chS []) g)=true)
 ·exact oU (fun a ha b hb=>(by decide +kernel:∀ a,a<6→∀ b,b<6→pm (chS []) (rf (a+1) (b+1))=true) a ha b hb) hL
theorem Kn {L:List (Nat × Nat)} (hL:RIn L) (h8:L.length≤8):wc (chS (rfs L))=if oJ (chS (rfs L))=false then 8 else 0:=by
 obtain ⟨h1,h2⟩:=Di hL h8
 unfold wc
 rw [I2 h1 (by omega),AZ,KO,Gq,GZ hL,tX hL,E3 hL,GC hL]
 simp
theorem EB {L:List (Nat × Nat)} (hL:RIn L):oJ (chS (rfs L))=true↔∃ p:Nat→Nat,∀ r∈L,p r.2<p r.1:=by
 rw [DH (um (tX hL))]
 constructor
 ·rintro ⟨p,hp⟩
  exact ⟨fun n=>p (n:Int),fun r hr=>hp (rf r.1 r.2) (List.mem_map.2 ⟨r,hr,rfl⟩)⟩
 ·rintro ⟨p,hp⟩
  refine ⟨fun z=>p z.toNat,fun r hr=>?_⟩
  obtain ⟨x,hx,rfl⟩:=List.mem_map.1 (show r∈L.map fun r=>rf r.1 r.2 from hr)
  exact hp x hx
theorem zg {L:List (Nat × Nat)} {M:Mx} {f t:Nat} (h:RInv L M) (hL:RIn L) (h7:L.length≤7) (h1:1≤f∧f≤6) (h2:1≤t∧t≤6):wc (chS (rfs (L++[(f,t)])))=if mv M f t=true then 8 else 0:=by
 have hL':RIn (L++[(f,t)]):=fun r hr=>by
  rcases List.mem_append.1 hr with hr|hr
  ·exact hL r hr
  ·obtain rfl:r=(f,t):=by simpa using hr
   exact ⟨h1,h2⟩
 rw [Kn hL' (by simp;omega)]
 cases hb:mv M f t with
 |true =>
  have:oJ (chS (rfs (L++[(f,t)])))=false:=by
   rw [Bool.eq_false_iff]
   exact fun ha=>Hu h hb ((EB hL').1 ha)
  rw [if_pos this,if_pos rfl]
 |false =>
  have:=(EB hL').2 (uc h hb)
  rw [this];rfl
end Go.AL
