/- Lemmas of the proof; no condition. -/
import Derived.Test.YtpbnggedofiinaaGreatM20j
import Derived.Test.YtpbnggedofiinaaGreatM21c
set_option linter.all false
set_option maxRecDepth 10000
set_option maxHeartbeats 32000000
open Go Go.AL Go.Proofs
namespace Go.AL
structure PB {α:Type} (p:RS→α × RS) (P:α→List UInt8→Prop):Prop where
 fw:∀ a B,P a B→∀ r,p (.any,B++r,0)=(a,.any,r,0)
 bw:∀ b a m r,p (.any,b,0)=(a,m,r,0)→m=.any∧∃ B,P a B∧b=B++r
 go:∀ s,s.2.2≠0→(p s).2=s
def apB {α β:Type} (p:RS→(α→β) × RS) (q:RS→α × RS):RS→β × RS:=fun s=>((p s).1 (q (p s).2).1,(q (p s).2).2)
def puB {α:Type} (f:α):RS→α × RS:=fun s=>(f,s)
theorem j4 {α:Type} (f:α):PB (puB f) fun g B=>g=f∧B=[] where
 fw a B h r:=by rw [h.1,h.2];rfl
 bw b a m r h:=by cases h;exact ⟨rfl,[],⟨rfl,rfl⟩,rfl⟩
 go s h:=rfl
theorem ei {α β:Type} {p:RS→(α→β) × RS} {P:(α→β)→List UInt8→Prop} {q:RS→α × RS} {Q:α→List UInt8→Prop} (hp:PB p P) (hq:PB q Q) :
 PB (apB p q) fun y B=>∃ f B1 x B2,P f B1∧Q x B2∧y=f x∧B=B1++B2 where
 fw y B h r:=by
  obtain ⟨f,B1,x,B2,h1,h2,rfl,rfl⟩:=h
  have k1:=hp.fw f B1 h1 (B2++r)
  have k2:=hq.fw x B2 h2 r
  unfold apB
  rw [List.append_assoc,k1]
  dsimp only
  rw [k2]
 bw b y m r h:=by
  have e0:(p (.any,b,0)).2.2.2=0:=by
   refine Classical.byContradiction fun hc=>?_
   have:=hq.go _ hc
   have h2:(q (p (.any,b,0)).2).2=(m,r,0):=congrArg Prod.snd h
   rw [this] at h2
   rw [h2] at hc
   exact hc rfl
  obtain ⟨f,m1,r1,e1,hp1⟩:∃ f m1 r1 e1,p (.any,b,0)=(f,m1,r1,e1):=⟨_,_,_,_,rfl⟩
  rw [hp1] at e0
  dsimp only at e0
  subst e0
  obtain ⟨rfl,B1,h1,rfl⟩:=hp.bw _ _ _ _ hp1
  unfold apB at h
  rw [hp1] at h
  dsimp only at h
  obtain ⟨x,m2,r2,e2,hq2⟩:∃ x m2 r2 e2,q (.any,r1,0)=(x,m2,r2,e2):=⟨_,_,_,_,rfl⟩
  rw [hq2] at h
  cases h
  obtain ⟨rfl,B2,h2,rfl⟩:=hq.bw _ _ _ _ hq2
  exact ⟨rfl,_,⟨f,B1,x,B2,h1,h2,rfl,rfl⟩,by rw [List.append_assoc]⟩
 go s h:=by
  show (q (p s).2).2=s
  rw [hp.go s h];exact hq.go s h
def BQ {α:Type} (p:RS→α × RS) (g:α→List UInt8) (ok:α→Prop):Prop:=PB p fun a B=>ok a∧B=g a
theorem PB.to {α:Type} {p:RS→α × RS} {P:α→List UInt8→Prop} {g:α→List UInt8} {ok:α→Prop} (h:PB p P) (h1:∀ a B,P a B→ok a∧B=g a) (h2:∀ a,ok a→P a (g a)):BQ p g ok where
 fw a B k:=h.fw a B (by obtain ⟨k,rfl⟩:=k;exact h2 a k)
 bw b a m r k:=by
  obtain ⟨e,B,k1,k3⟩:=h.bw b a m r k
  exact ⟨e,B,h1 a B k1,k3⟩
 go:=h.go
theorem BN (m w:Nat) (hm:m<2^63) (hw:w≤8):be (m:Int) w=beN m w:=by
 unfold be kD beN
 rw [Nat.sub_zero]
 refine List.map_congr_left fun i hi=>?_
 have hi:=List.mem_range.1 hi
 unfold ut tk
 have e:((2:Int)^min (8*((w - 1 - i:Nat):Int)).toNat IntKind.i64.bits)=((2^(8*(w - 1 - i)):Nat):Int):=by
  have h1:(8*((w - 1 - i:Nat):Int)).toNat=8*(w - 1 - i):=by omega
  have h2:min (8*(w - 1 - i)) IntKind.i64.bits=8*(w - 1 - i):=Nat.min_eq_left (by simp [IntKind.bits];omega)
  rw [h1,h2];push_cast;rfl
 rw [e,Int.fdiv_eq_ediv_of_nonneg _ (Int.natCast_nonneg _),← Int.natCast_ediv,← Nat.shiftRight_eq_div_pow]
 generalize m >>> (8*(w - 1 - i))=q
 rw [UInt8.ofNat_eq_iff_mod_eq_toNat,UInt8.toNat_ofNat']
 omega
theorem Dr (v n:Nat):beN v (n+1)=beN (v/256) n++[UInt8.ofNat v]:=by
 unfold beN
 rw [List.range_succ,List.map_append]
 congr 1
 ·refine List.map_congr_left fun i hi=>?_
  have hi:=List.mem_range.1 hi
  congr 1
  rw [Nat.shiftRight_eq_div_pow,Nat.shiftRight_eq_div_pow,show (256:Nat)=2^8 from rfl,Nat.div_div_eq_div_mul,← Nat.pow_add]
  congr 2;omega
 ·simp
theorem vT (l:List UInt8):beN (aO l) l.length=l:=by
 induction h:l.length generalizing l with
 |zero=>have:l=[]:=List.eq_nil_of_length_eq_zero h;subst this;rfl
 |succ n ih =>
  obtain ⟨l',c,rfl⟩:∃ l' c,l=l'++[c]:=⟨l.dropLast,l.getLast (by intro e;rw [e] at h;simp at h),(List.dropLast_concat_getLast _).symm⟩
  have hl:l'.length=n:=by simp at h;omega
  have hc:=UInt8.toNat_lt c
  rw [jh,Dr,show (aO l'*256+c.toNat)/256=aO l' by omega,ih l' hl]
  congr 2
  apply UInt8.toNat_inj.1
  rw [UInt8.toNat_ofNat']
  omega
theorem wP {b:List UInt8} {w:Nat} (hw:w≤4) (h:w≤b.length):aO (b.take w)<256^w∧be ((aO (b.take w):Nat):Int) w=b.take w:=by
 have hl:(b.take w).length=w:=by rw [List.length_take];omega
 have h1:=lI (b.take w)
 rw [hl] at h1
 refine ⟨h1,?_⟩
 have h63:aO (b.take w)<2^63:=Nat.lt_of_lt_of_le h1 (Nat.le_trans (Nat.pow_le_pow_right (by decide) hw) (by decide))
 rw [BN _ _ h63 (by omega)]
 have:=vT (b.take w)
 rwa [hl] at this
theorem w6 (m w:Nat) (r:List UInt8) (hw:w≤4) (hm:m<256^w):aO ((be (m:Int) w++r).take w)=m∧(be (m:Int) w++r).drop w=r∧(be (m:Int) w++r).length=w+r.length:=by
 have h63:m<2^63:=Nat.lt_of_lt_of_le hm (Nat.le_trans (Nat.pow_le_pow_right (by decide) hw) (by decide))
 have hl:=ny (m:Int) w
 refine ⟨?_,?_,by rw [lAq,hl]⟩
 ·rw [List.take_append_of_le_length (by omega),List.take_of_length_le (by omega),BN _ _ h63 (by omega),ot,Nat.mod_eq_of_lt hm]
 ·rw [List.drop_append_of_le_length (by omega),List.drop_of_length_le (by omega),List.nil_append]
theorem wS {l:List UInt8} {v:Nat} (h:ep l=(v,0)):fe v=l∧v<2^128∧eC v=l.length:=by
 unfold ep at h
 split at h
 ·simp at h
 split at h
 ·simp at h
 split at h
 ·simp at h
 rename_i h1 h2 h3
 simp only [Prod.mk.injEq,and_true] at h
 subst h
 have hlt:=lI l
 have h128:aO l<2^128:=Nat.lt_of_lt_of_le hlt (Nat.le_trans (Nat.pow_le_pow_right (by decide) (show l.length≤16 by omega)) (by decide))
 have hlen:eC (aO l)=l.length:=by
  have hu:bl (aO l)≤8*l.length:=bl_le.2 (by rw [Nat.pow_mul];exact hlt)
  have hlo:1<l.length→8*(l.length - 1)<bl (aO l):=fun hn=>by
   rcases Nat.lt_or_ge (8*(l.length - 1)) (bl (aO l)) with h|h
   ·exact h
   ·exfalso
    have hb:=bl_le.1 h
    cases l with
    |nil=>simp at hn
    |cons c t =>
     have hc:c.toNat≠0:=fun e=>h3 ⟨hn,e⟩
     have e2:aO (c::t)=c.toNat*256^t.length+aO t:=by
      have:=xm [c] t
      have e3:aO [c]=c.toNat:=by simp [aO]
      rw [e3] at this;exact this
     rw [Nat.pow_mul,show (c::t).length - 1=t.length from rfl] at hb
     have:256^t.length≤c.toNat*256^t.length:=Nat.le_mul_of_pos_left _ (by omega)
     have e4:(2:Nat)^8=256:=rfl
     rw [e4,e2] at hb
     omega
  unfold eC
  by_cases hn:1<l.length
  ·have:=hlo hn;omega
  ·omega
 refine ⟨?_,h128,hlen⟩
 unfold fe
 rw [hlen,vT]
theorem vH {s:List UInt8} (h:s.length≤65535):ge s=be ((s.length:Nat):Int) 2++s:=by
 unfold ge
 have h1:min (s.length:Int) 65535=(s.length:Int):=by omega
 rw [h1,iNq,List.take_length]
theorem GU {w:Nat} (hw:w=1∨w=2∨w=4):BQ (fun s=>aq s (w:Int)) (fun n=>aa n (w:Int)) (fun n=>rg n (w:Int)=true) where
 fw n B h r:=by
  obtain ⟨h,rfl⟩:=h
  have hr':=of_decide_eq_true h
  rw [iNq] at hr'
  obtain ⟨m,rfl⟩:=Int.eq_ofNat_of_zero_le hr'.1
  have hm:m<256^w:=by exact_mod_cast hr'.2
  obtain ⟨k1,k2,k3⟩:=w6 m w r (by omega) hm
  have e:aa (m:Int) (w:Int)=be (m:Int) w:=by
   unfold aa
   rw [if_pos (by omega),iNq]
  show aq (.any,aa (m:Int) (w:Int)++r,0) _=_
  rw [e]
  unfold aq
  dsimp only
  rw [if_neg (by simp),if_neg (by omega),if_neg (by omega),iNq,k1,k2]
 bw b a m r h:=by
  change aq _ _=_ at h
  unfold aq at h
  dsimp only at h
  rw [if_neg (by simp),if_neg (by omega)] at h
  split at h
  ·simp at h
  ·rename_i hl
   rw [iNq] at h
   simp only [Prod.mk.injEq,and_true] at h
   obtain ⟨rfl,rfl,rfl⟩:=h
   obtain ⟨k1,k2⟩:=wP (b:=b) (w:=w) (by omega) (by omega)
   refine ⟨rfl,_,⟨dtq ⟨by omega,by rw [iNq];exact_mod_cast k1⟩,rfl⟩,?_⟩
   show b=aa _ _++_
   unfold aa
   rw [if_pos (by omega),iNq,k2,List.take_append_drop]
 go s h:=by show (aq s _).2=s;unfold aq;rw [if_pos h]
theorem bq_1:BQ (fun s=>aq s 1) (fun n=>aa n 1) (fun n=>rg n 1=true):=GU (w:=1) (.inl rfl)
theorem bq_2:BQ (fun s=>aq s 2) (fun n=>aa n 2) (fun n=>rg n 2=true):=GU (w:=2) (.inr (.inl rfl))
theorem H4:BQ (fun s=>aq s 4) (fun n=>aa n 4) (fun n=>rg n 4=true):=GU (w:=4) (.inr (.inr rfl))
theorem bq_B:BQ dq kn (fun _=>True) where
 fw x B h r:=by obtain ⟨_,rfl⟩:=h;cases x<;>simp [dq,b0,kn]
 bw b a m r h:=by
  unfold dq at h
  dsimp only at h
  rw [if_neg (by simp)] at h
  split at h
  ·simp at h
  ·split at h
   ·simp at h
   ·rename_i h1 h2
    simp only [Prod.mk.injEq,and_true] at h
    obtain ⟨rfl,rfl,rfl⟩:=h
    refine ⟨rfl,_,⟨trivial,rfl⟩,?_⟩
    cases b with
    |nil=>simp at h1
    |cons c t =>
     have hc:b0 (c::t)=c:=rfl
     rw [hc] at h2 ⊢
     show c::t=[if (c.toNat==1)=true then 1 else 0]++t
     have:c=if (c.toNat==1)=true then 1 else 0:=by
      apply UInt8.toNat_inj.1
      by_cases h3:c.toNat=1
      ·rw [if_pos (by simpa using h3),h3];rfl
      ·rw [if_neg (by simpa using h3)]
       show c.toNat=0
       omega
     rw [← this];rfl
 go s h:=by unfold dq;rw [if_pos h]
theorem bq_V:BQ bn bx (fun v=>v<2^128) where
 fw v B h r:=by obtain ⟨h,rfl⟩:=h;exact yA v r h
 bw b a m r h:=by
  unfold bn at h
  dsimp only at h
  rw [if_neg (by simp)] at h
  split at h
  ·simp at h
  split at h
  ·simp at h
  split at h
  ·simp at h
  split at h
  ·simp at h
  rename_i h1 h2 h3 h4
  simp only [Prod.mk.injEq,and_true] at h
  obtain ⟨rfl,rfl,rfl⟩:=h
  have hp:ep ((b.take (1+(b0 b).toNat)).drop 1)=((ep ((b.take (1+(b0 b).toNat)).drop 1)).1,0):=Prod.ext rfl (Classical.not_not.1 h4)
  obtain ⟨k1,k2,k3⟩:=wS hp
  generalize (ep ((b.take (1+(b0 b).toNat)).drop 1)).1=v at *
  refine ⟨rfl,_,⟨k2,rfl⟩,?_⟩
  cases b with
  |nil=>simp at h1
  |cons c t =>
   have hc:b0 (c::t)=c:=rfl
   rw [hc] at h2 h3 k1 k3 ⊢
   have e1:((c::t).take (1+c.toNat)).drop 1=t.take c.toNat:=by rw [Nat.add_comm,List.take_succ_cons,List.drop_succ_cons,List.drop_zero]
   have e2:(c::t).drop (1+c.toNat)=t.drop c.toNat:=by rw [Nat.add_comm,List.drop_succ_cons]
   rw [e1] at k1 k3
   rw [e2]
   show c::t=(UInt8.ofNat (eC v)::fe v)++t.drop c.toNat
   have e3:(t.take c.toNat).length=c.toNat:=by rw [List.length_take];simp at h3;omega
   rw [k1,k3,e3,UInt8.ofNat_toNat,List.cons_append,List.take_append_drop]
 go s h:=by unfold bn;rw [if_pos h]
theorem H8 {m:Int} (hm:m≤65535):BQ (fun s=>cW s m) ge (fun s=>(s.length:Int)≤m) where
 fw s B h r:=by
  obtain ⟨h1,rfl⟩:=h
  obtain ⟨k1,k2,k3⟩:=w6 s.length 2 (s++r) (by decide) (by omega)
  show cW _ _=_
  rw [vH (by omega),List.append_assoc]
  have hl:=ny (s.length:Int) 2
  have hsr:(s++r).length=s.length+r.length:=lAq
  unfold cW
  dsimp only
  rw [if_neg (by simp),if_neg (by omega),k1,if_neg (by omega),if_neg (by omega),← List.drop_drop,k2,List.drop_take,k2,Nat.add_sub_cancel_left,List.take_append_of_le_length (nrq _),List.take_length,List.drop_append_of_le_length (nrq _),List.drop_length,List.nil_append]
 bw b a m' r h:=by
  change cW _ _=_ at h
  unfold cW at h
  dsimp only at h
  rw [if_neg (by simp)] at h
  split at h
  ·simp at h
  split at h
  ·simp at h
  split at h
  ·simp at h
  rename_i h1 h2 h3
  simp only [Prod.mk.injEq,and_true] at h
  obtain ⟨rfl,rfl,rfl⟩:=h
  obtain ⟨k1,k2⟩:=wP (b:=b) (w:=2) (by decide) (by omega)
  have hl:((b.take (2+aO (b.take 2))).drop 2).length=aO (b.take 2):=by rw [List.length_drop,List.length_take];omega
  refine ⟨rfl,_,⟨by show ((List.length _:Nat):Int)≤m;rw [hl];omega,rfl⟩,?_⟩
  rw [vH (by omega),hl,k2,List.drop_take,Nat.add_sub_cancel_left,List.append_assoc,← List.drop_drop,List.take_append_drop,List.take_append_drop]
 go s h:=by show (cW s m).2=s;unfold cW;rw [if_pos h]
def goB {α:Type} (p:RS→α × RS):Nat→RS→List α × RS
 |0,s=>([],s)
 |n+1,s=>((p s).1::(goB p n (p s).2).1,(goB p n (p s).2).2)
theorem BS {α:Type} {p:RS→α × RS} (h:∀ s,s.2.2≠0→(p s).2=s):∀ (n:Nat) (s:RS),s.2.2≠0→(goB p n s).2=s
 |0,s,_=>rfl
 |n+1,s,hs=>by rw [goB];dsimp only;rw [h s hs];exact BS h n s hs
theorem BE {α:Type} {p:RS→α × RS}:∀ (n:Nat) (s:RS),(goB p n s).1.length=n
 |0,_=>rfl
 |n+1,s=>by rw [goB,List.length_cons,BE n]
theorem En {α:Type} {p:RS→α × RS} {g:α→List UInt8} {ok:α→Prop} (h:BQ p g ok) (r:List UInt8):∀ l:List α,(∀ a∈l,ok a)→goB p l.length (.any,l.flatMap g++r,0)=(l,.any,r,0)
 |[],_=>rfl
 |a::l,ho=>by
  have k1:=h.fw a _ ⟨ho a List.mem_cons_self,rfl⟩ (l.flatMap g++r)
  have k2:=En h r l (fun x hx=>ho x (List.mem_cons_of_mem _ hx))
  rw [List.length_cons,goB,List.flatMap_cons,List.append_assoc,k1]
  dsimp only
  rw [k2]
theorem EJ {α:Type} {p:RS→α × RS} {g:α→List UInt8} {ok:α→Prop} (h:BQ p g ok):∀ (n:Nat) (b:List UInt8) (l:List α) (m:Mark) (r:List UInt8),goB p n (.any,b,0)=(l,m,r,0) →
 m=.any∧(∀ a∈l,ok a)∧b=l.flatMap g++r
 |0,b,l,m,r,hg=>by cases hg;exact ⟨rfl,(fun a ha=>nomatch ha),rfl⟩
 |n+1,b,l,m,r,hg=>by
  unfold goB at hg
  obtain ⟨x,m1,r1,e1,hp⟩:∃ x m1 r1 e1,p (.any,b,0)=(x,m1,r1,e1):=⟨_,_,_,_,rfl⟩
  rw [hp] at hg
  dsimp only at hg
  have he:e1=0:=by
   refine Classical.byContradiction fun hc=>?_
   have:=BS h.go n (m1,r1,e1) hc
   have h2:(goB p n (m1,r1,e1)).2=(m,r,0):=congrArg Prod.snd hg
   rw [this] at h2
   cases h2
   exact hc rfl
  subst he
  obtain ⟨rfl,B,⟨k1,rfl⟩,rfl⟩:=h.bw _ _ _ _ hp
  obtain ⟨l2,m2,r2,e2,hq⟩:∃ l2 m2 r2 e2,goB p n (.any,r1,0)=(l2,m2,r2,e2):=⟨_,_,_,_,rfl⟩
  rw [hq] at hg
  cases hg
  obtain ⟨rfl,k2,rfl⟩:=EJ h n r1 l2 m r hq
  refine ⟨rfl,fun a ha=>?_,by rw [List.flatMap_cons,List.append_assoc]⟩
  rcases List.mem_cons.1 ha with rfl|ha
  ·exact k1
  ·exact k2 a ha
theorem Fd {α:Type} {p:RS→α × RS} {q:Nat→RS→List α × RS} {g:α→List UInt8} {ok:α→Prop} {m:Int} (hm:m≤65535) (h:BQ p g ok) (hq:∀ n s,q n s=goB p n s) :
 BQ (fun s=>q (bf s m).1.toNat (bf s m).2) (fun l=>aa l.length 2++l.flatMap g) (fun l=>(l.length:Int)≤m∧∀ a∈l,ok a) where
 fw l B k r:=by
  obtain ⟨⟨h1,k⟩,rfl⟩:=k
  obtain ⟨k1,k2,k3⟩:=w6 l.length 2 (l.flatMap g++r) (by decide) (by omega)
  have hc:bf (.any,(aa (l.length:Int) 2++l.flatMap g)++r,0) m=(((l.length:Nat):Int),Mark.any,l.flatMap g++r,(0:Int)):=by
   have e:aa (l.length:Int) 2=be (l.length:Int) 2:=by unfold aa;rw [if_pos (by decide)];rfl
   rw [e,List.append_assoc]
   unfold bf
   dsimp only
   rw [if_neg (by simp),if_neg (by omega),k1,if_neg (by omega),k2]
  show q _ _=_
  rw [hc,hq]
  exact En h r l k
 bw b l m' r hg:=by
  change q _ _=_ at hg
  rw [hq] at hg
  have he:(bf (.any,b,0) m).2.2.2=0:=by
   refine Classical.byContradiction fun hc=>?_
   have:=BS h.go (bf (.any,b,0) m).1.toNat (bf (.any,b,0) m).2 hc
   have h2:(goB p (bf (.any,b,0) m).1.toNat (bf (.any,b,0) m).2).2=(m',r,0):=congrArg Prod.snd hg
   rw [this] at h2
   rw [h2] at hc
   exact hc rfl
  have hlen:=BE (p:=p) (bf (.any,b,0) m).1.toNat (bf (.any,b,0) m).2
  rw [hg] at hlen
  dsimp only at hlen
  unfold bf at he hg hlen
  dsimp only at he hg hlen
  rw [if_neg (by simp)] at he hg hlen
  split at he
  ·simp at he
  rename_i h1
  rw [if_neg h1] at hg hlen
  split at he
  ·simp at he
  rename_i h2
  rw [if_neg h2] at hg hlen
  dsimp only at hg hlen
  rw [iNq] at hg hlen
  obtain ⟨k1,k2⟩:=wP (b:=b) (w:=2) (by decide) (by omega)
  obtain ⟨rfl,j1,j3⟩:=EJ h _ _ _ _ _ hg
  refine ⟨rfl,_,⟨⟨by rw [hlen];omega,j1⟩,rfl⟩,?_⟩
  have e:aa (l.length:Int) 2=b.take 2:=by unfold aa;rw [if_pos (by decide),hlen];exact k2
  dsimp only
  rw [e,List.append_assoc,← j3,List.take_append_drop]
 go s hs:=by
  have hc:(bf s m).2=s:=by unfold bf;rw [if_pos hs]
  show (q _ _).2=_
  rw [hq,hc]
  exact BS h.go _ s hs
def Ha (m:SMatch):Prop:=(m.present=true→m.value<2^128∧m.mask<2^128∧rg m.pfx 1=true∧m.high<2^128)∧(m.present=false→m=dV)
def GA:RS→SMatch × RS:=apB (apB (apB (apB (puB (SMatch.mk true)) bn) bn) (fun s=>aq s 1)) bn
theorem bq_M4:BQ GA (fun m=>bx m.value++bx m.mask++aa m.pfx 1++bx m.high) (fun m=>m.present=true∧m.value<2^128∧m.mask<2^128∧rg m.pfx 1=true∧m.high<2^128):=by
 refine PB.to (ei (ei (ei (ei (j4 _) bq_V) bq_V) bq_1) bq_V) (fun y B h=>?_) (fun x h=>?_)
 ·obtain ⟨_,_,x3,_,⟨_,_,x2,_,⟨_,_,x1,_,⟨_,_,x0,_,⟨rfl,rfl⟩,⟨k0,rfl⟩,rfl,rfl⟩,⟨k1,rfl⟩,rfl,rfl⟩,⟨k2,rfl⟩,rfl,rfl⟩,⟨k3,rfl⟩,rfl,rfl⟩:=h
  exact ⟨⟨rfl,k0,k1,k2,k3⟩,by simp only [List.nil_append,List.append_assoc]⟩
 ·obtain ⟨p,v,k,x,hi⟩:=x
  obtain ⟨h0,k0,k1,k2,k3⟩:=h
  dsimp only at h0
  subst h0
  exact ⟨_,_,hi,_,⟨_,_,x,_,⟨_,_,k,_,⟨_,_,v,_,⟨rfl,rfl⟩,⟨k0,rfl⟩,rfl,rfl⟩,⟨k1,rfl⟩,rfl,rfl⟩,⟨k2,rfl⟩,rfl,rfl⟩,⟨k3,rfl⟩,rfl,by simp only [List.nil_append,List.append_assoc]⟩
theorem tj (s:RS):jJ s=if (dq s).1=true then GA (dq s).2 else (dV,(dq s).2):=rfl
theorem In:BQ jJ jo Ha where
 fw m B h r:=by
  obtain ⟨⟨h1,h2⟩,rfl⟩:=h
  rw [tj]
  unfold jo
  cases hp:m.present
  ·have hb:=bq_B.fw false _ ⟨trivial,rfl⟩ r
   have e:(if false=true then (1:UInt8) else 0)::(if false=true then bx m.value++bx m.mask++aa m.pfx 1++bx m.high else [])++r=kn false++r:=rfl
   rw [e,hb]
   dsimp only
   rw [if_neg (by simp),h2 hp]
  ·have hb:=bq_B.fw true _ ⟨trivial,rfl⟩ ((bx m.value++bx m.mask++aa m.pfx 1++bx m.high)++r)
   have e:(if true=true then (1:UInt8) else 0)::(if true=true then bx m.value++bx m.mask++aa m.pfx 1++bx m.high else [])++r=kn true++((bx m.value++bx m.mask++aa m.pfx 1++bx m.high)++r):=rfl
   rw [e,hb]
   dsimp only
   rw [if_pos rfl]
   exact bq_M4.fw m _ ⟨⟨hp,h1 hp⟩,rfl⟩ r
 bw b a m r h:=by
  rw [tj] at h
  obtain ⟨x,m1,r1,e1,hb⟩:∃ x m1 r1 e1,dq (.any,b,0)=(x,m1,r1,e1):=⟨_,_,_,_,rfl⟩
  rw [hb] at h
  dsimp only at h
  cases x
  ·rw [if_neg (by simp)] at h
   cases h
   obtain ⟨rfl,B,⟨_,rfl⟩,rfl⟩:=bq_B.bw _ _ _ _ hb
   exact ⟨rfl,_,⟨⟨(fun h=>by cases h),fun _=>rfl⟩,rfl⟩,rfl⟩
  ·rw [if_pos rfl] at h
   have he:e1=0:=by
    refine Classical.byContradiction fun hc=>?_
    have:=bq_M4.go (m1,r1,e1) hc
    have h2:(GA (m1,r1,e1)).2=(m,r,0):=congrArg Prod.snd h
    rw [this] at h2
    cases h2
    exact hc rfl
   subst he
   obtain ⟨rfl,B,⟨_,rfl⟩,rfl⟩:=bq_B.bw _ _ _ _ hb
   obtain ⟨rfl,B,⟨k,rfl⟩,rfl⟩:=bq_M4.bw _ _ _ _ h
   refine ⟨rfl,_,⟨⟨fun _=>k.2,fun h0=>by rw [k.1] at h0;cases h0⟩,rfl⟩,?_⟩
   unfold jo
   rw [k.1]
   rfl
 go s hs:=by
  rw [tj,bq_B.go s hs]
  split
  ·exact bq_M4.go s hs
  ·rfl
theorem yl:∀ n s,iz n s=goB jJ n s
 |0,s=>rfl
 |n+1,s=>by rw [iz,goB,yl n]
theorem y6:∀ n s,iE n s=goB bn n s
 |0,s=>rfl
 |n+1,s=>by rw [iE,goB,y6 n]
def yS (e:SEntry):Prop:=rg e.table 2=true∧((e.ms.length:Int)≤4∧∀ m∈e.ms,Ha m)∧rg e.prio 2=true∧rg e.act 2=true∧((e.args.length:Int)≤4∧∀ v∈e.args,v<2^128)
theorem C7 (s:RS):iZ s=apB (apB (apB (apB (apB (puB SEntry.mk) (fun s=>aq s 2)) (fun s=>iz (bf s 4).1.toNat (bf s 4).2)) (fun s=>aq s 2)) (fun s=>aq s 2)) (fun s=>iE (bf s 4).1.toNat (bf s 4).2) s:=rfl
theorem bq_E0:BQ iZ eO yS:=by
 rw [show iZ=_ from funext C7]
 refine PB.to (ei (ei (ei (ei (ei (j4 _) bq_2) (Fd (by decide) In yl)) bq_2) bq_2) (Fd (by decide) bq_V y6)) (fun y B h=>?_) (fun x h=>?_)
 ·obtain ⟨_,_,x4,_,⟨_,_,x3,_,⟨_,_,x2,_,⟨_,_,x1,_,⟨_,_,x0,_,⟨rfl,rfl⟩,⟨k0,rfl⟩,rfl,rfl⟩,⟨k1,rfl⟩,rfl,rfl⟩,⟨k2,rfl⟩,rfl,rfl⟩,⟨k3,rfl⟩,rfl,rfl⟩,⟨k4,rfl⟩,rfl,rfl⟩:=h
  exact ⟨⟨k0,k1,k2,k3,k4⟩,by simp only [eO,List.nil_append,List.append_assoc]⟩
 ·obtain ⟨k0,k1,k2,k3,k4⟩:=h
  exact ⟨_,_,x.args,_,⟨_,_,x.act,_,⟨_,_,x.prio,_,⟨_,_,x.ms,_,⟨_,_,x.table,_,⟨rfl,rfl⟩,⟨k0,rfl⟩,rfl,rfl⟩,⟨k1,rfl⟩,rfl,rfl⟩,⟨k2,rfl⟩,rfl,rfl⟩,⟨k3,rfl⟩,rfl,rfl⟩,⟨k4,rfl⟩,rfl,by simp only [eO,List.nil_append,List.append_assoc]⟩
theorem bq_E:BQ eK eO yS where
 fw e B h r:=by
  have:=bq_E0.fw e B h r
  unfold eK
  rw [this,if_pos rfl]
 bw b a m r h:=by
  have h2:(iZ (.any,b,0)).2.2.2=0:=by rw [← n9,h]
  unfold eK at h
  rw [if_pos h2] at h
  exact bq_E0.bw _ _ _ _ h
 go s hs:=by rw [n9];exact bq_E0.go s hs
theorem sv {e:SEntry} (h:yS e):rgE e=true:=by
 obtain ⟨h1,⟨h2,h3⟩,h4,h5,h6,h7⟩:=h
 unfold rgE
 rw [h1,h4,h5,dtq (show e.ms.length≤4 by omega),dtq (show e.args.length≤4 by omega)]
 simp only [Bool.true_and,List.all_eq_true]
 intro m hm
 obtain ⟨k1,k2⟩:=h3 m hm
 unfold rgM
 cases hp:m.present
 ·rw [k2 hp];decide
 ·rw [(k1 hp).2.2.1];rfl
theorem zG (s:RS):eN s=apB (apB (apB (apB (apB (apB (apB (puB SRec.mk) (fun s=>aq s 4)) (fun s=>aq s 1)) (fun s=>aq s 2)) (fun s=>aq s 1)) (fun s=>aq s 1)) (fun s=>aq s 2)) (fun s=>aq s 2) s:=rfl
def Hp (r:SRec):Prop:=rg r.num 4=true∧rg r.ctl 1=true∧rg r.role 2=true∧rg r.kind 1=true∧rg r.code 1=true∧rg r.fail 2=true∧rg r.upd 2=true
theorem GZ:BQ eN fj Hp:=by
 rw [show eN=_ from funext zG]
 refine PB.to (ei (ei (ei (ei (ei (ei (ei (j4 _) H4) bq_1) bq_2) bq_1) bq_1) bq_2) bq_2) (fun y B h=>?_) (fun x h=>?_)
 ·obtain ⟨_,_,x6,_,⟨_,_,x5,_,⟨_,_,x4,_,⟨_,_,x3,_,⟨_,_,x2,_,⟨_,_,x1,_,⟨_,_,x0,_,⟨rfl,rfl⟩,⟨k0,rfl⟩,rfl,rfl⟩,⟨k1,rfl⟩,rfl,rfl⟩,⟨k2,rfl⟩,rfl,rfl⟩,⟨k3,rfl⟩,rfl,rfl⟩,⟨k4,rfl⟩,rfl,rfl⟩,⟨k5,rfl⟩,rfl,rfl⟩,⟨k6,rfl⟩,rfl,rfl⟩:=h
  exact ⟨⟨k0,k1,k2,k3,k4,k5,k6⟩,by simp only [fj,List.nil_append,List.append_assoc]⟩
 ·obtain ⟨k0,k1,k2,k3,k4,k5,k6⟩:=h
  exact ⟨_,_,x.upd,_,⟨_,_,x.fail,_,⟨_,_,x.code,_,⟨_,_,x.kind,_,⟨_,_,x.role,_,⟨_,_,x.ctl,_,⟨_,_,x.num,_,⟨rfl,rfl⟩,⟨k0,rfl⟩,rfl,rfl⟩,⟨k1,rfl⟩,rfl,rfl⟩,⟨k2,rfl⟩,rfl,rfl⟩,⟨k3,rfl⟩,rfl,rfl⟩,⟨k4,rfl⟩,rfl,rfl⟩,⟨k5,rfl⟩,rfl,rfl⟩,⟨k6,rfl⟩,rfl,by simp only [fj,List.nil_append,List.append_assoc]⟩
theorem xN:∀ n s,iF n s=goB eK n s
 |0,s=>rfl
 |n+1,s=>by rw [iF,goB,xN n]
theorem ya:∀ n s,iq n s=goB eN n s
 |0,s=>rfl
 |n+1,s=>by rw [iq,goB,ya n]
theorem Hh (s:RS):dpF s=apB (apB (apB (apB (apB (apB (apB (apB (apB (puB SResp.mk) (fun s=>aq s 1)) (fun s=>aq s 2)) dq) (fun s=>iF (bf s 512).1.toNat (bf s 512).2)) (fun s=>iq (bf s 24).1.toNat (bf s 24).2)) dq) (fun s=>aq s 1)) (fun s=>aq s 2)) (fun s=>cW s 1000) s:=by
 simp only [dpF,apB,puB]
def FT (r:SResp):Prop:=rg r.code 1=true∧rg r.fail 2=true∧((r.ents.length:Int)≤512∧∀ e∈r.ents,yS e)∧((r.recs.length:Int)≤24∧∀ e∈r.recs,Hp e)∧rg r.reas 1=true∧rg r.port 2=true∧(r.data.length:Int)≤1000
theorem qV:∀ l:List SEntry,(∀ e∈l,yS e)→l.flatMap eO=l.flatMap lc
 |[],_=>rfl
 |e::l,h=>by
  rw [List.flatMap_cons,List.flatMap_cons,qV l fun x hx=>h x (List.mem_cons_of_mem _ hx)]
  unfold lc
  rw [if_pos (sv (h e List.mem_cons_self))]
theorem bq_P:BQ dpF jO FT:=by
 rw [show dpF=_ from funext Hh]
 refine PB.to (ei (ei (ei (ei (ei (ei (ei (ei (ei (j4 _) bq_1) bq_2) bq_B) (Fd (by decide) bq_E xN)) (Fd (by decide) GZ ya)) bq_B) bq_1) bq_2) (H8 (by decide))) (fun y B h=>?_) (fun x h=>?_)
 ·obtain ⟨_,_,x8,_,⟨_,_,x7,_,⟨_,_,x6,_,⟨_,_,x5,_,⟨_,_,x4,_,⟨_,_,x3,_,⟨_,_,x2,_,⟨_,_,x1,_,⟨_,_,x0,_,⟨rfl,rfl⟩,⟨k0,rfl⟩,rfl,rfl⟩,⟨k1,rfl⟩,rfl,rfl⟩,⟨k2,rfl⟩,rfl,rfl⟩,⟨k3,rfl⟩,rfl,rfl⟩,⟨k4,rfl⟩,rfl,rfl⟩,⟨k5,rfl⟩,rfl,rfl⟩,⟨k6,rfl⟩,rfl,rfl⟩,⟨k7,rfl⟩,rfl,rfl⟩,⟨k8,rfl⟩,rfl,rfl⟩:=h
  exact ⟨⟨k0,k1,k3,k4,k6,k7,k8⟩,by simp only [jO,sX,yO,qV x3 k3.2,List.nil_append,List.append_assoc]⟩
 ·obtain ⟨k0,k1,k3,k4,k6,k7,k8⟩:=h
  exact ⟨_,_,x.data,_,⟨_,_,x.port,_,⟨_,_,x.reas,_,⟨_,_,x.drop,_,⟨_,_,x.recs,_,⟨_,_,x.ents,_,⟨_,_,x.prim,_,⟨_,_,x.fail,_,⟨_,_,x.code,_,⟨rfl,rfl⟩,⟨k0,rfl⟩,rfl,rfl⟩,⟨k1,rfl⟩,rfl,rfl⟩,⟨trivial,rfl⟩,rfl,rfl⟩,⟨k3,rfl⟩,rfl,rfl⟩,⟨k4,rfl⟩,rfl,rfl⟩,⟨trivial,rfl⟩,rfl,rfl⟩,⟨k6,rfl⟩,rfl,rfl⟩,⟨k7,rfl⟩,rfl,rfl⟩,⟨k8,rfl⟩,rfl,by simp only [jO,sX,yO,qV x.ents k3.2,List.nil_append,List.append_assoc]⟩
theorem Gw {r:SResp} (h:FT r):rd (jO r)=(r,0):=by
 have k:=bq_P.fw r _ ⟨h,rfl⟩ []
 rw [List.append_nil] at k
 unfold rd
 rw [k]
 rfl
theorem EB {s:RS} (h:gO s=0):s.2.2=0∧s.2.1=[]:=by
 unfold gO at h
 split at h
 ·cases h
 ·rename_i h2
  refine ⟨h,List.eq_nil_of_length_eq_zero ?_⟩
  rcases Nat.eq_zero_or_pos s.2.1.length with h3|h3
  ·exact h3
  ·exact absurd ⟨h,h3⟩ h2
theorem EY {b:List UInt8} {y:SResp} (h:rd b=(y,0)):FT y∧b=jO y:=by
 unfold rd at h
 split at h
 ·rename_i h1;simp only [Prod.mk.injEq] at h;exact absurd h.2 h1
 rename_i h1
 obtain ⟨e1,e2⟩:=EB (Classical.not_not.1 h1)
 obtain ⟨a,m,r,e,hp⟩:∃ a m r e,dpF (.any,b,0)=(a,m,r,e):=⟨_,_,_,_,rfl⟩
 rw [hp] at h e1 e2
 simp only [Prod.mk.injEq,and_true] at h
 dsimp only at e1 e2
 subst h e1 e2
 obtain ⟨_,B,⟨k1,rfl⟩,k3⟩:=bq_P.bw _ _ _ _ hp
 exact ⟨k1,by rw [k3,List.append_nil]⟩
theorem Dx {y:SResp} (h:FT y):nh y=(jO y,0):=by
 obtain ⟨h1,h2,⟨h3,h4⟩,⟨h5,h6⟩,h7,h8,h9⟩:=h
 unfold nh
 rw [if_neg (by omega),if_neg ?_]
 have a1:rg (y.ents.length:Int) 2=true:=dtq ⟨by omega,by show (y.ents.length:Int)<256^2;omega⟩
 have a2:rg (y.recs.length:Int) 2=true:=dtq ⟨by omega,by show (y.recs.length:Int)<256^2;omega⟩
 have a3:(y.ents.any fun e=>!rgE e)=false:=List.any_eq_false.2 fun e he=>by rw [sv (h4 e he)];decide
 have a4:y.recs.any gt=false:=List.any_eq_false.2 fun e he=>by
  obtain ⟨g1,g2,g3,g4,g5,g6,g7⟩:=h6 e he
  unfold gt
  rw [g1,g2,g3,g4,g5,g6,g7];decide
 unfold yq
 rw [h1,h2,a1,a2,a3,a4,h7,h8]
 decide
def Ac (u:Int × SEntry):Prop:=(1≤u.1∧u.1≤3)∧yS u.2
theorem A5 {u:Int × SEntry} (h:Ac u):rg u.1 1=true:=dtq ⟨by have:=h.1;omega,by have:=h.1;show u.1<256^1;omega⟩
theorem u3 {u:Int × SEntry} (h:Ac u):eY u=aa u.1 1++eO u.2:=by unfold eY;rw [if_pos (sv h.2)]
theorem sK (n:Nat) (s:RS):eH (n+1) s=if gl (aq s 1) 3 then (none,(aq s 1).2) else match eH n (eK (aq s 1).2).2 with
 |(some us,t)=>(some (((aq s 1).1,(eK (aq s 1).2).1)::us),t)
 |(none,t)=>(none,t):=rfl
theorem uy:∀ (n:Nat) (s:RS),s.2.2≠0→(eH n s).2=s
 |0,s,_=>rfl
 |n+1,s,hs=>by
  have h1:(aq s 1).2=s:=bq_1.go s hs
  have h2:gl (aq s 1) 3=false:=by unfold gl;rw [h1,dfq hs];rfl
  have h3:(eK (aq s 1).2).2=s:=by rw [h1];exact bq_E.go s hs
  rw [sK,h2,h3,if_neg (by simp)]
  have:=uy n s hs
  cases e:eH n s with
  |mk o t=>rw [e] at this;cases o<;>exact this
theorem u6 (z:List UInt8):∀ us:List (Int × SEntry),(∀ u∈us,Ac u)→eH us.length (.any,us.flatMap eY++z,0)=(some us,.any,z,0)
 |[],_=>rfl
 |u::us,h=>by
  have hu:=h u List.mem_cons_self
  have e:(u::us).flatMap eY++z=aa u.1 1++(eO u.2++(us.flatMap eY++z)):=by
   rw [List.flatMap_cons,u3 hu];simp only [List.append_assoc]
  have k1:aq (.any,aa u.1 1++(eO u.2++(us.flatMap eY++z)),0) 1=(u.1,.any,eO u.2++(us.flatMap eY++z),0):=bq_1.fw u.1 _ ⟨A5 hu,rfl⟩ _
  have k2:eK (.any,eO u.2++(us.flatMap eY++z),0)=(u.2,.any,us.flatMap eY++z,0):=bq_E.fw u.2 _ ⟨hu.2,rfl⟩ _
  have k3:gl (u.1,.any,eO u.2++(us.flatMap eY++z),0) 3=false:=by
   unfold gl
   dsimp only
   rw [dfq (show ¬ u.1<1 by have:=hu.1;omega),dfq (show ¬ u.1 > 3 by have:=hu.1;omega)];rfl
  rw [e,List.length_cons,sK,k1,k3,if_neg (by simp)]
  dsimp only
  rw [k2]
  dsimp only
  rw [u6 z us fun x hx=>h x (List.mem_cons_of_mem _ hx)]
theorem uW:∀ (n:Nat) (b:List UInt8) (us:List (Int × SEntry)) (m:Mark) (z:List UInt8),eH n (.any,b,0)=(some us,m,z,0) →
 m=.any∧us.length=n∧(∀ u∈us,Ac u)∧b=us.flatMap eY++z
 |0,b,us,m,z,h=>by cases h;exact ⟨rfl,rfl,(fun u hu=>nomatch hu),rfl⟩
 |n+1,b,us,m,z,h=>by
  rw [sK] at h
  obtain ⟨v,m1,r1,e1,hq⟩:∃ v m1 r1 e1,aq (.any,b,0) 1=(v,m1,r1,e1):=⟨_,_,_,_,rfl⟩
  rw [hq] at h
  split at h
  ·cases h
  rename_i hk
  dsimp only at h
  obtain ⟨x,m2,r2,e2,he⟩:∃ x m2 r2 e2,eK (m1,r1,e1)=(x,m2,r2,e2):=⟨_,_,_,_,rfl⟩
  rw [he] at h
  dsimp only at h
  obtain ⟨o,m3,r3,e3,hu⟩:∃ o m3 r3 e3,eH n (m2,r2,e2)=(o,m3,r3,e3):=⟨_,_,_,_,rfl⟩
  rw [hu] at h
  cases o with
  |none=>cases h
  |some us2 =>
   cases h
   have h2:e2=0:=by
    refine Classical.byContradiction fun hc=>?_
    have:=uy n (m2,r2,e2) hc
    rw [hu] at this
    cases this
    exact hc rfl
   subst h2
   have h1:e1=0:=by
    refine Classical.byContradiction fun hc=>?_
    have:=bq_E.go (m1,r1,e1) hc
    rw [he] at this
    cases this
    exact hc rfl
   subst h1
   obtain ⟨rfl,B,⟨k1,rfl⟩,rfl⟩:=bq_1.bw _ _ _ _ hq
   obtain ⟨rfl,B,⟨k2,rfl⟩,rfl⟩:=bq_E.bw _ _ _ _ he
   obtain ⟨rfl,k3,k4,rfl⟩:=uW n _ _ _ _ hu
   have hv:Ac (v,x):=by
    refine ⟨?_,k2⟩
    unfold gl at hk
    simp only [decide_true,Bool.true_and,Bool.or_eq_true,decide_eq_true_eq,not_or] at hk
    dsimp only
    omega
   refine ⟨rfl,by rw [List.length_cons,k3],fun u hu2=>?_,?_⟩
   ·rcases List.mem_cons.1 hu2 with rfl|hu2
    ·exact hv
    ·exact k4 u hu2
   ·rw [List.flatMap_cons,u3 hv]
    simp only [List.append_assoc]
def qS (k:Int) (r:SReq):Prop :=
 r=cC k r∧if k=1 then rg r.role 2=true∧r.el<2^128 else if k=2 then True
 else if k=3 then rg r.role 2=true∧r.el<2^128∧(r.ups.length:Int)≤32∧∀ u∈r.ups,Ac u
 else if k=4 then rg r.role 2=true∧rg r.table 2=true else if k=5 then rg r.role 2=true∧rg r.frm 4=true∧rg r.count 2=true else rg r.port 2=true∧(r.data.length:Int)≤320
def mk1 (a:Int) (b:Nat):SReq:={ cm with role:=a,el:=b }
def mk4 (a b:Int):SReq:={ cm with role:=a,table:=b }
def mk5 (a b c:Int):SReq:={ cm with role:=a,frm:=b,count:=c }
def mk6 (a:Int) (b:List UInt8):SReq:={ cm with port:=a,data:=b }
def mk3 (a:Int) (b:Nat) (c:List (Int × SEntry)):SReq:={ cm with role:=a,el:=b,ups:=c }
theorem Gv (s:RS):pD s=apB (apB (puB mk1) (fun s=>aq s 2)) bn s:=rfl
theorem Hs (s:RS):oX s=apB (apB (puB mk4) (fun s=>aq s 2)) (fun s=>aq s 2) s:=rfl
theorem G0 (s:RS):pm s=apB (apB (apB (puB mk5) (fun s=>aq s 2)) (fun s=>aq s 4)) (fun s=>aq s 2) s:=rfl
theorem G5 (s:RS):pp s=apB (apB (puB mk6) (fun s=>aq s 2)) (fun s=>cW s 320) s:=rfl
theorem Gp:BQ pD (cd 1) (qS 1):=by
 rw [show pD=_ from funext Gv]
 refine PB.to (ei (ei (j4 _) bq_2) bq_V) (fun y B h=>?_) (fun x h=>?_)
 ·obtain ⟨_,_,x1,_,⟨_,_,x0,_,⟨rfl,rfl⟩,⟨k0,rfl⟩,rfl,rfl⟩,⟨k1,rfl⟩,rfl,rfl⟩:=h
  exact ⟨⟨rfl,k0,k1⟩,rfl⟩
 ·obtain ⟨e,k0,k1⟩:=h
  exact ⟨_,_,x.el,_,⟨_,_,x.role,_,⟨rfl,rfl⟩,⟨k0,rfl⟩,rfl,rfl⟩,⟨k1,rfl⟩,e,rfl⟩
theorem Gn:BQ se (cd 2) (qS 2):=by
 refine PB.to (j4 cm) (fun y B h=>?_) (fun x h=>?_)
 ·obtain ⟨rfl,rfl⟩:=h
  exact ⟨⟨rfl,trivial⟩,rfl⟩
 ·exact ⟨h.1,rfl⟩
theorem Gh:BQ oX (cd 4) (qS 4):=by
 rw [show oX=_ from funext Hs]
 refine PB.to (ei (ei (j4 _) bq_2) bq_2) (fun y B h=>?_) (fun x h=>?_)
 ·obtain ⟨_,_,x1,_,⟨_,_,x0,_,⟨rfl,rfl⟩,⟨k0,rfl⟩,rfl,rfl⟩,⟨k1,rfl⟩,rfl,rfl⟩:=h
  exact ⟨⟨rfl,k0,k1⟩,rfl⟩
 ·obtain ⟨e,k0,k1⟩:=h
  exact ⟨_,_,x.table,_,⟨_,_,x.role,_,⟨rfl,rfl⟩,⟨k0,rfl⟩,rfl,rfl⟩,⟨k1,rfl⟩,e,rfl⟩
theorem Ge:BQ pm (cd 5) (qS 5):=by
 rw [show pm=_ from funext G0]
 refine PB.to (ei (ei (ei (j4 _) bq_2) H4) bq_2) (fun y B h=>?_) (fun x h=>?_)
 ·obtain ⟨_,_,x2,_,⟨_,_,x1,_,⟨_,_,x0,_,⟨rfl,rfl⟩,⟨k0,rfl⟩,rfl,rfl⟩,⟨k1,rfl⟩,rfl,rfl⟩,⟨k2,rfl⟩,rfl,rfl⟩:=h
  exact ⟨⟨rfl,k0,k1,k2⟩,rfl⟩
 ·obtain ⟨e,k0,k1,k2⟩:=h
  exact ⟨_,_,x.count,_,⟨_,_,x.frm,_,⟨_,_,x.role,_,⟨rfl,rfl⟩,⟨k0,rfl⟩,rfl,rfl⟩,⟨k1,rfl⟩,rfl,rfl⟩,⟨k2,rfl⟩,e,rfl⟩
theorem Gq:BQ pp (cd 6) (qS 6):=by
 rw [show pp=_ from funext G5]
 refine PB.to (ei (ei (j4 _) bq_2) (H8 (by decide))) (fun y B h=>?_) (fun x h=>?_)
 ·obtain ⟨_,_,x1,_,⟨_,_,x0,_,⟨rfl,rfl⟩,⟨k0,rfl⟩,rfl,rfl⟩,⟨k1,rfl⟩,rfl,rfl⟩:=h
  exact ⟨⟨rfl,k0,k1⟩,rfl⟩
 ·obtain ⟨e,k0,k1⟩:=h
  exact ⟨_,_,x.data,_,⟨_,_,x.port,_,⟨rfl,rfl⟩,⟨k0,rfl⟩,rfl,rfl⟩,⟨k1,rfl⟩,e,rfl⟩
theorem DS {b:List UInt8} {M c:Int} {m:Mark} {r:List UInt8} (h:bf (.any,b,0) M=(c,m,r,0)):m=.any∧0≤c∧c≤M∧b=aa c 2++r:=by
 unfold bf at h
 dsimp only at h
 rw [if_neg (by simp)] at h
 split at h
 ·simp at h
 split at h
 ·simp at h
 rename_i h1 h2
 simp only [Prod.mk.injEq,and_true] at h
 obtain ⟨rfl,rfl,rfl⟩:=h
 obtain ⟨k1,k2⟩:=wP (b:=b) (w:=2) (by decide) (by omega)
 refine ⟨rfl,by omega,by omega,?_⟩
 have e:aa ((aO (b.take 2):Nat):Int) 2=b.take 2:=by unfold aa;rw [if_pos (by decide)];exact k2
 rw [e,List.take_append_drop]
theorem GJ {r:SReq} (h:qS 3 r) (z:List UInt8):rL (.any,cd 3 r++z,0)=(some r,.any,z,0):=by
 obtain ⟨e,k0,k1,k2,k3⟩:=h
 have a0:aq (.any,aa r.role 2++(bx r.el++(aa r.ups.length 2++(r.ups.flatMap eY++z))),0) 2=(r.role,.any,bx r.el++(aa r.ups.length 2++(r.ups.flatMap eY++z)),0):=bq_2.fw r.role _ ⟨k0,rfl⟩ _
 have a1:bn (.any,bx r.el++(aa r.ups.length 2++(r.ups.flatMap eY++z)),0)=(r.el,.any,aa r.ups.length 2++(r.ups.flatMap eY++z),0):=bq_V.fw r.el _ ⟨k1,rfl⟩ _
 have a2:bf (.any,aa r.ups.length 2++(r.ups.flatMap eY++z),0) 32=((r.ups.length:Int),.any,r.ups.flatMap eY++z,0):=zK (k:=r.ups.length) (m:=32) (by omega) (by decide) _
 have a3:=u6 z r.ups k3
 have hb:cd 3 r++z=aa r.role 2++(bx r.el++(aa r.ups.length 2++(r.ups.flatMap eY++z))):=by
  show (aa r.role 2++bx r.el++aa r.ups.length 2++r.ups.flatMap eY)++z=_
  simp only [List.append_assoc]
 unfold rL
 rw [hb]
 dsimp only
 rw [a0]
 dsimp only
 rw [a1]
 dsimp only
 rw [a2]
 dsimp only
 rw [iNq,a3]
 dsimp only [Option.map]
 show (some (mk3 r.role r.el r.ups),Mark.any,z,(0:Int))=_
 rw [show mk3 r.role r.el r.ups=r from e.symm]
theorem GK {b:List UInt8} {r:SReq} {m:Mark} {z:List UInt8} (h:rL (.any,b,0)=(some r,m,z,0)):m=.any∧qS 3 r∧b=cd 3 r++z:=by
 unfold rL at h
 dsimp only at h
 obtain ⟨v0,m0,r0,e0,h0⟩:∃ v m r e,aq (.any,b,0) 2=(v,m,r,e):=⟨_,_,_,_,rfl⟩
 rw [h0] at h
 dsimp only at h
 obtain ⟨v1,m1,r1,e1,h1⟩:∃ v m r e,bn (m0,r0,e0)=(v,m,r,e):=⟨_,_,_,_,rfl⟩
 rw [h1] at h
 dsimp only at h
 obtain ⟨v2,m2,r2,e2,h2⟩:∃ v m r e,bf (m1,r1,e1) 32=(v,m,r,e):=⟨_,_,_,_,rfl⟩
 rw [h2] at h
 dsimp only at h
 obtain ⟨o,m3,r3,e3,h3⟩:∃ v m r e,eH v2.toNat (m2,r2,e2)=(v,m,r,e):=⟨_,_,_,_,rfl⟩
 rw [h3] at h
 dsimp only at h
 cases o with
 |none=>cases h
 |some us =>
  cases h
  have g2:e2=0:=by
   refine Classical.byContradiction fun hc=>?_
   have:=uy v2.toNat (m2,r2,e2) hc
   rw [h3] at this
   cases this
   exact hc rfl
  subst g2
  have g1:e1=0:=by
   refine Classical.byContradiction fun hc=>?_
   have:(bf (m1,r1,e1) 32).2=(m1,r1,e1):=by unfold bf;rw [if_pos hc]
   rw [h2] at this
   cases this
   exact hc rfl
  subst g1
  have g0:e0=0:=by
   refine Classical.byContradiction fun hc=>?_
   have:=bq_V.go (m0,r0,e0) hc
   rw [h1] at this
   cases this
   exact hc rfl
  subst g0
  obtain ⟨rfl,B,⟨k0,rfl⟩,rfl⟩:=bq_2.bw _ _ _ _ h0
  obtain ⟨rfl,B,⟨k1,rfl⟩,rfl⟩:=bq_V.bw _ _ _ _ h1
  obtain ⟨rfl,c0,c1,rfl⟩:=DS h2
  obtain ⟨rfl,j0,j1,rfl⟩:=uW _ _ _ _ _ h3
  have hl:((us.length:Nat):Int)=v2:=by omega
  refine ⟨rfl,⟨rfl,k0,k1,by show ((us.length:Nat):Int)≤32;omega,j1⟩,?_⟩
  show _=(aa v0 2++bx v1++aa (us.length:Int) 2++us.flatMap eY)++z
  rw [hl]
  simp only [List.append_assoc]
theorem tg {α:Type} {p:RS→α × RS} {g:α→List UInt8} {ok:α→Prop} (h:BQ p g ok) {b:List UInt8} {r:α} {m:Mark} {z:List UInt8} (hp:(some (p (.any,b,0)).1,(p (.any,b,0)).2)=(some r,m,z,(0:Int))):m=.any∧ok r∧b=g r++z:=by
 obtain ⟨a,m1,r1,e1,h1⟩:∃ a m r e,p (.any,b,0)=(a,m,r,e):=⟨_,_,_,_,rfl⟩
 rw [h1] at hp
 cases hp
 obtain ⟨rfl,B,⟨k,rfl⟩,rfl⟩:=h.bw _ _ _ _ h1
 exact ⟨rfl,k,rfl⟩
theorem sL {α:Type} {p:RS→α × RS} {g:α→List UInt8} {ok:α→Prop} (h:BQ p g ok) {r:α} (z:List UInt8) (k:ok r):(some (p (.any,g r++z,0)).1,(p (.any,g r++z,0)).2)=(some r,.any,z,(0:Int)):=by
 rw [h.fw r _ ⟨k,rfl⟩ z]
theorem GT {k:Int} (h1:1≤k) (h2:k≤6) {r:SReq} (h:qS k r) (z:List UInt8):rdF k (.any,cd k r++z,0)=(some r,.any,z,0):=by
 rcases eE h1 h2 with rfl|rfl|rfl|rfl|rfl|rfl
 ·exact sL Gp z h
 ·exact sL Gn z h
 ·exact GJ h z
 ·exact sL Gh z h
 ·exact sL Ge z h
 ·exact sL Gq z h
theorem Ht {k:Int} (h1:1≤k) (h2:k≤6) {b:List UInt8} {r:SReq} {m:Mark} {z:List UInt8} (h:rdF k (.any,b,0)=(some r,m,z,0)):m=.any∧qS k r∧b=cd k r++z:=by
 rcases eE h1 h2 with rfl|rfl|rfl|rfl|rfl|rfl
 ·exact tg Gp h
 ·exact tg Gn h
 ·exact GK h
 ·exact tg Gh h
 ·exact tg Ge h
 ·exact tg Gq h
theorem AZ {k:Int} (h1:1≤k) (h2:k≤6):rg k 1=true:=dtq ⟨by omega,by show k<256^1;omega⟩
theorem GD {k:Int} (h1:1≤k) (h2:k≤6) {r:SReq} (h:qS k r) (hl:(aa k 1++cd k r).length≤8000):sb (aa k 1++cd k r)=({ r with kind:=k },0):=by
 have a0:aq (.any,aa k 1++cd k r,0) 1=(k,.any,cd k r,0):=bq_1.fw k _ ⟨AZ h1 h2,rfl⟩ _
 have a1:=GT h1 h2 h []
 rw [List.append_nil] at a1
 have hk:gl (k,Mark.any,cd k r,(0:Int)) 6=false:=by
  unfold gl
  dsimp only
  rw [dfq (show ¬ k<1 by omega),dfq (show ¬ k > 6 by omega)];rfl
 have hq:rqF (.any,aa k 1++cd k r,0)=({ r with kind:=k },0,.any,[],0):=by
  unfold rqF
  rw [a0,hk,if_neg (by simp)]
  dsimp only
  rw [if_neg (by simp),a1]
  rfl
 unfold sb
 rw [if_neg (by omega),hq,if_neg (by simp)]
theorem DD {b:List UInt8} {y:SReq} (h:sb b=(y,0)):∃ r,(1≤y.kind∧y.kind≤6)∧qS y.kind r∧y={ r with kind:=y.kind }∧b=aa y.kind 1++cd y.kind r∧b.length≤8000:=by
 unfold sb at h
 split at h
 ·simp at h
 rename_i hl
 split at h
 ·rename_i h1;simp only [Prod.mk.injEq] at h;exact absurd h.2 h1
 rename_i h1
 replace h1:=Classical.not_not.1 h1
 simp only [Prod.mk.injEq,and_true] at h
 unfold rqF at h h1
 obtain ⟨v,m0,r0,e0,h0⟩:∃ v m r e,aq (.any,b,0) 1=(v,m,r,e):=⟨_,_,_,_,rfl⟩
 rw [h0] at h h1
 dsimp only at h h1
 split at h1
 ·simp at h1
 rename_i hk
 rw [if_neg hk] at h
 split at h1
 ·rename_i h2;exact absurd h1 h2
 rename_i he
 rw [if_neg he] at h
 replace he:=Classical.not_not.1 he
 subst he
 obtain ⟨rfl,B,⟨k0,rfl⟩,rfl⟩:=bq_1.bw _ _ _ _ h0
 have hv:1≤v∧v≤6:=by
  unfold gl at hk
  simp only [decide_true,Bool.true_and,Bool.or_eq_true,decide_eq_true_eq,not_or] at hk
  omega
 obtain ⟨o,m1,r1,e1,h3⟩:∃ o m r e,rdF v (.any,r0,0)=(o,m,r,e):=⟨_,_,_,_,rfl⟩
 rw [h3] at h h1
 cases o with
 |none=>simp at h1
 |some r =>
  dsimp only at h h1
  obtain ⟨g1,g2⟩:=EB h1
  dsimp only at g1 g2
  subst g1 g2 h
  obtain ⟨_,k1,k2⟩:=Ht hv.1 hv.2 h3
  rw [List.append_nil] at k2
  exact ⟨r,hv,k1,rfl,by rw [k2],by omega⟩
theorem Ck (r:SReq):eqR r r=true:=(lZ r r).2 rfl
theorem CR {k:Int} {r:SReq} {j:Int}:cC k { r with kind:=j }=cC k r:=by
 unfold cC;rfl
theorem EK {k:Int} (h1:1≤k) (h2:k≤6) {r:SReq} (h:qS k r) (hl:(aa k 1++cd k r).length≤8000):ig { r with kind:=k }=(aa k 1++cd k r,0):=by
 have hu:gV { r with kind:=k }={ r with kind:=k }:=by
  show { cC k { r with kind:=k } with kind:=k }=_
  rw [CR,← h.1]
 have z0:(([]:List UInt8).length:Int)≤320:=by decide
 have z1:(([]:List (Int × SEntry)).length:Int)≤32:=by decide
 have hb:(∀ u∈r.ups,Ac u)∧(r.ups.length:Int)≤32∧(r.data.length:Int)≤320∧eI k r=false:=by
  obtain ⟨e,h⟩:=h
  rcases eE h1 h2 with rfl|rfl|rfl|rfl|rfl|rfl
  ·obtain ⟨k0,k1⟩:=h
   refine ⟨fun u hu=>by rw [e] at hu;exact (nomatch hu),by rw [e];first|exact z0|exact z1,by rw [e];first|exact z0|exact z1,?_⟩
   show (!rg r.role 2)=false
   rw [k0];rfl
  ·exact ⟨fun u hu=>by rw [e] at hu;exact (nomatch hu),by rw [e];first|exact z0|exact z1,by rw [e];first|exact z0|exact z1,rfl⟩
  ·obtain ⟨k0,k1,k2,k3⟩:=h
   refine ⟨k3,k2,by rw [e];first|exact z0|exact z1,?_⟩
   show (!rg r.role 2||!rg r.ups.length 2||r.ups.any ph)=false
   have a1:rg (r.ups.length:Int) 2=true:=dtq ⟨by omega,by show (r.ups.length:Int)<256^2;omega⟩
   have a2:r.ups.any ph=false:=List.any_eq_false.2 fun u hu=>by
    unfold ph
    rw [A5 (k3 u hu),sv (k3 u hu).2];decide
   rw [k0,a1,a2];rfl
  ·obtain ⟨k0,k1⟩:=h
   refine ⟨fun u hu=>by rw [e] at hu;exact (nomatch hu),by rw [e];first|exact z0|exact z1,by rw [e];first|exact z0|exact z1,?_⟩
   show (!rg r.role 2||!rg r.table 2)=false
   rw [k0,k1];rfl
  ·obtain ⟨k0,k1,k2⟩:=h
   refine ⟨fun u hu=>by rw [e] at hu;exact (nomatch hu),by rw [e];first|exact z0|exact z1,by rw [e];first|exact z0|exact z1,?_⟩
   show (!rg r.role 2||!rg r.frm 4||!rg r.count 2)=false
   rw [k0,k1,k2];rfl
  ·obtain ⟨k0,k1⟩:=h
   refine ⟨fun u hu=>by rw [e] at hu;exact (nomatch hu),by rw [e];first|exact z0|exact z1,k1,?_⟩
   show (!rg r.port 2)=false
   rw [k0];rfl
 obtain ⟨b1,b2,b3,b4⟩:=hb
 have hp:gU { r with kind:=k }=true:=by
  unfold gU
  rw [hu,Ck,dtq (show 1≤k∧k≤6 from ⟨h1,h2⟩)]
  have:r.ups.any wt=false:=List.any_eq_false.2 fun u hu=>by
   have:=(b1 u hu).1
   unfold wt
   rw [dfq (show ¬ u.1<1 by omega),dfq (show ¬ 3<u.1 by omega)];decide
  show (true&&(!r.ups.any wt&&true))=true
  rw [this];rfl
 unfold ig
 rw [hp,if_neg (by simp),if_neg (by show ¬ (32<r.ups.length∨320<r.data.length);omega)]
 have hr:(!rg k 1||eI k { r with kind:=k })=false:=by
  rw [AZ h1 h2]
  exact b4
 have hw:bI { r with kind:=k }=aa k 1++cd k r:=rfl
 rw [hw]
 show (if (!rg k 1||eI k { r with kind:=k })=true then _ else _)=_
 rw [hr,if_neg (by simp),if_neg (by omega)]
theorem Ew {b:List UInt8} {y:SReq} (h:sb b=(y,0)):ig y=(b,0):=by
 obtain ⟨r,⟨h1,h2⟩,h3,h4,rfl,h6⟩:=DD h
 generalize y.kind=k at *
 subst h4
 exact EK h1 h2 h3 h6
theorem xQ {b:List UInt8} {y:SResp} (h:rd b=(y,0)):nh y=(b,0):=by
 obtain ⟨h1,rfl⟩:=EY h
 exact Dx h1
theorem E6 {m:SMatch} (h:rgM m=true) (hm:MOk m):Ha m:=by
 unfold rgM at h
 rw [Bool.and_eq_true,Bool.or_eq_true] at h
 refine ⟨fun _=>⟨hm.v,hm.k,h.1,hm.h⟩,fun h0=>?_⟩
 rcases h.2 with h2|h2
 ·rw [h0] at h2;cases h2
 ·exact of_decide_eq_true h2
theorem A3 {e:SEntry} (h:rgE e=true) (hc:COk e):yS e:=by
 unfold rgE at h
 simp only [Bool.and_eq_true,decide_eq_true_eq,List.all_eq_true] at h
 obtain ⟨h1,h2,h3,h4,h5,h6⟩:=h
 exact ⟨h1,⟨by omega,fun m hm=>E6 (h6 m hm) (hc.ok.mo m hm)⟩,h2,h3,by omega,hc.ar⟩
theorem bF {b:Bool} (h:(!b)=false):b=true:=by cases b<;>simp_all
theorem Eu {q:SReq} {b:List UInt8} (h:ig q=(b,0)) (hr:ROk q):sb b=(q,0):=by
 unfold ig at h
 split at h
 ·cases h
 rename_i hp
 split at h
 ·cases h
 rename_i hl
 split at h
 ·cases h
 rename_i hb
 split at h
 ·cases h
 rename_i hw
 simp only [Prod.mk.injEq,and_true] at h
 subst h
 have hp:gU q=true:=by simpa using hp
 unfold gU at hp
 rw [Bool.and_eq_true,Bool.and_eq_true,decide_eq_true_eq] at hp
 obtain ⟨⟨h1,h2⟩,hk,he⟩:=hp
 have he:q=gV q:=(lZ _ _).1 he
 have hb:(!rg q.kind 1||eI q.kind q)=false:=by simpa using hb
 rw [Bool.or_eq_false_iff] at hb
 have hb:=hb.2
 have hks:∀ u∈q.ups,1≤u.1∧u.1≤3:=fun u hu=>by
  have h0:q.ups.any wt=false:=by simpa using hk
  have:=List.any_eq_false.1 h0 u hu
  unfold wt at this
  simp only [Bool.not_eq_true,Bool.or_eq_false_iff,decide_eq_false_iff_not] at this
  omega
 have hq:qS q.kind (cC q.kind q):=by
  have hu:cC q.kind (cC q.kind q)=cC q.kind q:=by
   generalize q.kind=k at h1 h2 ⊢
   rcases eE h1 h2 with rfl|rfl|rfl|rfl|rfl|rfl<;>rfl
  refine ⟨hu.symm,?_⟩
  generalize q.kind=k at h1 h2 hb ⊢
  rcases eE h1 h2 with rfl|rfl|rfl|rfl|rfl|rfl
  ·have hb:(!rg q.role 2)=false:=hb
   exact ⟨bF hb,hr.el⟩
  ·trivial
  ·have hb:(!rg q.role 2||!rg q.ups.length 2||q.ups.any ph)=false:=hb
   rw [Bool.or_eq_false_iff,Bool.or_eq_false_iff] at hb
   refine ⟨bF hb.1.1,hr.el,?_,fun u hu=>⟨hks u hu,A3 ?_ (hr.uo u hu)⟩⟩
   ·show (q.ups.length:Int)≤32
    omega
   ·have:=List.any_eq_false.1 hb.2 u hu
    unfold ph at this
    simp only [Bool.not_eq_true,Bool.or_eq_false_iff] at this
    exact bF this.2
  ·have hb:(!rg q.role 2||!rg q.table 2)=false:=hb
   rw [Bool.or_eq_false_iff] at hb
   exact ⟨bF hb.1,bF hb.2⟩
  ·have hb:(!rg q.role 2||!rg q.frm 4||!rg q.count 2)=false:=hb
   rw [Bool.or_eq_false_iff,Bool.or_eq_false_iff] at hb
   exact ⟨bF hb.1.1,bF hb.1.2,bF hb.2⟩
  ·have hb:(!rg q.port 2)=false:=hb
   refine ⟨bF hb,?_⟩
   show (q.data.length:Int)≤320
   omega
 have hbody:cd q.kind (cC q.kind q)=cd q.kind q:=by
  generalize q.kind=k at h1 h2 ⊢
  rcases eE h1 h2 with rfl|rfl|rfl|rfl|rfl|rfl<;>rfl
 have hwire:bI q=aa q.kind 1++cd q.kind (cC q.kind q):=by rw [hbody];rfl
 rw [hwire] at hw ⊢
 rw [GD h1 h2 hq (by omega)]
 show ((gV q:SReq),(0:Int))=_
 rw [← he]
theorem FX {r:SRec} (h:gt r=false):Hp r:=by
 unfold gt at h
 simp only [Bool.or_eq_false_iff] at h
 obtain ⟨⟨⟨⟨⟨⟨h1,h2⟩,h3⟩,h4⟩,h5⟩,h6⟩,h7⟩:=h
 exact ⟨bF h1,bF h2,bF h3,bF h4,bF h5,bF h6,bF h7⟩
theorem Dn {r:SResp} {b:List UInt8} (h:nh r=(b,0)) (hr:PE r):rd b=(r,0):=by
 unfold nh at h
 split at h
 ·cases h
 rename_i hl
 split at h
 ·cases h
 rename_i hb
 simp only [Prod.mk.injEq,and_true] at h
 subst h
 have hb:yq r=false:=by simpa using hb
 unfold yq at hb
 simp only [Bool.or_eq_false_iff] at hb
 obtain ⟨⟨⟨⟨⟨⟨⟨h1,h2⟩,h3⟩,h4⟩,h5⟩,h6⟩,h7⟩,h8⟩:=hb
 refine Gw ⟨bF h1,bF h2,⟨?_,fun e he=>A3 ?_ (hr.eo e he)⟩,⟨by omega,fun x hx=>FX ?_⟩,bF h7,bF h8,by omega⟩
 ·have:=hr.el
  omega
 ·have:=List.any_eq_false.1 h4 e he
  simpa using this
 ·have:=List.any_eq_false.1 h6 x hx
  simpa using this
end Go.AL
