/- Lemmas of the proof; no condition. -/
import Derived.Test.YtpbnggedofiinaaGreatW03c
import Derived.Test.YtpbnggedofiinaaGreatLRdS
import Derived.Test.YtpbnggedofiinaaGreatLBack
set_option linter.all false
set_option maxRecDepth 10000
open Go Go.AL Go.Proofs
namespace Go.AL
def NoF (x:Enc):Prop:=x.l=false∧x.f=false∧x.a=false
theorem NoF_add {x y:Enc}:NoF (x.add y)↔NoF x∧NoF y:=by
 unfold NoF Enc.add
 simp only [Bool.or_eq_false_iff]
 constructor
 ·rintro ⟨⟨a,b⟩,⟨c,d⟩,e,f⟩;exact ⟨⟨a,c,e⟩,b,d,f⟩
 ·rintro ⟨⟨a,c,e⟩,b,d,f⟩;exact ⟨⟨a,b⟩,⟨c,d⟩,e,f⟩
theorem Gt:NoF enc0:=⟨rfl,rfl,rfl⟩
theorem zo {x y:Enc}:(x.add y).b=x.b++y.b:=rfl
def Fw {α:Type} (p:RM α) (B:List UInt8) (a:α):Prop:=∀ r,p (.any,B++r,0)=(a,.any,r,0)
structure PC {α:Type} (p:RM α) (P:α→Enc→Prop):Prop where
 fw:∀ a E,P a E→NoF E→Fw p E.b a
 bw:∀ b a m r,p (.any,b,0)=(a,m,r,0)→m=.any∧∃ E,P a E∧NoF E∧b=E.b++r
 go:RGo p
def BW {α:Type} (p:RM α) (g:α→Enc) (ok:α→Prop):Prop:=PC p fun a E=>E=g a∧ok a
theorem gA {α:Type} (f:α):PC (dD f) fun g E=>g=f∧E=enc0 where
 fw a E h _ r:=by rw [h.1,h.2];rfl
 bw b a m r h:=by cases h;exact ⟨rfl,enc0,⟨rfl,rfl⟩,Gt,rfl⟩
 go:=cT f
theorem bN {α β:Type} {p:RM (α→β)} {P:(α→β)→Enc→Prop} {q:RM α} {g:α→Enc} {ok:α→Prop} (hp:PC p P) (hq:BW q g ok) :
 PC (rap p q) fun y E=>∃ f E1 x,P f E1∧ok x∧y=f x∧E=E1.add (g x) where
 fw y E h hn r:=by
  obtain ⟨f,E1,x,h1,h2,rfl,rfl⟩:=h
  obtain ⟨n1,n2⟩:=NoF_add.1 hn
  have k1:=hp.fw f E1 h1 n1 ((g x).b++r)
  have k2:=hq.fw x _ ⟨rfl,h2⟩ n2 r
  unfold rap
  rw [zo,List.append_assoc,k1]
  dsimp only
  rw [k2]
 bw b y m r h:=by
  have e0:(p (.any,b,0)).2.2.2=0:=by
   refine Classical.byContradiction fun hc=>?_
   have:=hq.go.e _ hc
   have h2:(q (p (.any,b,0)).2).2=(m,r,0):=congrArg Prod.snd h
   rw [this] at h2
   rw [h2] at hc
   exact hc rfl
  obtain ⟨f,m1,r1,e1,hp1⟩:∃ f m1 r1 e1,p (.any,b,0)=(f,m1,r1,e1):=⟨_,_,_,_,rfl⟩
  rw [hp1] at e0
  dsimp only at e0
  subst e0
  obtain ⟨rfl,E1,h1,n1,rfl⟩:=hp.bw _ _ _ _ hp1
  unfold rap at h
  rw [hp1] at h
  dsimp only at h
  obtain ⟨x,m2,r2,e2,hq2⟩:∃ x m2 r2 e2,q (.any,r1,0)=(x,m2,r2,e2):=⟨_,_,_,_,rfl⟩
  rw [hq2] at h
  cases h
  obtain ⟨rfl,E2,⟨rfl,h2⟩,n2,rfl⟩:=hq.bw _ _ _ _ hq2
  exact ⟨rfl,_,⟨f,E1,x,h1,h2,rfl,rfl⟩,NoF_add.2 ⟨n1,n2⟩,by rw [zo,List.append_assoc]⟩
 go:=iG hp.go hq.go
theorem PC.to {α:Type} {p:RM α} {P:α→Enc→Prop} {g:α→Enc} {ok:α→Prop} (h:PC p P) (h1:∀ a E,P a E→E=g a∧ok a) (h2:∀ a,ok a→P a (g a)):BW p g ok where
 fw a E k hn:=h.fw a E (by obtain ⟨rfl,k⟩:=k;exact h2 a k) hn
 bw b a m r k:=by
  obtain ⟨e,E,k1,k2,k3⟩:=h.bw b a m r k
  exact ⟨e,E,h1 a E k1,k2,k3⟩
 go:=h.go
theorem yP (m w:Nat) (hm:m<2^63) (hw:w≤8):be (m:Int) w=beN m w:=by
 unfold be lc beN
 rw [Nat.sub_zero]
 refine List.map_congr_left fun i hi=>?_
 have hi:=List.mem_range.1 hi
 unfold ug sy
 have e:((2:Int)^min (8*((w - 1 - i:Nat):Int)).toNat IntKind.i64.bits)=((2^(8*(w - 1 - i)):Nat):Int):=by
  have h1:(8*((w - 1 - i:Nat):Int)).toNat=8*(w - 1 - i):=by omega
  have h2:min (8*(w - 1 - i)) IntKind.i64.bits=8*(w - 1 - i):=Nat.min_eq_left (by simp [IntKind.bits];omega)
  rw [h1,h2];push_cast;rfl
 rw [e,Int.fdiv_eq_ediv_of_nonneg _ (Int.natCast_nonneg _),← Int.natCast_ediv,← Nat.shiftRight_eq_div_pow]
 generalize m >>> (8*(w - 1 - i))=q
 rw [UInt8.ofNat_eq_iff_mod_eq_toNat,UInt8.toNat_ofNat']
 omega
theorem EL (v n:Nat):beN v (n+1)=beN (v/256) n++[UInt8.ofNat v]:=by
 unfold beN
 rw [List.range_succ,List.map_append]
 congr 1
 ·refine List.map_congr_left fun i hi=>?_
  have hi:=List.mem_range.1 hi
  congr 1
  rw [Nat.shiftRight_eq_div_pow,Nat.shiftRight_eq_div_pow,show (256:Nat)=2^8 from rfl,Nat.div_div_eq_div_mul,← Nat.pow_add]
  congr 2;omega
 ·simp
theorem tC (l:List UInt8):beN (aQ l) l.length=l:=by
 induction h:l.length generalizing l with
 |zero=>have:l=[]:=List.eq_nil_of_length_eq_zero h;subst this;rfl
 |succ n ih =>
  obtain ⟨l',c,rfl⟩:∃ l' c,l=l'++[c]:=⟨l.dropLast,l.getLast (by intro e;rw [e] at h;simp at h),(List.dropLast_concat_getLast _).symm⟩
  have hl:l'.length=n:=by simp at h;omega
  have hc:=UInt8.toNat_lt c
  rw [jr,EL,show (aQ l'*256+c.toNat)/256=aQ l' by omega,ih l' hl]
  congr 2
  apply UInt8.toNat_inj.1
  rw [UInt8.toNat_ofNat']
  omega
theorem w9 {b:List UInt8} {w:Nat} (hw:w≤4) (h:w≤b.length):aQ (b.take w)<256^w∧be ((aQ (b.take w):Nat):Int) w=b.take w:=by
 have hl:(b.take w).length=w:=by rw [List.length_take];omega
 have h1:=kB (b.take w)
 rw [hl] at h1
 refine ⟨h1,?_⟩
 have h63:aQ (b.take w)<2^63:=Nat.lt_of_lt_of_le h1 (Nat.le_trans (Nat.pow_le_pow_right (by decide) hw) (by decide))
 rw [yP _ _ h63 (by omega)]
 have:=tC (b.take w)
 rwa [hl] at this
theorem uT (m w:Nat) (r:List UInt8) (hw:w≤4) (hm:m<256^w):aQ ((be (m:Int) w++r).take w)=m∧(be (m:Int) w++r).drop w=r∧(be (m:Int) w++r).length=w+r.length:=by
 have h63:m<2^63:=Nat.lt_of_lt_of_le hm (Nat.le_trans (Nat.pow_le_pow_right (by decide) hw) (by decide))
 have hl:=lK (m:Int) w
 refine ⟨?_,?_,by rw [lAq,hl]⟩
 ·rw [List.take_append_of_le_length (by omega),List.take_of_length_le (by omega),yP _ _ h63 (by omega),pw,Nat.mod_eq_of_lt hm]
 ·rw [List.drop_append_of_le_length (by omega),List.drop_of_length_le (by omega),List.nil_append]
theorem HU {w:Nat} (hw:w=1∨w=2):BW (rU (w:Int)) (fun n=>dZ n (w:Int)) bS where
 fw n E h hn r:=by
  obtain ⟨rfl,_⟩:=h
  have hr:rg n (w:Int)=true:=by have:=hn.2.2;simpa [dZ] using this
  have hr':=of_decide_eq_true hr
  rw [iNq] at hr'
  obtain ⟨m,rfl⟩:=Int.eq_ofNat_of_zero_le hr'.1
  have hm:m<256^w:=by exact_mod_cast hr'.2
  obtain ⟨k1,k2,k3⟩:=uT m w r (by omega) hm
  show cm _ _=_
  have e:(dZ (m:Int) (w:Int)).b=be (m:Int) w:=by
   show fy _ _=_
   unfold fy
   rw [if_pos (by omega),iNq]
  rw [e]
  unfold cm
  dsimp only
  rw [if_neg (by simp),if_neg (by omega),if_neg (by omega),iNq,k1,k2]
 bw b a m r h:=by
  change cm _ _=_ at h
  unfold cm at h
  dsimp only at h
  rw [if_neg (by simp),if_neg (by omega)] at h
  split at h
  ·simp at h
  ·rename_i hl
   rw [iNq] at h
   simp only [Prod.mk.injEq,and_true] at h
   obtain ⟨rfl,rfl,rfl⟩:=h
   obtain ⟨k1,k2⟩:=w9 (b:=b) (w:=w) (by omega) (by omega)
   refine ⟨rfl,_,⟨rfl,trivial⟩,⟨rfl,rfl,?_⟩,?_⟩
   ·show (!rg _ _)=false
    have:rg ((aQ (b.take w):Nat):Int) (w:Int)=true:=dtq ⟨by omega,by rw [iNq];exact_mod_cast k1⟩
    rw [this];rfl
   ·show b=fy _ _++_
    unfold fy
    rw [if_pos (by omega),iNq,k2,List.take_append_drop]
 go:=ff _
theorem jQ:BW (rU 2) (fun n=>dZ n 2) bS:=HU (w:=2) (.inr rfl)
theorem u2:BW (rU 1) (fun n=>dZ n 1) bS:=HU (w:=1) (.inl rfl)
theorem G0:BW (rU 2) fh bS:=jQ
theorem Gl:BW rB jO bS where
 fw x E h hn r:=by obtain ⟨rfl,_⟩:=h;cases x<;>simp [rB,ic,b0,jO]
 bw b a m r h:=by
  change ic _=_ at h
  unfold ic at h
  dsimp only at h
  rw [if_neg (by simp)] at h
  split at h
  ·simp at h
  ·split at h
   ·simp at h
   ·rename_i h1 h2
    simp only [Prod.mk.injEq,and_true] at h
    obtain ⟨rfl,rfl,rfl⟩:=h
    refine ⟨rfl,_,⟨rfl,trivial⟩,⟨rfl,rfl,rfl⟩,?_⟩
    cases b with
    |nil=>simp at h1
    |cons c t =>
     have hc:b0 (c::t)=c:=rfl
     rw [hc] at h2 ⊢
     show c::t=[if (c.toNat==1)=true then 1 else 0]++t
     have:c=if (c.toNat==1)=true then 1 else 0:=by
      apply UInt8.toNat_inj.1
      by_cases h3:c.toNat=1
      ·rw [if_pos (by simpa using h3),h3];rfl
      ·rw [if_neg (by simpa using h3)]
       show c.toNat=0
       omega
     rw [← this];rfl
 go:=rB_go
theorem uh {l:List UInt8} {v:Nat} (h:ey l=(v,0)):eQ v=l∧v<2^128∧eB v=l.length:=by
 unfold ey at h
 split at h
 ·simp at h
 split at h
 ·simp at h
 split at h
 ·simp at h
 rename_i h1 h2 h3
 simp only [Prod.mk.injEq,and_true] at h
 subst h
 have hlt:=kB l
 have h128:aQ l<2^128:=Nat.lt_of_lt_of_le hlt (Nat.le_trans (Nat.pow_le_pow_right (by decide) (show l.length≤16 by omega)) (by decide))
 have hlen:eB (aQ l)=l.length:=by
  have hu:bl (aQ l)≤8*l.length:=bl_le.2 (by rw [Nat.pow_mul];exact hlt)
  have hlo:1<l.length→8*(l.length - 1)<bl (aQ l):=fun hn=>by
   rcases Nat.lt_or_ge (8*(l.length - 1)) (bl (aQ l)) with h|h
   ·exact h
   ·exfalso
    have hb:=bl_le.1 h
    cases l with
    |nil=>simp at hn
    |cons c t =>
     have hc:c.toNat≠0:=fun e=>h3 ⟨hn,e⟩
     have e2:aQ (c::t)=c.toNat*256^t.length+aQ t:=by
      have:=uO [c] t
      have e3:aQ [c]=c.toNat:=by simp [aQ]
      rw [e3] at this;exact this
     rw [Nat.pow_mul,show (c::t).length - 1=t.length from rfl] at hb
     have:256^t.length≤c.toNat*256^t.length:=Nat.le_mul_of_pos_left _ (by omega)
     have e4:(2:Nat)^8=256:=rfl
     rw [e4,e2] at hb
     omega
  unfold eB
  by_cases hn:1<l.length
  ·have:=hlo hn;omega
  ·omega
 refine ⟨?_,h128,hlen⟩
 unfold eQ
 rw [hlen,tC]
theorem Ge:BW rV kE ib where
 fw v E h hn r:=by
  obtain ⟨rfl,h⟩:=h
  have h:v<2^128:=h
  have h16:=ol h
  have h1:=vg v
  have hl:=lT v
  have hb:(b0 (jh v++r)).toNat=eB v:=by
   show (UInt8.ofNat (eB v)).toNat=eB v
   rw [UInt8.toNat_ofNat'];exact Nat.mod_eq_of_lt (by omega)
  have hd:((jh v++r).take (1+eB v)).drop 1=eQ v:=by
   show ((UInt8.ofNat (eB v)::(eQ v++r)).take (1+eB v)).drop 1=_
   rw [Nat.add_comm,List.take_succ_cons,List.drop_succ_cons,List.drop_zero,List.take_append_of_le_length (by omega),List.take_of_length_le (by omega)]
  have hr:(jh v++r).drop (1+eB v)=r:=by
   show (UInt8.ofNat (eB v)::(eQ v++r)).drop (1+eB v)=_
   rw [Nat.add_comm,List.drop_succ_cons,List.drop_append_of_le_length (by omega),List.drop_of_length_le (by omega)];rfl
  have hlen:(jh v++r).length=1+eB v+r.length:=by simp [jh,hl];omega
  show dx (.any,jh v++r,0)=_
  unfold dx
  dsimp only
  rw [if_neg (by simp),if_neg (by omega),hb,if_neg (by omega),if_neg (by omega),hd,t6 h,if_neg (by simp),hr]
 bw b a m r h:=by
  change dx _=_ at h
  unfold dx at h
  dsimp only at h
  rw [if_neg (by simp)] at h
  split at h
  ·simp at h
  split at h
  ·simp at h
  split at h
  ·simp at h
  split at h
  ·simp at h
  rename_i h1 h2 h3 h4
  simp only [Prod.mk.injEq,and_true] at h
  obtain ⟨rfl,rfl,rfl⟩:=h
  have hp:ey ((b.take (1+(b0 b).toNat)).drop 1)=((ey ((b.take (1+(b0 b).toNat)).drop 1)).1,0):=Prod.ext rfl (Classical.not_not.1 h4)
  obtain ⟨k1,k2,k3⟩:=uh hp
  generalize (ey ((b.take (1+(b0 b).toNat)).drop 1)).1=v at *
  refine ⟨rfl,_,⟨rfl,k2⟩,⟨rfl,rfl,rfl⟩,?_⟩
  cases b with
  |nil=>simp at h1
  |cons c t =>
   have hc:b0 (c::t)=c:=rfl
   rw [hc] at h2 h3 k1 k3 ⊢
   have e1:((c::t).take (1+c.toNat)).drop 1=t.take c.toNat:=by rw [Nat.add_comm,List.take_succ_cons,List.drop_succ_cons,List.drop_zero]
   have e2:(c::t).drop (1+c.toNat)=t.drop c.toNat:=by rw [Nat.add_comm,List.drop_succ_cons]
   rw [e1] at k1 k3
   rw [e2]
   show c::t=(UInt8.ofNat (eB v)::eQ v)++t.drop c.toNat
   have e3:(t.take c.toNat).length=c.toNat:=by rw [List.length_take];simp at h3;omega
   rw [k1,k3,e3,UInt8.ofNat_toNat,List.cons_append,List.take_append_drop]
 go:=rV_go
theorem plain_bad {s:List UInt8}:ij s=true↔s.any iR=false:=by
 unfold ij
 rw [List.all_eq_true,List.any_eq_false]
 constructor
 ·intro h c hc
  have:=h c hc
  unfold iR
  simp only [Bool.not_eq_true',Bool.or_eq_false_iff,decide_eq_false_iff_not] at this
  simp only [Bool.not_eq_true,Bool.or_eq_false_iff,decide_eq_false_iff_not]
  omega
 ·intro h c hc
  have:=h c hc
  unfold iR at this
  simp only [Bool.not_eq_true,Bool.or_eq_false_iff,decide_eq_false_iff_not] at this
  simp only [Bool.not_eq_true',Bool.or_eq_false_iff,decide_eq_false_iff_not]
  omega
theorem sJ {s:List UInt8} (h:s.length≤65535):iL s=be ((s.length:Nat):Int) 2++s:=by
 unfold iL
 have h1:min (s.length:Int) 65535=(s.length:Int):=by omega
 rw [h1,iNq,List.take_length]
theorem uy {m:Int} (hm:m≤65535):BW (rT m) (fun s=>ld s m) bS where
 fw s E h hn r:=by
  obtain ⟨rfl,_⟩:=h
  have h1:¬ (s.length:Int) > m:=of_decide_eq_false hn.1
  have h2:ij s=true:=plain_bad.2 hn.2.1
  obtain ⟨k1,k2,k3⟩:=uT s.length 2 (s++r) (by decide) (by omega)
  have hb:ig (.any,iL s++r,0) m=(s,.any,r,0):=by
   rw [sJ (by omega),List.append_assoc]
   have hl:=lK (s.length:Int) 2
   have hsr:(s++r).length=s.length+r.length:=lAq
   unfold ig
   dsimp only
   rw [if_neg (by simp),if_neg (by omega),k1,if_neg (by omega),if_neg (by omega),← List.drop_drop,k2,List.drop_take,k2,Nat.add_sub_cancel_left,List.take_append_of_le_length (nrq _),List.take_length,List.drop_append_of_le_length (nrq _),List.drop_length,List.nil_append]
  show eD (.any,iL s++r,0) m=_
  unfold eD
  rw [hb,if_pos h2]
 bw b a m' r h:=by
  change eD _ _=_ at h
  unfold eD at h
  split at h
  ·rename_i hp
   rw [h] at hp
   unfold ig at h
   dsimp only at h hp
   rw [if_neg (by simp)] at h
   split at h
   ·simp at h
   split at h
   ·simp at h
   split at h
   ·simp at h
   rename_i h1 h2 h3
   simp only [Prod.mk.injEq,and_true] at h
   obtain ⟨rfl,rfl,rfl⟩:=h
   obtain ⟨k1,k2⟩:=w9 (b:=b) (w:=2) (by decide) (by omega)
   have hl:((b.take (2+aQ (b.take 2))).drop 2).length=aQ (b.take 2):=by rw [List.length_drop,List.length_take];omega
   refine ⟨rfl,_,⟨rfl,trivial⟩,⟨?_,plain_bad.1 hp,rfl⟩,?_⟩
   ·show decide (((((b.take (2+aQ (b.take 2))).drop 2).length:Nat):Int) > m)=false
    rw [hl];exact dfq (by omega)
   ·show b=iL _++_
    rw [sJ (by omega),hl,k2,List.drop_take,Nat.add_sub_cancel_left,List.append_assoc,← List.drop_drop,List.take_append_drop,List.take_append_drop]
  ·simp at h
 go:=iC m
theorem Gx {α:Type} {p:RM α} {g:α→Enc} {ok:α→Prop} (h:BW p g ok) (r:List UInt8):∀ l:List α,(∀ a∈l,ok a)→NoF (bD g l)→goX p l.length (.any,(bD g l).b++r,0)=(l,.any,r,0)
 |[],_,_=>rfl
 |a::l,ho,hn=>by
  obtain ⟨n1,n2⟩:=NoF_add.1 hn
  have k1:=h.fw a _ ⟨rfl,ho a List.mem_cons_self⟩ n1 ((bD g l).b++r)
  have k2:=Gx h r l (fun x hx=>ho x (List.mem_cons_of_mem _ hx)) n2
  rw [List.length_cons,goX,bD,zo,List.append_assoc,k1]
  dsimp only
  rw [k2]
theorem GC {α:Type} {p:RM α} {g:α→Enc} {ok:α→Prop} (h:BW p g ok):∀ (n:Nat) (b:List UInt8) (l:List α) (m:Mark) (r:List UInt8),goX p n (.any,b,0)=(l,m,r,0) →
 m=.any∧(∀ a∈l,ok a)∧NoF (bD g l)∧b=(bD g l).b++r
 |0,b,l,m,r,hg=>by cases hg;exact ⟨rfl,(fun a ha=>nomatch ha),Gt,rfl⟩
 |n+1,b,l,m,r,hg=>by
  unfold goX at hg
  obtain ⟨x,m1,r1,e1,hp⟩:∃ x m1 r1 e1,p (.any,b,0)=(x,m1,r1,e1):=⟨_,_,_,_,rfl⟩
  rw [hp] at hg
  dsimp only at hg
  have he:e1=0:=by
   refine Classical.byContradiction fun hc=>?_
   have:=(pl h.go n (m1,r1,e1)).2.2 hc
   have h2:(goX p n (m1,r1,e1)).2=(m,r,0):=congrArg Prod.snd hg
   rw [this] at h2
   cases h2
   exact hc rfl
  subst he
  obtain ⟨rfl,E,⟨rfl,k1⟩,n1,rfl⟩:=h.bw _ _ _ _ hp
  obtain ⟨l2,m2,r2,e2,hq⟩:∃ l2 m2 r2 e2,goX p n (.any,r1,0)=(l2,m2,r2,e2):=⟨_,_,_,_,rfl⟩
  rw [hq] at hg
  cases hg
  obtain ⟨rfl,k2,n2,rfl⟩:=GC h n r1 l2 m r hq
  refine ⟨rfl,fun a ha=>?_,NoF_add.2 ⟨n1,n2⟩,by rw [bD,zo,List.append_assoc]⟩
  rcases List.mem_cons.1 ha with rfl|ha
  ·exact k1
  ·exact k2 a ha
theorem mg {α:Type} {p:RM α} {g:α→Enc} {ok:α→Prop} {m:Int} (hm:m≤65535) (h:BW p g ok):BW (rlX p m) (bC g m) fun l=>∀ a∈l,ok a where
 fw l E k hn r:=by
  obtain ⟨rfl,k⟩:=k
  obtain ⟨n1,n2⟩:=NoF_add.1 hn
  have h1:¬ (l.length:Int) > m:=of_decide_eq_false n1.1
  obtain ⟨k1,k2,k3⟩:=uT l.length 2 ((bD g l).b++r) (by decide) (by omega)
  have hc:bq (.any,(bC g m l).b++r,0) m=(((l.length:Nat):Int),Mark.any,(bD g l).b++r,(0:Int)):=by
   have e:(bC g m l).b++r=be (l.length:Int) 2++((bD g l).b++r):=by
    show (fy (l.length:Int) 2++_)++r=_
    unfold fy
    rw [if_pos (by decide),List.append_assoc];rfl
   rw [e]
   unfold bq
   dsimp only
   rw [if_neg (by simp),if_neg (by omega),k1,if_neg (by omega),k2]
  show goX p _ _=_
  rw [hc]
  exact Gx h r l k n2
 bw b l m' r hg:=by
  change goX p _ _=_ at hg
  have he:(bq (.any,b,0) m).2.2.2=0:=by
   refine Classical.byContradiction fun hc=>?_
   have:=(pl h.go (bq (.any,b,0) m).1.toNat (bq (.any,b,0) m).2).2.2 hc
   have h2:(goX p (bq (.any,b,0) m).1.toNat (bq (.any,b,0) m).2).2=(m',r,0):=congrArg Prod.snd hg
   rw [this] at h2
   rw [h2] at hc
   exact hc rfl
  have hlen:=uP (rd:=p) (bq (.any,b,0) m).1.toNat (bq (.any,b,0) m).2
  rw [hg] at hlen
  dsimp only at hlen
  unfold bq at he hg hlen
  dsimp only at he hg hlen
  rw [if_neg (by simp)] at he hg hlen
  split at he
  ·simp at he
  rename_i h1
  rw [if_neg h1] at hg hlen
  split at he
  ·simp at he
  rename_i h2
  rw [if_neg h2] at hg hlen
  dsimp only at hg hlen
  rw [iNq] at hg hlen
  obtain ⟨k1,k2⟩:=w9 (b:=b) (w:=2) (by decide) (by omega)
  obtain ⟨rfl,j1,j2,j3⟩:=GC h _ _ _ _ _ hg
  refine ⟨rfl,_,⟨rfl,j1⟩,NoF_add.2 ⟨⟨?_,rfl,rfl⟩,j2⟩,?_⟩
  ·show decide ((l.length:Int) > m)=false
   rw [hlen];exact dfq (by omega)
  ·show b=(fy (l.length:Int) 2++(bD g l).b)++r
   unfold fy
   rw [if_pos (by decide),hlen,List.append_assoc,← j3]
   show b=be _ 2++_
   rw [k2,List.take_append_drop]
 go:=ip h.go m
def CS (x:SField):Prop:=bS x.id∧bS x.name∧bS x.bits
theorem Hy:BW (gp) im CS:=by
 refine PC.to (bN (bN (bN (gA _) jQ) (uy (m:=24) (by decide))) u2) (fun y E h=>?_) (fun x h=>?_)
 ·obtain ⟨_,_,x2,⟨_,_,x1,⟨_,_,x0,⟨rfl,rfl⟩,k0,rfl,rfl⟩,k1,rfl,rfl⟩,k2,rfl,rfl⟩:=h
  exact ⟨by simp only [im,cb,mkS,am,bT,fh],k0,k1,k2⟩
 ·obtain ⟨k0,k1,k2⟩:=h
  refine ⟨_,_,x.bits,⟨_,_,x.name,⟨_,_,x.id,⟨rfl,rfl⟩,k0,rfl,rfl⟩,k1,rfl,rfl⟩,k2,rfl,?_⟩
  simp only [im,cb,am,bT,fh]
def D2 (x:SHeader):Prop:=bS x.id∧bS x.name∧(fun l=>∀ a∈l,bS a) x.fields
theorem Hi:BW (fe LX) fD D2:=by
 refine PC.to (bN (bN (bN (gA _) jQ) (uy (m:=24) (by decide))) (mg (m:=32) (by decide) G0)) (fun y E h=>?_) (fun x h=>?_)
 ·obtain ⟨_,_,x2,⟨_,_,x1,⟨_,_,x0,⟨rfl,rfl⟩,k0,rfl,rfl⟩,k1,rfl,rfl⟩,k2,rfl,rfl⟩:=h
  exact ⟨by simp only [fD,cb,mkS,am,bT,fh],k0,k1,k2⟩
 ·obtain ⟨k0,k1,k2⟩:=h
  refine ⟨_,_,x.fields,⟨_,_,x.name,⟨_,_,x.id,⟨rfl,rfl⟩,k0,rfl,rfl⟩,k1,rfl,rfl⟩,k2,rfl,?_⟩
  simp only [fD,cb,am,bT,fh]
def Cb (x:SCase):Prop:=ib x.value∧ib x.mask∧bS x.next
theorem Hj:BW (gg) me Cb:=by
 refine PC.to (bN (bN (bN (gA _) Ge) Ge) jQ) (fun y E h=>?_) (fun x h=>?_)
 ·obtain ⟨_,_,x2,⟨_,_,x1,⟨_,_,x0,⟨rfl,rfl⟩,k0,rfl,rfl⟩,k1,rfl,rfl⟩,k2,rfl,rfl⟩:=h
  exact ⟨by simp only [me,cb,mkS,am,bT,fh],k0,k1,k2⟩
 ·obtain ⟨k0,k1,k2⟩:=h
  refine ⟨_,_,x.next,⟨_,_,x.mask,⟨_,_,x.value,⟨rfl,rfl⟩,k0,rfl,rfl⟩,k1,rfl,rfl⟩,k2,rfl,?_⟩
  simp only [me,cb,am,bT,fh]
def CR (x:SState):Prop:=bS x.id∧bS x.header∧bS x.select∧(fun l=>∀ a∈l,Cb a) x.cases∧bS x.dflt
theorem Hr:BW (fb LX) iK CR:=by
 refine PC.to (bN (bN (bN (bN (bN (gA _) jQ) jQ) jQ) (mg (m:=6) (by decide) Hj)) jQ) (fun y E h=>?_) (fun x h=>?_)
 ·obtain ⟨_,_,x4,⟨_,_,x3,⟨_,_,x2,⟨_,_,x1,⟨_,_,x0,⟨rfl,rfl⟩,k0,rfl,rfl⟩,k1,rfl,rfl⟩,k2,rfl,rfl⟩,k3,rfl,rfl⟩,k4,rfl,rfl⟩:=h
  exact ⟨by simp only [iK,cb,mkS,am,bT,fh],k0,k1,k2,k3,k4⟩
 ·obtain ⟨k0,k1,k2,k3,k4⟩:=h
  refine ⟨_,_,x.dflt,⟨_,_,x.cases,⟨_,_,x.select,⟨_,_,x.header,⟨_,_,x.id,⟨rfl,rfl⟩,k0,rfl,rfl⟩,k1,rfl,rfl⟩,k2,rfl,rfl⟩,k3,rfl,rfl⟩,k4,rfl,?_⟩
  simp only [iK,cb,am,bT,fh]
def DO (x:SParam):Prop:=bS x.name∧bS x.bits
theorem GK:BW (gt) jx DO:=by
 refine PC.to (bN (bN (gA _) (uy (m:=24) (by decide))) u2) (fun y E h=>?_) (fun x h=>?_)
 ·obtain ⟨_,_,x1,⟨_,_,x0,⟨rfl,rfl⟩,k0,rfl,rfl⟩,k1,rfl,rfl⟩:=h
  exact ⟨by simp only [jx,cb,mkS,am,bT,fh],k0,k1⟩
 ·obtain ⟨k0,k1⟩:=h
  refine ⟨_,_,x.bits,⟨_,_,x.name,⟨rfl,rfl⟩,k0,rfl,rfl⟩,k1,rfl,?_⟩
  simp only [jx,cb,am,bT,fh]
def EO (x:SPrim):Prop:=bS x.op∧bS x.dst∧bS x.kind∧bS x.n∧ib x.value
theorem GT:BW (gq) ma EO:=by
 refine PC.to (bN (bN (bN (bN (bN (gA _) u2) jQ) u2) jQ) Ge) (fun y E h=>?_) (fun x h=>?_)
 ·obtain ⟨_,_,x4,⟨_,_,x3,⟨_,_,x2,⟨_,_,x1,⟨_,_,x0,⟨rfl,rfl⟩,k0,rfl,rfl⟩,k1,rfl,rfl⟩,k2,rfl,rfl⟩,k3,rfl,rfl⟩,k4,rfl,rfl⟩:=h
  exact ⟨by simp only [ma,cb,mkS,am,bT,fh],k0,k1,k2,k3,k4⟩
 ·obtain ⟨k0,k1,k2,k3,k4⟩:=h
  refine ⟨_,_,x.value,⟨_,_,x.n,⟨_,_,x.kind,⟨_,_,x.dst,⟨_,_,x.op,⟨rfl,rfl⟩,k0,rfl,rfl⟩,k1,rfl,rfl⟩,k2,rfl,rfl⟩,k3,rfl,rfl⟩,k4,rfl,?_⟩
  simp only [ma,cb,am,bT,fh]
def D8 (x:SAction):Prop:=bS x.id∧bS x.name∧(fun l=>∀ a∈l,DO a) x.params∧(fun l=>∀ a∈l,EO a) x.body∧bS x.restr
theorem GJ:BW (fg LX) fA D8:=by
 refine PC.to (bN (bN (bN (bN (bN (gA _) jQ) (uy (m:=24) (by decide))) (mg (m:=4) (by decide) GK)) (mg (m:=12) (by decide) GT)) (uy (m:=400) (by decide))) (fun y E h=>?_) (fun x h=>?_)
 ·obtain ⟨_,_,x4,⟨_,_,x3,⟨_,_,x2,⟨_,_,x1,⟨_,_,x0,⟨rfl,rfl⟩,k0,rfl,rfl⟩,k1,rfl,rfl⟩,k2,rfl,rfl⟩,k3,rfl,rfl⟩,k4,rfl,rfl⟩:=h
  exact ⟨by simp only [fA,cb,mkS,am,bT,fh],k0,k1,k2,k3,k4⟩
 ·obtain ⟨k0,k1,k2,k3,k4⟩:=h
  refine ⟨_,_,x.restr,⟨_,_,x.body,⟨_,_,x.params,⟨_,_,x.name,⟨_,_,x.id,⟨rfl,rfl⟩,k0,rfl,rfl⟩,k1,rfl,rfl⟩,k2,rfl,rfl⟩,k3,rfl,rfl⟩,k4,rfl,?_⟩
  simp only [fA,cb,am,bT,fh]
def DR (x:SKey):Prop:=bS x.name∧bS x.field∧bS x.kind
theorem G3:BW (gr) po DR:=by
 refine PC.to (bN (bN (bN (gA _) (uy (m:=24) (by decide))) jQ) u2) (fun y E h=>?_) (fun x h=>?_)
 ·obtain ⟨_,_,x2,⟨_,_,x1,⟨_,_,x0,⟨rfl,rfl⟩,k0,rfl,rfl⟩,k1,rfl,rfl⟩,k2,rfl,rfl⟩:=h
  exact ⟨by simp only [po,cb,mkS,am,bT,fh],k0,k1,k2⟩
 ·obtain ⟨k0,k1,k2⟩:=h
  refine ⟨_,_,x.kind,⟨_,_,x.field,⟨_,_,x.name,⟨rfl,rfl⟩,k0,rfl,rfl⟩,k1,rfl,rfl⟩,k2,rfl,?_⟩
  simp only [po,cb,am,bT,fh]
def Br (x:STable):Prop:=bS x.id∧bS x.name∧(fun l=>∀ a∈l,DR a) x.keys∧(fun l=>∀ a∈l,bS a) x.actions∧bS x.dflt∧(fun l=>∀ a∈l,ib a) x.dargs∧bS x.size∧bS x.restr
theorem GX:BW (fc LX) io Br:=by
 refine PC.to (bN (bN (bN (bN (bN (bN (bN (bN (gA _) jQ) (uy (m:=24) (by decide))) (mg (m:=4) (by decide) G3)) (mg (m:=12) (by decide) G0)) jQ) (mg (m:=4) (by decide) Ge)) jQ) (uy (m:=400) (by decide))) (fun y E h=>?_) (fun x h=>?_)
 ·obtain ⟨_,_,x7,⟨_,_,x6,⟨_,_,x5,⟨_,_,x4,⟨_,_,x3,⟨_,_,x2,⟨_,_,x1,⟨_,_,x0,⟨rfl,rfl⟩,k0,rfl,rfl⟩,k1,rfl,rfl⟩,k2,rfl,rfl⟩,k3,rfl,rfl⟩,k4,rfl,rfl⟩,k5,rfl,rfl⟩,k6,rfl,rfl⟩,k7,rfl,rfl⟩:=h
  exact ⟨by simp only [io,cb,mkS,am,bT,fh],k0,k1,k2,k3,k4,k5,k6,k7⟩
 ·obtain ⟨k0,k1,k2,k3,k4,k5,k6,k7⟩:=h
  refine ⟨_,_,x.restr,⟨_,_,x.size,⟨_,_,x.dargs,⟨_,_,x.dflt,⟨_,_,x.actions,⟨_,_,x.keys,⟨_,_,x.name,⟨_,_,x.id,⟨rfl,rfl⟩,k0,rfl,rfl⟩,k1,rfl,rfl⟩,k2,rfl,rfl⟩,k3,rfl,rfl⟩,k4,rfl,rfl⟩,k5,rfl,rfl⟩,k6,rfl,rfl⟩,k7,rfl,?_⟩
  simp only [io,cb,am,bT,fh]
def BK (x:SStage):Prop:=bS x.table∧bS x.header
theorem Hx:BW (gh) i9 BK:=by
 refine PC.to (bN (bN (gA _) jQ) jQ) (fun y E h=>?_) (fun x h=>?_)
 ·obtain ⟨_,_,x1,⟨_,_,x0,⟨rfl,rfl⟩,k0,rfl,rfl⟩,k1,rfl,rfl⟩:=h
  exact ⟨by simp only [i9,cb,mkS,am,bT,fh],k0,k1⟩
 ·obtain ⟨k0,k1⟩:=h
  refine ⟨_,_,x.header,⟨_,_,x.table,⟨rfl,rfl⟩,k0,rfl,rfl⟩,k1,rfl,?_⟩
  simp only [i9,cb,am,bT,fh]
def Ch (x:SGrant):Prop:=bS x.table∧bS x.read∧bS x.write∧(fun l=>∀ a∈l,bS a) x.keys
theorem G9:BW (eY LX) jP Ch:=by
 refine PC.to (bN (bN (bN (bN (gA _) jQ) Gl) Gl) (mg (m:=4) (by decide) Gl)) (fun y E h=>?_) (fun x h=>?_)
 ·obtain ⟨_,_,x3,⟨_,_,x2,⟨_,_,x1,⟨_,_,x0,⟨rfl,rfl⟩,k0,rfl,rfl⟩,k1,rfl,rfl⟩,k2,rfl,rfl⟩,k3,rfl,rfl⟩:=h
  exact ⟨by simp only [jP,cb,mkS,am,bT,fh],k0,k1,k2,k3⟩
 ·obtain ⟨k0,k1,k2,k3⟩:=h
  refine ⟨_,_,x.keys,⟨_,_,x.write,⟨_,_,x.read,⟨_,_,x.table,⟨rfl,rfl⟩,k0,rfl,rfl⟩,k1,rfl,rfl⟩,k2,rfl,rfl⟩,k3,rfl,?_⟩
  simp only [jP,cb,am,bT,fh]
def Ck (x:SRole):Prop:=bS x.id∧bS x.name∧(fun l=>∀ a∈l,Ch a) x.grants∧(fun l=>∀ a∈l,bS a) x.actions∧bS x.quota∧bS x.audit
theorem Hf:BW (eZ LX) jU Ck:=by
 refine PC.to (bN (bN (bN (bN (bN (bN (gA _) jQ) (uy (m:=24) (by decide))) (mg (m:=8) (by decide) G9)) (mg (m:=12) (by decide) G0)) jQ) Gl) (fun y E h=>?_) (fun x h=>?_)
 ·obtain ⟨_,_,x5,⟨_,_,x4,⟨_,_,x3,⟨_,_,x2,⟨_,_,x1,⟨_,_,x0,⟨rfl,rfl⟩,k0,rfl,rfl⟩,k1,rfl,rfl⟩,k2,rfl,rfl⟩,k3,rfl,rfl⟩,k4,rfl,rfl⟩,k5,rfl,rfl⟩:=h
  exact ⟨by simp only [jU,cb,mkS,am,bT,fh],k0,k1,k2,k3,k4,k5⟩
 ·obtain ⟨k0,k1,k2,k3,k4,k5⟩:=h
  refine ⟨_,_,x.audit,⟨_,_,x.quota,⟨_,_,x.actions,⟨_,_,x.grants,⟨_,_,x.name,⟨_,_,x.id,⟨rfl,rfl⟩,k0,rfl,rfl⟩,k1,rfl,rfl⟩,k2,rfl,rfl⟩,k3,rfl,rfl⟩,k4,rfl,rfl⟩,k5,rfl,?_⟩
  simp only [jU,cb,am,bT,fh]
def BC (x:SRef):Prop:=bS x.table∧bS x.key∧bS x.action∧bS x.param∧bS x.toTable∧bS x.toKey
theorem GM:BW (gk) nE BC:=by
 refine PC.to (bN (bN (bN (bN (bN (bN (gA _) jQ) u2) jQ) u2) jQ) u2) (fun y E h=>?_) (fun x h=>?_)
 ·obtain ⟨_,_,x5,⟨_,_,x4,⟨_,_,x3,⟨_,_,x2,⟨_,_,x1,⟨_,_,x0,⟨rfl,rfl⟩,k0,rfl,rfl⟩,k1,rfl,rfl⟩,k2,rfl,rfl⟩,k3,rfl,rfl⟩,k4,rfl,rfl⟩,k5,rfl,rfl⟩:=h
  exact ⟨by simp only [nE,cb,mkS,am,bT,fh],k0,k1,k2,k3,k4,k5⟩
 ·obtain ⟨k0,k1,k2,k3,k4,k5⟩:=h
  refine ⟨_,_,x.toKey,⟨_,_,x.toTable,⟨_,_,x.param,⟨_,_,x.action,⟨_,_,x.key,⟨_,_,x.table,⟨rfl,rfl⟩,k0,rfl,rfl⟩,k1,rfl,rfl⟩,k2,rfl,rfl⟩,k3,rfl,rfl⟩,k4,rfl,rfl⟩,k5,rfl,?_⟩
  simp only [nE,cb,am,bT,fh]
def rp (x:Sch):Prop:=bS x.maxBatch∧bS x.budget∧(fun l=>∀ a∈l,CS a) x.fields∧(fun l=>∀ a∈l,D2 a) x.headers∧(fun l=>∀ a∈l,CR a) x.states∧(fun l=>∀ a∈l,D8 a) x.actions∧(fun l=>∀ a∈l,Br a) x.tables∧(fun l=>∀ a∈l,BK a) x.stages∧(fun l=>∀ a∈l,Ck a) x.roles∧(fun l=>∀ a∈l,BC a) x.refs
theorem bw_Sch:BW (kN LX) dr rp:=by
 refine PC.to (bN (bN (bN (bN (bN (bN (bN (bN (bN (bN (gA _) jQ) jQ) (mg (m:=32) (by decide) Hy)) (mg (m:=8) (by decide) Hi)) (mg (m:=12) (by decide) Hr)) (mg (m:=12) (by decide) GJ)) (mg (m:=8) (by decide) GX)) (mg (m:=12) (by decide) Hx)) (mg (m:=6) (by decide) Hf)) (mg (m:=8) (by decide) GM)) (fun y E h=>?_) (fun x h=>?_)
 ·obtain ⟨_,_,x9,⟨_,_,x8,⟨_,_,x7,⟨_,_,x6,⟨_,_,x5,⟨_,_,x4,⟨_,_,x3,⟨_,_,x2,⟨_,_,x1,⟨_,_,x0,⟨rfl,rfl⟩,k0,rfl,rfl⟩,k1,rfl,rfl⟩,k2,rfl,rfl⟩,k3,rfl,rfl⟩,k4,rfl,rfl⟩,k5,rfl,rfl⟩,k6,rfl,rfl⟩,k7,rfl,rfl⟩,k8,rfl,rfl⟩,k9,rfl,rfl⟩:=h
  exact ⟨by simp only [dr,cb,mkS,am,bT,fh],k0,k1,k2,k3,k4,k5,k6,k7,k8,k9⟩
 ·obtain ⟨k0,k1,k2,k3,k4,k5,k6,k7,k8,k9⟩:=h
  refine ⟨_,_,x.refs,⟨_,_,x.roles,⟨_,_,x.stages,⟨_,_,x.tables,⟨_,_,x.actions,⟨_,_,x.states,⟨_,_,x.headers,⟨_,_,x.fields,⟨_,_,x.budget,⟨_,_,x.maxBatch,⟨rfl,rfl⟩,k0,rfl,rfl⟩,k1,rfl,rfl⟩,k2,rfl,rfl⟩,k3,rfl,rfl⟩,k4,rfl,rfl⟩,k5,rfl,rfl⟩,k6,rfl,rfl⟩,k7,rfl,rfl⟩,k8,rfl,rfl⟩,k9,rfl,?_⟩
  simp only [dr,cb,am,bT,fh]
theorem Hz {x:Sch} (hx:rp x) (hn:NoF (dr x)) (hl:(dr x).b.length≤8000):nO (dr x).b=(x,0):=by
 have h:=bw_Sch.fw x _ ⟨rfl,hx⟩ hn []
 rw [List.append_nil] at h
 unfold nO
 rw [if_neg (by omega)]
 unfold ut
 rw [h]
 rfl
theorem GR {b:List UInt8} {y:Sch} (h:nO b=(y,0)):(dr y).b=b∧NoF (dr y)∧rp y∧b.length≤8000:=by
 unfold nO at h
 split at h
 ·simp at h
 rename_i hl
 unfold ut at h
 split at h
 ·rename_i h1;simp only [Prod.mk.injEq] at h;exact absurd h.2 h1
 rename_i h1
 have h1:=Classical.not_not.1 h1
 obtain ⟨a,m,r,e,hp⟩:∃ a m r e,kN LX (.any,b,0)=(a,m,r,e):=⟨_,_,_,_,rfl⟩
 rw [hp] at h h1
 simp only [Prod.mk.injEq,and_true] at h
 subst h
 have he:=GA h1
 dsimp only at he
 subst he
 have hr:r=[]:=by
  unfold gy at h1
  split at h1
  ·cases h1
  ·rename_i h2
   refine List.eq_nil_of_length_eq_zero ?_
   rcases Nat.eq_zero_or_pos r.length with h3|h3
   ·exact h3
   ·exact absurd ⟨rfl,h3⟩ h2
 subst hr
 obtain ⟨_,E,⟨rfl,k1⟩,k2,k3⟩:=bw_Sch.bw _ _ _ _ hp
 rw [List.append_nil] at k3
 exact ⟨k3.symm,k2,k1,by omega⟩
theorem F1 {x:Sch} (h:OkSch x):rp x :=
 ⟨trivial,trivial,fun a _=>⟨trivial,trivial,trivial⟩,fun a _=>⟨trivial,trivial,fun _ _=>trivial⟩,fun a ha=>⟨trivial,trivial,trivial,fun c hc=>⟨(h.s a ha c hc).1,(h.s a ha c hc).2,trivial⟩,trivial⟩,
  fun a ha=>⟨trivial,trivial,fun _ _=>⟨trivial,trivial⟩,fun p hp=>⟨trivial,trivial,trivial,trivial,(h.a a ha).2.2.1 p hp⟩,trivial⟩,
  fun a ha=>⟨trivial,trivial,fun _ _=>⟨trivial,trivial,trivial⟩,fun _ _=>trivial,trivial,(h.t a ha).2.2.1,trivial,trivial⟩,fun _ _=>⟨trivial,trivial⟩,
  fun a _=>⟨trivial,trivial,fun _ _=>⟨trivial,trivial,trivial,fun _ _=>trivial⟩,fun _ _=>trivial,trivial,trivial⟩,fun _ _=>⟨trivial,trivial,trivial,trivial,trivial,trivial⟩⟩
theorem FJ {x:Sch} (h:OkSch x) (h1:(dr x).l=false) (h2:(dr x).f=false) (h3:(dr x).a=false) (hl:(dr x).b.length≤8000):nO (dr x).b=(x,0) :=
 Hz (F1 h) ⟨h1,h2,h3⟩ hl
end Go.AL
