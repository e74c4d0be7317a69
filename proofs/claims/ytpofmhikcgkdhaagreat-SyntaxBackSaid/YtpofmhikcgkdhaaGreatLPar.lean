/- Lemmas of the proof; no condition. -/
import Derived.Test.YtpofmhikcgkdhaaGreatLSyn
import Derived.Test.YtpofmhikcgkdhaaGreatLSyn2
set_option linter.all false
open Go Go.AL
namespace Go.AL
structure Within (l l':List Tok) (k:Nat):Prop where
 same:∀ p,p<l.length→(l'[p+k]?).map (fun x=>(x.1,x.2.1))=(l[p]?).map (fun x=>(x.1,x.2.1))
 after:l'[l.length+k]?=none∨∃ z,l'[l.length+k]?=some (3,[41],z)
theorem wv {l l':List Tok} {p p':Nat} {s:List UInt8} (h:(l'[p']?).map (fun x=>(x.1,x.2.1))=(l[p]?).map (fun x=>(x.1,x.2.1))):isS l' p' s=isS l p s:=by
 unfold isS
 cases h1:l[p]? with
 |none=>rw [h1] at h;cases h2:l'[p']? with
  |none=>rfl
  |some y=>rw [h2] at h;cases h
 |some x =>
  rw [h1] at h
  cases h2:l'[p']? with
  |none=>rw [h2] at h;cases h
  |some y =>
   rw [h2] at h
   obtain ⟨a,b,c⟩:=x
   obtain ⟨a',b',c'⟩:=y
   simp only [Option.map_some,Option.some.injEq,Prod.mk.injEq] at h
   obtain ⟨rfl,rfl⟩:=h
   rfl
theorem Within.isS {l l':List Tok} {k p:Nat} {s:List UInt8} (h:Within l l' k) (hs:s≠[41]) (hp:p≤l.length):isS l' (p+k) s=isS l p s:=by
 rcases Nat.lt_or_ge p l.length with h1|h1
 ·exact wv (h.same p h1)
 ·have:p=l.length:=by omega
  subst this
  have e:Go.AL.isS l l.length s=false:=by
   unfold Go.AL.isS;rw [gNq (nrq _)]
  rw [e]
  unfold Go.AL.isS
  rcases h.after with h2|⟨z,h2⟩
  ·rw [h2]
  ·rw [h2]
   show ((3:Nat)==3&&[41]==s)=false
   cases hb:([41]==s) with
   |false=>rfl
   |true=>exact absurd (beq_iff_eq.1 hb).symm hs
theorem Within.par {l l':List Tok} {k p:Nat} (h:Within l l' k) (hp:Go.AL.isS l p [41]=true):Go.AL.isS l' (p+k) [41]=true:=by
 rw [wv (h.same p (bD hp))];exact hp
theorem Within.op {l l':List Tok} {k p:Nat} (h:Within l l' k) (hp:p≤l.length):∀ {ops:List (Nat × List UInt8)},(∀ x∈ops,x.2≠[41])→cv l' (p+k) ops=cv l p ops
 |[],_=>rfl
 |(j,s)::r,hs=>by
  unfold cv
  rw [h.isS (hs (j,s) List.mem_cons_self) hp,Within.op h hp fun x hx=>hs x (List.mem_cons_of_mem _ hx)]
theorem cI {o:Option PR} {K:Nat→Nat→List Nd→Option PR} {a q:Nat} {u:List Nd} (h:dH o K=some (.ok a q u)):∃ a1 p1 t1,o=some (.ok a1 p1 t1)∧K a1 p1 t1=some (.ok a q u):=by
 rcases aK h with ⟨p,_,h2⟩|h2
 ·cases h2
 ·exact h2
theorem tw {l l':List Tok} {k p a q:Nat} {t u:List Nd} (h:Within l l' k) (hp:p≤l.length) (hr:bC l p t=.ok a q u):bC l' (p+k) t=.ok a (q+k) u:=by
 have hlt:p<l.length:=by
  rcases Nat.lt_or_ge p l.length with h1|h1
  ·exact h1
  ·unfold bC at hr;rw [gNq h1] at hr;cases hr
 have hs:=h.same p hlt
 rcases hx:l[p]? with _|⟨kd,x,z⟩
 ·rw [gQq hlt] at hx;cases hx
 rw [hx] at hs
 rcases hx':l'[p+k]? with _|⟨kd',x',z'⟩
 ·rw [hx'] at hs;cases hs
 rw [hx'] at hs
 simp only [Option.map_some,Option.some.injEq,Prod.mk.injEq] at hs
 obtain ⟨rfl,rfl⟩:=hs
 unfold bC at hr ⊢
 rw [hx] at hr
 rw [hx']
 dsimp only at hr ⊢
 have e1:p+k+1=p+1+k:=by omega
 have hc:Go.AL.isS l' (p+k+1) [58,58]=Go.AL.isS l (p+1) [58,58]:=by rw [e1];exact h.isS (by simp) hlt
 rw [hc]
 split at hr
 ·rename_i g;rw [if_pos g];cases hr;rw [e1]
 ·rename_i g;rw [if_neg g]
  split at hr
  ·rename_i g2;rw [if_pos g2]
   split at hr
   ·rename_i g3;rw [if_pos g3];cases hr;rw [e1]
   ·rename_i g3;rw [if_neg g3]
    split at hr
    ·rename_i g4;rw [if_pos g4];cases hr;rw [e1]
    ·rename_i g4;rw [if_neg g4]
     split at hr
     ·rename_i g5
      rw [if_pos g5]
      have hlt5:=bD g5
      rcases hy:l[p+2]? with _|⟨k2,y,z2⟩
      ·rw [hy] at hr;cases hr
      ·rw [hy] at hr
       have hlt6:p+2<l.length:=by
        rcases Nat.lt_or_ge (p+2) l.length with h1|h1
        ·exact h1
        ·rw [gNq h1] at hy;cases hy
       have hs2:=h.same (p+2) hlt6
       rw [hy] at hs2
       rcases hy':l'[p+2+k]? with _|⟨k2',y',z2'⟩
       ·rw [hy'] at hs2;cases hs2
       rw [hy'] at hs2
       simp only [Option.map_some,Option.some.injEq,Prod.mk.injEq] at hs2
       obtain ⟨rfl,rfl⟩:=hs2
       rw [show p+k+2=p+2+k by omega,hy']
       dsimp only at hr ⊢
       split at hr
       ·rename_i g6;rw [if_pos g6];cases hr;rw [show p+k+3=p+3+k by omega]
       ·cases hr
     ·rename_i g5;rw [if_neg g5];cases hr;rw [e1]
  ·cases hr
theorem u4 {l l':List Tok} {k f:Nat} (h:Within l l' k) (ih:∀ rl p t a q u,run l f rl p t=some (.ok a q u)→Good t→dp t rl→p≤l.length→run l' f rl (p+k) t=some (.ok a (q+k) u)) :
 ∀ {rl p t a q u},aZ l (run l f) rl p t=some (.ok a q u)→Good t→dp t rl→p≤l.length→aZ l' (run l' f) rl (p+k) t=some (.ok a (q+k) u):=by
 intro rl p t a q u hr hg hro hp
 have e1:∀ p,p+k+1=p+1+k:=fun p=>by omega
 cases rl<;>simp only [aZ] at hr ⊢
 case imp =>
  obtain ⟨a1,p1,t1,h1,h2⟩:=cI hr
  obtain ⟨k1,k2,k3,k4,k5,k6⟩:=aH _ h1 hg trivial hp
  rw [ih _ _ _ _ _ _ h1 hg trivial hp,bv,h.isS (by simp) k2]
  split at h2
  ·rename_i hc
   rw [if_pos hc,e1]
   obtain ⟨b,p2,t2,h3,h4⟩:=cI h2
   rw [ih _ _ _ _ _ _ h3 k5 trivial (bD hc),bv]
   cases h4;rfl
  ·rename_i hc;rw [if_neg hc];cases h2;rfl
 case or =>
  obtain ⟨a1,p1,t1,h1,h2⟩:=cI hr
  obtain ⟨k1,k2,k3,k4,k5,k6⟩:=aH _ h1 hg trivial hp
  rw [ih _ _ _ _ _ _ h1 hg trivial hp,bv]
  exact ih _ _ _ _ _ _ h2 k5 k1 k2
 case and =>
  obtain ⟨a1,p1,t1,h1,h2⟩:=cI hr
  obtain ⟨k1,k2,k3,k4,k5,k6⟩:=aH _ h1 hg trivial hp
  rw [ih _ _ _ _ _ _ h1 hg trivial hp,bv]
  exact ih _ _ _ _ _ _ h2 k5 k1 k2
 case sum =>
  obtain ⟨a1,p1,t1,h1,h2⟩:=cI hr
  obtain ⟨k1,k2,k3,k4,k5,k6⟩:=aH _ h1 hg trivial hp
  rw [ih _ _ _ _ _ _ h1 hg trivial hp,bv]
  exact ih _ _ _ _ _ _ h2 k5 k1 k2
 case orL x =>
  rw [h.isS (by simp) hp]
  split at hr
  ·rename_i hc
   rw [if_pos hc,e1]
   obtain ⟨b,p2,t2,h3,h4⟩:=cI hr
   obtain ⟨k1,k2,k3,k4,k5,k6⟩:=aH _ h3 hg trivial (bD hc)
   simp only [dp] at hro
   rw [ih _ _ _ _ _ _ h3 hg trivial (bD hc),bv]
   exact ih _ _ _ _ _ _ h4 (k5.snoc (n:=nd2 15 x b) ⟨(show 1≤15 by decide),(show 15≤16 by decide)⟩ (show (0:Nat)<2^128 by decide) (.inr ⟨by simp only [nd2];omega,by simp only [nd2];omega⟩)) (by simp [dp]) k2
  ·rename_i hc;rw [if_neg hc];cases hr;rfl
 case andL x =>
  rw [h.isS (by simp) hp]
  split at hr
  ·rename_i hc
   rw [if_pos hc,e1]
   obtain ⟨b,p2,t2,h3,h4⟩:=cI hr
   obtain ⟨k1,k2,k3,k4,k5,k6⟩:=aH _ h3 hg trivial (bD hc)
   simp only [dp] at hro
   rw [ih _ _ _ _ _ _ h3 hg trivial (bD hc),bv]
   exact ih _ _ _ _ _ _ h4 (k5.snoc (n:=nd2 14 x b) ⟨(show 1≤14 by decide),(show 14≤16 by decide)⟩ (show (0:Nat)<2^128 by decide) (.inr ⟨by simp only [nd2];omega,by simp only [nd2];omega⟩)) (by simp [dp]) k2
  ·rename_i hc;rw [if_neg hc];cases hr;rfl
 case sumL x =>
  rw [h.op hp (by simp [opsS])]
  cases ho:cv l p opsS with
  |some op =>
   rw [ho] at hr
   dsimp only at hr ⊢
   obtain ⟨hlt,so,hso⟩:=dT ho
   obtain ⟨o1,o2⟩:=kB hso
   rw [e1]
   obtain ⟨b,p2,t2,h3,h4⟩:=cI hr
   obtain ⟨k1,k2,k3,k4,k5,k6⟩:=aH _ h3 hg trivial hlt
   simp only [dp] at hro
   rw [ih _ _ _ _ _ _ h3 hg trivial hlt,bv]
   exact ih _ _ _ _ _ _ h4 (k5.snoc (n:=nd2 op x b) ⟨by simp only [nd2];omega,o2⟩ (show (0:Nat)<2^128 by decide) (.inr ⟨by simp only [nd2];omega,by simp only [nd2];omega⟩)) (by simp [dp]) k2
  |none=>rw [ho] at hr;dsimp only at hr ⊢;cases hr;rfl
 case not =>
  rw [h.isS (by simp) hp]
  split at hr
  ·rename_i hc
   rw [if_pos hc,e1]
   obtain ⟨b,p2,t2,h3,h4⟩:=cI hr
   rw [ih _ _ _ _ _ _ h3 hg trivial (bD hc),bv]
   cases h4;rfl
  ·rename_i hc;rw [if_neg hc];exact ih _ _ _ _ _ _ hr hg trivial hp
 case un =>
  rw [h.isS (by simp) hp]
  split at hr
  ·rename_i hc
   rw [if_pos hc,e1]
   obtain ⟨b,p2,t2,h3,h4⟩:=cI hr
   rw [ih _ _ _ _ _ _ h3 hg trivial (bD hc),bv]
   cases h4;rfl
  ·rename_i hc;rw [if_neg hc];exact ih _ _ _ _ _ _ hr hg trivial hp
 case cmp =>
  obtain ⟨a1,p1,t1,h1,h2⟩:=cI hr
  obtain ⟨k1,k2,k3,k4,k5,k6⟩:=aH _ h1 hg trivial hp
  rw [ih _ _ _ _ _ _ h1 hg trivial hp,bv,h.op k2 (by simp [opsC])]
  cases ho:cv l p1 opsC with
  |some op =>
   rw [ho] at h2
   dsimp only at h2 ⊢
   obtain ⟨hlt,_⟩:=dT ho
   rw [e1]
   obtain ⟨b,p2,t2,h3,h4⟩:=cI h2
   rw [ih _ _ _ _ _ _ h3 k5 trivial hlt,bv]
   cases h4;rfl
  |none=>rw [ho] at h2;dsimp only at h2 ⊢;cases h2;rfl
 case atom =>
  rw [h.isS (by simp) hp]
  split at hr
  ·rename_i hc
   rw [if_pos hc,e1]
   obtain ⟨b,p2,t2,h3,h4⟩:=cI hr
   rw [ih _ _ _ _ _ _ h3 hg trivial (bD hc),bv]
   split at h4
   ·rename_i hc2;rw [if_pos (h.par hc2)];cases h4;rw [e1]
   ·cases h4
  ·rename_i hc
   rw [if_neg hc,tw h hp (Option.some.inj hr)]
theorem qT {l l':List Tok} {k:Nat} (h:Within l l' k):∀ (f:Nat) (rl:Rl) (p:Nat) (t:List Nd) (a q:Nat) (u:List Nd),run l f rl p t=some (.ok a q u)→Good t→dp t rl→p≤l.length→run l' f rl (p+k) t=some (.ok a (q+k) u)
 |0,_,_,_,_,_,_,hr,_,_,_=>by cases hr
 |f+1,rl,p,t,a,q,u,hr,hg,hro,hp=>u4 h (qT h f) hr hg hro hp
theorem xa {l:List Tok} {p:Nat} {s s':List UInt8} (h:isS l p s=true) (hne:s'≠s):isS l p s'=false:=by
 cases h':isS l p s' with
 |false=>rfl
 |true =>
  exfalso
  unfold isS at h h'
  split at h
  ·rename_i k x z e
   rw [e] at h'
   simp only [Bool.and_eq_true,beq_iff_eq] at h h'
   exact hne (by rw [← h.2,h'.2])
  ·cases h
def quiet (l:List Tok) (p:Nat):Prop:=l[p]?=none∨∃ z,l[p]?=some (3,[41],z)
theorem kr {l:List Tok} {p:Nat} {s:List UInt8} (h:quiet l p) (hs:s≠[41]):isS l p s=false:=by
 unfold isS
 rcases h with h2|⟨z,h2⟩
 ·rw [h2]
 ·rw [h2]
  show ((3:Nat)==3&&[41]==s)=false
  cases hb:([41]==s) with
  |false=>rfl
  |true=>exact absurd (beq_iff_eq.1 hb).symm hs
theorem pG {l:List Tok} {p:Nat} (h:quiet l p):∀ {ops:List (Nat × List UInt8)},(∀ x∈ops,x.2≠[41])→cv l p ops=none
 |[],_=>rfl
 |(j,s)::r,hs=>by
  unfold cv
  rw [kr h (hs (j,s) List.mem_cons_self),if_neg (by simp),pG h fun x hx=>hs x (List.mem_cons_of_mem _ hx)]
theorem wrap {l:List Tok} {F j q a:Nat} {t t':List Nd} (h1:isS l j [40]=true) (hF:run l F .imp (j+1) t=some (.ok a q t')) (h2:isS l q [41]=true) (h3:quiet l (q+1)) :
 run l (F+8) .imp j t=some (.ok a (q+1) t'):=by
 have a0:run l (F+1) .atom j t=some (.ok a (q+1) t'):=by
  show aZ l (run l F) .atom j t=_
  simp only [aZ]
  rw [if_pos h1,hF,bv,if_pos h2]
 have a1:run l (F+2) .un j t=some (.ok a (q+1) t'):=by
  show aZ l (run l (F+1)) .un j t=_
  simp only [aZ]
  rw [xa h1 (by simp),if_neg (by simp)];exact a0
 have a2:run l (F+3) .sum j t=some (.ok a (q+1) t'):=by
  show aZ l (run l (F+2)) .sum j t=_
  simp only [aZ]
  rw [a1,bv]
  show aZ l (run l (F+1)) (.sumL a) (q+1) t'=_
  simp only [aZ]
  rw [pG h3 (by simp [opsS])]
 have a3:run l (F+4) .cmp j t=some (.ok a (q+1) t'):=by
  show aZ l (run l (F+3)) .cmp j t=_
  simp only [aZ]
  rw [a2,bv,pG h3 (by simp [opsC])]
 have a4:run l (F+5) .not j t=some (.ok a (q+1) t'):=by
  show aZ l (run l (F+4)) .not j t=_
  simp only [aZ]
  rw [xa h1 (by simp),if_neg (by simp)];exact a3
 have a5:run l (F+6) .and j t=some (.ok a (q+1) t'):=by
  show aZ l (run l (F+5)) .and j t=_
  simp only [aZ]
  rw [a4,bv]
  show aZ l (run l (F+4)) (.andL a) (q+1) t'=_
  simp only [aZ]
  rw [kr h3 (by simp),if_neg (by simp)]
 have a6:run l (F+7) .or j t=some (.ok a (q+1) t'):=by
  show aZ l (run l (F+6)) .or j t=_
  simp only [aZ]
  rw [a5,bv]
  show aZ l (run l (F+5)) (.orL a) (q+1) t'=_
  simp only [aZ]
  rw [kr h3 (by simp),if_neg (by simp)]
 show aZ l (run l (F+7)) .imp j t=_
 simp only [aZ]
 rw [a6,bv,kr h3 (by simp),if_neg (by simp)]
structure Wrapped (l l':List Tok) (k:Nat):Prop where
 len:l'.length=l.length+2*k
 opens:∀ j,j<k→isS l' j [40]=true
 same:∀ p,p<l.length→(l'[p+k]?).map (fun x=>(x.1,x.2.1))=(l[p]?).map (fun x=>(x.1,x.2.1))
 closes:∀ j,j<k→∃ z,l'[l.length+k+j]?=some (3,[41],z)
theorem Wrapped.quiet {l l':List Tok} {k i:Nat} (h:Wrapped l l' k) (hi:i≤k):Go.AL.quiet l' (l.length+k+i):=by
 rcases Nat.lt_or_ge i k with h1|h1
 ·exact .inr (h.closes i h1)
 ·exact .inl (gNq (by have:=h.len;omega))
theorem Wrapped.run {l l':List Tok} {k f a:Nat} {t:List Nd} (h:Wrapped l l' k) (hr:Go.AL.run l f .imp 0 []=some (.ok a l.length t)):∃ F,Go.AL.run l' F .imp 0 []=some (.ok a l'.length t):=by
 have hw:Within l l' k:=⟨h.same,by have:=h.quiet (Nat.zero_le k);exact this⟩
 have h0:=qT hw f _ _ _ _ _ _ hr Good.nil trivial (Nat.zero_le _)
 have key:∀ i,i≤k→∃ F,Go.AL.run l' F .imp (k - i) []=some (.ok a (l.length+k+i) t):=by
  intro i
  induction i with
  |zero=>intro _;exact ⟨f,by simpa using h0⟩
  |succ i ih =>
   intro hi
   obtain ⟨F,hF⟩:=ih (by omega)
   obtain ⟨z,hz⟩:=h.closes i (by omega)
   have hc:isS l' (l.length+k+i) [41]=true:=by unfold isS;rw [hz];rfl
   refine ⟨F+8,wrap (h.opens _ (by omega)) (by rw [show k - (i+1)+1=k - i by omega];exact hF) hc (h.quiet hi)⟩
 obtain ⟨F,hF⟩:=key k (nrq _)
 exact ⟨F,by rw [h.len,Nat.two_mul,← Nat.add_assoc];simpa using hF⟩
def par (k:Nat) (s:List UInt8):List UInt8:=List.replicate k 40++s++List.replicate k 41
end Go.AL
