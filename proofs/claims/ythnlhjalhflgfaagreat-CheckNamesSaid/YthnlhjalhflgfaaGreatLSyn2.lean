/- Lemmas of the proof; no condition. -/
import Derived.Test.YthnlhjalhflgfaaGreatLSyn
import Derived.Test.YthnlhjalhflgfaaGreatS07c
set_option linter.all false
open Go Go.AL
namespace Go.AL
def tot (l:List Tok) (rl:Rl) (p:Nat) (t:List Nd):Prop:=∃ f r,run l f rl p t=some r
def kf:Rl→Nat
 |.imp=>7|.or=>6|.and=>5|.not=>4|.cmp=>3|.sum=>2|.un=>1
 |_=>0
theorem mG {l:List Tok} {rl:Rl} {p:Nat} {t:List Nd} {g:Nat} {r:PR} (h:jf l (run l g) rl p t=some r):tot l rl p t:=⟨g+1,r,h⟩
theorem gy {l:List Tok} {rl rl1:Rl} {p p1:Nat} {t t1:List Nd} {k:(Rl→Nat→List Nd→Option PR)→Nat→Nat→List Nd→Option PR}
 (hm:∀ f g a p t r,f≤g→k (run l f) a p t=some r→k (run l g) a p t=some r)
 (h1:tot l rl1 p1 t1) (he:∀ g,jf l (run l g) rl p t=gT (run l g rl1 p1 t1) (k (run l g)))
 (h2:∀ f a p2 t2,run l f rl1 p1 t1=some (.ok a p2 t2)→∃ g r,k (run l g) a p2 t2=some r):tot l rl p t:=by
 obtain ⟨f,r,hf⟩:=h1
 cases r with
 |bad q=>exact mG (g:=f) (r:=.bad q) (by rw [he,hf];rfl)
 |ok a p2 t2 =>
  obtain ⟨g,r,hg⟩:=h2 f a p2 t2 hf
  refine mG (g:=max f g) (r:=r) ?_
  rw [he,iA (Nat.le_max_left f g) hf]
  exact hm _ _ _ _ _ _ (Nat.le_max_right f g) hg
theorem rS {l:List Tok} {f g:Nat} (h:f≤g) {rl:Rl} {p:Nat} {t:List Nd} {k k':Nat→Nat→List Nd→Option PR} (hk:∀ a p t r,k a p t=some r→k' a p t=some r) {r:PR} (h2:gT (run l f rl p t) k=some r):gT (run l g rl p t) k'=some r:=by
 rcases dk h2 with ⟨q,e,rfl⟩|⟨a,p,t,e,e2⟩
 ·rw [iA h e];rfl
 ·rw [iA h e];exact hk _ _ _ _ e2
theorem zN (l:List Tok):∀ (n:Nat) (rl:Rl) (p:Nat) (t:List Nd),Good t→kI t rl→p≤l.length→(l.length - p)*8+kf rl<n→tot l rl p t
 |0,_,_,_,_,_,_,h=>by omega
 |n+1,rl,p,t,hg,hro,hp,hn=>by
  have IH:=zN l n
  cases rl with
  |imp =>
   refine gy (rl1:=.or) (p1:=p) (t1:=t) (k:=fun rec a p t=>if isS l p [45,62] then gT (rec .imp (p+1) t) fun b p t=>some (.ok t.length p (t++[nd2 16 a b])) else some (.ok a p t)) ?_ (IH .or p t hg trivial hp (by simp only [kf] at hn ⊢;omega)) (fun g=>rfl) ?_
   ·intro f g a p t r hfg h
    try dsimp only at h ⊢
    split at h
    ·rename_i hc;rw [if_pos hc];exact rS hfg (fun _ _ _ _ h=>h) h
    ·rename_i hc;rw [if_neg hc];exact h
   ·intro f a p2 t2 hf
    obtain ⟨k1,k2,k3,k4,k5,k6⟩:=iE _ hf hg trivial hp
    simp only [Rl.isL,Bool.false_eq_true,if_false] at k4
    try dsimp only
    by_cases hc:isS l p2 [45,62]=true
    ·have hlt:=ib hc
     obtain ⟨g,r,h3⟩:=IH .imp (p2+1) t2 k5 trivial (by omega) (by simp only [kf] at hn ⊢;omega)
     cases r with
     |bad q=>exact ⟨g,.bad q,by rw [if_pos hc,h3];rfl⟩
     |ok b p3 t3=>exact ⟨g,_,by rw [if_pos hc,h3];rfl⟩
    ·exact ⟨0,_,by rw [if_neg hc]⟩
  |or =>
   refine gy (rl1:=.and) (p1:=p) (t1:=t) (k:=fun rec a p t=>rec (.orL a) p t) (fun f g a p t r hfg h=>iA hfg h) (IH .and p t hg trivial hp (by simp only [kf] at hn ⊢;omega)) (fun g=>rfl) ?_
   intro f a p2 t2 hf
   obtain ⟨k1,k2,k3,k4,k5,k6⟩:=iE _ hf hg trivial hp
   simp only [Rl.isL,Bool.false_eq_true,if_false] at k4
   exact IH (.orL a) p2 t2 k5 k1 k2 (by simp only [kf] at hn ⊢;omega)
  |and =>
   refine gy (rl1:=.not) (p1:=p) (t1:=t) (k:=fun rec a p t=>rec (.andL a) p t) (fun f g a p t r hfg h=>iA hfg h) (IH .not p t hg trivial hp (by simp only [kf] at hn ⊢;omega)) (fun g=>rfl) ?_
   intro f a p2 t2 hf
   obtain ⟨k1,k2,k3,k4,k5,k6⟩:=iE _ hf hg trivial hp
   simp only [Rl.isL,Bool.false_eq_true,if_false] at k4
   exact IH (.andL a) p2 t2 k5 k1 k2 (by simp only [kf] at hn ⊢;omega)
  |sum =>
   refine gy (rl1:=.un) (p1:=p) (t1:=t) (k:=fun rec a p t=>rec (.sumL a) p t) (fun f g a p t r hfg h=>iA hfg h) (IH .un p t hg trivial hp (by simp only [kf] at hn ⊢;omega)) (fun g=>rfl) ?_
   intro f a p2 t2 hf
   obtain ⟨k1,k2,k3,k4,k5,k6⟩:=iE _ hf hg trivial hp
   simp only [Rl.isL,Bool.false_eq_true,if_false] at k4
   exact IH (.sumL a) p2 t2 k5 k1 k2 (by simp only [kf] at hn ⊢;omega)
  |orL a =>
   by_cases hc:isS l p [124,124]=true
   ·have hlt:=ib hc
    refine gy (rl1:=.and) (p1:=p+1) (t1:=t) (k:=fun rec b p t=>rec (.orL t.length) p (t++[nd2 15 a b])) (fun f g a p t r hfg h=>iA hfg h) (IH .and (p+1) t hg trivial hlt (by simp only [kf] at hn ⊢;omega)) (fun g=>by simp only [jf];rw [if_pos hc]) ?_
    intro f b p2 t2 hf
    obtain ⟨k1,k2,k3,k4,k5,k6⟩:=iE _ hf hg trivial hlt
    simp only [Rl.isL,Bool.false_eq_true,if_false] at k4
    simp only [kI] at hro
    exact IH (.orL t2.length) p2 _ (k5.snoc (n:=nd2 15 a b) ⟨(show 1≤15 by decide),(show 15≤16 by decide)⟩ (show (0:Nat)<2^128 by decide) (.inr ⟨by simp only [nd2];omega,by simp only [nd2];omega⟩)) (by simp [kI]) k2 (by simp only [kf] at hn ⊢;omega)
   ·exact mG (g:=0) (r:=.ok a p t) (by simp only [jf];rw [if_neg hc])
  |andL a =>
   by_cases hc:isS l p [38,38]=true
   ·have hlt:=ib hc
    refine gy (rl1:=.not) (p1:=p+1) (t1:=t) (k:=fun rec b p t=>rec (.andL t.length) p (t++[nd2 14 a b])) (fun f g a p t r hfg h=>iA hfg h) (IH .not (p+1) t hg trivial hlt (by simp only [kf] at hn ⊢;omega)) (fun g=>by simp only [jf];rw [if_pos hc]) ?_
    intro f b p2 t2 hf
    obtain ⟨k1,k2,k3,k4,k5,k6⟩:=iE _ hf hg trivial hlt
    simp only [Rl.isL,Bool.false_eq_true,if_false] at k4
    simp only [kI] at hro
    exact IH (.andL t2.length) p2 _ (k5.snoc (n:=nd2 14 a b) ⟨(show 1≤14 by decide),(show 14≤16 by decide)⟩ (show (0:Nat)<2^128 by decide) (.inr ⟨by simp only [nd2];omega,by simp only [nd2];omega⟩)) (by simp [kI]) k2 (by simp only [kf] at hn ⊢;omega)
   ·exact mG (g:=0) (r:=.ok a p t) (by simp only [jf];rw [if_neg hc])
  |sumL a =>
   cases hc:wm l p K9 with
   |some op =>
    obtain ⟨hlt,so,hso⟩:=po hc
    obtain ⟨o1,o2⟩:=Al hso
    refine gy (rl1:=.un) (p1:=p+1) (t1:=t) (k:=fun rec b p t=>rec (.sumL t.length) p (t++[nd2 op a b])) (fun f g a p t r hfg h=>iA hfg h) (IH .un (p+1) t hg trivial hlt (by simp only [kf] at hn ⊢;omega)) (fun g=>by simp only [jf];rw [hc]) ?_
    intro f b p2 t2 hf
    obtain ⟨k1,k2,k3,k4,k5,k6⟩:=iE _ hf hg trivial hlt
    simp only [Rl.isL,Bool.false_eq_true,if_false] at k4
    simp only [kI] at hro
    exact IH (.sumL t2.length) p2 _ (k5.snoc (n:=nd2 op a b) ⟨by simp only [nd2];omega,o2⟩ (show (0:Nat)<2^128 by decide) (.inr ⟨by simp only [nd2];omega,by simp only [nd2];omega⟩)) (by simp [kI]) k2 (by simp only [kf] at hn ⊢;omega)
   |none=>exact mG (g:=0) (r:=.ok a p t) (by simp only [jf];rw [hc])
  |not =>
   by_cases hc:isS l p [33]=true
   ·have hlt:=ib hc
    refine gy (rl1:=.not) (p1:=p+1) (t1:=t) (k:=fun rec b p t=>some (.ok t.length p (t++[nd2 5 b 0]))) (fun f g a p t r hfg h=>h) (IH .not (p+1) t hg trivial hlt (by simp only [kf] at hn ⊢;omega)) (fun g=>by simp only [jf];rw [if_pos hc]) ?_
    intro f b p2 t2 hf
    exact ⟨0,_,rfl⟩
   ·obtain ⟨f,r,h⟩:=IH .cmp p t hg trivial hp (by simp only [kf] at hn ⊢;omega)
    exact mG (g:=f) (r:=r) (by simp only [jf];rw [if_neg hc,h])
  |un =>
   by_cases hc:isS l p [45]=true
   ·have hlt:=ib hc
    refine gy (rl1:=.un) (p1:=p+1) (t1:=t) (k:=fun rec b p t=>some (.ok t.length p (t++[nd2 4 b 0]))) (fun f g a p t r hfg h=>h) (IH .un (p+1) t hg trivial hlt (by simp only [kf] at hn ⊢;omega)) (fun g=>by simp only [jf];rw [if_pos hc]) ?_
    intro f b p2 t2 hf
    exact ⟨0,_,rfl⟩
   ·obtain ⟨f,r,h⟩:=IH .atom p t hg trivial hp (by simp only [kf] at hn ⊢;omega)
    exact mG (g:=f) (r:=r) (by simp only [jf];rw [if_neg hc,h])
  |cmp =>
   refine gy (rl1:=.sum) (p1:=p) (t1:=t) (k:=fun rec a p t=>match wm l p EN with
    |some op=>gT (rec .sum (p+1) t) fun b p t=>some (.ok t.length p (t++[nd2 op a b]))
    |none=>some (.ok a p t)) ?_ (IH .sum p t hg trivial hp (by simp only [kf] at hn ⊢;omega)) (fun g=>rfl) ?_
   ·intro f g a p t r hfg h
    try dsimp only at h ⊢
    split at h
    ·exact rS hfg (fun _ _ _ _ h=>h) h
    ·exact h
   ·intro f a p2 t2 hf
    obtain ⟨k1,k2,k3,k4,k5,k6⟩:=iE _ hf hg trivial hp
    simp only [Rl.isL,Bool.false_eq_true,if_false] at k4
    try dsimp only
    cases hc:wm l p2 EN with
    |some op =>
     obtain ⟨hlt,_⟩:=po hc
     obtain ⟨g,r,h3⟩:=IH .sum (p2+1) t2 k5 trivial (by omega) (by simp only [kf] at hn ⊢;omega)
     cases r with
     |bad q=>exact ⟨g,.bad q,by dsimp only;rw [h3];rfl⟩
     |ok b p3 t3=>exact ⟨g,.ok t3.length p3 (t3++[nd2 op a b]),by dsimp only;rw [h3];rfl⟩
    |none=>exact ⟨0,_,rfl⟩
  |atom =>
   by_cases hc:isS l p [40]=true
   ·have hlt:=ib hc
    refine gy (rl1:=.imp) (p1:=p+1) (t1:=t) (k:=fun rec a p t=>if isS l p [41] then some (.ok a (p+1) t) else some (.bad p)) (fun f g a p t r hfg h=>h) (IH .imp (p+1) t hg trivial hlt (by simp only [kf] at hn ⊢;omega)) (fun g=>by simp only [jf];rw [if_pos hc]) ?_
    intro f b p2 t2 hf
    try dsimp only
    by_cases h2:isS l p2 [41]=true
    ·exact ⟨0,_,by rw [if_pos h2]⟩
    ·exact ⟨0,_,by rw [if_neg h2]⟩
   ·exact mG (g:=0) (r:=Hf l p t) (by simp only [jf];rw [if_neg hc])
theorem AK (l:List Tok):∃ f r,run l f .imp 0 []=some r:=zN l _ .imp 0 [] Good.nil trivial (Nat.zero_le _) (Nat.lt_succ_self _)
def dAt (ds:List Nat) (n:Nd):Nat:=if n.op≤3 then 0 else if n.op≤5 then 1+ds.getD n.a 0 else if n.op=16 then max (ds.getD n.a 0) (1+ds.getD n.b 0) else max (ds.getD n.a 0) (ds.getD n.b 0)
def OG (t:List Nd):List Nat:=t.foldl (fun ds n=>ds++[dAt ds n]) []
def La (t:List Nd):Nat:=(OG t).getD (t.length - 1) 0
end Go.AL
