/- Lemmas of the proof; no condition. -/
import Derived.Test.YtjffcopmhkcejaaGreatLSyn
import Derived.Test.YtjffcopmhkcejaaGreatS07c
set_option linter.all false
open Go Go.AL
namespace Go.AL
def tot(l:List Tok)(rl:Rl)(p:Nat)(t:List Nd):Prop:=∃ f r,run l f rl p t=some r
def nC:Rl→Nat
 |.imp=>7|.or=>6|.and=>5|.not=>4|.cmp=>3|.sum=>2|.un=>1
 |_=>0
def qL{l:List Tok}{rl:Rl}{p:Nat}{t:List Nd}{g:Nat}{r:PR}(h:lW l (run l g) rl p t=some r):tot l rl p t:=⟨g+1,r,h⟩
def jR{l:List Tok}{rl rl1:Rl}{p p1:Nat}{t t1:List Nd}{k:(Rl→Nat→List Nd→Option PR)→Nat→Nat→List Nd→Option PR}
 (hm:∀ f g a p t r,f≤g→k (run l f) a p t=some r→k (run l g) a p t=some r)
 (h1:tot l rl1 p1 t1) (he:∀ g,lW l (run l g) rl p t=kv (run l g rl1 p1 t1) (k (run l g)))
 (h2:∀ f a p2 t2,run l f rl1 p1 t1=some (.ok a p2 t2)→∃ g r,k (run l g) a p2 t2=some r):tot l rl p t:=by
 obtain⟨f,r,hf⟩:=h1
 cases r with
 |bad q=>exact qL (g:=f) (r:=.bad q) (by rw[he,hf];rfl)
 |ok a p2 t2 =>
  obtain⟨g,r,hg⟩:=h2 f a p2 t2 hf
  refine qL (g:=max f g) (r:=r) ?_
  rw[he,ln (Nat.le_max_left f g) hf]
  exact hm _ _ _ _ _ _ (Nat.le_max_right f g) hg
def vw{l:List Tok}{f g:Nat}(h:f≤g){rl:Rl}{p:Nat}{t:List Nd}{k k':Nat→Nat→List Nd→Option PR}(hk:∀ a p t r,k a p t=some r→k' a p t=some r){r:PR}(h2:kv (run l f rl p t) k=some r):kv (run l g rl p t) k'=some r:=by
 rcases fV h2 with⟨q,e,rfl⟩|⟨a,p,t,e,e2⟩
 ·rw[ln h e];rfl
 ·rw[ln h e];exact hk _ _ _ _ e2
theorem Ev(l:List Tok):∀(n:Nat)(rl:Rl)(p:Nat)(t:List Nd),Good t→ov t rl→p≤l.length→(l.length-p)*8+nC rl<n→tot l rl p t
 |0,_,_,_,_,_,_,h=>Xa
 |n+1,rl,p,t,hg,hro,hp,hn=>by
  have IH:=Ev l n
  cases rl with
  |imp =>
   refine jR (rl1:=.or) (p1:=p) (t1:=t) (k:=fun rec a p t=>if isS l p [45,62]then kv (rec .imp (p+1) t) fun b p t=>some (.ok t.length p (t++[nd2 16 a b]))else some (.ok a p t)) ?_ (IH .or p t hg trivial hp (by simp only[nC]at hn ⊢;omega)) (fun g=>rfl) ?_
   ·intro f g a p t r hfg h
    try dsimp only at h ⊢
    split at h
    ·rename_i hc;rw[if_pos hc];exact vw hfg (fun _ _ _ _ h=>h) h
    ·rename_i hc;rw[if_neg hc];exact h
   ·intro f a p2 t2 hf
    obtain⟨k1,k2,k3,k4,k5,k6⟩:=lq _ hf hg trivial hp
    simp only[Rl.isL,Bool.false_eq_true,if_false]at k4
    try dsimp only
    by_cases hc:isS l p2 [45,62]=true
    ·have hlt:=kI hc
     obtain⟨g,r,h3⟩:=IH .imp (p2+1) t2 k5 trivial Xa (by simp only[nC]at hn ⊢;omega)
     cases r with
     |bad q=>exact⟨g,.bad q,by rw[if_pos hc,h3];rfl⟩
     |ok b p3 t3=>exact⟨g,_,by rw[if_pos hc,h3];rfl⟩
    ·exact⟨0,_,by rw[if_neg hc]⟩
  |or =>
   refine jR (rl1:=.and) (p1:=p) (t1:=t) (k:=fun rec a p t=>rec (.orL a) p t) (fun f g a p t r hfg h=>ln hfg h) (IH .and p t hg trivial hp (by simp only[nC]at hn ⊢;omega)) (fun g=>rfl) ?_
   intro f a p2 t2 hf
   obtain⟨k1,k2,k3,k4,k5,k6⟩:=lq _ hf hg trivial hp
   simp only[Rl.isL,Bool.false_eq_true,if_false]at k4
   exact IH (.orL a) p2 t2 k5 k1 k2 (by simp only[nC]at hn ⊢;omega)
  |and =>
   refine jR (rl1:=.not) (p1:=p) (t1:=t) (k:=fun rec a p t=>rec (.andL a) p t) (fun f g a p t r hfg h=>ln hfg h) (IH .not p t hg trivial hp (by simp only[nC]at hn ⊢;omega)) (fun g=>rfl) ?_
   intro f a p2 t2 hf
   obtain⟨k1,k2,k3,k4,k5,k6⟩:=lq _ hf hg trivial hp
   simp only[Rl.isL,Bool.false_eq_true,if_false]at k4
   exact IH (.andL a) p2 t2 k5 k1 k2 (by simp only[nC]at hn ⊢;omega)
  |sum =>
   refine jR (rl1:=.un) (p1:=p) (t1:=t) (k:=fun rec a p t=>rec (.sumL a) p t) (fun f g a p t r hfg h=>ln hfg h) (IH .un p t hg trivial hp (by simp only[nC]at hn ⊢;omega)) (fun g=>rfl) ?_
   intro f a p2 t2 hf
   obtain⟨k1,k2,k3,k4,k5,k6⟩:=lq _ hf hg trivial hp
   simp only[Rl.isL,Bool.false_eq_true,if_false]at k4
   exact IH (.sumL a) p2 t2 k5 k1 k2 (by simp only[nC]at hn ⊢;omega)
  |orL a =>
   by_cases hc:isS l p [124,124]=true
   ·have hlt:=kI hc
    refine jR (rl1:=.and) (p1:=p+1) (t1:=t) (k:=fun rec b p t=>rec (.orL t.length) p (t++[nd2 15 a b])) (fun f g a p t r hfg h=>ln hfg h) (IH .and (p+1) t hg trivial hlt (by simp only[nC]at hn ⊢;omega)) (fun g=>by simp only[lW];rw[if_pos hc]) ?_
    intro f b p2 t2 hf
    obtain⟨k1,k2,k3,k4,k5,k6⟩:=lq _ hf hg trivial hlt
    simp only[Rl.isL,Bool.false_eq_true,if_false]at k4
    simp only[ov]at hro
    exact IH (.orL t2.length) p2 _ (k5.snoc (n:=nd2 15 a b) ⟨(show 1≤15 by decide),(show 15≤16 by decide)⟩ (show(0:Nat)<2^128 by decide) (.inr ⟨Xr,Xr⟩)) (by simp[ov]) k2 (by simp only[nC]at hn ⊢;omega)
   ·exact qL (g:=0) (r:=.ok a p t) (by simp only[lW];rw[if_neg hc])
  |andL a =>
   by_cases hc:isS l p [38,38]=true
   ·have hlt:=kI hc
    refine jR (rl1:=.not) (p1:=p+1) (t1:=t) (k:=fun rec b p t=>rec (.andL t.length) p (t++[nd2 14 a b])) (fun f g a p t r hfg h=>ln hfg h) (IH .not (p+1) t hg trivial hlt (by simp only[nC]at hn ⊢;omega)) (fun g=>by simp only[lW];rw[if_pos hc]) ?_
    intro f b p2 t2 hf
    obtain⟨k1,k2,k3,k4,k5,k6⟩:=lq _ hf hg trivial hlt
    simp only[Rl.isL,Bool.false_eq_true,if_false]at k4
    simp only[ov]at hro
    exact IH (.andL t2.length) p2 _ (k5.snoc (n:=nd2 14 a b) ⟨(show 1≤14 by decide),(show 14≤16 by decide)⟩ (show(0:Nat)<2^128 by decide) (.inr ⟨Xr,Xr⟩)) (by simp[ov]) k2 (by simp only[nC]at hn ⊢;omega)
   ·exact qL (g:=0) (r:=.ok a p t) (by simp only[lW];rw[if_neg hc])
  |sumL a =>
   cases hc:AD l p Ot with
   |some op =>
    obtain⟨hlt,so,hso⟩:=sK hc
    obtain⟨o1,o2⟩:=Eq hso
    refine jR (rl1:=.un) (p1:=p+1) (t1:=t) (k:=fun rec b p t=>rec (.sumL t.length) p (t++[nd2 op a b])) (fun f g a p t r hfg h=>ln hfg h) (IH .un (p+1) t hg trivial hlt (by simp only[nC]at hn ⊢;omega)) (fun g=>by simp only[lW];rw[hc]) ?_
    intro f b p2 t2 hf
    obtain⟨k1,k2,k3,k4,k5,k6⟩:=lq _ hf hg trivial hlt
    simp only[Rl.isL,Bool.false_eq_true,if_false]at k4
    simp only[ov]at hro
    exact IH (.sumL t2.length) p2 _ (k5.snoc (n:=nd2 op a b) ⟨Xr,o2⟩ (show(0:Nat)<2^128 by decide) (.inr ⟨Xr,Xr⟩)) (by simp[ov]) k2 (by simp only[nC]at hn ⊢;omega)
   |none=>exact qL (g:=0) (r:=.ok a p t) (by simp only[lW];rw[hc])
  |not =>
   by_cases hc:isS l p [33]=true
   ·have hlt:=kI hc
    refine jR (rl1:=.not) (p1:=p+1) (t1:=t) (k:=fun rec b p t=>some (.ok t.length p (t++[nd2 5 b 0]))) (fun f g a p t r hfg h=>h) (IH .not (p+1) t hg trivial hlt (by simp only[nC]at hn ⊢;omega)) (fun g=>by simp only[lW];rw[if_pos hc]) ?_
    intro f b p2 t2 hf
    exact⟨0,_,rfl⟩
   ·obtain⟨f,r,h⟩:=IH .cmp p t hg trivial hp (by simp only[nC]at hn ⊢;omega)
    exact qL (g:=f) (r:=r) (by simp only[lW];rw[if_neg hc,h])
  |un =>
   by_cases hc:isS l p [45]=true
   ·have hlt:=kI hc
    refine jR (rl1:=.un) (p1:=p+1) (t1:=t) (k:=fun rec b p t=>some (.ok t.length p (t++[nd2 4 b 0]))) (fun f g a p t r hfg h=>h) (IH .un (p+1) t hg trivial hlt (by simp only[nC]at hn ⊢;omega)) (fun g=>by simp only[lW];rw[if_pos hc]) ?_
    intro f b p2 t2 hf
    exact⟨0,_,rfl⟩
   ·obtain⟨f,r,h⟩:=IH .atom p t hg trivial hp (by simp only[nC]at hn ⊢;omega)
    exact qL (g:=f) (r:=r) (by simp only[lW];rw[if_neg hc,h])
  |cmp =>
   refine jR (rl1:=.sum) (p1:=p) (t1:=t) (k:=fun rec a p t=>match AD l p HE with
    |some op=>kv (rec .sum (p+1) t) fun b p t=>some (.ok t.length p (t++[nd2 op a b]))
    |none=>some (.ok a p t)) ?_ (IH .sum p t hg trivial hp (by simp only[nC]at hn ⊢;omega)) (fun g=>rfl) ?_
   ·intro f g a p t r hfg h
    try dsimp only at h ⊢
    split at h
    ·exact vw hfg (fun _ _ _ _ h=>h) h
    ·exact h
   ·intro f a p2 t2 hf
    obtain⟨k1,k2,k3,k4,k5,k6⟩:=lq _ hf hg trivial hp
    simp only[Rl.isL,Bool.false_eq_true,if_false]at k4
    try dsimp only
    cases hc:AD l p2 HE with
    |some op =>
     obtain⟨hlt,_⟩:=sK hc
     obtain⟨g,r,h3⟩:=IH .sum (p2+1) t2 k5 trivial Xa (by simp only[nC]at hn ⊢;omega)
     cases r with
     |bad q=>exact⟨g,.bad q,by dsimp only;rw[h3];rfl⟩
     |ok b p3 t3=>exact⟨g,.ok t3.length p3 (t3++[nd2 op a b]),by dsimp only;rw[h3];rfl⟩
    |none=>exact⟨0,_,rfl⟩
  |atom =>
   by_cases hc:isS l p [40]=true
   ·have hlt:=kI hc
    refine jR (rl1:=.imp) (p1:=p+1) (t1:=t) (k:=fun rec a p t=>if isS l p [41]then some (.ok a (p+1) t)else some (.bad p)) (fun f g a p t r hfg h=>h) (IH .imp (p+1) t hg trivial hlt (by simp only[nC]at hn ⊢;omega)) (fun g=>by simp only[lW];rw[if_pos hc]) ?_
    intro f b p2 t2 hf
    try dsimp only
    by_cases h2:isS l p2 [41]=true
    ·exact⟨0,_,by rw[if_pos h2]⟩
    ·exact⟨0,_,by rw[if_neg h2]⟩
   ·exact qL (g:=0) (r:=Jc l p t) (by simp only[lW];rw[if_neg hc])
def FW(l:List Tok):∃ f r,run l f .imp 0 []=some r:=Ev l _ .imp 0 [] Good.nil trivial (Nat.zero_le _) (Nat.lt_succ_self _)
def dAt(ds:List Nat)(n:Nd):Nat:=if n.op≤3 then 0 else if n.op≤5 then 1+ds.getD n.a 0 else if n.op=16 then max (ds.getD n.a 0) (1+ds.getD n.b 0)else max (ds.getD n.a 0) (ds.getD n.b 0)
def Uz(t:List Nd):List Nat:=t.foldl (fun ds n=>ds++[dAt ds n]) []
def Ql(t:List Nd):Nat:=(Uz t).getD (t.length-1) 0
end Go.AL
