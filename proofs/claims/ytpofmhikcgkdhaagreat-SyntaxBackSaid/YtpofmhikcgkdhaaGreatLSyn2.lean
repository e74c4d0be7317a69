/- Lemmas of the proof; no condition. -/
import Derived.Test.YtpofmhikcgkdhaaGreatLSyn
import Derived.Test.YtpofmhikcgkdhaaGreatS07c
set_option linter.all false
open Go Go.AL
namespace Go.AL
def tot (l:List Tok) (rl:Rl) (p:Nat) (t:List Nd):Prop:=∃ f r,run l f rl p t=some r
def gN:Rl→Nat
 |.imp=>7|.or=>6|.and=>5|.not=>4|.cmp=>3|.sum=>2|.un=>1
 |_=>0
theorem j4 {l:List Tok} {rl:Rl} {p:Nat} {t:List Nd} {g:Nat} {r:PR} (h:aZ l (run l g) rl p t=some r):tot l rl p t:=⟨g+1,r,h⟩
theorem ea {l:List Tok} {rl rl1:Rl} {p p1:Nat} {t t1:List Nd} {k:(Rl→Nat→List Nd→Option PR)→Nat→Nat→List Nd→Option PR}
 (hm:∀ f g a p t r,f≤g→k (run l f) a p t=some r→k (run l g) a p t=some r)
 (h1:tot l rl1 p1 t1) (he:∀ g,aZ l (run l g) rl p t=dH (run l g rl1 p1 t1) (k (run l g)))
 (h2:∀ f a p2 t2,run l f rl1 p1 t1=some (.ok a p2 t2)→∃ g r,k (run l g) a p2 t2=some r):tot l rl p t:=by
 obtain ⟨f,r,hf⟩:=h1
 cases r with
 |bad q=>exact j4 (g:=f) (r:=.bad q) (by rw [he,hf];rfl)
 |ok a p2 t2 =>
  obtain ⟨g,r,hg⟩:=h2 f a p2 t2 hf
  refine j4 (g:=max f g) (r:=r) ?_
  rw [he,bI (Nat.le_max_left f g) hf]
  exact hm _ _ _ _ _ _ (Nat.le_max_right f g) hg
theorem oZ {l:List Tok} {f g:Nat} (h:f≤g) {rl:Rl} {p:Nat} {t:List Nd} {k k':Nat→Nat→List Nd→Option PR} (hk:∀ a p t r,k a p t=some r→k' a p t=some r) {r:PR} (h2:dH (run l f rl p t) k=some r):dH (run l g rl p t) k'=some r:=by
 rcases aK h2 with ⟨q,e,rfl⟩|⟨a,p,t,e,e2⟩
 ·rw [bI h e];rfl
 ·rw [bI h e];exact hk _ _ _ _ e2
theorem wA (l:List Tok):∀ (n:Nat) (rl:Rl) (p:Nat) (t:List Nd),Good t→dp t rl→p≤l.length→(l.length - p)*8+gN rl<n→tot l rl p t
 |0,_,_,_,_,_,_,h=>by omega
 |n+1,rl,p,t,hg,hro,hp,hn=>by
  have IH:=wA l n
  cases rl with
  |imp =>
   refine ea (rl1:=.or) (p1:=p) (t1:=t) (k:=fun rec a p t=>if isS l p [45,62] then dH (rec .imp (p+1) t) fun b p t=>some (.ok t.length p (t++[nd2 16 a b])) else some (.ok a p t)) ?_ (IH .or p t hg trivial hp (by simp only [gN] at hn ⊢;omega)) (fun g=>rfl) ?_
   ·intro f g a p t r hfg h
    try dsimp only at h ⊢
    split at h
    ·rename_i hc;rw [if_pos hc];exact oZ hfg (fun _ _ _ _ h=>h) h
    ·rename_i hc;rw [if_neg hc];exact h
   ·intro f a p2 t2 hf
    obtain ⟨k1,k2,k3,k4,k5,k6⟩:=aH _ hf hg trivial hp
    simp only [Rl.isL,Bool.false_eq_true,if_false] at k4
    try dsimp only
    by_cases hc:isS l p2 [45,62]=true
    ·have hlt:=bD hc
     obtain ⟨g,r,h3⟩:=IH .imp (p2+1) t2 k5 trivial (by omega) (by simp only [gN] at hn ⊢;omega)
     cases r with
     |bad q=>exact ⟨g,.bad q,by rw [if_pos hc,h3];rfl⟩
     |ok b p3 t3=>exact ⟨g,_,by rw [if_pos hc,h3];rfl⟩
    ·exact ⟨0,_,by rw [if_neg hc]⟩
  |or =>
   refine ea (rl1:=.and) (p1:=p) (t1:=t) (k:=fun rec a p t=>rec (.orL a) p t) (fun f g a p t r hfg h=>bI hfg h) (IH .and p t hg trivial hp (by simp only [gN] at hn ⊢;omega)) (fun g=>rfl) ?_
   intro f a p2 t2 hf
   obtain ⟨k1,k2,k3,k4,k5,k6⟩:=aH _ hf hg trivial hp
   simp only [Rl.isL,Bool.false_eq_true,if_false] at k4
   exact IH (.orL a) p2 t2 k5 k1 k2 (by simp only [gN] at hn ⊢;omega)
  |and =>
   refine ea (rl1:=.not) (p1:=p) (t1:=t) (k:=fun rec a p t=>rec (.andL a) p t) (fun f g a p t r hfg h=>bI hfg h) (IH .not p t hg trivial hp (by simp only [gN] at hn ⊢;omega)) (fun g=>rfl) ?_
   intro f a p2 t2 hf
   obtain ⟨k1,k2,k3,k4,k5,k6⟩:=aH _ hf hg trivial hp
   simp only [Rl.isL,Bool.false_eq_true,if_false] at k4
   exact IH (.andL a) p2 t2 k5 k1 k2 (by simp only [gN] at hn ⊢;omega)
  |sum =>
   refine ea (rl1:=.un) (p1:=p) (t1:=t) (k:=fun rec a p t=>rec (.sumL a) p t) (fun f g a p t r hfg h=>bI hfg h) (IH .un p t hg trivial hp (by simp only [gN] at hn ⊢;omega)) (fun g=>rfl) ?_
   intro f a p2 t2 hf
   obtain ⟨k1,k2,k3,k4,k5,k6⟩:=aH _ hf hg trivial hp
   simp only [Rl.isL,Bool.false_eq_true,if_false] at k4
   exact IH (.sumL a) p2 t2 k5 k1 k2 (by simp only [gN] at hn ⊢;omega)
  |orL a =>
   by_cases hc:isS l p [124,124]=true
   ·have hlt:=bD hc
    refine ea (rl1:=.and) (p1:=p+1) (t1:=t) (k:=fun rec b p t=>rec (.orL t.length) p (t++[nd2 15 a b])) (fun f g a p t r hfg h=>bI hfg h) (IH .and (p+1) t hg trivial hlt (by simp only [gN] at hn ⊢;omega)) (fun g=>by simp only [aZ];rw [if_pos hc]) ?_
    intro f b p2 t2 hf
    obtain ⟨k1,k2,k3,k4,k5,k6⟩:=aH _ hf hg trivial hlt
    simp only [Rl.isL,Bool.false_eq_true,if_false] at k4
    simp only [dp] at hro
    exact IH (.orL t2.length) p2 _ (k5.snoc (n:=nd2 15 a b) ⟨(show 1≤15 by decide),(show 15≤16 by decide)⟩ (show (0:Nat)<2^128 by decide) (.inr ⟨by simp only [nd2];omega,by simp only [nd2];omega⟩)) (by simp [dp]) k2 (by simp only [gN] at hn ⊢;omega)
   ·exact j4 (g:=0) (r:=.ok a p t) (by simp only [aZ];rw [if_neg hc])
  |andL a =>
   by_cases hc:isS l p [38,38]=true
   ·have hlt:=bD hc
    refine ea (rl1:=.not) (p1:=p+1) (t1:=t) (k:=fun rec b p t=>rec (.andL t.length) p (t++[nd2 14 a b])) (fun f g a p t r hfg h=>bI hfg h) (IH .not (p+1) t hg trivial hlt (by simp only [gN] at hn ⊢;omega)) (fun g=>by simp only [aZ];rw [if_pos hc]) ?_
    intro f b p2 t2 hf
    obtain ⟨k1,k2,k3,k4,k5,k6⟩:=aH _ hf hg trivial hlt
    simp only [Rl.isL,Bool.false_eq_true,if_false] at k4
    simp only [dp] at hro
    exact IH (.andL t2.length) p2 _ (k5.snoc (n:=nd2 14 a b) ⟨(show 1≤14 by decide),(show 14≤16 by decide)⟩ (show (0:Nat)<2^128 by decide) (.inr ⟨by simp only [nd2];omega,by simp only [nd2];omega⟩)) (by simp [dp]) k2 (by simp only [gN] at hn ⊢;omega)
   ·exact j4 (g:=0) (r:=.ok a p t) (by simp only [aZ];rw [if_neg hc])
  |sumL a =>
   cases hc:cv l p opsS with
   |some op =>
    obtain ⟨hlt,so,hso⟩:=dT hc
    obtain ⟨o1,o2⟩:=kB hso
    refine ea (rl1:=.un) (p1:=p+1) (t1:=t) (k:=fun rec b p t=>rec (.sumL t.length) p (t++[nd2 op a b])) (fun f g a p t r hfg h=>bI hfg h) (IH .un (p+1) t hg trivial hlt (by simp only [gN] at hn ⊢;omega)) (fun g=>by simp only [aZ];rw [hc]) ?_
    intro f b p2 t2 hf
    obtain ⟨k1,k2,k3,k4,k5,k6⟩:=aH _ hf hg trivial hlt
    simp only [Rl.isL,Bool.false_eq_true,if_false] at k4
    simp only [dp] at hro
    exact IH (.sumL t2.length) p2 _ (k5.snoc (n:=nd2 op a b) ⟨by simp only [nd2];omega,o2⟩ (show (0:Nat)<2^128 by decide) (.inr ⟨by simp only [nd2];omega,by simp only [nd2];omega⟩)) (by simp [dp]) k2 (by simp only [gN] at hn ⊢;omega)
   |none=>exact j4 (g:=0) (r:=.ok a p t) (by simp only [aZ];rw [hc])
  |not =>
   by_cases hc:isS l p [33]=true
   ·have hlt:=bD hc
    refine ea (rl1:=.not) (p1:=p+1) (t1:=t) (k:=fun rec b p t=>some (.ok t.length p (t++[nd2 5 b 0]))) (fun f g a p t r hfg h=>h) (IH .not (p+1) t hg trivial hlt (by simp only [gN] at hn ⊢;omega)) (fun g=>by simp only [aZ];rw [if_pos hc]) ?_
    intro f b p2 t2 hf
    exact ⟨0,_,rfl⟩
   ·obtain ⟨f,r,h⟩:=IH .cmp p t hg trivial hp (by simp only [gN] at hn ⊢;omega)
    exact j4 (g:=f) (r:=r) (by simp only [aZ];rw [if_neg hc,h])
  |un =>
   by_cases hc:isS l p [45]=true
   ·have hlt:=bD hc
    refine ea (rl1:=.un) (p1:=p+1) (t1:=t) (k:=fun rec b p t=>some (.ok t.length p (t++[nd2 4 b 0]))) (fun f g a p t r hfg h=>h) (IH .un (p+1) t hg trivial hlt (by simp only [gN] at hn ⊢;omega)) (fun g=>by simp only [aZ];rw [if_pos hc]) ?_
    intro f b p2 t2 hf
    exact ⟨0,_,rfl⟩
   ·obtain ⟨f,r,h⟩:=IH .atom p t hg trivial hp (by simp only [gN] at hn ⊢;omega)
    exact j4 (g:=f) (r:=r) (by simp only [aZ];rw [if_neg hc,h])
  |cmp =>
   refine ea (rl1:=.sum) (p1:=p) (t1:=t) (k:=fun rec a p t=>match cv l p opsC with
    |some op=>dH (rec .sum (p+1) t) fun b p t=>some (.ok t.length p (t++[nd2 op a b]))
    |none=>some (.ok a p t)) ?_ (IH .sum p t hg trivial hp (by simp only [gN] at hn ⊢;omega)) (fun g=>rfl) ?_
   ·intro f g a p t r hfg h
    try dsimp only at h ⊢
    split at h
    ·exact oZ hfg (fun _ _ _ _ h=>h) h
    ·exact h
   ·intro f a p2 t2 hf
    obtain ⟨k1,k2,k3,k4,k5,k6⟩:=aH _ hf hg trivial hp
    simp only [Rl.isL,Bool.false_eq_true,if_false] at k4
    try dsimp only
    cases hc:cv l p2 opsC with
    |some op =>
     obtain ⟨hlt,_⟩:=dT hc
     obtain ⟨g,r,h3⟩:=IH .sum (p2+1) t2 k5 trivial (by omega) (by simp only [gN] at hn ⊢;omega)
     cases r with
     |bad q=>exact ⟨g,.bad q,by dsimp only;rw [h3];rfl⟩
     |ok b p3 t3=>exact ⟨g,.ok t3.length p3 (t3++[nd2 op a b]),by dsimp only;rw [h3];rfl⟩
    |none=>exact ⟨0,_,rfl⟩
  |atom =>
   by_cases hc:isS l p [40]=true
   ·have hlt:=bD hc
    refine ea (rl1:=.imp) (p1:=p+1) (t1:=t) (k:=fun rec a p t=>if isS l p [41] then some (.ok a (p+1) t) else some (.bad p)) (fun f g a p t r hfg h=>h) (IH .imp (p+1) t hg trivial hlt (by simp only [gN] at hn ⊢;omega)) (fun g=>by simp only [aZ];rw [if_pos hc]) ?_
    intro f b p2 t2 hf
    try dsimp only
    by_cases h2:isS l p2 [41]=true
    ·exact ⟨0,_,by rw [if_pos h2]⟩
    ·exact ⟨0,_,by rw [if_neg h2]⟩
   ·exact j4 (g:=0) (r:=bC l p t) (by simp only [aZ];rw [if_neg hc])
theorem mZ (l:List Tok):∃ f r,run l f .imp 0 []=some r:=wA l _ .imp 0 [] Good.nil trivial (Nat.zero_le _) (Nat.lt_succ_self _)
def dAt (ds:List Nat) (n:Nd):Nat:=if n.op≤3 then 0 else if n.op≤5 then 1+ds.getD n.a 0 else if n.op=16 then max (ds.getD n.a 0) (1+ds.getD n.b 0) else max (ds.getD n.a 0) (ds.getD n.b 0)
def bX (t:List Nd):List Nat:=t.foldl (fun ds n=>ds++[dAt ds n]) []
def dK (t:List Nd):Nat:=(bX t).getD (t.length - 1) 0
theorem xl {t:List Nd} {n:Nd}:bX (t++[n])=bX t++[dAt (bX t) n]:=by
 unfold bX;rw [List.foldl_append];rfl
theorem iG {t:List Nd} {i:Nat} (h:i<t.length):bX (t.take (i+1))=bX (t.take i)++[dAt (bX (t.take i)) t[i]]:=by
 rw [List.take_succ_eq_append_getElem h,xl]
theorem cf {t:List Nd}:∀ {i:Nat},i≤t.length→(bX (t.take i)).length=i
 |0,_=>rfl
 |i+1,h=>by rw [iG h,lAq,cf (Nat.le_of_succ_le h)];rfl
theorem zO {t:List Nd}:(bX t).length=t.length:=by
 have:=cf (t:=t) (nrq _)
 rwa [List.take_length] at this
theorem nQ {ds:List Nat} {m:Nat} (h:∀ x∈ds,x≤m) (a:Nat):ds.getD a 0≤m:=by
 rw [gEq]
 cases e:ds[a]? with
 |none=>simp
 |some x=>exact h x (List.mem_of_getElem? e)
theorem Cn {ds:List Nat} {m:Nat} (h:∀ x∈ds,x≤m) (n:Nd):dAt ds n≤m+1:=by
 have h1:=nQ h n.a
 have h2:=nQ h n.b
 unfold dAt
 split
 ·omega
 ·split
  ·omega
  ·split<;>omega
theorem sx {t:List Nd}:∀ {i:Nat},i≤t.length→∀ x∈bX (t.take i),x≤i
 |0,_,x,hx=>by simp [bX] at hx
 |i+1,h,x,hx=>by
  have ih:=sx (Nat.le_of_succ_le h)
  rw [iG h,List.mem_append] at hx
  rcases hx with hx|hx
  ·exact Nat.le_succ_of_le (ih x hx)
  ·rw [List.mem_singleton.1 hx];exact Cn ih _
theorem xP {s:List UInt8} {kd:Nat} {x:List UInt8} (h:fx s=some (kd,x)) (hk:kd=1):(lit x).isSome=true:=by
 subst hk
 unfold fx at h
 split at h
 ·split at h<;>cases h
 ·split at h
  ·cases h
  ·split at h
   ·rename_i h2
    cases h
    exact h2
   ·cases h
theorem lg:∀ (f:Nat) (s:List UInt8) (k:Nat),s.length≤1000→(cF f s k).1.length≤s.length∧lN (cF f s k).1
 |0,s,k,h=>⟨Nat.zero_le _,fun x hx=>by cases hx⟩
 |f+1,[],k,h=>⟨Nat.zero_le _,fun x hx=>by cases hx⟩
 |f+1,c::r,k,h=>by
  unfold cF
  split
  ·obtain ⟨h1,h2⟩:=lg f r (k+1) (by simp at h;omega)
   exact ⟨by simp only [List.length_cons];omega,h2⟩
  ·split
   ·exact ⟨Nat.zero_le _,fun x hx=>by cases hx⟩
   ·rename_i kd x htk
    obtain ⟨g1,g2,g3⟩:=iJ htk
    have hx0:=List.length_pos_iff.2 g1
    obtain ⟨h1,h2⟩:=lg f ((c::r).drop x.length) (k+x.length) (by rw [List.length_drop];omega)
    rw [List.length_drop] at h1
    refine ⟨by simp only [List.length_cons] at *;omega,fun y hy=>?_⟩
    rcases List.mem_cons.1 hy with rfl|hy
    ·exact ⟨by dsimp only;omega,fun hk=>xP htk hk⟩
    ·exact h2 y hy
theorem ge (s:List UInt8):(aT s).1.length≤400∧lN (aT s).1:=by
 unfold aT
 split
 ·exact ⟨Nat.zero_le _,fun x hx=>by cases hx⟩
 ·rename_i h
  obtain ⟨h1,h2⟩:=lg s.length (s.drop 0) 0 (by simp;omega)
  change (rest s 0).1.length≤_ at h1
  change lN (rest s 0).1 at h2
  cases e:rest s 0 with
  |mk a b =>
   rw [e] at h1 h2
   cases b with
   |none=>exact ⟨by simp at h1;dsimp only;omega,h2⟩
   |some k=>exact ⟨Nat.zero_le _,fun x hx=>by cases hx⟩
end Go.AL
