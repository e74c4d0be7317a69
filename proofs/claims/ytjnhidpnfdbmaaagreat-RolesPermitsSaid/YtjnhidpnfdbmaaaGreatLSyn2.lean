/- Lemmas of the proof; no condition. -/
import Derived.Test.YtjnhidpnfdbmaaaGreatLSyn
import Derived.Test.YtjnhidpnfdbmaaaGreatS07c
set_option linter.all false
open Go Go.AL
namespace Go.AL
def tot(l:List Tok)(rl:Rl)(p:Nat)(t:List Nd):Prop:=∃ f r,run l f rl p t=some r
def mC:Rl→Nat
 |.imp=>7|.or=>6|.and=>5|.not=>4|.cmp=>3|.sum=>2|.un=>1
 |_=>0
theorem pS{l:List Tok}{rl:Rl}{p:Nat}{t:List Nd}{g:Nat}{r:PR}(h:eT l (run l g) rl p t=some r):tot l rl p t:=⟨g+1,r,h⟩
theorem iI{l:List Tok}{rl rl1:Rl}{p p1:Nat}{t t1:List Nd}{k:(Rl→Nat→List Nd→Option PR)→Nat→Nat→List Nd→Option PR}
 (hm:∀ f g a p t r,f≤g→k (run l f) a p t=some r→k (run l g) a p t=some r)
 (h1:tot l rl1 p1 t1) (he:∀ g,eT l (run l g) rl p t=iV (run l g rl1 p1 t1) (k (run l g)))
 (h2:∀ f a p2 t2,run l f rl1 p1 t1=some (.ok a p2 t2)→∃ g r,k (run l g) a p2 t2=some r):tot l rl p t:=by
 obtain⟨f,r,hf⟩:=h1
 cases r with
 |bad q=>exact pS (g:=f) (r:=.bad q) (by rw[he,hf];rfl)
 |ok a p2 t2 =>
  obtain⟨g,r,hg⟩:=h2 f a p2 t2 hf
  refine pS (g:=max f g) (r:=r) ?_
  rw[he,dt (Nat.le_max_left f g) hf]
  exact hm _ _ _ _ _ _ (Nat.le_max_right f g) hg
theorem yY{l:List Tok}{f g:Nat}(h:f≤g){rl:Rl}{p:Nat}{t:List Nd}{k k':Nat→Nat→List Nd→Option PR}(hk:∀ a p t r,k a p t=some r→k' a p t=some r){r:PR}(h2:iV (run l f rl p t) k=some r):iV (run l g rl p t) k'=some r:=by
 rcases bp h2 with⟨q,e,rfl⟩|⟨a,p,t,e,e2⟩
 ·rw[dt h e];rfl
 ·rw[dt h e];exact hk _ _ _ _ e2
theorem G9(l:List Tok):∀(n:Nat)(rl:Rl)(p:Nat)(t:List Nd),Good t→nf t rl→p≤l.length→(l.length-p)*8+mC rl<n→tot l rl p t
 |0,_,_,_,_,_,_,h=>Xa
 |n+1,rl,p,t,hg,hro,hp,hn=>by
  have IH:=G9 l n
  cases rl with
  |imp =>
   refine iI (rl1:=.or) (p1:=p) (t1:=t) (k:=fun rec a p t=>if isS l p [45,62]then iV (rec .imp (p+1) t) fun b p t=>some (.ok t.length p (t++[nd2 16 a b]))else some (.ok a p t)) ?_ (IH .or p t hg trivial hp (by simp only[mC]at hn ⊢;omega)) (fun g=>rfl) ?_
   ·intro f g a p t r hfg h
    try dsimp only at h ⊢
    split at h
    ·rename_i hc;rw[if_pos hc];exact yY hfg (fun _ _ _ _ h=>h) h
    ·rename_i hc;rw[if_neg hc];exact h
   ·intro f a p2 t2 hf
    obtain⟨k1,k2,k3,k4,k5,k6⟩:=bz _ hf hg trivial hp
    simp only[Rl.isL,Bool.false_eq_true,if_false]at k4
    try dsimp only
    by_cases hc:isS l p2 [45,62]=true
    ·have hlt:=dT hc
     obtain⟨g,r,h3⟩:=IH .imp (p2+1) t2 k5 trivial Xa (by simp only[mC]at hn ⊢;omega)
     cases r with
     |bad q=>exact⟨g,.bad q,by rw[if_pos hc,h3];rfl⟩
     |ok b p3 t3=>exact⟨g,_,by rw[if_pos hc,h3];rfl⟩
    ·exact⟨0,_,by rw[if_neg hc]⟩
  |or =>
   refine iI (rl1:=.and) (p1:=p) (t1:=t) (k:=fun rec a p t=>rec (.orL a) p t) (fun f g a p t r hfg h=>dt hfg h) (IH .and p t hg trivial hp (by simp only[mC]at hn ⊢;omega)) (fun g=>rfl) ?_
   intro f a p2 t2 hf
   obtain⟨k1,k2,k3,k4,k5,k6⟩:=bz _ hf hg trivial hp
   simp only[Rl.isL,Bool.false_eq_true,if_false]at k4
   exact IH (.orL a) p2 t2 k5 k1 k2 (by simp only[mC]at hn ⊢;omega)
  |and =>
   refine iI (rl1:=.not) (p1:=p) (t1:=t) (k:=fun rec a p t=>rec (.andL a) p t) (fun f g a p t r hfg h=>dt hfg h) (IH .not p t hg trivial hp (by simp only[mC]at hn ⊢;omega)) (fun g=>rfl) ?_
   intro f a p2 t2 hf
   obtain⟨k1,k2,k3,k4,k5,k6⟩:=bz _ hf hg trivial hp
   simp only[Rl.isL,Bool.false_eq_true,if_false]at k4
   exact IH (.andL a) p2 t2 k5 k1 k2 (by simp only[mC]at hn ⊢;omega)
  |sum =>
   refine iI (rl1:=.un) (p1:=p) (t1:=t) (k:=fun rec a p t=>rec (.sumL a) p t) (fun f g a p t r hfg h=>dt hfg h) (IH .un p t hg trivial hp (by simp only[mC]at hn ⊢;omega)) (fun g=>rfl) ?_
   intro f a p2 t2 hf
   obtain⟨k1,k2,k3,k4,k5,k6⟩:=bz _ hf hg trivial hp
   simp only[Rl.isL,Bool.false_eq_true,if_false]at k4
   exact IH (.sumL a) p2 t2 k5 k1 k2 (by simp only[mC]at hn ⊢;omega)
  |orL a =>
   by_cases hc:isS l p [124,124]=true
   ·have hlt:=dT hc
    refine iI (rl1:=.and) (p1:=p+1) (t1:=t) (k:=fun rec b p t=>rec (.orL t.length) p (t++[nd2 15 a b])) (fun f g a p t r hfg h=>dt hfg h) (IH .and (p+1) t hg trivial hlt (by simp only[mC]at hn ⊢;omega)) (fun g=>by simp only[eT];rw[if_pos hc]) ?_
    intro f b p2 t2 hf
    obtain⟨k1,k2,k3,k4,k5,k6⟩:=bz _ hf hg trivial hlt
    simp only[Rl.isL,Bool.false_eq_true,if_false]at k4
    simp only[nf]at hro
    exact IH (.orL t2.length) p2 _ (k5.snoc (n:=nd2 15 a b) ⟨(show 1≤15 by decide),(show 15≤16 by decide)⟩ (show(0:Nat)<2^128 by decide) (.inr ⟨Xq,Xq⟩)) (by simp[nf]) k2 (by simp only[mC]at hn ⊢;omega)
   ·exact pS (g:=0) (r:=.ok a p t) (by simp only[eT];rw[if_neg hc])
  |andL a =>
   by_cases hc:isS l p [38,38]=true
   ·have hlt:=dT hc
    refine iI (rl1:=.not) (p1:=p+1) (t1:=t) (k:=fun rec b p t=>rec (.andL t.length) p (t++[nd2 14 a b])) (fun f g a p t r hfg h=>dt hfg h) (IH .not (p+1) t hg trivial hlt (by simp only[mC]at hn ⊢;omega)) (fun g=>by simp only[eT];rw[if_pos hc]) ?_
    intro f b p2 t2 hf
    obtain⟨k1,k2,k3,k4,k5,k6⟩:=bz _ hf hg trivial hlt
    simp only[Rl.isL,Bool.false_eq_true,if_false]at k4
    simp only[nf]at hro
    exact IH (.andL t2.length) p2 _ (k5.snoc (n:=nd2 14 a b) ⟨(show 1≤14 by decide),(show 14≤16 by decide)⟩ (show(0:Nat)<2^128 by decide) (.inr ⟨Xq,Xq⟩)) (by simp[nf]) k2 (by simp only[mC]at hn ⊢;omega)
   ·exact pS (g:=0) (r:=.ok a p t) (by simp only[eT];rw[if_neg hc])
  |sumL a =>
   cases hc:iZ l p opsS with
   |some op =>
    obtain⟨hlt,so,hso⟩:=jo hc
    obtain⟨o1,o2⟩:=sT hso
    refine iI (rl1:=.un) (p1:=p+1) (t1:=t) (k:=fun rec b p t=>rec (.sumL t.length) p (t++[nd2 op a b])) (fun f g a p t r hfg h=>dt hfg h) (IH .un (p+1) t hg trivial hlt (by simp only[mC]at hn ⊢;omega)) (fun g=>by simp only[eT];rw[hc]) ?_
    intro f b p2 t2 hf
    obtain⟨k1,k2,k3,k4,k5,k6⟩:=bz _ hf hg trivial hlt
    simp only[Rl.isL,Bool.false_eq_true,if_false]at k4
    simp only[nf]at hro
    exact IH (.sumL t2.length) p2 _ (k5.snoc (n:=nd2 op a b) ⟨Xq,o2⟩ (show(0:Nat)<2^128 by decide) (.inr ⟨Xq,Xq⟩)) (by simp[nf]) k2 (by simp only[mC]at hn ⊢;omega)
   |none=>exact pS (g:=0) (r:=.ok a p t) (by simp only[eT];rw[hc])
  |not =>
   by_cases hc:isS l p [33]=true
   ·have hlt:=dT hc
    refine iI (rl1:=.not) (p1:=p+1) (t1:=t) (k:=fun rec b p t=>some (.ok t.length p (t++[nd2 5 b 0]))) (fun f g a p t r hfg h=>h) (IH .not (p+1) t hg trivial hlt (by simp only[mC]at hn ⊢;omega)) (fun g=>by simp only[eT];rw[if_pos hc]) ?_
    intro f b p2 t2 hf
    exact⟨0,_,rfl⟩
   ·obtain⟨f,r,h⟩:=IH .cmp p t hg trivial hp (by simp only[mC]at hn ⊢;omega)
    exact pS (g:=f) (r:=r) (by simp only[eT];rw[if_neg hc,h])
  |un =>
   by_cases hc:isS l p [45]=true
   ·have hlt:=dT hc
    refine iI (rl1:=.un) (p1:=p+1) (t1:=t) (k:=fun rec b p t=>some (.ok t.length p (t++[nd2 4 b 0]))) (fun f g a p t r hfg h=>h) (IH .un (p+1) t hg trivial hlt (by simp only[mC]at hn ⊢;omega)) (fun g=>by simp only[eT];rw[if_pos hc]) ?_
    intro f b p2 t2 hf
    exact⟨0,_,rfl⟩
   ·obtain⟨f,r,h⟩:=IH .atom p t hg trivial hp (by simp only[mC]at hn ⊢;omega)
    exact pS (g:=f) (r:=r) (by simp only[eT];rw[if_neg hc,h])
  |cmp =>
   refine iI (rl1:=.sum) (p1:=p) (t1:=t) (k:=fun rec a p t=>match iZ l p opsC with
    |some op=>iV (rec .sum (p+1) t) fun b p t=>some (.ok t.length p (t++[nd2 op a b]))
    |none=>some (.ok a p t)) ?_ (IH .sum p t hg trivial hp (by simp only[mC]at hn ⊢;omega)) (fun g=>rfl) ?_
   ·intro f g a p t r hfg h
    try dsimp only at h ⊢
    split at h
    ·exact yY hfg (fun _ _ _ _ h=>h) h
    ·exact h
   ·intro f a p2 t2 hf
    obtain⟨k1,k2,k3,k4,k5,k6⟩:=bz _ hf hg trivial hp
    simp only[Rl.isL,Bool.false_eq_true,if_false]at k4
    try dsimp only
    cases hc:iZ l p2 opsC with
    |some op =>
     obtain⟨hlt,_⟩:=jo hc
     obtain⟨g,r,h3⟩:=IH .sum (p2+1) t2 k5 trivial Xa (by simp only[mC]at hn ⊢;omega)
     cases r with
     |bad q=>exact⟨g,.bad q,by dsimp only;rw[h3];rfl⟩
     |ok b p3 t3=>exact⟨g,.ok t3.length p3 (t3++[nd2 op a b]),by dsimp only;rw[h3];rfl⟩
    |none=>exact⟨0,_,rfl⟩
  |atom =>
   by_cases hc:isS l p [40]=true
   ·have hlt:=dT hc
    refine iI (rl1:=.imp) (p1:=p+1) (t1:=t) (k:=fun rec a p t=>if isS l p [41]then some (.ok a (p+1) t)else some (.bad p)) (fun f g a p t r hfg h=>h) (IH .imp (p+1) t hg trivial hlt (by simp only[mC]at hn ⊢;omega)) (fun g=>by simp only[eT];rw[if_pos hc]) ?_
    intro f b p2 t2 hf
    try dsimp only
    by_cases h2:isS l p2 [41]=true
    ·exact⟨0,_,by rw[if_pos h2]⟩
    ·exact⟨0,_,by rw[if_neg h2]⟩
   ·exact pS (g:=0) (r:=du l p t) (by simp only[eT];rw[if_neg hc])
theorem Hw(l:List Tok):∃ f r,run l f .imp 0 []=some r:=G9 l _ .imp 0 [] Good.nil trivial (Nat.zero_le _) (Nat.lt_succ_self _)
def dAt(ds:List Nat)(n:Nd):Nat:=if n.op≤3 then 0 else if n.op≤5 then 1+ds.getD n.a 0 else if n.op=16 then max (ds.getD n.a 0) (1+ds.getD n.b 0)else max (ds.getD n.a 0) (ds.getD n.b 0)
def dq(t:List Nd):List Nat:=t.foldl (fun ds n=>ds++[dAt ds n]) []
def im(t:List Nd):Nat:=(dq t).getD (t.length-1) 0
theorem Ic{t:List Nd}{n:Nd}:dq (t++[n])=dq t++[dAt (dq t) n]:=by
 unfold dq;rw[List.foldl_append];rfl
theorem nJ{t:List Nd}{i:Nat}(h:i<t.length):dq (t.take (i+1))=dq (t.take i)++[dAt (dq (t.take i)) t[i]]:=by
 rw[List.take_succ_eq_append_getElem h,Ic]
theorem dW{t:List Nd}:∀{i:Nat},i≤t.length→(dq (t.take i)).length=i
 |0,_=>rfl
 |i+1,h=>by rw[nJ h,lAq,dW (Nat.le_of_succ_le h)];rfl
theorem Mb{t:List Nd}:(dq t).length=t.length:=by
 have:=dW (t:=t) (nrq _)
 rwa[List.take_length]at this
theorem wD{ds:List Nat}{m:Nat}(h:∀ x∈ds,x≤m)(a:Nat):ds.getD a 0≤m:=by
 rw[gEq]
 cases e:ds[a]? with
 |none=>simp
 |some x=>exact h x (List.mem_of_getElem? e)
theorem Qc{ds:List Nat}{m:Nat}(h:∀ x∈ds,x≤m)(n:Nd):dAt ds n≤m+1:=by
 have h1:=wD h n.a
 have h2:=wD h n.b
 unfold dAt
 split
 ·omega
 ·split
  ·omega
  ·split<;>omega
theorem Bx{t:List Nd}:∀{i:Nat},i≤t.length→∀ x∈dq (t.take i),x≤i
 |0,_,x,hx=>by simp[dq]at hx
 |i+1,h,x,hx=>by
  have ih:=Bx (Nat.le_of_succ_le h)
  rw[nJ h,List.mem_append]at hx
  rcases hx with hx|hx
  ·exact Nat.le_succ_of_le (ih x hx)
  ·rw[List.mem_singleton.1 hx];exact Qc ih _
theorem Hu{s:List UInt8}{kd:Nat}{x:List UInt8}(h:og s=some (kd,x))(hk:kd=1):(lit x).isSome=true:=by
 subst hk
 unfold og at h
 split at h
 ·split at h<;>cases h
 ·split at h
  ·cases h
  ·split at h
   ·rename_i h2
    cases h
    exact h2
   ·cases h
theorem rR:∀(f:Nat)(s:List UInt8)(k:Nat),s.length≤1000→(lH f s k).1.length≤s.length∧rB (lH f s k).1
 |0,s,k,h=>⟨Nat.zero_le _,fun x hx=>by cases hx⟩
 |f+1,[],k,h=>⟨Nat.zero_le _,fun x hx=>by cases hx⟩
 |f+1,c::r,k,h=>by
  unfold lH
  split
  ·obtain⟨h1,h2⟩:=rR f r (k+1) (by simp at h;omega)
   exact⟨by simp only[List.length_cons];omega,h2⟩
  ·split
   ·exact⟨Nat.zero_le _,fun x hx=>by cases hx⟩
   ·rename_i kd x htk
    obtain⟨g1,g2,g3⟩:=od htk
    have hx0:=List.length_pos_iff.2 g1
    obtain⟨h1,h2⟩:=rR f ((c::r).drop x.length) (k+x.length) Xt
    rw[List.length_drop]at h1
    refine⟨by simp only[List.length_cons]at *;omega,fun y hy=>?_⟩
    rcases List.mem_cons.1 hy with rfl|hy
    ·exact⟨Xf,fun hk=>Hu htk hk⟩
    ·exact h2 y hy
theorem tI(s:List UInt8):(cE s).1.length≤400∧rB (cE s).1:=by
 unfold cE
 split
 ·exact⟨Nat.zero_le _,fun x hx=>by cases hx⟩
 ·rename_i h
  obtain⟨h1,h2⟩:=rR s.length (s.drop 0) 0 Xd
  change(rest s 0).1.length≤_ at h1
  change rB (rest s 0).1 at h2
  cases e:rest s 0 with
  |mk a b =>
   rw[e]at h1 h2
   cases b with
   |none=>exact⟨by simp at h1;dsimp only;omega,h2⟩
   |some k=>exact⟨Nat.zero_le _,fun x hx=>by cases hx⟩
end Go.AL
