/- Lemmas of the proof; no condition. -/
import Derived.Test.YtjnhidpnfdbmaaaGreatLSyn
import Derived.Test.YtjnhidpnfdbmaaaGreatS07c
set_option linter.all false
open Go Go.AL
namespace Go.AL
def tot (l:List Tok) (rl:Rl) (p:Nat) (t:List Nd):Prop:=∃ f r,run l f rl p t=some r
def jR:Rl→Nat
 |.imp=>7|.or=>6|.and=>5|.not=>4|.cmp=>3|.sum=>2|.un=>1
 |_=>0
theorem mJ {l:List Tok} {rl:Rl} {p:Nat} {t:List Nd} {g:Nat} {r:PR} (h:eN l (run l g) rl p t=some r):tot l rl p t:=⟨g+1,r,h⟩
theorem fF {l:List Tok} {rl rl1:Rl} {p p1:Nat} {t t1:List Nd} {k:(Rl→Nat→List Nd→Option PR)→Nat→Nat→List Nd→Option PR}
 (hm:∀ f g a p t r,f≤g→k (run l f) a p t=some r→k (run l g) a p t=some r)
 (h1:tot l rl1 p1 t1) (he:∀ g,eN l (run l g) rl p t=fR (run l g rl1 p1 t1) (k (run l g)))
 (h2:∀ f a p2 t2,run l f rl1 p1 t1=some (.ok a p2 t2)→∃ g r,k (run l g) a p2 t2=some r):tot l rl p t:=by
 obtain ⟨f,r,hf⟩:=h1
 cases r with
 |bad q=>exact mJ (g:=f) (r:=.bad q) (by rw [he,hf];rfl)
 |ok a p2 t2 =>
  obtain ⟨g,r,hg⟩:=h2 f a p2 t2 hf
  refine mJ (g:=max f g) (r:=r) ?_
  rw [he,dM (Nat.le_max_left f g) hf]
  exact hm _ _ _ _ _ _ (Nat.le_max_right f g) hg
theorem sP {l:List Tok} {f g:Nat} (h:f≤g) {rl:Rl} {p:Nat} {t:List Nd} {k k':Nat→Nat→List Nd→Option PR} (hk:∀ a p t r,k a p t=some r→k' a p t=some r) {r:PR} (h2:fR (run l f rl p t) k=some r):fR (run l g rl p t) k'=some r:=by
 rcases bu h2 with ⟨q,e,rfl⟩|⟨a,p,t,e,e2⟩
 ·rw [dM h e];rfl
 ·rw [dM h e];exact hk _ _ _ _ e2
theorem BP (l:List Tok):∀ (n:Nat) (rl:Rl) (p:Nat) (t:List Nd),Good t→kx t rl→p≤l.length→(l.length - p)*8+jR rl<n→tot l rl p t
 |0,_,_,_,_,_,_,h=>by omega
 |n+1,rl,p,t,hg,hro,hp,hn=>by
  have IH:=BP l n
  cases rl with
  |imp =>
   refine fF (rl1:=.or) (p1:=p) (t1:=t) (k:=fun rec a p t=>if isS l p [45,62] then fR (rec .imp (p+1) t) fun b p t=>some (.ok t.length p (t++[nd2 16 a b])) else some (.ok a p t)) ?_ (IH .or p t hg trivial hp (by simp only [jR] at hn ⊢;omega)) (fun g=>rfl) ?_
   ·intro f g a p t r hfg h
    try dsimp only at h ⊢
    split at h
    ·rename_i hc;rw [if_pos hc];exact sP hfg (fun _ _ _ _ h=>h) h
    ·rename_i hc;rw [if_neg hc];exact h
   ·intro f a p2 t2 hf
    obtain ⟨k1,k2,k3,k4,k5,k6⟩:=cf _ hf hg trivial hp
    simp only [Rl.isL,Bool.false_eq_true,if_false] at k4
    try dsimp only
    by_cases hc:isS l p2 [45,62]=true
    ·have hlt:=dW hc
     obtain ⟨g,r,h3⟩:=IH .imp (p2+1) t2 k5 trivial (by omega) (by simp only [jR] at hn ⊢;omega)
     cases r with
     |bad q=>exact ⟨g,.bad q,by rw [if_pos hc,h3];rfl⟩
     |ok b p3 t3=>exact ⟨g,_,by rw [if_pos hc,h3];rfl⟩
    ·exact ⟨0,_,by rw [if_neg hc]⟩
  |or =>
   refine fF (rl1:=.and) (p1:=p) (t1:=t) (k:=fun rec a p t=>rec (.orL a) p t) (fun f g a p t r hfg h=>dM hfg h) (IH .and p t hg trivial hp (by simp only [jR] at hn ⊢;omega)) (fun g=>rfl) ?_
   intro f a p2 t2 hf
   obtain ⟨k1,k2,k3,k4,k5,k6⟩:=cf _ hf hg trivial hp
   simp only [Rl.isL,Bool.false_eq_true,if_false] at k4
   exact IH (.orL a) p2 t2 k5 k1 k2 (by simp only [jR] at hn ⊢;omega)
  |and =>
   refine fF (rl1:=.not) (p1:=p) (t1:=t) (k:=fun rec a p t=>rec (.andL a) p t) (fun f g a p t r hfg h=>dM hfg h) (IH .not p t hg trivial hp (by simp only [jR] at hn ⊢;omega)) (fun g=>rfl) ?_
   intro f a p2 t2 hf
   obtain ⟨k1,k2,k3,k4,k5,k6⟩:=cf _ hf hg trivial hp
   simp only [Rl.isL,Bool.false_eq_true,if_false] at k4
   exact IH (.andL a) p2 t2 k5 k1 k2 (by simp only [jR] at hn ⊢;omega)
  |sum =>
   refine fF (rl1:=.un) (p1:=p) (t1:=t) (k:=fun rec a p t=>rec (.sumL a) p t) (fun f g a p t r hfg h=>dM hfg h) (IH .un p t hg trivial hp (by simp only [jR] at hn ⊢;omega)) (fun g=>rfl) ?_
   intro f a p2 t2 hf
   obtain ⟨k1,k2,k3,k4,k5,k6⟩:=cf _ hf hg trivial hp
   simp only [Rl.isL,Bool.false_eq_true,if_false] at k4
   exact IH (.sumL a) p2 t2 k5 k1 k2 (by simp only [jR] at hn ⊢;omega)
  |orL a =>
   by_cases hc:isS l p [124,124]=true
   ·have hlt:=dW hc
    refine fF (rl1:=.and) (p1:=p+1) (t1:=t) (k:=fun rec b p t=>rec (.orL t.length) p (t++[nd2 15 a b])) (fun f g a p t r hfg h=>dM hfg h) (IH .and (p+1) t hg trivial hlt (by simp only [jR] at hn ⊢;omega)) (fun g=>by simp only [eN];rw [if_pos hc]) ?_
    intro f b p2 t2 hf
    obtain ⟨k1,k2,k3,k4,k5,k6⟩:=cf _ hf hg trivial hlt
    simp only [Rl.isL,Bool.false_eq_true,if_false] at k4
    simp only [kx] at hro
    exact IH (.orL t2.length) p2 _ (k5.snoc (n:=nd2 15 a b) ⟨(show 1≤15 by decide),(show 15≤16 by decide)⟩ (show (0:Nat)<2^128 by decide) (.inr ⟨by simp only [nd2];omega,by simp only [nd2];omega⟩)) (by simp [kx]) k2 (by simp only [jR] at hn ⊢;omega)
   ·exact mJ (g:=0) (r:=.ok a p t) (by simp only [eN];rw [if_neg hc])
  |andL a =>
   by_cases hc:isS l p [38,38]=true
   ·have hlt:=dW hc
    refine fF (rl1:=.not) (p1:=p+1) (t1:=t) (k:=fun rec b p t=>rec (.andL t.length) p (t++[nd2 14 a b])) (fun f g a p t r hfg h=>dM hfg h) (IH .not (p+1) t hg trivial hlt (by simp only [jR] at hn ⊢;omega)) (fun g=>by simp only [eN];rw [if_pos hc]) ?_
    intro f b p2 t2 hf
    obtain ⟨k1,k2,k3,k4,k5,k6⟩:=cf _ hf hg trivial hlt
    simp only [Rl.isL,Bool.false_eq_true,if_false] at k4
    simp only [kx] at hro
    exact IH (.andL t2.length) p2 _ (k5.snoc (n:=nd2 14 a b) ⟨(show 1≤14 by decide),(show 14≤16 by decide)⟩ (show (0:Nat)<2^128 by decide) (.inr ⟨by simp only [nd2];omega,by simp only [nd2];omega⟩)) (by simp [kx]) k2 (by simp only [jR] at hn ⊢;omega)
   ·exact mJ (g:=0) (r:=.ok a p t) (by simp only [eN];rw [if_neg hc])
  |sumL a =>
   cases hc:jS l p opsS with
   |some op =>
    obtain ⟨hlt,so,hso⟩:=gO hc
    obtain ⟨o1,o2⟩:=su hso
    refine fF (rl1:=.un) (p1:=p+1) (t1:=t) (k:=fun rec b p t=>rec (.sumL t.length) p (t++[nd2 op a b])) (fun f g a p t r hfg h=>dM hfg h) (IH .un (p+1) t hg trivial hlt (by simp only [jR] at hn ⊢;omega)) (fun g=>by simp only [eN];rw [hc]) ?_
    intro f b p2 t2 hf
    obtain ⟨k1,k2,k3,k4,k5,k6⟩:=cf _ hf hg trivial hlt
    simp only [Rl.isL,Bool.false_eq_true,if_false] at k4
    simp only [kx] at hro
    exact IH (.sumL t2.length) p2 _ (k5.snoc (n:=nd2 op a b) ⟨by simp only [nd2];omega,o2⟩ (show (0:Nat)<2^128 by decide) (.inr ⟨by simp only [nd2];omega,by simp only [nd2];omega⟩)) (by simp [kx]) k2 (by simp only [jR] at hn ⊢;omega)
   |none=>exact mJ (g:=0) (r:=.ok a p t) (by simp only [eN];rw [hc])
  |not =>
   by_cases hc:isS l p [33]=true
   ·have hlt:=dW hc
    refine fF (rl1:=.not) (p1:=p+1) (t1:=t) (k:=fun rec b p t=>some (.ok t.length p (t++[nd2 5 b 0]))) (fun f g a p t r hfg h=>h) (IH .not (p+1) t hg trivial hlt (by simp only [jR] at hn ⊢;omega)) (fun g=>by simp only [eN];rw [if_pos hc]) ?_
    intro f b p2 t2 hf
    exact ⟨0,_,rfl⟩
   ·obtain ⟨f,r,h⟩:=IH .cmp p t hg trivial hp (by simp only [jR] at hn ⊢;omega)
    exact mJ (g:=f) (r:=r) (by simp only [eN];rw [if_neg hc,h])
  |un =>
   by_cases hc:isS l p [45]=true
   ·have hlt:=dW hc
    refine fF (rl1:=.un) (p1:=p+1) (t1:=t) (k:=fun rec b p t=>some (.ok t.length p (t++[nd2 4 b 0]))) (fun f g a p t r hfg h=>h) (IH .un (p+1) t hg trivial hlt (by simp only [jR] at hn ⊢;omega)) (fun g=>by simp only [eN];rw [if_pos hc]) ?_
    intro f b p2 t2 hf
    exact ⟨0,_,rfl⟩
   ·obtain ⟨f,r,h⟩:=IH .atom p t hg trivial hp (by simp only [jR] at hn ⊢;omega)
    exact mJ (g:=f) (r:=r) (by simp only [eN];rw [if_neg hc,h])
  |cmp =>
   refine fF (rl1:=.sum) (p1:=p) (t1:=t) (k:=fun rec a p t=>match jS l p opsC with
    |some op=>fR (rec .sum (p+1) t) fun b p t=>some (.ok t.length p (t++[nd2 op a b]))
    |none=>some (.ok a p t)) ?_ (IH .sum p t hg trivial hp (by simp only [jR] at hn ⊢;omega)) (fun g=>rfl) ?_
   ·intro f g a p t r hfg h
    try dsimp only at h ⊢
    split at h
    ·exact sP hfg (fun _ _ _ _ h=>h) h
    ·exact h
   ·intro f a p2 t2 hf
    obtain ⟨k1,k2,k3,k4,k5,k6⟩:=cf _ hf hg trivial hp
    simp only [Rl.isL,Bool.false_eq_true,if_false] at k4
    try dsimp only
    cases hc:jS l p2 opsC with
    |some op =>
     obtain ⟨hlt,_⟩:=gO hc
     obtain ⟨g,r,h3⟩:=IH .sum (p2+1) t2 k5 trivial (by omega) (by simp only [jR] at hn ⊢;omega)
     cases r with
     |bad q=>exact ⟨g,.bad q,by dsimp only;rw [h3];rfl⟩
     |ok b p3 t3=>exact ⟨g,.ok t3.length p3 (t3++[nd2 op a b]),by dsimp only;rw [h3];rfl⟩
    |none=>exact ⟨0,_,rfl⟩
  |atom =>
   by_cases hc:isS l p [40]=true
   ·have hlt:=dW hc
    refine fF (rl1:=.imp) (p1:=p+1) (t1:=t) (k:=fun rec a p t=>if isS l p [41] then some (.ok a (p+1) t) else some (.bad p)) (fun f g a p t r hfg h=>h) (IH .imp (p+1) t hg trivial hlt (by simp only [jR] at hn ⊢;omega)) (fun g=>by simp only [eN];rw [if_pos hc]) ?_
    intro f b p2 t2 hf
    try dsimp only
    by_cases h2:isS l p2 [41]=true
    ·exact ⟨0,_,by rw [if_pos h2]⟩
    ·exact ⟨0,_,by rw [if_neg h2]⟩
   ·exact mJ (g:=0) (r:=eD l p t) (by simp only [eN];rw [if_neg hc])
theorem EC (l:List Tok):∃ f r,run l f .imp 0 []=some r:=BP l _ .imp 0 [] Good.nil trivial (Nat.zero_le _) (Nat.lt_succ_self _)
def dAt (ds:List Nat) (n:Nd):Nat:=if n.op≤3 then 0 else if n.op≤5 then 1+ds.getD n.a 0 else if n.op=16 then max (ds.getD n.a 0) (1+ds.getD n.b 0) else max (ds.getD n.a 0) (ds.getD n.b 0)
def eM (t:List Nd):List Nat:=t.foldl (fun ds n=>ds++[dAt ds n]) []
def kg (t:List Nd):Nat:=(eM t).getD (t.length - 1) 0
theorem Di {t:List Nd} {n:Nd}:eM (t++[n])=eM t++[dAt (eM t) n]:=by
 unfold eM;rw [List.foldl_append];rfl
theorem rc {t:List Nd} {i:Nat} (h:i<t.length):eM (t.take (i+1))=eM (t.take i)++[dAt (eM (t.take i)) t[i]]:=by
 rw [List.take_succ_eq_append_getElem h,Di]
theorem eo {t:List Nd}:∀ {i:Nat},i≤t.length→(eM (t.take i)).length=i
 |0,_=>rfl
 |i+1,h=>by rw [rc h,lAq,eo (Nat.le_of_succ_le h)];rfl
theorem Gf {t:List Nd}:(eM t).length=t.length:=by
 have:=eo (t:=t) (nrq _)
 rwa [List.take_length] at this
theorem xe {ds:List Nat} {m:Nat} (h:∀ x∈ds,x≤m) (a:Nat):ds.getD a 0≤m:=by
 rw [gEq]
 cases e:ds[a]? with
 |none=>simp
 |some x=>exact h x (List.mem_of_getElem? e)
theorem KE {ds:List Nat} {m:Nat} (h:∀ x∈ds,x≤m) (n:Nd):dAt ds n≤m+1:=by
 have h1:=xe h n.a
 have h2:=xe h n.b
 unfold dAt
 split
 ·omega
 ·split
  ·omega
  ·split<;>omega
theorem BW {t:List Nd}:∀ {i:Nat},i≤t.length→∀ x∈eM (t.take i),x≤i
 |0,_,x,hx=>by simp [eM] at hx
 |i+1,h,x,hx=>by
  have ih:=BW (Nat.le_of_succ_le h)
  rw [rc h,List.mem_append] at hx
  rcases hx with hx|hx
  ·exact Nat.le_succ_of_le (ih x hx)
  ·rw [List.mem_singleton.1 hx];exact KE ih _
theorem CF {s:List UInt8} {kd:Nat} {x:List UInt8} (h:lL s=some (kd,x)) (hk:kd=1):(lit x).isSome=true:=by
 subst hk
 unfold lL at h
 split at h
 ·split at h<;>cases h
 ·split at h
  ·cases h
  ·split at h
   ·rename_i h2
    cases h
    exact h2
   ·cases h
theorem n8:∀ (f:Nat) (s:List UInt8) (k:Nat),s.length≤1000→(jl f s k).1.length≤s.length∧rp (jl f s k).1
 |0,s,k,h=>⟨Nat.zero_le _,fun x hx=>by cases hx⟩
 |f+1,[],k,h=>⟨Nat.zero_le _,fun x hx=>by cases hx⟩
 |f+1,c::r,k,h=>by
  unfold jl
  split
  ·obtain ⟨h1,h2⟩:=n8 f r (k+1) (by simp at h;omega)
   exact ⟨by simp only [List.length_cons];omega,h2⟩
  ·split
   ·exact ⟨Nat.zero_le _,fun x hx=>by cases hx⟩
   ·rename_i kd x htk
    obtain ⟨g1,g2,g3⟩:=nc htk
    have hx0:=List.length_pos_iff.2 g1
    obtain ⟨h1,h2⟩:=n8 f ((c::r).drop x.length) (k+x.length) (by rw [List.length_drop];omega)
    rw [List.length_drop] at h1
    refine ⟨by simp only [List.length_cons] at *;omega,fun y hy=>?_⟩
    rcases List.mem_cons.1 hy with rfl|hy
    ·exact ⟨by dsimp only;omega,fun hk=>CF htk hk⟩
    ·exact h2 y hy
theorem xM (s:List UInt8):(cD s).1.length≤400∧rp (cD s).1:=by
 unfold cD
 split
 ·exact ⟨Nat.zero_le _,fun x hx=>by cases hx⟩
 ·rename_i h
  obtain ⟨h1,h2⟩:=n8 s.length (s.drop 0) 0 (by simp;omega)
  change (rest s 0).1.length≤_ at h1
  change rp (rest s 0).1 at h2
  cases e:rest s 0 with
  |mk a b =>
   rw [e] at h1 h2
   cases b with
   |none=>exact ⟨by simp at h1;dsimp only;omega,h2⟩
   |some k=>exact ⟨Nat.zero_le _,fun x hx=>by cases hx⟩
end Go.AL
