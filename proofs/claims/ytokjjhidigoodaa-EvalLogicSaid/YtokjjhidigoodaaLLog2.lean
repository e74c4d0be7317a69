/- Contracts and plain laws, a part of the proof; no condition of its own. -/
import Derived.Test.YtokjjhidigoodaaLEval
import Derived.Test.YtokjjhidigoodaaLPar
/- Plain laws of texts that are put together: how they scan, how they are parsed wherever they stand, and what they mean. No program. -/
open Go Go.AL
namespace Go.AL
set_option linter.all false
set_option maxRecDepth 10000
/-- big steps of the parser -/
def Rn (l:List Tok) (rl:Rl) (p:Nat) (t:List Nd) (r:PR):Prop:=∃ f,run l f rl p t=some r
abbrev T2:=Nat × List UInt8
def er (x:Tok):T2:=(x.1,x.2.1)
/-- these tokens stand at place p -/
def At (l:List Tok) (p:Nat) (n:List T2):Prop:=∀ i x,n[i]?=some x→(l[p+i]?).map er=some x
theorem At.left {l:List Tok} {p:Nat} {n m:List T2} (h:At l p (n++m)):At l p n:=fun i x hx=>h i x (by
 have hi:i<n.length:=by
  rcases Nat.lt_or_ge i n.length with h1|h1
  ·exact h1
  ·rw [List.getElem?_eq_none h1] at hx;cases hx
 rw [List.getElem?_append_left hi];exact hx)
theorem At.right {l:List Tok} {p:Nat} {n m:List T2} (h:At l p (n++m)):At l (p+n.length) m:=fun i x hx=>by
 have:=h (n.length+i) x (by rw [List.getElem?_append_right (by omega),Nat.add_sub_cancel_left];exact hx)
 rw [← Nat.add_assoc] at this;exact this
theorem At.head {l:List Tok} {p:Nat} {x:T2} {m:List T2} (h:At l p (x::m)):(l[p]?).map er=some x:=h 0 x rfl
theorem At.tail {l:List Tok} {p:Nat} {x:T2} {m:List T2} (h:At l p (x::m)):At l (p+1) m:=At.right (n:=[x]) h
theorem gz {l:List Tok} {p k:Nat} {x s:List UInt8} (h:(l[p]?).map er=some (k,x)):isS l p s=(k==3&&x==s):=by
 unfold isS
 cases h1:l[p]? with
 |none=>rw [h1] at h;cases h
 |some y =>
  rw [h1] at h
  obtain ⟨a,b,c⟩:=y
  simp only [Option.map_some,er,Option.some.injEq,Prod.mk.injEq] at h
  obtain ⟨rfl,rfl⟩:=h
  rfl
/-- what a node of a tree means, and of all that go on from it -/
def M (e:List (VN × Nat)) (u:List Nd) (b:Nat) (m:Mv):Prop:=b<u.length∧∀ w,u <+: w→val e w b=m
theorem M.ext {e:List (VN × Nat)} {u u':List Nd} {b:Nat} {m:Mv} (h:M e u b m) (hp:u <+: u'):M e u' b m :=
 ⟨Nat.lt_of_lt_of_le h.1 hp.length_le,fun w hw=>h.2 w (hp.trans hw)⟩
theorem oW {u w:List Nd} {n:Nd} (h:(u++[n]) <+: w):∃ hi:u.length<w.length,w[u.length]=n:=by
 obtain ⟨r,rfl⟩:=h
 exact ⟨by simp only [List.length_append,List.length_cons,List.length_nil];omega,by simp⟩
theorem xA {e:List (VN × Nat)} {u:List Nd} {a b op:Nat} {x y:Mv} (ho:3<op) (ha:M e u a x) (hb:M e u b y):M e (u++[nd2 op a b]) u.length (opV op x y):=by
 refine ⟨by simp,fun w hw=>?_⟩
 obtain ⟨hi,hn⟩:=oW hw
 have e1:=ha.2 w (snoc_pre.trans hw)
 have e2:=hb.2 w (snoc_pre.trans hw)
 rw [pB hi (by rw [hn];exact ho) (by rw [hn];exact ha.1) (by rw [hn];exact hb.1),hn]
 show opV op (val e w a) (val e w b)=_
 rw [e1,e2]
theorem Cn {e:List (VN × Nat)} {u:List Nd} {a op:Nat} {x:Mv} (ho:op=4∨op=5) (ha:M e u a x):M e (u++[nd2 op a 0]) u.length (opV op x (.b false)):=by
 refine ⟨by simp,fun w hw=>?_⟩
 obtain ⟨hi,hn⟩:=oW hw
 have e1:=ha.2 w (snoc_pre.trans hw)
 have hl:=ha.1
 rw [pB hi (by rw [hn];show 3<op;omega) (by rw [hn];exact ha.1) (by rw [hn];show 0<u.length;omega),hn]
 show opV op (val e w a) (val e w 0)=_
 rw [e1]
 rcases ho with rfl|rfl<;>rfl
theorem oZ {e:List (VN × Nat)} {u:List Nd} {n:Nd} {m:Mv} (h:∀ k,fe e k n=m):M e (u++[n]) u.length m:=by
 refine ⟨by simp,fun w hw=>?_⟩
 obtain ⟨hi,hn⟩:=oW hw
 rw [pH hi,hn,h]
/-! the rules of the parser, as big steps -/
variable {l:List Tok} {p q q2 a b:Nat} {t u u2:List Nd} {r:PR}
theorem kM {rl rl':Rl} {p p':Nat} {t t':List Nd} {r r':PR} (h1:Rn l rl p t r) (h2:Rn l rl' p' t' r'):∃ f,run l f rl p t=some r∧run l f rl' p' t'=some r':=by
 obtain ⟨f,hf⟩:=h1
 obtain ⟨g,hg⟩:=h2
 exact ⟨max f g,bG (Nat.le_max_left _ _) hf,bG (Nat.le_max_right _ _) hg⟩
theorem Bt (h:Rn l .or p t (.ok a q u)) (hs:isS l q [45,62]=false):Rn l .imp p t (.ok a q u):=by
 obtain ⟨f,hf⟩:=h
 refine ⟨f+1,?_⟩
 show aO l (run l f) .imp p t=_
 simp only [aO]
 rw [hf,aZ,hs];rfl
theorem Ao (h:Rn l .or p t (.ok a q u)) (hs:isS l q [45,62]=true) (h2:Rn l .imp (q+1) u (.ok b q2 u2)):Rn l .imp p t (.ok u2.length q2 (u2++[nd2 16 a b])):=by
 obtain ⟨f,hf,hg⟩:=kM h h2
 refine ⟨f+1,?_⟩
 show aO l (run l f) .imp p t=_
 simp only [aO]
 rw [hf,aZ,if_pos hs,hg];rfl
theorem Cm (h:Rn l .and p t (.ok a q u)) (h2:Rn l (.orL a) q u r):Rn l .or p t r:=by
 obtain ⟨f,hf,hg⟩:=kM h h2
 refine ⟨f+1,?_⟩
 show aO l (run l f) .or p t=_
 simp only [aO]
 rw [hf,aZ,hg]
theorem wR (hs:isS l p [124,124]=false):Rn l (.orL a) p t (.ok a p t):=by
 refine ⟨1,?_⟩
 show aO l (run l 0) (.orL a) p t=_
 simp only [aO]
 rw [hs];rfl
theorem AP (hs:isS l p [124,124]=true) (h:Rn l .and (p+1) t (.ok b q u)) (h2:Rn l (.orL u.length) q (u++[nd2 15 a b]) r):Rn l (.orL a) p t r:=by
 obtain ⟨f,hf,hg⟩:=kM h h2
 refine ⟨f+1,?_⟩
 show aO l (run l f) (.orL a) p t=_
 simp only [aO]
 rw [if_pos hs,hf,aZ,hg]
theorem z9 (h:Rn l .not p t (.ok a q u)) (h2:Rn l (.andL a) q u r):Rn l .and p t r:=by
 obtain ⟨f,hf,hg⟩:=kM h h2
 refine ⟨f+1,?_⟩
 show aO l (run l f) .and p t=_
 simp only [aO]
 rw [hf,aZ,hg]
theorem t8 (hs:isS l p [38,38]=false):Rn l (.andL a) p t (.ok a p t):=by
 refine ⟨1,?_⟩
 show aO l (run l 0) (.andL a) p t=_
 simp only [aO]
 rw [hs];rfl
theorem yK (hs:isS l p [38,38]=true) (h:Rn l .not (p+1) t (.ok b q u)) (h2:Rn l (.andL u.length) q (u++[nd2 14 a b]) r):Rn l (.andL a) p t r:=by
 obtain ⟨f,hf,hg⟩:=kM h h2
 refine ⟨f+1,?_⟩
 show aO l (run l f) (.andL a) p t=_
 simp only [aO]
 rw [if_pos hs,hf,aZ,hg]
theorem AR (hs:isS l p [33]=false) (h:Rn l .cmp p t r):Rn l .not p t r:=by
 obtain ⟨f,hf⟩:=h
 refine ⟨f+1,?_⟩
 show aO l (run l f) .not p t=_
 simp only [aO]
 rw [hs,← hf];rfl
theorem As (hs:isS l p [33]=true) (h:Rn l .not (p+1) t (.ok b q u)):Rn l .not p t (.ok u.length q (u++[nd2 5 b 0])):=by
 obtain ⟨f,hf⟩:=h
 refine ⟨f+1,?_⟩
 show aO l (run l f) .not p t=_
 simp only [aO]
 rw [if_pos hs,hf];rfl
theorem AW (h:Rn l .sum p t (.ok a q u)) (hs:cE l q opsC=none):Rn l .cmp p t (.ok a q u):=by
 obtain ⟨f,hf⟩:=h
 refine ⟨f+1,?_⟩
 show aO l (run l f) .cmp p t=_
 simp only [aO]
 rw [hf,aZ,hs]
theorem BB {op:Nat} (h:Rn l .sum p t (.ok a q u)) (hs:cE l q opsC=some op) (h2:Rn l .sum (q+1) u (.ok b q2 u2)):Rn l .cmp p t (.ok u2.length q2 (u2++[nd2 op a b])):=by
 obtain ⟨f,hf,hg⟩:=kM h h2
 refine ⟨f+1,?_⟩
 show aO l (run l f) .cmp p t=_
 simp only [aO]
 rw [hf,aZ,hs]
 dsimp only
 rw [hg];rfl
theorem z4 (h:Rn l .un p t (.ok a q u)) (h2:Rn l (.sumL a) q u r):Rn l .sum p t r:=by
 obtain ⟨f,hf,hg⟩:=kM h h2
 refine ⟨f+1,?_⟩
 show aO l (run l f) .sum p t=_
 simp only [aO]
 rw [hf,aZ,hg]
theorem tF (hs:cE l p opsS=none):Rn l (.sumL a) p t (.ok a p t):=by
 refine ⟨1,?_⟩
 show aO l (run l 0) (.sumL a) p t=_
 simp only [aO]
 rw [hs]
theorem zv {op:Nat} (hs:cE l p opsS=some op) (h:Rn l .un (p+1) t (.ok b q u)) (h2:Rn l (.sumL u.length) q (u++[nd2 op a b]) r):Rn l (.sumL a) p t r:=by
 obtain ⟨f,hf,hg⟩:=kM h h2
 refine ⟨f+1,?_⟩
 show aO l (run l f) (.sumL a) p t=_
 simp only [aO]
 rw [hs]
 dsimp only
 rw [hf,aZ,hg]
theorem Cq (hs:isS l p [45]=false) (h:Rn l .atom p t r):Rn l .un p t r:=by
 obtain ⟨f,hf⟩:=h
 refine ⟨f+1,?_⟩
 show aO l (run l f) .un p t=_
 simp only [aO]
 rw [hs,← hf];rfl
theorem Ci (hs:isS l p [45]=true) (h:Rn l .un (p+1) t (.ok b q u)):Rn l .un p t (.ok u.length q (u++[nd2 4 b 0])):=by
 obtain ⟨f,hf⟩:=h
 refine ⟨f+1,?_⟩
 show aO l (run l f) .un p t=_
 simp only [aO]
 rw [if_pos hs,hf];rfl
theorem Cr (hs:isS l p [40]=true) (h:Rn l .imp (p+1) t (.ok a q u)) (h2:isS l q [41]=true):Rn l .atom p t (.ok a (q+1) u):=by
 obtain ⟨f,hf⟩:=h
 refine ⟨f+1,?_⟩
 show aO l (run l f) .atom p t=_
 simp only [aO]
 rw [if_pos hs,hf,aZ,if_pos h2]
theorem oL (hs:isS l p [40]=false):Rn l .atom p t (bA l p t):=by
 refine ⟨1,?_⟩
 show aO l (run l 0) .atom p t=_
 simp only [aO]
 rw [hs];rfl
/-! what tokens mean at a level of the parser, wherever they stand -/
def s0:List (List UInt8):=[[58,58]]
def gP:List (List UInt8):=s0++[[43],[45]]
def mF:List (List UInt8):=gP++[[61,61],[33,61],[60],[60,61],[62],[62,61]]
def rM:List (List UInt8):=mF++[[38,38]]
def sOr:List (List UInt8):=rM++[[124,124]]
def pA:List (List UInt8):=sOr++[[45,62]]
def Lv (e:List (VN × Nat)) (rl:Rl) (stop:List (List UInt8)) (n:List T2) (m:Mv):Prop :=
 ∀ (l:List Tok) (p:Nat) (t:List Nd),At l p n→(∀ s∈stop,isS l (p+n.length) s=false)→∃ a u,Rn l rl p t (.ok a (p+n.length) u)∧t <+: u∧M e u a m
theorem kx {ops:List (Nat × List UInt8)} (h:∀ x∈ops,isS l p x.2=false):cE l p ops=none:=by
 induction ops with
 |nil=>rfl
 |cons x r ih =>
  obtain ⟨k,s⟩:=x
  unfold cE
  rw [h (k,s) List.mem_cons_self]
  exact ih fun y hy=>h y (List.mem_cons_of_mem _ hy)
variable {e:List (VN × Nat)} {n n1 n2:List T2} {m m1 m2:Mv}
theorem Lv.mono {rl:Rl} {s s':List (List UInt8)} (h:Lv e rl s n m) (hs:∀ x∈s,x∈s'):Lv e rl s' n m:=fun l p t ha hp=>h l p t ha fun x hx=>hp x (hs x hx)
def lf (x:T2) (n:List T2):Prop:=∀ y,n[0]?=some y→y≠x
theorem w7 (h0:n≠[]) {s:List UInt8} (hn:lf (3,s) n) (ha:At l p n):isS l p s=false:=by
 cases n with
 |nil=>exact absurd rfl h0
 |cons y r =>
  rw [gz ha.head]
  have:=hn y rfl
  cases hb:(y.1==3&&y.2==s) with
  |false=>rfl
  |true =>
   rw [Bool.and_eq_true,beq_iff_eq,beq_iff_eq] at hb
   exact absurd (Prod.ext hb.1 hb.2) this
theorem fG {s:List UInt8} {r:List T2} (ha:At l p ((3,s)::r)):isS l p s=true:=by rw [gz ha.head];simp
theorem fP {s s':List UInt8} {r:List T2} (ha:At l p ((3,s)::r)) (h:s≠s'):isS l p s'=false:=by
 rw [gz ha.head]
 show ((3:Nat)==3&&s==s')=false
 rw [beq_eq_false_iff_ne.2 h];rfl
theorem pI (h:Lv e .imp pA n m):Lv e .atom s0 ((3,[40])::(n++[(3,[41])])) m:=by
 intro l p t ha _
 have hn:=ha.tail.left
 have hr:=ha.tail.right
 obtain ⟨a,u,h1,h2,h3⟩:=h l (p+1) t hn fun s hs=>fP hr (by rintro rfl;revert hs;decide)
 have e1:p+1+n.length+1=p+((3,[40])::(n++[(3,[41])]):List T2).length:=by simp only [List.length_cons,List.length_append,List.length_nil];omega
 refine ⟨a,u,?_,h2,h3⟩
 rw [← e1]
 exact Cr (fG ha) h1 (fG hr)
theorem ld (h:Lv e .atom s0 n m) (h0:n≠[]) (hd:lf (3,[45]) n):Lv e .un s0 n m:=by
 intro l p t ha hs
 obtain ⟨a,u,h1,h2,h3⟩:=h l p t ha hs
 exact ⟨a,u,Cq (w7 h0 hd ha) h1,h2,h3⟩
theorem oU (h:Lv e .un s0 n m):Lv e .sum gP n m:=by
 intro l p t ha hs
 obtain ⟨a,u,h1,h2,h3⟩:=h l p t ha (fun s h=>hs s (List.mem_append_left _ h))
 exact ⟨a,u,z4 h1 (tF (kx (by
  intro x hx
  simp only [opsS,List.mem_cons,List.not_mem_nil,or_false] at hx
  rcases hx with rfl|rfl<;>exact hs _ (by decide)))),h2,h3⟩
theorem noC (hs:∀ s∈mF,isS l p s=false):cE l p opsC=none:=kx (by
 intro x hx
 simp only [opsC,List.mem_cons,List.not_mem_nil,or_false] at hx
 rcases hx with rfl|rfl|rfl|rfl|rfl|rfl<;>exact hs _ (by decide))
theorem sf (h:Lv e .sum gP n m):Lv e .cmp mF n m:=by
 intro l p t ha hs
 obtain ⟨a,u,h1,h2,h3⟩:=h l p t ha (fun s h=>hs s (List.mem_append_left _ h))
 exact ⟨a,u,AW h1 (noC hs),h2,h3⟩
def cOp:Nat→List UInt8
 |8=>[61,61]
 |9=>[33,61]
 |10=>[60]
 |11=>[60,61]
 |12=>[62]
 |_=>[62,61]
theorem yC {c:Nat} (h1:8≤c) (h2:c≤13) {r:List T2} (ha:At l p ((3,cOp c)::r)):cE l p opsC=some c∧∀ s∈gP,isS l p s=false:=by
 rcases (by omega:c=8∨c=9∨c=10∨c=11∨c=12∨c=13) with rfl|rfl|rfl|rfl|rfl|rfl
 all_goals
  refine ⟨?_,fun s hs=>fP ha (by rintro rfl;revert hs;decide)⟩
  simp only [opsC,cE,gz ha.head]
  decide
theorem po {c:Nat} (hc1:8≤c) (hc2:c≤13) (h1:Lv e .sum gP n1 m1) (h2:Lv e .sum gP n2 m2):Lv e .cmp gP (n1++(3,cOp c)::n2) (opV c m1 m2):=by
 intro l p t ha hs
 have hc:=ha.right
 obtain ⟨g1,g2⟩:=yC hc1 hc2 hc
 obtain ⟨a,u,k1,k2,k3⟩:=h1 l p t ha.left g2
 have e1:p+n1.length+1+n2.length=p+(n1++(3,cOp c)::n2).length:=by simp only [List.length_cons,List.length_append];omega
 obtain ⟨b,w,j1,j2,j3⟩:=h2 l (p+n1.length+1) u hc.tail (by rw [e1];exact hs)
 rw [e1] at j1
 exact ⟨_,_,BB k1 g1 j1,(k2.trans j2).trans snoc_pre,xA (by omega) (k3.ext j2) j3⟩
theorem j8 (h:Lv e .cmp mF n m) (h0:n≠[]) (hd:lf (3,[33]) n):Lv e .not mF n m:=by
 intro l p t ha hs
 obtain ⟨a,u,h1,h2,h3⟩:=h l p t ha hs
 exact ⟨a,u,AR (w7 h0 hd ha) h1,h2,h3⟩
theorem eR (h:Lv e .not mF n m):Lv e .not mF ((3,[33])::n) (opV 5 m (.b false)):=by
 intro l p t ha hs
 have e1:p+1+n.length=p+((3,[33])::n:List T2).length:=by simp only [List.length_cons];omega
 obtain ⟨a,u,h1,h2,h3⟩:=h l (p+1) t ha.tail (by rw [e1];exact hs)
 rw [e1] at h1
 exact ⟨_,_,As (fG ha) h1,h2.trans snoc_pre,Cn (.inr rfl) h3⟩
theorem dN (h:Lv e .not mF n m):Lv e .and rM n m:=by
 intro l p t ha hs
 obtain ⟨a,u,h1,h2,h3⟩:=h l p t ha (fun s h=>hs s (List.mem_append_left _ h))
 exact ⟨a,u,z9 h1 (t8 (hs _ (by decide))),h2,h3⟩
theorem zJ (h1:Lv e .not mF n1 m1) (h2:Lv e .not mF n2 m2):Lv e .and rM (n1++(3,[38,38])::n2) (opV 14 m1 m2):=by
 intro l p t ha hs
 have hc:=ha.right
 obtain ⟨a,u,k1,k2,k3⟩:=h1 l p t ha.left fun s hs=>fP hc (by rintro rfl;revert hs;decide)
 have e1:p+n1.length+1+n2.length=p+(n1++(3,[38,38])::n2).length:=by simp only [List.length_cons,List.length_append];omega
 obtain ⟨b,w,j1,j2,j3⟩:=h2 l (p+n1.length+1) u hc.tail (by rw [e1];exact fun s h=>hs s (List.mem_append_left _ h))
 rw [e1] at j1
 exact ⟨_,_,z9 k1 (yK (fG hc) j1 (t8 (hs _ (by decide)))),(k2.trans j2).trans snoc_pre,xA (by decide) (k3.ext j2) j3⟩
theorem gZ (h:Lv e .and rM n m):Lv e .or sOr n m:=by
 intro l p t ha hs
 obtain ⟨a,u,h1,h2,h3⟩:=h l p t ha (fun s h=>hs s (List.mem_append_left _ h))
 exact ⟨a,u,Cm h1 (wR (hs _ (by decide))),h2,h3⟩
theorem ph (h1:Lv e .and rM n1 m1) (h2:Lv e .and rM n2 m2):Lv e .or sOr (n1++(3,[124,124])::n2) (opV 15 m1 m2):=by
 intro l p t ha hs
 have hc:=ha.right
 obtain ⟨a,u,k1,k2,k3⟩:=h1 l p t ha.left fun s hs=>fP hc (by rintro rfl;revert hs;decide)
 have e1:p+n1.length+1+n2.length=p+(n1++(3,[124,124])::n2).length:=by simp only [List.length_cons,List.length_append];omega
 obtain ⟨b,w,j1,j2,j3⟩:=h2 l (p+n1.length+1) u hc.tail (by rw [e1];exact fun s h=>hs s (List.mem_append_left _ h))
 rw [e1] at j1
 exact ⟨_,_,Cm k1 (AP (fG hc) j1 (wR (hs _ (by decide)))),(k2.trans j2).trans snoc_pre,xA (by decide) (k3.ext j2) j3⟩
theorem dv (h:Lv e .or sOr n m):Lv e .imp pA n m:=by
 intro l p t ha hs
 obtain ⟨a,u,h1,h2,h3⟩:=h l p t ha (fun s h=>hs s (List.mem_append_left _ h))
 exact ⟨a,u,Bt h1 (hs _ (by decide)),h2,h3⟩
theorem yV (h1:Lv e .or sOr n1 m1) (h2:Lv e .imp pA n2 m2):Lv e .imp pA (n1++(3,[45,62])::n2) (opV 16 m1 m2):=by
 intro l p t ha hs
 have hc:=ha.right
 obtain ⟨a,u,k1,k2,k3⟩:=h1 l p t ha.left fun s hs=>fP hc (by rintro rfl;revert hs;decide)
 have e1:p+n1.length+1+n2.length=p+(n1++(3,[45,62])::n2).length:=by simp only [List.length_cons,List.length_append];omega
 obtain ⟨b,w,j1,j2,j3⟩:=h2 l (p+n1.length+1) u hc.tail (by rw [e1];exact hs)
 rw [e1] at j1
 exact ⟨_,_,Ao k1 (fG hc) j1,(k2.trans j2).trans snoc_pre,xA (by decide) (k3.ext j2) j3⟩
/-! sums: a first operand, and what is added behind it -/
def Arr (e:List (VN × Nat)) (l:List Tok) (p q:Nat) (d:Int):Prop:=∀ a (u:List Nd) z,M e u a (.i z)→∃ a' u',u <+: u'∧M e u' a' (.i (z+d))∧∀ r,Rn l (.sumL a') q u' r→Rn l (.sumL a) p u r
def Num (e:List (VN × Nat)) (n:List T2) (z d:Int):Prop:=∀ (l:List Tok) (p:Nat) (t:List Nd),At l p n→isS l (p+n.length) [58,58]=false→∃ b p1 u,Rn l .un p t (.ok b p1 u)∧t <+: u∧M e u b (.i z)∧Arr e l p1 (p+n.length) d
theorem Arr.refl {l:List Tok} {p:Nat}:Arr e l p p 0:=fun a u z h=>⟨a,u,List.prefix_refl _,by rw [Int.add_zero];exact h,fun _ h=>h⟩
theorem Arr.trans {l:List Tok} {p q s:Nat} {d d':Int} (h1:Arr e l p q d) (h2:Arr e l q s d'):Arr e l p s (d+d'):=by
 intro a u z h
 obtain ⟨a1,u1,k1,k2,k3⟩:=h1 a u z h
 obtain ⟨a2,u2,j1,j2,j3⟩:=h2 a1 u1 _ k2
 exact ⟨a2,u2,k1.trans j1,by rw [← Int.add_assoc];exact j2,fun r hr=>k3 r (j3 r hr)⟩
/-- an operand of a sum, and what is added behind it -/
theorem Arr.term {op:Nat} (ho:op=6∨op=7) (hs:cE l p opsS=some op) {z d:Int} (h:Num e n z d) (ha:At l (p+1) n) (hq:isS l (p+1+n.length) [58,58]=false):Arr e l p (p+1+n.length) ((if op=6 then z else -z)+d):=by
 intro a u x hx
 obtain ⟨b,p1,u1,h1,h2,h3,h4⟩:=h l (p+1) u ha hq
 have hm:M e (u1++[nd2 op a b]) u1.length (.i (x+if op=6 then z else -z)):=by
  have:=xA (op:=op) (by omega) (hx.ext h2) h3
  rcases ho with rfl|rfl
  ·exact this
  ·rw [if_neg (by decide)]
   have e2:x + -z=x - z:=by omega
   rw [e2];exact this
 obtain ⟨a',u',k1,k2,k3⟩:=h4 u1.length (u1++[nd2 op a b]) _ hm
 refine ⟨a',u',(h2.trans snoc_pre).trans k1,by rw [← Int.add_assoc];exact k2,fun r hr=>zv hs h1 (k3 r hr)⟩
theorem se {z d:Int} (h:Num e n z d):Lv e .sum gP n (.i (z+d)):=by
 intro l p t ha hs
 obtain ⟨b,p1,u,h1,h2,h3,h4⟩:=h l p t ha (hs _ (by decide))
 obtain ⟨a',u',k1,k2,k3⟩:=h4 b u z h3
 exact ⟨a',u',z4 h1 (k3 _ (tF (kx (by
  intro x hx
  simp only [opsS,List.mem_cons,List.not_mem_nil,or_false] at hx
  rcases hx with rfl|rfl<;>exact hs _ (by decide))))),h2.trans k1,k2⟩
theorem pt {z:Int} (h:Lv e .un s0 n (.i z)):Num e n z 0:=by
 intro l p t ha hq
 obtain ⟨a,u,h1,h2,h3⟩:=h l p t ha (by intro s hs;rw [List.mem_singleton.1 hs];exact hq)
 exact ⟨a,_,u,h1,h2,h3,Arr.refl⟩
theorem za {z d:Int} (h:Num e n z d):Num e ((3,[45])::n) (-z) d:=by
 intro l p t ha hq
 have e1:p+1+n.length=p+((3,[45])::n:List T2).length:=by simp only [List.length_cons];omega
 obtain ⟨b,p1,u,h1,h2,h3,h4⟩:=h l (p+1) t ha.tail (by rw [e1];exact hq)
 rw [e1] at h4
 exact ⟨_,_,_,Ci (fG ha) h1,h2.trans snoc_pre,Cn (.inl rfl) h3,h4⟩
theorem yD {z d:Int} (h:Num e n z d) (h0:n≠[]) (hd:lf (3,[33]) n):Num e ((3,[40])::(n++[(3,[41])])) (z+d) 0 :=
 pt (ld (pI (dv (gZ (dN (j8 (sf (se h)) h0 hd))))) (by simp) (fun y hy=>by cases hy;decide))
theorem zx {op:Nat} {r:List T2} (ho:op=6∨op=7) (ha:At l p ((3,if op=6 then [43] else [45])::r)):cE l p opsS=some op:=by
 rcases ho with rfl|rfl<;>simp only [opsS,cE,gz ha.head]<;>decide
theorem xf {op:Nat} (ho:op=6∨op=7) {z d z2 d2:Int} (h:Num e n1 z d) (h2:Num e n2 z2 d2):Num e (n1++(3,if op=6 then [43] else [45])::n2) z (d+((if op=6 then z2 else -z2)+d2)):=by
 intro l p t ha hq
 have e1:p+n1.length+1+n2.length=p+(n1++(3,if op=6 then [43] else [45])::n2).length:=by simp only [List.length_cons,List.length_append];omega
 obtain ⟨b,p1,u,k1,k2,k3,k4⟩:=h l p t ha.left (fP ha.right (by split<;>decide))
 refine ⟨b,p1,u,k1,k2,k3,?_⟩
 rw [← e1]
 exact k4.trans (Arr.term ho (zx ho ha.right) h2 ha.right.tail (by rw [e1];exact hq))
/-! leaves -/
theorem Bw {x:List UInt8}:Lv e .atom s0 [(1,x)] (.i ((lit x).getD 0)):=by
 intro l p t ha hs
 have h:=ha.head
 refine ⟨t.length,t++[⟨1,0,0,[],[],(lit x).getD 0⟩],?_,snoc_pre,oZ fun k=>rfl⟩
 have h1:=oL (l:=l) (p:=p) (t:=t) (by rw [gz h];rfl)
 have e1:bA l p t=.ok t.length (p+1) (t++[⟨1,0,0,[],[],(lit x).getD 0⟩]):=by
  unfold bA
  cases hx:l[p]? with
  |none=>rw [hx] at h;cases h
  |some y =>
   rw [hx] at h
   obtain ⟨k,y,z⟩:=y
   simp only [Option.map_some,er,Option.some.injEq,Prod.mk.injEq] at h
   obtain ⟨rfl,rfl⟩:=h
   rfl
 rw [e1] at h1
 exact h1
theorem AC {b:Bool}:Lv e .atom s0 [(2,if b then fR else ei)] (.b b):=by
 intro l p t ha hs
 have h:=ha.head
 refine ⟨t.length,t++[⟨2,0,0,[],[],if b then 1 else 0⟩],?_,snoc_pre,oZ fun k=>by cases b<;>rfl⟩
 have h1:=oL (l:=l) (p:=p) (t:=t) (by rw [gz h];rfl)
 have e1:bA l p t=.ok t.length (p+1) (t++[⟨2,0,0,[],[],if b then 1 else 0⟩]):=by
  unfold bA
  cases hx:l[p]? with
  |none=>rw [hx] at h;cases h
  |some y =>
   rw [hx] at h
   obtain ⟨k,y,z⟩:=y
   simp only [Option.map_some,er,Option.some.injEq,Prod.mk.injEq] at h
   obtain ⟨rfl,rfl⟩:=h
   cases b<;>rfl
 rw [e1] at h1
 exact h1
theorem A8 {x:List UInt8} (h1:x≠fR) (h2:x≠ei):Lv e .atom s0 [(2,x)] (.i (fE e (x,[]))):=by
 intro l p t ha hs
 have h:=ha.head
 refine ⟨t.length,t++[⟨3,0,0,x,[],0⟩],?_,snoc_pre,oZ fun k=>rfl⟩
 have h3:=oL (l:=l) (p:=p) (t:=t) (by rw [gz h];rfl)
 have hc:isS l (p+1) [58,58]=false:=hs _ (by decide)
 have e1:bA l p t=.ok t.length (p+1) (t++[⟨3,0,0,x,[],0⟩]):=by
  unfold bA
  cases hx:l[p]? with
  |none=>rw [hx] at h;cases h
  |some y =>
   rw [hx] at h
   obtain ⟨k,y,z⟩:=y
   simp only [Option.map_some,er,Option.some.injEq,Prod.mk.injEq] at h
   obtain ⟨rfl,rfl⟩:=h
   dsimp only
   rw [if_neg (by decide),if_pos rfl,if_neg h1,if_neg h2,hc];rfl
 rw [e1] at h3
 exact h3
theorem BD {x y:List UInt8} (h1:x≠fR) (h2:x≠ei):Lv e .atom s0 [(2,x),(3,[58,58]),(2,y)] (.i (fE e (x,y))):=by
 intro l p t ha hs
 have h:=ha.head
 have g:=ha.tail.tail.head
 refine ⟨t.length,t++[⟨3,0,0,x,y,0⟩],?_,snoc_pre,oZ fun k=>rfl⟩
 have h3:=oL (l:=l) (p:=p) (t:=t) (by rw [gz h];rfl)
 have hc:isS l (p+1) [58,58]=true:=fG ha.tail
 have e1:bA l p t=.ok t.length (p+3) (t++[⟨3,0,0,x,y,0⟩]):=by
  unfold bA
  cases hx:l[p]? with
  |none=>rw [hx] at h;cases h
  |some z =>
   rw [hx] at h
   obtain ⟨k,z,w⟩:=z
   simp only [Option.map_some,er,Option.some.injEq,Prod.mk.injEq] at h
   obtain ⟨rfl,rfl⟩:=h
   dsimp only
   rw [if_neg (by decide),if_pos rfl,if_neg h1,if_neg h2,if_pos hc]
   cases hy:l[p+2]? with
   |none=>rw [show p+1+1=p+2 from rfl,hy] at g;cases g
   |some z2 =>
    rw [show p+1+1=p+2 from rfl,hy] at g
    obtain ⟨k2,y2,w2⟩:=z2
    simp only [Option.map_some,er,Option.some.injEq,Prod.mk.injEq] at g
    obtain ⟨rfl,rfl⟩:=g
    rfl
 rw [e1] at h3
 exact h3
/-! texts that are put together, and their tokens -/
def Tk (o:List UInt8→Prop) (s:List UInt8) (n:List T2):Prop:=∀ r,o r→∀ f k,(s++r).length≤f →
 (cn f (s++r) k).1.map er=n++(cn f r (k+s.length)).1.map er∧(cn f (s++r) k).2=(cn f r (k+s.length)).2
def sep (r:List UInt8):Prop:=∀ c t,r=c::t→bW c=false
def g8 (_:List UInt8):Prop:=True
theorem Tk.app {o1 o2:List UInt8→Prop} {s1 s2:List UInt8} {n1 n2:List T2} (h1:Tk o1 s1 n1) (h2:Tk o2 s2 n2) (ho:∀ r,o2 r→o1 (s2++r)):Tk o2 (s1++s2) (n1++n2):=by
 intro r hr f k hf
 rw [List.append_assoc] at hf ⊢
 obtain ⟨a1,a2⟩:=h1 (s2++r) (ho r hr) f k hf
 obtain ⟨b1,b2⟩:=h2 r hr f (k+s1.length) (by rw [List.length_append] at hf;omega)
 rw [a1,a2,b1,b2,List.append_assoc,List.length_append,Nat.add_assoc]
 exact ⟨rfl,rfl⟩
theorem Tk.space:Tk g8 [32] []:=by
 intro r _ f k hf
 simp only [List.length_append,List.length_cons,List.length_nil] at hf
 obtain ⟨g,rfl⟩:∃ g,f=g+1:=⟨f - 1,by omega⟩
 have e1:cn (g+1) ([32]++r) k=cn g r (k+1):=by
  show cn (g+1) (32::r) k=_
  rw [cn,if_pos rfl]
 rw [e1,eo g (g+1) r (k+1) (by omega) (by omega)]
 exact ⟨rfl,rfl⟩
theorem Tk.tok {o:List UInt8→Prop} {x:List UInt8} {kd:Nat} (h0:x≠[]) (h32:x.headD 0≠32) (h:∀ r,o r→eY (x++r)=some (kd,x)):Tk o x [(kd,x)]:=by
 intro r hr f k hf
 have ht:=h r hr
 obtain ⟨c,y,rfl⟩:∃ c y,x=c::y:=by
  cases x with
  |nil=>exact absurd rfl h0
  |cons c y=>exact ⟨c,y,rfl⟩
 simp only [List.length_append,List.length_cons] at hf
 obtain ⟨g,rfl⟩:∃ g,f=g+1:=⟨f - 1,by omega⟩
 have e1:cn (g+1) ((c::y)++r) k=((kd,c::y,k)::(cn g r (k+(c::y).length)).1,(cn g r (k+(c::y).length)).2):=by
  show cn (g+1) (c::(y++r)) k=_
  have e2:(c::(y++r)).drop (c::y).length=r:=by
   show ((c::y)++r).drop (c::y).length=r
   rw [List.drop_left]
  rw [cn,if_neg (show c≠32 from h32)]
  rw [show eY (c::(y++r))=some (kd,c::y) from ht]
  dsimp only
  rw [e2]
 rw [e1,eo g (g+1) r _ (by omega) (by omega)]
 exact ⟨rfl,rfl⟩
theorem qz {w r:List UInt8} (h:w.all bW=true) (hr:sep r):bJ (w++r)=w:=by
 unfold bJ
 rw [List.takeWhile_append_of_pos (fun c hc=>List.all_eq_true.1 h c hc)]
 have:r.takeWhile bW=[]:=by
  cases r with
  |nil=>rfl
  |cons c t=>rw [List.takeWhile_cons_of_neg (by rw [hr c t rfl];decide)]
 rw [this,List.append_nil]
theorem Tk.name {w:List UInt8} (h:w.all bW=true) (h0:w≠[]) (h1:bC (w.headD 0)=true) (h32:w.headD 0≠32):Tk sep w [(2,w)] :=
 Tk.tok h0 h32 fun r hr=>by
  have e:=qz h hr
  cases w with
  |nil=>exact absurd rfl h0
  |cons c y =>
   unfold eY
   rw [e]
   dsimp only
   rw [if_pos (show bC c=true from h1)]
theorem Tk.num {w:List UInt8} (h:w.all bW=true) (h0:w≠[]) (h1:bC (w.headD 0)=false) (h2:(lit w).isSome=true) (h32:w.headD 0≠32):Tk sep w [(1,w)] :=
 Tk.tok h0 h32 fun r hr=>by
  have e:=qz h hr
  cases w with
  |nil=>exact absurd rfl h0
  |cons c y =>
   unfold eY
   rw [e]
   dsimp only
   rw [if_neg (by intro h3;rw [show bC c=false from h1] at h3;cases h3),if_pos h2]
theorem Tk.sym {o:List UInt8→Prop} {c:UInt8} {y:List UInt8} (hc:bW c=false) (h32:c≠32) (h:∀ r,o r→d8 (c::(y++r))=c::y):Tk o (c::y) [(3,c::y)] :=
 Tk.tok (by simp) h32 fun r hr=>by
  unfold eY
  have e:bJ (c::y++r)=[]:=by
   unfold bJ
   rw [List.cons_append,List.takeWhile_cons_of_neg (by rw [hc];decide)]
  rw [e]
  dsimp only
  rw [show c::y++r=c::(y++r) from rfl,h r hr]
theorem Tk.two {c d:UInt8} (hm:[c,d]∈syms):Tk g8 [c,d] [(3,[c,d])]:=by
 simp only [syms,List.mem_cons,List.cons.injEq,List.not_mem_nil,or_false,and_true,reduceCtorEq,and_false] at hm
 rcases hm with ⟨rfl,rfl⟩|⟨rfl,rfl⟩|⟨rfl,rfl⟩|⟨rfl,rfl⟩|⟨rfl,rfl⟩|⟨rfl,rfl⟩|⟨rfl,rfl⟩|⟨rfl,rfl⟩ <;>
  exact Tk.sym (by decide) (by decide) fun r _=>by simp [d8,gO,syms,eP]
theorem Tk.par1:Tk g8 [40] [(3,[40])]:=Tk.sym (by decide) (by decide) fun r _=>by simp [d8,gO,syms,eP]
theorem Tk.par2:Tk g8 [41] [(3,[41])]:=Tk.sym (by decide) (by decide) fun r _=>by simp [d8,gO,syms,eP]
theorem Tk.plus:Tk g8 [43] [(3,[43])]:=Tk.sym (by decide) (by decide) fun r _=>by simp [d8,gO,syms,eP]
def sW (x:UInt8) (r:List UInt8):Prop:=∃ c t,r=c::t∧c≠x
theorem Tk.minus:Tk (sW 62) [45] [(3,[45])]:=Tk.sym (by decide) (by decide) fun r hr=>by
 obtain ⟨c,t,rfl,h⟩:=hr
 simp [d8,gO,syms,eP,h]
theorem Tk.bang:Tk (sW 61) [33] [(3,[33])]:=Tk.sym (by decide) (by decide) fun r hr=>by
 obtain ⟨c,t,rfl,h⟩:=hr
 simp [d8,gO,syms,eP,h]
theorem Tk.less:Tk (sW 61) [60] [(3,[60])]:=Tk.sym (by decide) (by decide) fun r hr=>by
 obtain ⟨c,t,rfl,h⟩:=hr
 simp [d8,gO,syms,eP,h]
theorem Tk.great:Tk (sW 61) [62] [(3,[62])]:=Tk.sym (by decide) (by decide) fun r hr=>by
 obtain ⟨c,t,rfl,h⟩:=hr
 simp [d8,gO,syms,eP,h]
theorem zc:sep []:=fun c t h=>by cases h
theorem ii {c:UInt8} {r:List UInt8} (h:bW c=false):sep (c::r):=fun d t e=>by cases e;exact h
theorem Tk.weak {o o':List UInt8→Prop} {s:List UInt8} {n:List T2} (h:Tk o s n) (ho:∀ r,o' r→o r):Tk o' s n:=fun r hr=>h r (ho r hr)
/-- what a whole text compiles to, and what that means -/
theorem zk {kn:VN→Bool} {s:List UInt8} {n:List T2} {t:List Nd} {m:Mv} (hs:s≠[]) (hk:Tk sep s n) (hc:comp kn s=(t,0)) (hl:Lv e .imp pA n m):val e t (t.length - 1)=m:=by
 unfold comp at hc
 rw [if_neg hs] at hc
 unfold nL at hc
 split at hc
 ·rename_i h;exact absurd (Prod.mk.inj hc).2 h
 rename_i h1
 split at hc
 ·rename_i h;exact absurd (Prod.mk.inj hc).2 h
 rename_i h2
 split at hc
 ·rename_i h;exact absurd (Prod.mk.inj hc).2 h
 have ht:=(Prod.mk.inj hc).1
 have h1':(bh s).2.2=0:=Classical.not_not.1 h1
 have hsc:(bh s).1.map er=n:=by
  unfold bh at h1' ⊢
  split at h1'
  ·cases h1'
  rename_i h4
  rw [if_neg h4]
  have hr:(rest s 0).1.map er=n∧(rest s 0).2=none:=by
   have:=hk [] zc s.length 0 (by simp)
   rw [List.append_nil] at this
   unfold rest
   rw [List.drop_zero]
   obtain ⟨a1,a2⟩:=this
   have hn:∀ f k,cn f [] k=([],none):=fun f k=>by cases f<;>rfl
   rw [hn] at a1 a2
   rw [a1,a2]
   simp
  split
  ·rename_i l' h5;rw [h5] at hr;exact hr.1
  ·rename_i l' k h5;rw [h5] at hr;cases hr.2
 obtain ⟨L,hL⟩:∃ L,(bh s).1=L:=⟨_,rfl⟩
 rw [hL] at hsc ht h2
 have hlen:L.length=n.length:=by rw [← hsc,List.length_map]
 have hat:At L 0 n:=fun i x hx=>by rw [Nat.zero_add,← List.getElem?_map,hsc];exact hx
 obtain ⟨a,u,⟨f,hf⟩,_,k3⟩:=hl L 0 [] hat fun s _=>by
  unfold isS
  rw [List.getElem?_eq_none (by omega)]
 have hp:=wc hf
 rw [hp] at ht h2
 dsimp only [ca] at ht h2
 rw [if_neg (by omega)] at ht h2
 split at h2
 ·rename_i h6;exact absurd (show (11:Nat)≠0 by decide) h2
 ·rename_i h6
  rw [if_neg h6] at ht
  dsimp only at ht
  subst ht
  obtain ⟨_,_,g3⟩:=py f hf 0 (rfl:ep .imp [] 0)
  rw [show u.length - 1=a by omega]
  exact k3.2 u (List.prefix_refl _)
end Go.AL
/- Plain laws of the sentences that are drawn, and of the texts of EvalLogic. No program. -/
open Go Go.AL
namespace Go.AL
set_option linter.all false
set_option maxRecDepth 10000
def hdS (s:List UInt8):Prop:=∃ c t,s=c::t∧c≠62∧c≠61
/-- a text that stands for a number -/
def TN (s:List UInt8):Prop:=∃ n,Tk sep s n∧n≠[]∧lf (3,[33]) n∧hdS s∧∀ e,∃ z d,Num e n z d
/-- a text that is a sentence -/
def TS (s:List UInt8):Prop:=s≠[]∧∃ n,Tk sep s n∧∀ e,∃ b,Lv e .imp pA n (.b b)
theorem hdS.app {s r:List UInt8} (h:hdS s):hdS (s++r):=by
 obtain ⟨c,t,rfl,h1⟩:=h
 exact ⟨c,t++r,rfl,h1⟩
theorem hdS.n62 {s:List UInt8} (h:hdS s):sW 62 s:=by
 obtain ⟨c,t,rfl,h1,h2⟩:=h
 exact ⟨c,t,rfl,h1⟩
theorem hdS.n61 {s:List UInt8} (h:hdS s):sW 61 s:=by
 obtain ⟨c,t,rfl,h1,h2⟩:=h
 exact ⟨c,t,rfl,h2⟩
theorem lr {c:UInt8} {w:List UInt8} (h:(c::w).all bW=true) (h1:bC c=true) (h2:c::w≠fR) (h3:c::w≠ei) (h4:c≠62∧c≠61∧c≠32):TN (c::w) :=
 ⟨[(2,c::w)],Tk.name h (by simp) h1 h4.2.2,by simp,fun y hy=>by cases hy;simp,⟨c,w,rfl,h4.1,h4.2.1⟩,fun e=>⟨_,_,pt (ld (A8 h2 h3) (by simp) (fun y hy=>by cases hy;simp))⟩⟩
theorem ma {c:UInt8} {w:List UInt8} (h:(c::w).all bW=true) (h1:bC c=false) (h2:(lit (c::w)).isSome=true) (h4:c≠62∧c≠61∧c≠32):TN (c::w) :=
 ⟨[(1,c::w)],Tk.num h (by simp) h1 h2 h4.2.2,by simp,fun y hy=>by cases hy;simp,⟨c,w,rfl,h4.1,h4.2.1⟩,fun e=>⟨_,_,pt (ld Bw (by simp) (fun y hy=>by cases hy;simp))⟩⟩
theorem si {c d:UInt8} {w y:List UInt8} (h:(c::w).all bW=true) (h1:bC c=true) (h2:c::w≠fR) (h3:c::w≠ei) (h4:c≠62∧c≠61∧c≠32) (g:(d::y).all bW=true) (g1:bC d=true) (g2:d≠32):TN (c::w++[58,58]++d::y) :=
 ⟨[(2,c::w),(3,[58,58]),(2,d::y)],((Tk.name h (by simp) h1 h4.2.2).app (Tk.two (c:=58) (d:=58) (by decide)) (fun r _=>ii (by decide))).app (Tk.name g (by simp) g1 g2) (fun _ _=>trivial),by simp,fun y hy=>by cases hy;simp,⟨c,w++[58,58]++d::y,by simp,h4.1,h4.2.1⟩,fun e=>⟨_,_,pt (ld (BD h2 h3) (by simp) (fun y hy=>by cases hy;simp))⟩⟩
theorem xt {s:List UInt8} (h:TN s):TN ([45]++s):=by
 obtain ⟨n,h1,h2,h3,h4,h5⟩:=h
 exact ⟨(3,[45])::n,Tk.minus.app h1 (fun r _=>h4.app.n62),by simp,fun y hy=>by cases hy;simp,⟨45,s,rfl,by decide,by decide⟩,fun e=>by
  obtain ⟨z,d,hn⟩:=h5 e
  exact ⟨_,_,za hn⟩⟩
theorem sE {s:List UInt8} {n:List T2} (h:Tk sep s n):Tk g8 ([40]++s++[41]) ((3,[40])::(n++[(3,[41])])):=by
 have:=(Tk.par1.app h (fun _ _=>trivial)).app Tk.par2 (fun r _=>ii (by decide))
 simpa using this
theorem sb {s:List UInt8} (h:TN s):TN ([40]++s++[41]):=by
 obtain ⟨n,h1,h2,h3,h4,h5⟩:=h
 exact ⟨_,(sE h1).weak (fun _ _=>trivial),by simp,fun y hy=>by cases hy;simp,⟨40,s++[41],rfl,by decide,by decide⟩,fun e=>by
  obtain ⟨z,d,hn⟩:=h5 e
  exact ⟨_,_,yD hn h2 h3⟩⟩
/-- a symbol between spaces -/
theorem fN {x:List UInt8} {o:List UInt8→Prop} (h:Tk o x [(3,x)]) (ho:∀ r,o (32::r)):Tk g8 ([32]++x++[32]) [(3,x)]:=by
 have:=(Tk.space.app h (fun _ _=>trivial)).app Tk.space (fun r _=>ho r)
 simpa using this
theorem fZ {x:T2} {n r:List T2} (h0:n≠[]) (h:lf x n):lf x (n++r):=by
 cases n with
 |nil=>exact absurd rfl h0
 |cons y t=>exact fun z hz=>h z hz
theorem xz {s s2:List UInt8} (h:TN s) (k:TN s2):TN (s++[32,43,32]++s2):=by
 obtain ⟨n,h1,h2,h3,h4,h5⟩:=h
 obtain ⟨m,k1,k2,k3,k4,k5⟩:=k
 refine ⟨n++(3,[43])::m,?_,by simp,fZ h2 h3,by rw [List.append_assoc];exact h4.app,fun e=>?_⟩
 ·have:=(h1.app (fN Tk.plus (fun _=>trivial)) (fun r _=>ii (by decide))).app k1 (fun _ _=>trivial)
  simpa using this
 ·obtain ⟨z,d,hn⟩:=h5 e
  obtain ⟨z2,d2,hm⟩:=k5 e
  exact ⟨_,_,xf (op:=6) (.inl rfl) hn hm⟩
theorem AD {s s2:List UInt8} (h:TN s) (k:TN s2):TN (s++[32,45,32]++s2):=by
 obtain ⟨n,h1,h2,h3,h4,h5⟩:=h
 obtain ⟨m,k1,k2,k3,k4,k5⟩:=k
 refine ⟨n++(3,[45])::m,?_,by simp,fZ h2 h3,by rw [List.append_assoc];exact h4.app,fun e=>?_⟩
 ·have:=(h1.app (fN Tk.minus (fun r=>⟨32,r,rfl,by decide⟩)) (fun r _=>ii (by decide))).app k1 (fun _ _=>trivial)
  simpa using this
 ·obtain ⟨z,d,hn⟩:=h5 e
  obtain ⟨z2,d2,hm⟩:=k5 e
  exact ⟨_,_,xf (op:=7) (.inr rfl) hn hm⟩
/-- the texts of comparisons -/
def cTx:Nat→List UInt8
 |0=>[32,61,61,32]
 |1=>[32,33,61,32]
 |2=>[32,60,32]
 |3=>[60,61]
 |4=>[32,62,32]
 |_=>[62,61]
theorem AJ {c:Nat} (hc:c<6):Tk g8 (cTx c) [(3,cOp (8+c))]:=by
 rcases (by omega:c=0∨c=1∨c=2∨c=3∨c=4∨c=5) with rfl|rfl|rfl|rfl|rfl|rfl
 ·exact fN (Tk.two (c:=61) (d:=61) (by decide)) (fun _=>trivial)
 ·exact fN (Tk.two (c:=33) (d:=61) (by decide)) (fun _=>trivial)
 ·exact fN Tk.less (fun r=>⟨32,r,rfl,by decide⟩)
 ·exact Tk.two (c:=60) (d:=61) (by decide)
 ·exact fN Tk.great (fun r=>⟨32,r,rfl,by decide⟩)
 ·exact Tk.two (c:=62) (d:=61) (by decide)
theorem zL {c:Nat} (hc:c<6) (r:List UInt8):sep (cTx c++r):=by
 rcases (by omega:c=0∨c=1∨c=2∨c=3∨c=4∨c=5) with rfl|rfl|rfl|rfl|rfl|rfl<;>exact ii (by decide)
theorem mU {op:Nat} (h:5≤op) (h6:op≠6) (h7:op≠7) {x y:Mv}:∃ b,opV op x y=.b b:=Ai (by omega) h6 h7
theorem wm {c:Nat} (hc:c<6) {s s2:List UInt8} (h:TN s) (k:TN s2):TS (s++cTx c++s2):=by
 obtain ⟨n,h1,h2,h3,h4,h5⟩:=h
 obtain ⟨m,k1,k2,k3,k4,k5⟩:=k
 refine ⟨by obtain ⟨x,t,rfl,_⟩:=h4;simp,n++(3,cOp (8+c))::m,?_,fun e=>?_⟩
 ·have:=(h1.app (AJ hc) (fun r _=>zL hc r)).app k1 (fun _ _=>trivial)
  simpa using this
 ·obtain ⟨z,d,hn⟩:=h5 e
  obtain ⟨z2,d2,hm⟩:=k5 e
  have:=po (c:=8+c) (by omega) (by omega) (se hn) (se hm)
  obtain ⟨b,hb⟩:=@mU (8+c) (by omega) (by omega) (by omega) (.i (z+d)) (.i (z2+d2))
  rw [hb] at this
  exact ⟨b,dv (gZ (dN (j8 (this.mono (fun x hx=>List.mem_append_left _ hx)) (by simp) (fZ h2 h3))))⟩
theorem zX (b:Bool):TS (if b then fR else ei):=by
 refine ⟨by cases b<;>decide,[(2,if b then fR else ei)],?_,fun e=>⟨b,dv (gZ (dN (j8 (sf (oU (ld AC (by simp) (fun y hy=>by cases hy;simp)))) (by simp) (fun y hy=>by cases hy;simp))))⟩⟩
 cases b<;>exact Tk.name (by decide) (by decide) (by decide) (by decide)
/-- a sentence in parentheses -/
structure TP (x:List UInt8) (P:List T2):Prop where
 hd:∃ t,x=40::t
 tk:Tk g8 x P
 ne:P≠[]
 nb:lf (3,[33]) P
 lv:∀ e,∃ b,Lv e .sum gP P (.b b)
theorem ny {s:List UInt8} (h:TS s):∃ P,TP ([40]++s++[41]) P:=by
 obtain ⟨h0,n,h1,h2⟩:=h
 refine ⟨_,⟨s++[41],rfl⟩,sE h1,by simp,fun y hy=>by cases hy;simp,fun e=>?_⟩
 obtain ⟨b,hb⟩:=h2 e
 exact ⟨b,oU (ld (pI hb) (by simp) (fun y hy=>by cases hy;simp))⟩
theorem TP.not {x:List UInt8} {P:List T2} (h:TP x P) {e:List (VN × Nat)} {m:Mv} (hl:Lv e .sum gP P m):Lv e .not mF P m:=j8 (sf hl) h.ne h.nb
theorem TP.and {x:List UInt8} {P:List T2} (h:TP x P) {e:List (VN × Nat)} {m:Mv} (hl:Lv e .sum gP P m):Lv e .and rM P m:=dN (h.not hl)
theorem TP.or {x:List UInt8} {P:List T2} (h:TP x P) {e:List (VN × Nat)} {m:Mv} (hl:Lv e .sum gP P m):Lv e .or sOr P m:=gZ (h.and hl)
theorem TP.imp {x:List UInt8} {P:List T2} (h:TP x P) {e:List (VN × Nat)} {m:Mv} (hl:Lv e .sum gP P m):Lv e .imp pA P m:=dv (h.or hl)
theorem TP.n61 {x:List UInt8} {P:List T2} (h:TP x P) (r:List UInt8):sW 61 (x++r):=by
 obtain ⟨t,rfl⟩:=h.hd
 exact ⟨40,t++r,rfl,by decide⟩
theorem TP.tk1 {x:List UInt8} {P:List T2} (h:TP x P):Tk g8 ([33]++x) ((3,[33])::P):=Tk.bang.app h.tk (fun r _=>h.n61 r)
theorem Tk.any {s:List UInt8} {n:List T2} (h:Tk g8 s n):Tk sep s n:=h.weak fun _ _=>trivial
/-- texts of two with a symbol between -/
theorem Tk.bin {c d:UInt8} (hm:[c,d]∈syms) {s s2:List UInt8} {n n2:List T2} (h:Tk g8 s n) (h2:Tk g8 s2 n2):Tk g8 (s++[c,d]++s2) (n++(3,[c,d])::n2):=by
 have:=(h.app (Tk.two hm) (fun _ _=>trivial)).app h2 (fun _ _=>trivial)
 simpa using this
theorem ww {s:List UInt8} (h:TS s):TS ([40]++s++[41]):=by
 obtain ⟨P,hP⟩:=ny h
 exact ⟨by simp,P,hP.tk.any,fun e=>by
  obtain ⟨b,hb⟩:=hP.lv e
  exact ⟨b,hP.imp hb⟩⟩
theorem xp {s:List UInt8} (h:TS s):TS ([33]++([40]++s++[41])):=by
 obtain ⟨P,hP⟩:=ny h
 exact ⟨by simp,_,hP.tk1.any,fun e=>by
  obtain ⟨b,hb⟩:=hP.lv e
  exact ⟨!b,dv (gZ (dN (eR (hP.not hb))))⟩⟩
/-- symbols between sentences: && || -> == -/
def bTx:Nat→List UInt8
 |0=>[38,38]
 |1=>[124,124]
 |2=>[45,62]
 |_=>[61,61]
def bOp:Nat→Nat
 |0=>14
 |1=>15
 |2=>16
 |_=>8
theorem gW {c:Nat} (hc:c<4) {x y:List UInt8} {P Q:List T2} (hP:TP x P) (hQ:TP y Q) {e:List (VN × Nat)} {m k:Mv} (h:Lv e .sum gP P m) (h2:Lv e .sum gP Q k):Lv e .imp pA (P++(3,bTx c)::Q) (opV (bOp c) m k):=by
 rcases (by omega:c=0∨c=1∨c=2∨c=3) with rfl|rfl|rfl|rfl
 ·exact dv (gZ (zJ (hP.not h) (hQ.not h2)))
 ·exact dv (ph (hP.and h) (hQ.and h2))
 ·exact yV (hP.or h) (hQ.imp h2)
 ·exact dv (gZ (dN (j8 ((po (c:=8) (by decide) (by decide) h h2).mono (fun x hx=>List.mem_append_left _ hx)) (by simp) (fZ hP.ne hP.nb))))
theorem Bq {c:Nat} (hc:c<4) {s s2:List UInt8} (h:TS s) (k:TS s2):TS (([40]++s++[41])++([32]++bTx c++[32])++([40]++s2++[41])):=by
 obtain ⟨P,hP⟩:=ny h
 obtain ⟨Q,hQ⟩:=ny k
 refine ⟨by simp,P++(3,bTx c)::Q,?_,fun e=>?_⟩
 ·have hb:Tk g8 ([32]++bTx c++[32]) [(3,bTx c)]:=by
   rcases (by omega:c=0∨c=1∨c=2∨c=3) with rfl|rfl|rfl|rfl
   ·exact fN (Tk.two (c:=38) (d:=38) (by decide)) (fun _=>trivial)
   ·exact fN (Tk.two (c:=124) (d:=124) (by decide)) (fun _=>trivial)
   ·exact fN (Tk.two (c:=45) (d:=62) (by decide)) (fun _=>trivial)
   ·exact fN (Tk.two (c:=61) (d:=61) (by decide)) (fun _=>trivial)
  have:=((hP.tk.app hb (fun _ _=>trivial)).app hQ.tk (fun _ _=>trivial)).any
  simpa using this
 ·obtain ⟨b,hb⟩:=hP.lv e
  obtain ⟨b2,hb2⟩:=hQ.lv e
  have:=gW hc hP hQ hb hb2
  obtain ⟨v,hv⟩:=@mU (bOp c) (by rcases (by omega:c=0∨c=1∨c=2∨c=3) with rfl|rfl|rfl|rfl<;>decide) (by rcases (by omega:c=0∨c=1∨c=2∨c=3) with rfl|rfl|rfl|rfl<;>decide) (by rcases (by omega:c=0∨c=1∨c=2∨c=3) with rfl|rfl|rfl|rfl<;>decide) (.b b) (.b b2)
  rw [hv] at this
  exact ⟨v,this⟩
/-- the texts of the law: left and right ones -/
def lgL (p q:List UInt8):Nat→List UInt8
 |0=>p++[45,62]++q
 |1=>[33,40]++p++[38,38]++q++[41]
 |2=>p++[61,61]++q
 |3=>p++[33,61]++q
 |4=>[33,33]++p
 |_=>p++[38,38]++q
def lgR (p q:List UInt8):Nat→List UInt8
 |0=>[33]++p++[124,124]++q
 |1=>[33]++p++[124,124,33]++q
 |2=>[40]++p++[45,62]++q++[41,38,38,40]++q++[45,62]++p++[41]
 |3=>[33,40]++p++[61,61]++q++[41]
 |4=>p
 |_=>q++[38,38]++p
def lgT (p:List UInt8):List UInt8:=p++[124,124,33]++p
def Mean (x:List UInt8) (e:List (VN × Nat)) (m:Mv):Prop:=x≠[]∧∃ n,Tk sep x n∧Lv e .imp pA n m
theorem Mean.comp {kn:VN→Bool} {x:List UInt8} {e:List (VN × Nat)} {m:Mv} {t:List Nd} (h:Mean x e m) (hc:comp kn x=(t,0)):val e t (t.length - 1)=m:=by
 obtain ⟨h0,n,h1,h2⟩:=h
 exact zk h0 h1 hc h2
theorem pZ {c:Nat} (hc:c<4) {x y:List UInt8} {P Q:List T2} (hP:TP x P) (hQ:TP y Q):TP ([40]++(x++bTx c++y)++[41]) ((3,[40])::((P++(3,bTx c)::Q)++[(3,[41])])):=by
 have hb:Tk g8 (bTx c) [(3,bTx c)]:=by
  rcases (by omega:c=0∨c=1∨c=2∨c=3) with rfl|rfl|rfl|rfl
  ·exact Tk.two (c:=38) (d:=38) (by decide)
  ·exact Tk.two (c:=124) (d:=124) (by decide)
  ·exact Tk.two (c:=45) (d:=62) (by decide)
  ·exact Tk.two (c:=61) (d:=61) (by decide)
 have ht:Tk g8 (x++bTx c++y) (P++(3,bTx c)::Q):=by
  have:=(hP.tk.app hb (fun _ _=>trivial)).app hQ.tk (fun _ _=>trivial)
  simpa using this
 refine ⟨⟨_,rfl⟩,sE ht.any,by simp,fun y hy=>by cases hy;simp,fun e=>?_⟩
 obtain ⟨b,hb⟩:=hP.lv e
 obtain ⟨b2,hb2⟩:=hQ.lv e
 have:=gW hc hP hQ hb hb2
 obtain ⟨v,hv⟩:=@mU (bOp c) (by rcases (by omega:c=0∨c=1∨c=2∨c=3) with rfl|rfl|rfl|rfl<;>decide) (by rcases (by omega:c=0∨c=1∨c=2∨c=3) with rfl|rfl|rfl|rfl<;>decide) (by rcases (by omega:c=0∨c=1∨c=2∨c=3) with rfl|rfl|rfl|rfl<;>decide) (.b b) (.b b2)
 rw [hv] at this
 exact ⟨v,oU (ld (pI this) (by simp) (fun y hy=>by cases hy;simp))⟩
theorem lF {c:Nat} (hc:c<4) {x y:List UInt8} {P Q:List T2} (hP:TP x P) (hQ:TP y Q) {e:List (VN × Nat)} {m k:Mv} (h:Lv e .sum gP P m) (h2:Lv e .sum gP Q k):Lv e .sum gP ((3,[40])::((P++(3,bTx c)::Q)++[(3,[41])])) (opV (bOp c) m k) :=
 oU (ld (pI (gW hc hP hQ h h2)) (by simp) (fun y hy=>by cases hy;simp))
theorem Ab {p q:List UInt8} {P Q:List T2} (hP:TP p P) (hQ:TP q Q) (e:List (VN × Nat)) {k:Nat} (hk:k<6):∃ m,Mean (lgL p q k) e m∧Mean (lgR p q k) e m:=by
 obtain ⟨b,hb⟩:=hP.lv e
 obtain ⟨c,hc⟩:=hQ.lv e
 have p0:p≠[]:=by obtain ⟨t,rfl⟩:=hP.hd;simp
 have q0:q≠[]:=by obtain ⟨t,rfl⟩:=hQ.hd;simp
 rcases (by omega:k=0∨k=1∨k=2∨k=3∨k=4∨k=5) with rfl|rfl|rfl|rfl|rfl|rfl
 ·refine ⟨.b (!b||c),⟨by simp [lgL],_,(Tk.bin (c:=45) (d:=62) (by decide) hP.tk hQ.tk).any,gW (c:=2) (by decide) hP hQ hb hc⟩,by simp [lgR],_,(Tk.bin (c:=124) (d:=124) (by decide) hP.tk1 hQ.tk).any,dv (ph (dN (eR (hP.not hb))) (hQ.and hc))⟩
 ·have hT:=pZ (c:=0) (by decide) hP hQ
  refine ⟨.b (!(b&&c)),⟨by simp [lgL],(3,[33])::(3,[40])::((P++(3,bTx 0)::Q)++[(3,[41])]),?_,dv (gZ (dN (eR (hT.not (lF (c:=0) (by decide) hP hQ hb hc)))))⟩,by simp [lgR],((3,[33])::P)++(3,[124,124])::(3,[33])::Q,?_,?_⟩
  ·have:=hT.tk1.any
   simpa [lgL,bTx] using this
  ·have:=(Tk.bin (c:=124) (d:=124) (by decide) hP.tk1 hQ.tk1).any
   simpa [lgR] using this
  ·have:=dv (ph (dN (eR (hP.not hb))) (dN (eR (hQ.not hc))))
   have e1:opV 15 (opV 5 (.b b) (.b false)) (opV 5 (.b c) (.b false))=.b (!(b&&c)):=by cases b<;>cases c<;>rfl
   rw [e1] at this
   exact this
 ·have h1:=pZ (c:=2) (by decide) hP hQ
  have h2:=pZ (c:=2) (by decide) hQ hP
  have hL:=gW (c:=0) (by decide) h1 h2 (lF (c:=2) (by decide) hP hQ hb hc) (lF (c:=2) (by decide) hQ hP hc hb)
  have e1:opV (bOp 0) (opV (bOp 2) (.b b) (.b c)) (opV (bOp 2) (.b c) (.b b))=.b (b==c):=by cases b<;>cases c<;>rfl
  rw [e1] at hL
  refine ⟨.b (b==c),⟨by simp [lgL,p0],_,(Tk.bin (c:=61) (d:=61) (by decide) hP.tk hQ.tk).any,gW (c:=3) (by decide) hP hQ hb hc⟩,by simp [lgR],_,?_,hL⟩
  have:=(Tk.bin (c:=38) (d:=38) (by decide) h1.tk h2.tk).any
  simpa [lgR,bTx] using this
 ·have hT:=pZ (c:=3) (by decide) hP hQ
  refine ⟨.b (!(b==c)),⟨by simp [lgL,p0],P++(3,[33,61])::Q,(Tk.bin (c:=33) (d:=61) (by decide) hP.tk hQ.tk).any,?_⟩,by simp [lgR],(3,[33])::(3,[40])::((P++(3,bTx 3)::Q)++[(3,[41])]),?_,dv (gZ (dN (eR (hT.not (lF (c:=3) (by decide) hP hQ hb hc)))))⟩
  ·exact dv (gZ (dN (j8 ((po (c:=9) (by decide) (by decide) hb hc).mono (fun x hx=>List.mem_append_left _ hx)) (by simp) (fZ hP.ne hP.nb))))
  ·have:=hT.tk1.any
   simpa [lgR,bTx] using this
 ·refine ⟨.b b,⟨by simp [lgL],(3,[33])::(3,[33])::P,?_,?_⟩,p0,P,hP.tk.any,hP.imp hb⟩
  ·have:=(Tk.bang.app hP.tk1 (fun r _=>⟨33,p++r,rfl,by decide⟩)).any
   simpa [lgL] using this
  ·have:=dv (gZ (dN (eR (eR (hP.not hb)))))
   have e1:opV 5 (opV 5 (.b b) (.b false)) (.b false)=.b b:=by cases b<;>rfl
   rw [e1] at this
   exact this
 ·refine ⟨.b (b&&c),⟨by simp [lgL,p0],_,(Tk.bin (c:=38) (d:=38) (by decide) hP.tk hQ.tk).any,gW (c:=0) (by decide) hP hQ hb hc⟩,by simp [lgR,q0],_,(Tk.bin (c:=38) (d:=38) (by decide) hQ.tk hP.tk).any,?_⟩
  have:=gW (c:=0) (by decide) hQ hP hc hb
  have e1:opV (bOp 0) (.b c) (.b b)=.b (b&&c):=by cases b<;>cases c<;>rfl
  rw [e1] at this
  exact this
theorem BH {p:List UInt8} {P:List T2} (hP:TP p P) (e:List (VN × Nat)):Mean (lgT p) e (.b true):=by
 obtain ⟨b,hb⟩:=hP.lv e
 have p0:p≠[]:=by obtain ⟨t,rfl⟩:=hP.hd;simp
 refine ⟨by simp [lgT,p0],P++(3,[124,124])::(3,[33])::P,?_,?_⟩
 ·have:=(Tk.bin (c:=124) (d:=124) (by decide) hP.tk hP.tk1).any
  simpa [lgT] using this
 ·have:=dv (ph (hP.and hb) (dN (eR (hP.not hb))))
  have e1:opV 15 (.b b) (opV 5 (.b b) (.b false))=.b true:=by cases b<;>rfl
  rw [e1] at this
  exact this
end Go.AL
